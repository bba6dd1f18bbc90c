/- GYCo6 -/
import Derived.Test.YtildiiggamckaaaGreatDoorT38
set_option linter.all false
namespace Go.Ab
open Go.RowKit Go.Proofs Go.Proofs.Tryz G1
variable [Ar] [G1]
set_option maxRecDepth 100000
theorem c63 (N aH aM r) (h : BV N aH aM = some r) : B4 prog 63 [(BN aH), (BN aM)] (.bool r) := by
 unfold BV at h
 refine J7 cf0 func63 call63 ntmps63 ?_;intro E H0 K hE hK hO;cbv;cases h;exact hK _ _ _ hO (.refl _)
def cf19 : Cf := ⟨[7, 12, 13], [(3000031, 0), (3000031, 1), (3000031, 4), (3000031, 5), (3000031, 6)], [], [2000031], [], []⟩
set_option maxHeartbeats 2000000 in
theorem c19 (N aB r) (h : CB N aB = some r) : B4 prog 19 [(H6 aB)] (.tup [.bool r.1, .sl (Ar.lst eWq r.2.1) .ro, vi r.2.2]) := by
 unfold CB at h
 refine J7 cf19 func19 call19 ntmps19 ?_;intro E H0 K hE hK hO;cbv;refine A6 hE h (c13 N aB) (.refl _) fun r1 h => ?_;cbv;refine A5 hE h (fun hc h => ?_) (fun hc h => ?_)
 ·cbv;cases h;exact hK _ _ _ hO (.tup (.cons (.refl _) (.cons (.lit _ (B1)) (.refl _))))
 cbv;refine Sg hE h (c60 N aB) (.refl _) hO fun l2 m3 o4 H ho4 hO h => ?_;cbv;refine LP hE (kt := 3) (et := 3) (by kernel_rfl) (by kernel_rfl) (Y1 .i64) (0 : Int) (by kernel_rfl) rfl hO ho4 0 rfl h fun r5 h => ?_;cbv;refine C8 hE hO fun b6 H hO => ?_;cbv;refine A7 hE hO 0 rfl rfl fun H hO => ?_;cbv;refine A5 hE h (fun hc h => ?_) (fun hc h => ?_)
 ·cbv;cases h;exact hK _ _ _ hO (.tup (.cons (.refl _) (.cons (.lit _ (B1)) (.refl _))))
 cbv;refine Jp hE (.int .i64) (V.int .i64) V.bool hO fun m7 o8 H ho8 hO => ?_;cbv;refine ET hE (kt := 3) (et := 4) (by kernel_rfl) (by kernel_rfl) (Y1 .i64) Cw hO ho8 0 rfl h fun l10 o9 H ho9 h hO => ?_;cbv;replace hO := hO.tl0 (t := .nil) rfl;obtain ⟨s17, hx, h⟩ := bind_some h;refine Nf cf19 hE G8 (γ := D4 × Obj × Nat) (fun s12 g => [(1, .v (.eref (C1 aB) 0)), (2, .b false), (3, .v (.sl [] .nil)), (4, .v (vi 0)), (7, .v (.ref b6 0)), (9, .v (.eref [.func (.func 61) [] [.eref [.map m3] 0, .ref b6 0]] 0)), (10, .v (.sl (Ar.lst eWq s12.1) g.1)), (11, .v (.map g.2.2))]) (fun s12 g ds16 H1 => O6 g.1 ∧ DD (.int .i64) (V.int .i64) V.bool g.2.1 s12.2.1 ∧ True ∧ B2 Eq H0 (.tl g.1 :: .blk g.2.2 (.obj g.2.1) :: .blk b6 (.cells [vi s12.2.2]) :: .blk m3 (.obj o4) :: Cy ds16) H1) (fun x e l ds16 H1 => ∃ u1 : D4, O6 u1 ∧ ∃ u2 : Obj, DD (.int .i64) (V.int .i64) V.bool u2 x.2.1 ∧ ∃ u3 : Nat, True ∧ e = .exit 0 ∧ l = [(10, .v (.sl (Ar.lst eWq x.1) u1))] ∧ B2 Eq H0 (.tl u1 :: .blk u3 (.obj u2) :: .blk b6 (.cells [vi x.2.2]) :: .blk m3 (.obj o4) :: Cy ds16) H1) (by kernel_rfl) ?_ (⟨.nil, o9, m7⟩) hx ?_ ?_ ?_
 ·rintro s12 ⟨t13, q14, m15⟩ ds16 H o ⟨ht13, hq14, hm15, hO⟩ h;clear hx;cbv;refine B0 hE hO 2 rfl ?_;cbv;refine A5 hE h (fun hc h => ?_) (fun hc h => ?_)
  ·cbv;refine C8 hE hO fun b18 H hO => ?_;cbv;refine C8 hE hO fun b19 H hO => ?_;cbv;refine A7 hE hO 0 rfl rfl fun H hO => ?_;cbv;refine PC hE (kt := 3) (et := 4) (by kernel_rfl) hO (hO.get 3 rfl) hq14 fun m20 b21 H hb21 hO => ?_;cbv;obtain ⟨s27, hx, h⟩ := bind_some h;refine Iy cf19 hE G8 (γ := Unit) (fun s23 _ => [(1, .v (.eref (C1 aB) 0)), (2, .b false), (3, .v (.sl [] .nil)), (4, .v (vi 0)), (7, .v (.ref b6 0)), (9, .v (.eref [.func (.func 61) [] [.eref [.map m3] 0, .ref b6 0]] 0)), (10, .v (.sl (Ar.lst eWq s12.1) t13)), (11, .v (.map m15)), (12, .v (.ref b18 0)), (13, .v (.ref b19 0)), (43, .v (.ref m20 0))]) (fun s23 _ ds26 b25 H1 => B2 Eq H0 (.blk m20 b25 :: .blk b19 (.cells [.bool s23.1]) :: .blk b18 (.cells (M3 s23.2)) :: .tl t13 :: .blk m15 (.obj q14) :: .blk b6 (.cells [vi s12.2.2]) :: .blk m3 (.obj o4) :: Cy ds26) H1) (fun x e l ds26 H1 => e = .exit 2 ∧ l = [(1, .v (.eref (C1 aB) 0)), (2, .b false), (3, .v (.sl [] .nil)), (4, .v (vi 0)), (7, .v (.ref b6 0)), (9, .v (.eref [.func (.func 61) [] [.eref [.map m3] 0, .ref b6 0]] 0)), (10, .v (.sl (Ar.lst eWq s12.1) t13)), (11, .v (.map m15)), (12, .v (.ref b18 0))] ∧ B2 Eq H0 (.blk b19 (.cells [.bool x.1]) :: .blk b18 (.cells (M3 x.2)) :: .tl t13 :: .blk m15 (.obj q14) :: .blk b6 (.cells [vi s12.2.2]) :: .blk m3 (.obj o4) :: Cy ds26) H1) (by kernel_rfl) ?_ () hx ?_ hb21 ?_ ?_
   ·rintro s23 _ ds26 lf23 b25 H hb25 hO hs23;clear hx;cbv;refine PD hE hO hb25 0 rfl (hO.get 4 rfl) (fun hl => ?_) fun p24 l28 b29 H hpp24 hb29 hO => ?_
    ·cbv;refine HV hE (fun hc => by cases hc) (fun hc => ?_);cbv;exact ⟨_, _, _, .inl ⟨hl, rfl⟩, ⟨rfl, rfl, hO.tail⟩, .e rfl (.b rfl (.e rfl (.e rfl (.e rfl (.e rfl (.e rfl (.e rfl (.e rfl (.z))))))))), rfl⟩
    obtain ⟨o, h⟩ := hs23 p24 l28 hpp24;have h0p24 := h;cbv;refine HV hE (fun hc => ?_) (fun hc => by cases hc);cbv;refine PE hE hO hb29 0 rfl (hO.get 4 rfl) ?_;cbv;refine P6 hE h (c41 N aB p24.1) (.refl _) fun r30 v31 hv31 h => ?_;cbv;obtain ⟨o36, hx, h⟩ := bind_some h;refine Au cf19 hE G8 (ι := Unit) (enc := fun (x : D5) => [(Bn x)]) (fun (s33 : Bool × B8) F H => B2 Eq F (.blk m20 b29 :: .blk b19 (.cells [.bool s33.1]) :: .blk b18 (.cells (M3 s33.2)) :: .tl t13 :: .blk m15 (.obj q14) :: .blk b6 (.cells [vi s12.2.2]) :: .blk m3 (.obj o4) :: Cy ds26) H) (fun (r : Unit) e F H => False) (fun i s33 y32 => [(9, .v (.eref [.func (.func 61) [] [.eref [.map m3] 0, .ref b6 0]] 0)), (12, .v (.ref b18 0)), (13, .v (.ref b19 0)), (15, .v (.eref (Me y32) 0))]) (fun i s33 y32 F H => B2 Eq F (.blk m20 b29 :: .blk b19 (.cells [.bool s33.1]) :: .blk b18 (.cells (M3 s33.2)) :: .tl t13 :: .blk m15 (.obj q14) :: .blk b6 (.cells [vi s12.2.2]) :: .blk m3 (.obj o4) :: Cy ds26) H) (fun _ => B2.stable B6 _) (fun _ _ => ⟨fun h => h.elim, fun _ _ h => h.elim⟩) (fun _ _ _ => B2.stable B6 _) hv31 hx (hO) (by decide) (fun _ => rfl) (by kernel_rfl) (by kernel_rfl) ?_ ?_ ?_ ?_
    ·rintro E i35 y32 s33 F34 H hE hO;clear hx h;cbv;exact ⟨(), hO, .e4 .z, rfl⟩
    ·rintro E i35 _ y32 s33 F34 H o hE hF h hO;clear hx;cbv;refine A6 hE h (c62 N y32.On) (.refl _) fun r37 h => ?_;cbv;refine A5 hE h (fun hc h => ?_) (fun hc h => ?_)
     ·cbv;refine Ng hE (F0 := []) (C0 := [.eref [.map m3] 0, .ref b6 0]) (args' := [(Bn y32)]) (g := fun r38 => .bool r38) h (fun r38 hx => c61 N y32 l2 s12.2.2 r38 hx m3 o4 ho4 b6) (.refl _) (SR (neC (hO.ne 6 5 rfl rfl (by decide)) (ne0)) (SS _)) (atC (hO.get 6 rfl) (atC (hO.get 5 rfl) (at0))) fun r38 h => ?_;cbv;refine B0 hE hO 1 rfl ?_;cbv;refine B0 hE hO 2 rfl ?_;cbv;refine A5 hE h (fun hc h => ?_) (fun hc h => ?_)
      ·cbv;refine A5 hE h (fun hc h => ?_) (fun hc h => ?_)
       ·cbv;refine A7 hE hO 2 rfl rfl fun H hO => ?_;cbv;refine A7 hE hO 1 rfl rfl fun H hO => ?_;cbv;cases h;exact ⟨_, rfl, hO⟩
       cbv;refine A6 hE h (c63 N r37.1 s33.2) (.refl _) fun r39 h => ?_;cbv;refine A5 hE h (fun hc h => ?_) (fun hc h => ?_)
       ·cbv;refine A7 hE hO 2 rfl rfl fun H hO => ?_;cbv;refine A7 hE hO 1 rfl rfl fun H hO => ?_;cbv;cases h;exact ⟨_, rfl, hO⟩
       cbv;cases h;exact ⟨_, rfl, hO⟩
      cbv;cases h;exact ⟨_, rfl, hO⟩
     cbv;cases h;exact ⟨_, rfl, hO⟩
    ·rintro d40 s42 H rfl hd hO;have hO : B2 Eq H0 (.blk m20 b29 :: .blk b19 (.cells [.bool s42.1]) :: .blk b18 (.cells (M3 s42.2)) :: .tl t13 :: .blk m15 (.obj q14) :: .blk b6 (.cells [vi s12.2.2]) :: .blk m3 (.obj o4) :: Cy (d40 :: ds26)) H := B2.dbs1 (A := [_, _, _, _, _, _, _]) (ds := ds26) (B2.dblk hd hO);clear hd;clear hx;cbv;cases h;exact ⟨p24, l28, _, (), b29, _, hpp24, h0p24, .e rfl (.b rfl (.e rfl (.e rfl (.e rfl (.e rfl (.e rfl (.e rfl (.e rfl (.e rfl (.e rfl (.z))))))))))), rfl, hb29.1, hO⟩
    rintro d r e H rfl hd hO;exact hO.elim
   ·exact .e rfl (.b rfl (.e rfl (.e rfl (.e rfl (.e rfl (.e rfl (.e rfl (.e rfl (.e rfl (.e rfl (.z)))))))))))
   ·exact hO
   clear hx;rintro e l ds26 H ⟨rfl, rfl, hO⟩;cbv;refine Jp hE (.int .i64) (V.int .i64) V.bool hO fun m43 o44 H ho44 hO => ?_;cbv;refine PC hE (kt := 3) (et := 4) (by kernel_rfl) hO (hO.get 4 rfl) hq14 fun m45 b46 H hb46 hO => ?_;cbv;obtain ⟨s53, hx, h⟩ := bind_some h;refine Iy cf19 hE G8 (γ := Obj) (fun s48 g => [(1, .v (.eref (C1 aB) 0)), (2, .b false), (3, .v (.sl [] .nil)), (4, .v (vi 0)), (7, .v (.ref b6 0)), (9, .v (.eref [.func (.func 61) [] [.eref [.map m3] 0, .ref b6 0]] 0)), (10, .v (.sl (Ar.lst eWq s12.1) t13)), (11, .v (.map m15)), (12, .v (.ref b18 0)), (18, .v (.eref [.map m43] 0)), (77, .v (.ref m45 0))]) (fun s48 g ds52 b50 H1 => DD (.int .i64) (V.int .i64) V.bool g s48 ∧ B2 Eq H0 (.blk m45 b50 :: .blk m43 (.obj g) :: .blk b19 (.cells [.bool s27.1]) :: .blk b18 (.cells (M3 s27.2)) :: .tl t13 :: .blk m15 (.obj q14) :: .blk b6 (.cells [vi s12.2.2]) :: .blk m3 (.obj o4) :: Cy ds52) H1) (fun x e l ds52 H1 => ∃ u1 : Obj, DD (.int .i64) (V.int .i64) V.bool u1 x ∧ e = .exit 6 ∧ l = [(1, .v (.eref (C1 aB) 0)), (2, .b false), (3, .v (.sl [] .nil)), (4, .v (vi 0)), (7, .v (.ref b6 0)), (9, .v (.eref [.func (.func 61) [] [.eref [.map m3] 0, .ref b6 0]] 0)), (10, .v (.sl (Ar.lst eWq s12.1) t13)), (12, .v (.ref b18 0)), (18, .v (.eref [.map m43] 0))] ∧ B2 Eq H0 (.blk m43 (.obj u1) :: .blk b19 (.cells [.bool s27.1]) :: .blk b18 (.cells (M3 s27.2)) :: .tl t13 :: .blk m15 (.obj q14) :: .blk b6 (.cells [vi s12.2.2]) :: .blk m3 (.obj o4) :: Cy ds52) H1) (by kernel_rfl) ?_ o44 hx ?_ hb46 ?_ ?_
   ·rintro s48 q51 ds52 lf48 b50 H hb50 ⟨hq51, hO⟩ hs48;clear hx;cbv;refine PD hE hO hb50 0 rfl (hO.get 5 rfl) (fun hl => ?_) fun p49 l54 b55 H hpp49 hb55 hO => ?_
    ·cbv;refine HV hE (fun hc => by cases hc) (fun hc => ?_);cbv;exact ⟨_, _, _, .inl ⟨hl, rfl⟩, ⟨q51, hq51.srt, rfl, rfl, hO.tail⟩, .e rfl (.b rfl (.e rfl (.e rfl (.e rfl (.e rfl (.e rfl (.e rfl (.e rfl (.z))))))))), rfl⟩
    obtain ⟨o, h⟩ := hs48 p49 l54 hpp49;have h0p49 := h;cbv;refine HV hE (fun hc => ?_) (fun hc => by cases hc);cbv;refine PE hE hO hb55 0 rfl (hO.get 5 rfl) ?_;cbv;refine P6 hE h (c41 N aB p49.1) (.refl _) fun r56 v57 hv57 h => ?_;cbv;obtain ⟨o63, hx, h⟩ := bind_some h;refine Au cf19 hE G8 (ι := Unit) (enc := fun (x : D5) => [(Bn x)]) (fun (s59 : (List (Int × Bool))) F H => ∃ g : Obj, (DD (.int .i64) (V.int .i64) V.bool g s59) ∧ B2 Eq F (.blk m45 b55 :: .blk m43 (.obj g) :: .blk b19 (.cells [.bool s27.1]) :: .blk b18 (.cells (M3 s27.2)) :: .tl t13 :: .blk m15 (.obj q14) :: .blk b6 (.cells [vi s12.2.2]) :: .blk m3 (.obj o4) :: Cy ds52) H) (fun (r : Unit) e F H => False) (fun i s59 y58 => [(9, .v (.eref [.func (.func 61) [] [.eref [.map m3] 0, .ref b6 0]] 0)), (12, .v (.ref b18 0)), (18, .v (.eref [.map m43] 0)), (20, .v (.eref (Me y58) 0))]) (fun i s59 y58 F H => ∃ g : Obj, (DD (.int .i64) (V.int .i64) V.bool g s59) ∧ B2 Eq F (.blk m45 b55 :: .blk m43 (.obj g) :: .blk b19 (.cells [.bool s27.1]) :: .blk b18 (.cells (M3 s27.2)) :: .tl t13 :: .blk m15 (.obj q14) :: .blk b6 (.cells [vi s12.2.2]) :: .blk m3 (.obj o4) :: Cy ds52) H) (fun _ => C5.ex fun _ => B2.stable B6 _) (fun _ _ => ⟨fun h => h.elim, fun _ _ h => h.elim⟩) (fun _ _ _ => C5.ex fun _ => B2.stable B6 _) hv57 hx (⟨q51, hq51, hO⟩) (by decide) (fun _ => rfl) (by kernel_rfl) (by kernel_rfl) ?_ ?_ ?_ ?_
    ·rintro E i61 y58 s59 F60 H hE ⟨q62, hq62, hO⟩;clear hx h;cbv;exact ⟨(), ⟨q62, hq62, hO⟩, .e4 .z, rfl⟩
    ·rintro E i61 _ y58 s59 F60 H o hE hF h ⟨q62, hq62, hO⟩;clear hx;cbv;refine Ng hE (F0 := []) (C0 := [.eref [.map m3] 0, .ref b6 0]) (args' := [(Bn y58)]) (g := fun r64 => .bool r64) h (fun r64 hx => c61 N y58 l2 s12.2.2 r64 hx m3 o4 ho4 b6) (.refl _) (SR (neC (hO.ne 7 6 rfl rfl (by decide)) (ne0)) (SS _)) (atC (hO.get 7 rfl) (atC (hO.get 6 rfl) (at0))) fun r64 h => ?_;cbv;refine B0 hE hO 3 rfl ?_;cbv;refine A5 hE h (fun hc h => ?_) (fun hc h => ?_)
     ·cbv;refine A6 hE h (c42 N y58.On s27.2) (.refl _) fun r65 h => ?_;cbv;refine A5 hE h (fun hc h => ?_) (fun hc h => ?_)
      ·cbv;refine ET hE (kt := 3) (et := 4) (by kernel_rfl) (by kernel_rfl) (Y1 .i64) Cw hO hq62 1 rfl h fun l67 o66 H ho66 h hO => ?_;cbv;cases h;exact ⟨_, rfl, ⟨o66, ho66, hO⟩⟩
      cbv;cases h;exact ⟨_, rfl, ⟨q62, hq62, hO⟩⟩
     cbv;cases h;exact ⟨_, rfl, ⟨q62, hq62, hO⟩⟩
    ·rintro d68 s71 H rfl hd ⟨q72, hq72, hO⟩;have hO : B2 Eq H0 (.blk m45 b55 :: .blk m43 (.obj q72) :: .blk b19 (.cells [.bool s27.1]) :: .blk b18 (.cells (M3 s27.2)) :: .tl t13 :: .blk m15 (.obj q14) :: .blk b6 (.cells [vi s12.2.2]) :: .blk m3 (.obj o4) :: Cy (d68 :: ds52)) H := B2.dbs1 (A := [_, _, _, _, _, _, _, _]) (ds := ds52) (B2.dblk hd hO);clear hd;clear hx;cbv;cases h;exact ⟨p49, l54, _, q72, b55, _, hpp49, h0p49, .e rfl (.b rfl (.e rfl (.e rfl (.e rfl (.e rfl (.e rfl (.e rfl (.e rfl (.e rfl (.e rfl (.z))))))))))), rfl, hb55.1, hq72, hO⟩
    rintro d r e H rfl hd hO;exact hO.elim
   ·exact .e rfl (.b rfl (.e rfl (.e rfl (.e rfl (.e rfl (.e rfl (.e rfl (.e rfl (.e rfl (.e rfl (.z)))))))))))
   ·exact ⟨ho44, hO⟩
   clear hx;rintro e l ds52 H ⟨q73, hq73, rfl, rfl, hO⟩;cbv;obtain ⟨s74, hx, h⟩ := bind_some h;refine J6 cf19 hE G8 (fun e l H1 => ∃ u1 : D4, O6 u1 ∧ e = .normal ∧ l = [(1, .v (.eref (C1 aB) 0)), (2, .b false), (3, .v (.sl [] .nil)), (4, .v (vi 0)), (7, .v (.ref b6 0)), (9, .v (.eref [.func (.func 61) [] [.eref [.map m3] 0, .ref b6 0]] 0)), (10, .v (.sl (Ar.lst eWq s74) u1)), (11, .v (.map m43))] ∧ B2 Eq H0 (.blk m43 (.obj q73) :: .blk b19 (.cells [.bool s27.1]) :: .blk b18 (.cells (M3 s27.2)) :: .tl u1 :: .blk m15 (.obj q14) :: .blk b6 (.cells [vi s12.2.2]) :: .blk m3 (.obj o4) :: Cy ds52) H1) (by kernel_rfl) ?_ ?_
   ·clear h;have h := hx;clear hx;cbv;refine B0 hE hO 2 rfl ?_;cbv;refine W4 (f := eWq) hE IK (by decide) hO 3 rfl ht13 (l := s12.1) (m := [s27.2]) (.refl _) (.lstc (.eq (eWE s27.2) (.refl _)) (.lst0)) h fun l196 t195 H hO ht195 h => ?_;cbv;cases h;exact ⟨_, ⟨t195, ht195, rfl, rfl, hO⟩, .e rfl (.b rfl (.e rfl (.e rfl (.e rfl (.e rfl (.e rfl (.e rfl (.z)))))))), rfl⟩
   clear hx;rintro e l H ⟨t395, ht395, rfl, rfl, hO⟩;cbv;refine B0 hE hO 5 rfl ?_;cbv;refine A7 hE hO 5 rfl rfl fun H hO => ?_;cbv;have hO : B2 Eq H0 (.blk m15 (.obj q14) :: .blk b19 (.cells [.bool s27.1]) :: .blk b18 (.cells (M3 s27.2)) :: .tl t395 :: .blk m43 (.obj q73) :: .blk b6 (.cells [vi (Ar.ar .sub .i64 s12.2.2 1)]) :: .blk m3 (.obj o4) :: Cy ds52) H := hO.swp 0 4 rfl rfl;cases h;exact ⟨_, ⟨t395, q73, m43⟩, _, rfl, .e rfl (.b rfl (.e rfl (.e rfl (.e rfl (.e rfl (.e rfl (.e rfl (.z)))))))), rfl, ht395, hq73, trivial, hO.tail.tail.tail⟩
  cbv;cases h;exact ⟨_, _, _, rfl, ⟨t13, ht13, q14, hq14, m15, trivial, rfl, rfl, hO⟩, .e rfl .z, rfl⟩
 ·exact .e rfl (.b rfl (.e rfl (.e rfl (.e rfl (.e rfl (.v (.slt _ (.lst0)) (.e rfl (.z))))))))
 ·exact ⟨trivial, ho9, trivial, hO⟩
 clear hx;rintro e l ds16 H ⟨t396, ht396, q397, hq397, m398, hm398, rfl, rfl, hO⟩;cbv
 rcases ds16 with _ | ⟨d0, ds16⟩
 ·cbv;have hO : B2 _ _ [.tl t396, .blk m398 (.obj q397), .blk b6 (.cells [vi s17.2.2]), .blk m3 (.obj o4)] H := hO;cases h;exact hK _ _ _ hO (.tup (.cons (.refl _) (.cons (.ro _ _) (.refl _))))
 cbv;refine Hv (A := [_, _, _, _]) (ds := d0 :: ds16) hE hO fun H hO => ?_;cbv;cases h;exact hK _ _ _ hO (.tup (.cons (.refl _) (.cons (.ro _ _) (.refl _))))
def cf21 : Cf := ⟨[], [(6, 8)], [], [], [], []⟩
theorem c21 (N aC aE r) (h : BX N aC aE = some r) : B4 prog 21 [.sl (Ar.lst eWq aC) .ro, .sl (Ar.lst eWq aE) .ro] (.bool r) := by
 unfold BX at h
 refine J7 cf21 func21 call21 ntmps21 ?_;intro E H0 K hE hK hO;cbv;refine D3 hE ?_;cbv;refine D3 hE ?_;cbv;refine A5 hE h (fun hc h => ?_) (fun hc h => ?_)
 ·cbv;cases h;exact hK _ _ _ hO (.refl _)
 cbv;obtain ⟨s2, hx, h⟩ := bind_some h;refine F2 cf21 hE G8 (fun s1 => [(0, .v (.sl (Ar.lst eWq aC) .ro)), (1, .v (.sl (Ar.lst eWq aE) .ro)), (5, .v (vi s1))]) (fun s1 H1 => B2 Eq H0 [] H1) (fun x e l H1 => match (generalizing := false) x with | .inl y => e = .exit 0 ∧ l = [] ∧ B2 Eq H0 [] H1 | .inr y => e = .ret ∧ l = [(4, .b false)] ∧ B2 Eq H0 [] H1) (by kernel_rfl) ?_ hx ?_ hO ?_
 ·intro s1 H o hO h;clear hx;cbv;refine D3 hE ?_;cbv;refine A5 hE h (fun hc h => ?_) (fun hc h => ?_)
  ·cbv;refine C2 hE eWE h fun x3 h => ?_;cbv;refine C2 hE eWE h fun x4 h => ?_;cbv;refine A5 hE h (fun hc h => ?_) (fun hc h => ?_)
   ·cbv;cases h;exact ⟨_, _, rfl, ⟨rfl, rfl, hO⟩, .b rfl (.z), rfl⟩
   cbv;cases h;exact ⟨_, rfl, .e rfl (.e2 .z), rfl, hO⟩
  cbv;cases h;exact ⟨_, _, rfl, ⟨rfl, rfl, hO⟩, .z, rfl⟩
 ·exact .e rfl (.e2 .z)
 clear hx
 rcases s2 with y5 | y6
 ·rintro e l H ⟨rfl, rfl, hO⟩;cbv;cases h;exact hK _ _ _ hO (.refl _)
 rintro e l H ⟨rfl, rfl, hO⟩;cbv;cases h;exact hK _ _ _ hO (.refl _)
def cf118 : Cf := ⟨[7], [], [], [], [], []⟩
theorem c118 (N aB r) (h : L9 N aB = some r) : Ka prog 118 [.sl (Ar.lst eWm aB) .ro] 2 (Ar.lst eWm r) := by
 unfold L9 at h
 intro H0;refine BB (T := TT) cf118 G8 func118 (by rfl) (by kernel_rfl) call118 ntmps118 (by rfl) (by rfl) ?_;intro E K hE hK hN;have hO : B2 Eq H0 [] H0 := .start B6 rfl;cbv;refine Sc hE rfl (fun hx => ?_) ?_
 ·cbv;exact hN (NM hx h) [] H0 hO
 cbv;refine PB (f := eWm) hE P3 (by decide) hO (.inr rfl) (m := aB) (Bq (f := eWm) hE P3 (.refl _)) h fun l q H hq hO h => ?_;cbv;cases h;exact hK q _ _ (U7 hE hq) hO
def cf71 : Cf := ⟨[2], [], [], [], [(22, 21), (24, 3)], []⟩
theorem c71 (N aA r) (h : Ao N aA = some r) : B4 prog 71 [(E2 aA)] ((E2 r)) := by
 unfold Ao at h
 refine J7 cf71 func71 call71 ntmps71 ?_;intro E H0 K hE hK hO;cbv;refine C8 hE hO fun b1 H hO => ?_;cbv;refine D3 hE ?_;cbv;refine Jo hE (f := eWr) (by decide) (z0 := ([] : List A2)) ((.eq (eWt _) (.lit _ (B1)))) hO h fun l3 q2 H hq2 h hO => ?_;cbv;refine D3 hE ?_;cbv;obtain ⟨s6, hx, h⟩ := bind_some h;refine K3 cf71 hE G8 (γ := OG) (fun s4 g => [(2, .v (.ref b1 0)), (3, .v (.own g.id g.lo g.n)), (11, .v (.sl (Ar.lst eWr aA.Sets) .ro)), (12, .v (vi (Ar.len aA.Sets))), (13, .v (vi s4.1))]) (fun s4 g H1 => V3 g (Ar.len s4.2) ∧ B2 Eq H0 [.blk g.id (.arr 1 (g.pre ++ Ar.lst eWr s4.2 ++ g.rest)), .blk b1 (.cells [.sl [] .nil])] H1) (fun x e l H1 => ∃ u1 : OG, V3 u1 (Ar.len x) ∧ e = .exit 0 ∧ l = [(2, .v (.ref b1 0)), (3, .v (.own u1.id u1.lo u1.n))] ∧ B2 Eq H0 [.blk u1.id (.arr 1 (u1.pre ++ Ar.lst eWr x ++ u1.rest)), .blk b1 (.cells [.sl [] .nil])] H1) (by kernel_rfl) ?_ q2 hx ?_ ?_ ?_
 ·rintro s4 q5 H o ⟨hq5, hO⟩ h;clear hx;cbv;refine A5 hE h (fun hc h => ?_) (fun hc h => ?_)
  ·cbv;refine C2 hE eWt h fun x7 h => ?_;cbv;refine Eb hE (f := eWm) h (c118 N x7) (.refl _) hO fun l8 q9 H hq9 hO h => ?_;cbv;refine Gj hE hO hq9 0 rfl fun H hO => ?_;cbv;refine Y0 hE hO hq5 0 rfl h fun h => ?_;cbv;refine X9 hE (f := eWr) (esz := 1) (tz := 1) (off := 0) (u := (fun x10 : List A2 => l8)) (fun _ => ⟨_, .eq (eWt _) (.refl _), (by rw [eWt]; rfl), Di _, rfl⟩) (by decide) hO hq5 0 rfl h fun l11 H hq5 h hO => ?_;cbv;cases h;exact ⟨_, q5, rfl, .e rfl (.e4 .z), rfl, hq5, hO⟩
  cbv;cases h;exact ⟨_, _, rfl, ⟨q5, hq5, rfl, rfl, hO⟩, .e2 .z, rfl⟩
 ·exact .e rfl (.e4 .z)
 ·exact ⟨hq2, hO⟩
 clear hx;rintro e l H ⟨q12, hq12, rfl, rfl, hO⟩;cbv;refine Gj hE hO hq12 0 rfl fun H hO => ?_;cbv;refine A7 hE hO 0 rfl rfl fun H hO => ?_;cbv;refine B0 hE hO 0 rfl ?_;cbv;cases h;exact hK _ _ _ hO (.refl _)
def cf82 : Cf := ⟨[2], [], [], [], [], []⟩
theorem c82 (N aB r) (h : Bo N aB = some r) : B4 prog 82 [(H6 aB)] (.tup [(H6 r.1), vi r.2]) := by
 unfold Bo at h
 refine J7 cf82 func82 call82 ntmps82 ?_;intro E H0 K hE hK hO;cbv;refine C8 hE hO fun b1 H hO => ?_;cbv;refine D3 hE ?_;cbv;refine D3 hE ?_;cbv;refine A5 hE h (fun hc h => ?_) (fun hc h => ?_)
 ·cbv;refine A7 hE hO 0 rfl rfl fun H hO => ?_;cbv;refine B0 hE hO 0 rfl ?_;cbv;cases h;exact hK _ _ _ hO (.tup (.cons (.agg (.cons (.refl _) (.cons (.lit _ (B1)) (.cons (.lit _ (B1)) (.refl _))))) (.refl _)))
 cbv;refine A7 hE hO 0 rfl rfl fun H hO => ?_;cbv;refine B0 hE hO 0 rfl ?_;cbv;cases h;exact hK _ _ _ hO (.refl _)
def cf29 : Cf := ⟨[2, 5], [(10, 10), (15, 13), (3000004, 0), (3000004, 1), (3000004, 2), (3000004, 3), (3000004, 4), (3000004, 5), (3000004, 7), (3000005, 0), (3000005, 1), (3000005, 2), (3000005, 3), (3000005, 4), (3000005, 5), (3000005, 7)], [], [2000004, 2000005], [(83, 2000005)], []⟩
set_option maxHeartbeats 2000000 in
theorem c29 (N aB r) (h : Bp N aB = some r) : B4 prog 29 [(H6 aB)] (.tup [(H6 r.1), vi r.2]) := by
 unfold Bp at h
 refine J7 cf29 func29 call29 ntmps29 ?_;intro E H0 K hE hK hO;cbv;refine C8 hE hO fun b1 H hO => ?_;cbv;refine A6 hE h (c13 N aB) (.refl _) fun r2 h => ?_;cbv;refine A5 hE h (fun hc h => ?_) (fun hc h => ?_)
 ·cbv;refine A7 hE hO 0 rfl rfl fun H hO => ?_;cbv;refine B0 hE hO 0 rfl ?_;cbv;cases h;exact hK _ _ _ hO (.tup (.cons (.agg (.cons (.refl _) (.cons (.lit _ (B1)) (.cons (.lit _ (B1)) (.refl _))))) (.refl _)))
 cbv;obtain ⟨s3, hx, h⟩ := bind_some h;refine J6 cf29 hE G8 (fun e l H1 => ∃ u1 : Nat, True ∧ ∃ u2 : OG, V3 u2 (Ar.len s3) ∧ e = .normal ∧ l = [(1, .v (.eref (C1 aB) 0)), (2, .v (.ref b1 0)), (5, .v (.ref u1 0))] ∧ B2 Eq H0 [.blk u1 (.cells [vi aB.Types, .own u2.id u2.lo u2.n, .sl [] .nil]), .blk u2.id (.arr 1 (u2.pre ++ Ar.lst V.bool s3 ++ u2.rest)), .blk b1 (.cells [vi 0, .sl [] .nil, .sl [] .nil])] H1) (by kernel_rfl) ?_ ?_
 ·clear h;have h := hx;clear hx;cbv;refine D3 hE ?_;cbv
  repeat' first | refine And.intro ?_ ?_ | (refine Jo hE (f := V.bool) (by decide) (z0 := (false : Bool)) ((.refl _)) hO h fun l245 q244 H hq244 h hO => ?_; cbv) | (refine C8 hE hO fun b324 H hO => ?_; cbv) | (refine A7 hE hO 0 rfl rfl fun H hO => ?_; cbv) | (have h := N8 h; subst h; exact ⟨_, ⟨b324, trivial, q244, hq244, rfl, rfl, hO⟩, .e rfl (.e2 .z), rfl⟩) | (refine A7 hE hO 1 rfl rfl fun H hO => ?_; cbv) | (have hO : B2 Eq H0 [.blk b324 (.cells [vi aB.Types, .own q244.id q244.lo q244.n, .sl [] .nil]), .blk q244.id (.arr 1 (q244.pre ++ Ar.lst V.bool l245 ++ q244.rest)), .blk b1 (.cells [vi 0, .sl [] .nil, .sl [] .nil])] H := hO.swp 1 0 rfl rfl; have h := N8 h; subst h; exact ⟨_, ⟨b324, trivial, q244, hq244, rfl, rfl, hO⟩, .e rfl (.e2 .z), rfl⟩)
 clear hx;rintro e l H ⟨b444, hb444, q445, hq445, rfl, rfl, hO⟩;cbv;obtain ⟨s446, hx, h⟩ := bind_some h;refine J6 cf29 hE G8 (fun e l H1 => ∃ u1 : OG, V3 u1 (Ar.len s446) ∧ e = .normal ∧ l = [(1, .v (.eref (C1 aB) 0)), (2, .v (.ref b1 0)), (5, .v (.ref b444 0))] ∧ B2 Eq H0 [.blk b444 (.cells [vi aB.Types, .own u1.id u1.lo u1.n, .sl [] .nil]), .blk u1.id (.arr 1 (u1.pre ++ Ar.lst V.bool s446 ++ u1.rest)), .blk b1 (.cells [vi 0, .sl [] .nil, .sl [] .nil])] H1) (by kernel_rfl) ?_ ?_
 ·clear h;have h := hx;clear hx;cbv
  repeat' first | refine And.intro ?_ ?_ | (refine B0 hE hO 0 rfl ?_; cbv) | (refine C2 hE (fun _ => rfl) h fun x687 h => ?_; cbv) | (refine Y0 hE hO hq445 1 rfl h fun h => ?_; cbv) | (refine X9 hE (f := V.bool) (esz := 1) (tz := 1) (off := 0) (u := (fun x807 : Bool => x687)) (fun _ => ⟨.bool x687, .refl _, rfl, rfl, rfl⟩) (by decide) hO hq445 1 rfl h fun l808 H hq445 h hO => ?_; cbv) | (refine X9 hE (f := V.bool) (esz := 1) (tz := 1) (off := 0) (u := (fun x887 : Bool => true)) (fun _ => ⟨.bool true, .refl _, rfl, rfl, rfl⟩) (by decide) hO hq445 1 rfl h fun l888 H hq445 h hO => ?_; cbv) | (have h := N8 h; subst h; exact ⟨_, ⟨q445, hq445, rfl, rfl, hO⟩, .e rfl (.e2 .z), rfl⟩)
 clear hx;rintro e l H ⟨q967, hq967, rfl, rfl, hO⟩;cbv;refine D3 hE ?_;cbv;replace hO := hO.cast (L' := [.blk b444 (.cells [vi aB.Types, .own q967.id q967.lo q967.n, .sl (Ar.lst eWw ([])) .nil]), .blk q967.id (.arr 1 (q967.pre ++ Ar.lst V.bool s446 ++ q967.rest)), .blk b1 (.cells [vi 0, .sl [] .nil, .sl [] .nil])]) (by first | (simp only [← B1]; done) | (simp only [← B1]; rfl));replace hO := hO.tl0 (t := .nil) rfl;obtain ⟨s970, hx, h⟩ := bind_some h;refine K3 cf29 hE G8 (γ := D4) (fun s968 g => [(1, .v (.eref (C1 aB) 0)), (2, .v (.ref b1 0)), (5, .v (.ref b444 0)), (35, .v (.sl (Ar.lst eWw aB.Moves) .ro)), (36, .v (vi (Ar.len aB.Moves))), (37, .v (vi s968.1))]) (fun s968 g H1 => O6 g ∧ B2 Eq H0 [.tl g, .blk b444 (.cells [vi s968.2.Types, .own q967.id q967.lo q967.n, .sl (Ar.lst eWw s968.2.Moves) g]), .blk q967.id (.arr 1 (q967.pre ++ Ar.lst V.bool s446 ++ q967.rest)), .blk b1 (.cells [vi 0, .sl [] .nil, .sl [] .nil])] H1) (fun x e l H1 => ∃ u1 : D4, O6 u1 ∧ e = .exit 0 ∧ l = [(1, .v (.eref (C1 aB) 0)), (2, .v (.ref b1 0)), (5, .v (.ref b444 0))] ∧ B2 Eq H0 [.tl u1, .blk b444 (.cells [vi x.Types, .own q967.id q967.lo q967.n, .sl (Ar.lst eWw x.Moves) u1]), .blk q967.id (.arr 1 (q967.pre ++ Ar.lst V.bool s446 ++ q967.rest)), .blk b1 (.cells [vi 0, .sl [] .nil, .sl [] .nil])] H1) (by kernel_rfl) ?_ .nil hx ?_ ?_ ?_
 ·rintro s968 t969 H o ⟨ht969, hO⟩ h;clear hx;cbv;refine A5 hE h (fun hc h => ?_) (fun hc h => ?_)
  ·cbv;refine C2 hE eWu h fun x971 h => ?_;cbv;refine C2 hE (fun _ => rfl) h fun x972 h => ?_;cbv;refine A5 hE h (fun hc h => ?_) (fun hc h => ?_)
   ·cbv;refine B0 hE hO 1 rfl ?_;cbv;refine M1 hE (g := fun r973 => (E2 r973)) h (c71 N x971.On) (.refl _) fun r973 h => ?_;cbv;refine W4 (f := eWw) hE IL (by decide) hO 0 rfl ht969 (l := s968.2.Moves) (m := [(⟨0, Ar.ar .add .i64 x971.From 1, r973⟩ : D5)]) (.refl _) (.lstc (.eq (eWu (⟨0, Ar.ar .add .i64 x971.From 1, r973⟩ : D5)) (.refl _)) (.lst0)) h fun l975 t974 H hO ht974 h => ?_;cbv;refine A7 hE hO 1 rfl rfl fun H hO => ?_;cbv;cases h;exact ⟨_, t974, rfl, .e2 (.e4 .z), rfl, ht974, hO⟩
   cbv;cases h;exact ⟨_, t969, rfl, .e2 (.e4 .z), rfl, ht969, hO⟩
  cbv;cases h;exact ⟨_, _, rfl, ⟨t969, ht969, rfl, rfl, hO⟩, .e rfl (.e2 .z), rfl⟩
 ·exact .e2 (.e4 .z)
 ·exact ⟨trivial, hO⟩
 clear hx;rintro e l H ⟨t976, ht976, rfl, rfl, hO⟩;cbv;refine D3 hE ?_;cbv;obtain ⟨s979, hx, h⟩ := bind_some h;refine K3 cf29 hE G8 (γ := D4) (fun s977 g => [(2, .v (.ref b1 0)), (5, .v (.ref b444 0)), (61, .v (.sl (Ar.lst eWw aB.Moves) .ro)), (62, .v (vi (Ar.len aB.Moves))), (63, .v (vi s977.1))]) (fun s977 g H1 => O6 g ∧ B2 Eq H0 [.tl g, .blk b444 (.cells [vi s977.2.Types, .own q967.id q967.lo q967.n, .sl (Ar.lst eWw s977.2.Moves) g]), .blk q967.id (.arr 1 (q967.pre ++ Ar.lst V.bool s446 ++ q967.rest)), .blk b1 (.cells [vi 0, .sl [] .nil, .sl [] .nil])] H1) (fun x e l H1 => ∃ u1 : D4, O6 u1 ∧ e = .exit 2 ∧ l = [(2, .v (.ref b1 0)), (5, .v (.ref b444 0))] ∧ B2 Eq H0 [.tl u1, .blk b444 (.cells [vi x.Types, .own q967.id q967.lo q967.n, .sl (Ar.lst eWw x.Moves) u1]), .blk q967.id (.arr 1 (q967.pre ++ Ar.lst V.bool s446 ++ q967.rest)), .blk b1 (.cells [vi 0, .sl [] .nil, .sl [] .nil])] H1) (by kernel_rfl) ?_ t976 hx ?_ ?_ ?_
 ·rintro s977 t978 H o ⟨ht978, hO⟩ h;clear hx;cbv;refine A5 hE h (fun hc h => ?_) (fun hc h => ?_)
  ·cbv;refine C2 hE eWu h fun x980 h => ?_;cbv;refine B0 hE hO 1 rfl ?_;cbv;refine M1 hE (g := fun r981 => (E2 r981)) h (c71 N x980.On) (.refl _) fun r981 h => ?_;cbv;refine W4 (f := eWw) hE IL (by decide) hO 0 rfl ht978 (l := s977.2.Moves) (m := [(⟨Ar.ar .add .i64 x980.To 1, Ar.ar .add .i64 x980.From 1, r981⟩ : D5)]) (.refl _) (.lstc (.eq (eWu (⟨Ar.ar .add .i64 x980.To 1, Ar.ar .add .i64 x980.From 1, r981⟩ : D5)) (.refl _)) (.lst0)) h fun l983 t982 H hO ht982 h => ?_;cbv;refine A7 hE hO 1 rfl rfl fun H hO => ?_;cbv;cases h;exact ⟨_, t982, rfl, .e rfl (.e4 .z), rfl, ht982, hO⟩
  cbv;cases h;exact ⟨_, _, rfl, ⟨t978, ht978, rfl, rfl, hO⟩, .e2 .z, rfl⟩
 ·exact .e rfl (.e4 .z)
 ·exact ⟨ht976, hO⟩
 clear hx;rintro e l H ⟨t984, ht984, rfl, rfl, hO⟩;cbv;refine PF hE hO hq967 1 2 rfl rfl rfl (by decide) fun H hO => ?_;cbv;refine B0 hE hO 1 rfl ?_;cbv;refine A6 hE h (c82 N ({ s979 with Finals := s446 })) (.cons (.agg (.cons (.refl _) (.cons (.refl _) (.cons (.ro _ _) (.refl _))))) (.refl _)) fun r985 h => ?_;cbv;refine A7 hE hO 2 rfl rfl fun H hO => ?_;cbv;refine B0 hE hO 2 rfl ?_;cbv;cases h;exact hK _ _ _ hO (.refl _)
def cf35 : Cf := ⟨[4], [], [], [], [], []⟩
theorem c35 (N bD bE r) (h : Y2 N bD bE = some r) : B4 prog 35 [vi bD, vi bE] ((E2 r)) := by
 unfold Y2 at h
 refine J7 cf35 func35 call35 ntmps35 ?_;intro E H0 K hE hK hO;cbv;refine C8 hE hO fun b1 H hO => ?_;cbv;refine A7 hE hO 0 rfl rfl fun H hO => ?_;cbv;refine B0 hE hO 0 rfl ?_;cbv;cases h;exact hK _ _ _ hO (.agg (.cons (.sl _ (.lstc (.eq (eWt ([(⟨bD, bE⟩ : A2)])) (.lit _ (C6 ((eWv (⟨bD, bE⟩ : A2)).symm) (B1)))) (.lst0))) (.refl _)))
theorem c36 (N aG r) (h : Bw N aG = some r) : B4 prog 36 [.sl (Ar.lst (V.int .i64) aG) .ro] (.sl (Ar.lst eWq r) .ro) := by
 unfold Bw at h
 refine J7 cf0 func36 call36 ntmps36 ?_;intro E H0 K hE hK hO;cbv;refine D3 hE ?_;cbv;replace hO := hO.tl0 (t := .nil) rfl;obtain ⟨s3, hx, h⟩ := bind_some h;refine K3 cf0 hE G8 (γ := D4) (fun s1 g => [(3, .v (.sl (Ar.lst eWq s1.1) g)), (6, .v (.sl (Ar.lst (V.int .i64) aG) .ro)), (7, .v (vi (Ar.len aG))), (8, .v (vi s1.2))]) (fun s1 g H1 => O6 g ∧ B2 Eq H0 [.tl g] H1) (fun x e l H1 => ∃ u1 : D4, O6 u1 ∧ e = .exit 0 ∧ l = [(3, .v (.sl (Ar.lst eWq x) u1))] ∧ B2 Eq H0 [.tl u1] H1) (by kernel_rfl) ?_ .nil hx ?_ ?_ ?_
 ·rintro s1 t2 H o ⟨ht2, hO⟩ h;clear hx;cbv;refine A5 hE h (fun hc h => ?_) (fun hc h => ?_)
  ·cbv;refine C2 hE (fun _ => rfl) h fun x4 h => ?_;cbv;refine W4 (f := eWq) hE IK (by decide) hO 0 rfl ht2 (l := s1.1) (m := [(⟨0, x4⟩ : B8)]) (.refl _) (.lstc (.eq (eWE (⟨0, x4⟩ : B8)) (.refl _)) (.lst0)) h fun l6 t5 H hO ht5 h => ?_;cbv;cases h;exact ⟨_, t5, rfl, .e4 .z, rfl, ht5, hO⟩
  cbv;cases h;exact ⟨_, _, rfl, ⟨t2, ht2, rfl, rfl, hO⟩, .e rfl .z, rfl⟩
 ·exact .v (.slt _ (.lst0)) (.e rfl (.e2 .z))
 ·exact ⟨trivial, hO⟩
 clear hx;rintro e l H ⟨t7, ht7, rfl, rfl, hO⟩;cbv;cases h;exact hK _ _ _ hO (.ro _ _)
def cf38 : Cf := ⟨[2], [], [], [], [], []⟩
theorem c38 (N aE r) (h : Ga N aE = some r) : B4 prog 38 [.bool aE] ((Ir r)) := by
 unfold Ga at h
 refine J7 cf38 func38 call38 ntmps38 ?_;intro E H0 K hE hK hO;cbv;refine C8 hE hO fun b1 H hO => ?_;cbv;refine A5 hE h (fun hc h => ?_) (fun hc h => ?_)
 ·cbv;refine A7 hE hO 0 rfl rfl fun H hO => ?_;cbv;refine B0 hE hO 0 rfl ?_;cbv;cases h;exact hK _ _ _ hO (.refl _)
 cbv;refine A7 hE hO 0 rfl rfl fun H hO => ?_;cbv;refine B0 hE hO 0 rfl ?_;cbv;cases h;exact hK _ _ _ hO (.refl _)
def cf37 : Cf := ⟨[2], [], [], [], [], []⟩
theorem c37 (N aN r) (h : BJ N aN = some r) : B4 prog 37 [vi aN] ((B9 r)) := by
 unfold BJ at h
 refine J7 cf37 func37 call37 ntmps37 ?_;intro E H0 K hE hK hO;cbv;refine C8 hE hO fun b1 H hO => ?_;cbv;refine A6 hE h (c38 N true) (.refl _) fun r2 h => ?_;cbv;refine A7 hE hO 0 rfl rfl fun H hO => ?_;cbv;refine B0 hE hO 0 rfl ?_;cbv;cases h;exact hK _ _ _ hO (.agg (.cons (.refl _) (.cons (.lit _ (B1)) (.cons (.refl _) (.cons (.refl _) (.cons (.refl _) (.cons (.refl _) (.cons (.refl _) (.cons (.lit _ (B1)) (.refl _))))))))))
def cf10 : Cf := ⟨[], [(17, 22)], [], [], [], []⟩
theorem c10 (N r) (h : AL N  = some r) : B4 prog 10 [] (.bool r) := by
 unfold AL at h
 refine J7 cf10 func10 call10 ntmps10 ?_;intro E H0 K hE hK hO;cbv;refine A6 hE h (c35 N 1 5) (.refl _) fun r1 h => ?_;cbv;refine A6 hE h (c35 N 4 9) (.refl _) fun r2 h => ?_;cbv;refine A6 hE h (c36 N ([4])) (.cons (.lit _ (C6 (rfl) (B1))) (.refl _)) fun r3 h => ?_;cbv;refine A6 hE h (c36 N ([1, 4])) (.cons (.lit _ (C6 (rfl) (C6 (rfl) (B1)))) (.refl _)) fun r4 h => ?_;cbv;refine A6 hE h (c36 N ([1])) (.cons (.lit _ (C6 (rfl) (B1))) (.refl _)) fun r5 h => ?_;cbv;refine VV hE (n := 3) rfl ?_;cbv;obtain ⟨s7, hx, h⟩ := bind_some h;refine F2 cf10 hE G8 (fun s6 => [(1, .v (.eref [vi 1, .sl [.bool false, .bool true] .full, .sl [.agg [vi 0, vi 0, .sl (Ar.lst eWr r1.Sets) .ro], .agg [vi 0, vi 1, .sl (Ar.lst eWr r2.Sets) .ro]] .full] 0)), (29, .v (.sl (Ar.lst eWW ([r3, r4, r5])) .ro)), (30, .v (vi 3)), (31, .v (vi s6))]) (fun s6 H1 => B2 Eq H0 [] H1) (fun x e l H1 => match (generalizing := false) x with | .inl y => e = .exit 0 ∧ l = [(1, .v (.eref [vi 1, .sl [.bool false, .bool true] .full, .sl [.agg [vi 0, vi 0, .sl (Ar.lst eWr r1.Sets) .ro], .agg [vi 0, vi 1, .sl (Ar.lst eWr r2.Sets) .ro]] .full] 0))] ∧ B2 Eq H0 [] H1 | .inr y => e = .ret ∧ l = [(0, .b false)] ∧ B2 Eq H0 [] H1) (by kernel_rfl) ?_ hx ?_ hO ?_
 ·intro s6 H o hO h;clear hx;cbv;refine A5 hE h (fun hc h => ?_) (fun hc h => ?_)
  ·cbv;refine C2 hE eWQ h fun x8 h => ?_;cbv;refine A6 hE h (c11 N (⟨1, [false, true], [(⟨0, 0, r1⟩ : D5), (⟨0, 1, r2⟩ : D5)]⟩ : B3) x8) (.cons (.agg (.cons (.refl _) (.cons (.lit _ (C6 (rfl) (C6 (rfl) (B1)))) (.cons (.lit _ (C6 ((eWu (⟨0, 0, r1⟩ : D5)).symm) (C6 ((eWu (⟨0, 1, r2⟩ : D5)).symm) (B1)))) (.refl _))))) (.refl _)) fun r9 h => ?_;cbv;refine A5 hE h (fun hc h => ?_) (fun hc h => ?_)
   ·cbv;cases h;exact ⟨_, _, rfl, ⟨rfl, rfl, hO⟩, .b rfl (.z), rfl⟩
   cbv;cases h;exact ⟨_, rfl, .e4 .z, rfl, hO⟩
  cbv;cases h;exact ⟨_, _, rfl, ⟨rfl, rfl, hO⟩, .e rfl .z, rfl⟩
 ·exact .e rfl (.v (.lit _ (C6 ((eWQ r3).symm) (C6 ((eWQ r4).symm) (C6 ((eWQ r5).symm) (B1))))) (.e rfl (.e rfl (.z))))
 clear hx
 rcases s7 with y10 | y24
 ·rintro e l H ⟨rfl, rfl, hO⟩;cbv;refine A6 hE h (c19 N (⟨1, [false, true], [(⟨0, 0, r1⟩ : D5), (⟨0, 1, r2⟩ : D5)]⟩ : B3)) (.cons (.agg (.cons (.refl _) (.cons (.lit _ (C6 (rfl) (C6 (rfl) (B1)))) (.cons (.lit _ (C6 ((eWu (⟨0, 0, r1⟩ : D5)).symm) (C6 ((eWu (⟨0, 1, r2⟩ : D5)).symm) (B1)))) (.refl _))))) (.refl _)) fun r11 h => ?_;cbv;refine A6 hE h (c29 N (⟨1, [false, true], [(⟨0, 0, r1⟩ : D5), (⟨0, 1, r2⟩ : D5)]⟩ : B3)) (.cons (.agg (.cons (.refl _) (.cons (.lit _ (C6 (rfl) (C6 (rfl) (B1)))) (.cons (.lit _ (C6 ((eWu (⟨0, 0, r1⟩ : D5)).symm) (C6 ((eWu (⟨0, 1, r2⟩ : D5)).symm) (B1)))) (.refl _))))) (.refl _)) fun r12 h => ?_;cbv;refine A6 hE h (c37 N 0) (.refl _) fun r13 h => ?_;cbv;refine A6 hE h (c37 N 1) (.refl _) fun r14 h => ?_;cbv;refine A6 hE h (c16 N ([(⟨(⟨#[97]⟩ : ByteArray), []⟩ : X0)]) (⟨1, [r13, (⟨4, [r14], 0, 0, 0, 0, (⟨0, [], 0, 0, 0, (⟨0, 0, ⟨#[]⟩⟩ : O5)⟩ : G2)⟩ : A4)], 0, 0, 0, 0, (⟨0, [], 0, 0, 0, (⟨0, 0, ⟨#[]⟩⟩ : O5)⟩ : G2)⟩ : A4)) (.cons (.sl _ (.lstc (.eq (eWO (⟨(⟨#[97]⟩ : ByteArray), []⟩ : X0)) (.agg (.cons (.refl _) (.cons (.lit _ (B1)) (.refl _))))) (.lst0))) (.cons (.agg (.cons (.refl _) (.cons (.sl _ (.lstc (.eq (eWs r13) (.refl _)) (.lstc (.eq (eWs (⟨4, [r14], 0, 0, 0, 0, (⟨0, [], 0, 0, 0, (⟨0, 0, ⟨#[]⟩⟩ : O5)⟩ : G2)⟩ : A4)) (.agg (.cons (.refl _) (.cons (.lit _ (C6 ((eWs r14).symm) (B1))) (.cons (.refl _) (.cons (.refl _) (.cons (.refl _) (.cons (.refl _) (.cons (.refl _) (.cons (.lit _ (B1)) (.refl _))))))))))) (.lst0)))) (.cons (.refl _) (.cons (.refl _) (.cons (.refl _) (.cons (.refl _) (.cons (.refl _) (.cons (.lit _ (B1)) (.refl _)))))))))) (.refl _))) fun r15 h => ?_;cbv;refine A6 hE h (c35 N (-1099511627776) 1099511627776) (.refl _) fun r16 h => ?_;cbv;refine A5 hE h (fun hc h => ?_) (fun hc h => ?_)
  ·cbv;cases h;exact hK _ _ _ hO (.refl _)
  cbv;refine A6 hE h (c36 N ([4])) (.cons (.lit _ (C6 (rfl) (B1))) (.refl _)) fun r17 h => ?_;cbv;refine A6 hE h (c21 N r11.2.1 r17) (.refl _) fun r18 h => ?_;cbv;refine A5 hE h (fun hc h => ?_) (fun hc h => ?_)
  ·cbv;cases h;exact hK _ _ _ hO (.refl _)
  cbv;refine M1 hE (g := fun r19 => (E2 r19)) h (c35 N 4 9) (.refl _) fun r19 h => ?_;cbv;refine M1 hE (g := fun r20 => (E2 r20)) h (c35 N 1 5) (.refl _) fun r20 h => ?_;cbv;refine M1 hE (g := fun r21 => (E2 r21)) h (c35 N 4 9) (.refl _) fun r21 h => ?_;cbv;refine M1 hE (g := fun r22 => .bool r22) h (c18 N r12.1 (⟨1, [false, true, false], [(⟨0, 1, r19⟩ : D5), (⟨1, 1, r20⟩ : D5), (⟨2, 1, r21⟩ : D5)]⟩ : B3)) (.cons (.refl _) (.cons (.agg (.cons (.refl _) (.cons (.lit _ (C6 (rfl) (C6 (rfl) (C6 (rfl) (B1))))) (.cons (.lit _ (C6 ((eWu (⟨0, 1, r19⟩ : D5)).symm) (C6 ((eWu (⟨1, 1, r20⟩ : D5)).symm) (C6 ((eWu (⟨2, 1, r21⟩ : D5)).symm) (B1))))) (.refl _))))) (.refl _))) fun r22 h => ?_;cbv;refine A5 hE h (fun hc h => ?_) (fun hc h => ?_)
  ·cbv;refine A6 hE h (c18 N r15.1 (⟨1, [false, false, true], [(⟨0, 1, r16⟩ : D5), (⟨1, 2, r16⟩ : D5), (⟨1, 1, r16⟩ : D5)]⟩ : B3)) (.cons (.refl _) (.cons (.agg (.cons (.refl _) (.cons (.lit _ (C6 (rfl) (C6 (rfl) (C6 (rfl) (B1))))) (.cons (.lit _ (C6 ((eWu (⟨0, 1, r16⟩ : D5)).symm) (C6 ((eWu (⟨1, 2, r16⟩ : D5)).symm) (C6 ((eWu (⟨1, 1, r16⟩ : D5)).symm) (B1))))) (.refl _))))) (.refl _))) fun r23 h => ?_;cbv;cases h;exact hK _ _ _ hO (.refl _)
  cbv;cases h;exact hK _ _ _ hO (.refl _)
 rintro e l H ⟨rfl, rfl, hO⟩;cbv;cases h;exact hK _ _ _ hO (.refl _)
theorem c166 (N aI r) (h : EN N aI = some r) : B4 prog 166 [vi aI] (.bool r) := by
 unfold EN at h
 refine J7 cf0 func166 call166 ntmps166 ?_;intro E H0 K hE hK hO;cbv;cases h;exact hK _ _ _ hO (.refl _)
theorem c127 (N aH r) (h : DJ N aH = some r) : B4 prog 127 [(M5 aH)] (vi r) := by
 unfold DJ at h
 refine J7 cf0 func127 call127 ntmps127 ?_;intro E H0 K hE hK hO;cbv;refine A6 hE h (c166 N aH.Low) (.refl _) fun r1 h => ?_;cbv;refine A5 hE h (fun hc h => ?_) (fun hc h => ?_)
 ·cbv;cases h;exact hK _ _ _ hO (.refl _)
 cbv;refine A6 hE h (c166 N aH.High) (.refl _) fun r2 h => ?_;cbv;refine A5 hE h (fun hc h => ?_) (fun hc h => ?_)
 ·cbv;cases h;exact hK _ _ _ hO (.refl _)
 cbv;refine A5 hE h (fun hc h => ?_) (fun hc h => ?_)
 ·cbv;cases h;exact hK _ _ _ hO (.refl _)
 cbv;cases h;exact hK _ _ _ hO (.refl _)
def cf95 : Cf := ⟨[], [(9, 15)], [], [], [], []⟩
theorem c95 (N aG r) (h : BR N aG = some r) : B4 prog 95 [.sl (Ar.lst eWm aG) .ro] (vi r) := by
 unfold BR at h
 refine J7 cf95 func95 call95 ntmps95 ?_;intro E H0 K hE hK hO;cbv;refine D3 hE ?_;cbv;refine A5 hE h (fun hc h => ?_) (fun hc h => ?_)
 ·cbv;cases h;exact hK _ _ _ hO (.refl _)
 cbv;obtain ⟨s2, hx, h⟩ := bind_some h;refine F2 cf95 hE G8 (fun s1 => [(0, .v (.sl (Ar.lst eWm aG) .ro)), (3, .v (vi s1))]) (fun s1 H1 => B2 Eq H0 [] H1) (fun x e l H1 => match (generalizing := false) x with | .inl y => e = .exit 0 ∧ l = [] ∧ B2 Eq H0 [] H1 | .inr y => e = .ret ∧ l = [(2, .v (vi y))] ∧ B2 Eq H0 [] H1) (by kernel_rfl) ?_ hx ?_ hO ?_
 ·intro s1 H o hO h;clear hx;cbv;refine D3 hE ?_;cbv;refine A5 hE h (fun hc h => ?_) (fun hc h => ?_)
  ·cbv;refine C2 hE eWv h fun x3 h => ?_;cbv;refine A6 hE h (c127 N x3) (.refl _) fun r4 h => ?_;cbv;refine A5 hE h (fun hc h => ?_) (fun hc h => ?_)
   ·cbv;cases h;exact ⟨_, _, rfl, ⟨rfl, rfl, hO⟩, .e rfl .z, rfl⟩
   cbv;refine A5 hE h (fun hc h => ?_) (fun hc h => ?_)
   ·cbv;refine C2 hE eWv h fun x5 h => ?_;cbv;refine C2 hE eWv h fun x6 h => ?_;cbv;refine A5 hE h (fun hc h => ?_) (fun hc h => ?_)
    ·cbv;cases h;exact ⟨_, _, rfl, ⟨rfl, rfl, hO⟩, .e rfl .z, rfl⟩
    cbv;cases h;exact ⟨_, rfl, .e2 .z, rfl, hO⟩
   cbv;cases h;exact ⟨_, rfl, .e2 .z, rfl, hO⟩
  cbv;cases h;exact ⟨_, _, rfl, ⟨rfl, rfl, hO⟩, .z, rfl⟩
 ·exact .e2 .z
 clear hx
 rcases s2 with y7 | y8
 ·rintro e l H ⟨rfl, rfl, hO⟩;cbv;cases h;exact hK _ _ _ hO (.refl _)
 rintro e l H ⟨rfl, rfl, hO⟩;cbv;cases h;exact hK _ _ _ hO (.refl _)
theorem c47 (N aJ aA r) (h : BQ N aJ aA = some r) : B4 prog 47 [vi aJ, (E2 aA)] (vi r) := by
 unfold BQ at h
 refine J7 cf0 func47 call47 ntmps47 ?_;intro E H0 K hE hK hO;cbv;refine A5 hE h (fun hc h => ?_) (fun hc h => ?_)
 ·cbv;cases h;exact hK _ _ _ hO (.refl _)
 cbv;refine D3 hE ?_;cbv;refine A5 hE h (fun hc h => ?_) (fun hc h => ?_)
 ·cbv;cases h;exact hK _ _ _ hO (.refl _)
 cbv;obtain ⟨s2, hx, h⟩ := bind_some h;refine F2 cf0 hE G8 (fun s1 => [(0, .v (vi aJ)), (3, .v (.eref (R7 aA) 0)), (5, .v (vi s1))]) (fun s1 H1 => B2 Eq H0 [] H1) (fun x e l H1 => match (generalizing := false) x with | .inl y => e = .exit 0 ∧ l = [] ∧ B2 Eq H0 [] H1 | .inr y => e = .ret ∧ l = [(4, .v (vi y))] ∧ B2 Eq H0 [] H1) (by kernel_rfl) ?_ hx ?_ hO ?_
 ·intro s1 H o hO h;clear hx;cbv;refine A5 hE h (fun hc h => ?_) (fun hc h => ?_)
  ·cbv;refine C2 hE eWt h fun x3 h => ?_;cbv;refine A6 hE h (c95 N x3) (.refl _) fun r4 h => ?_;cbv;refine A5 hE h (fun hc h => ?_) (fun hc h => ?_)
   ·cbv;cases h;exact ⟨_, _, rfl, ⟨rfl, rfl, hO⟩, .e rfl .z, rfl⟩
   cbv;cases h;exact ⟨_, rfl, .e rfl (.e2 .z), rfl, hO⟩
  cbv;cases h;exact ⟨_, _, rfl, ⟨rfl, rfl, hO⟩, .z, rfl⟩
 ·exact .e rfl (.e2 .z)
 clear hx
 rcases s2 with y5 | y6
 ·rintro e l H ⟨rfl, rfl, hO⟩;cbv;cases h;exact hK _ _ _ hO (.refl _)
 rintro e l H ⟨rfl, rfl, hO⟩;cbv;cases h;exact hK _ _ _ hO (.refl _)
theorem c14 (N aB r) (h : AI N aB = some r) : B4 prog 14 [(H6 aB)] (vi r) := by
 unfold AI at h
 refine J7 cf0 func14 call14 ntmps14 ?_;intro E H0 K hE hK hO;cbv;refine A5 hE h (fun hc h => ?_) (fun hc h => ?_)
 ·cbv;cases h;exact hK _ _ _ hO (.refl _)
 cbv;refine D3 hE ?_;cbv;refine D3 hE ?_;cbv;refine A5 hE h (fun hc h => ?_) (fun hc h => ?_)
 ·cbv;cases h;exact hK _ _ _ hO (.refl _)
 cbv;obtain ⟨s2, hx, h⟩ := bind_some h;refine F2 cf0 hE G8 (fun s1 => [(1, .v (.eref (C1 aB) 0)), (3, .v (vi (Ar.len aB.Finals))), (4, .v (vi s1))]) (fun s1 H1 => B2 Eq H0 [] H1) (fun x e l H1 => match (generalizing := false) x with | .inl y => e = .exit 0 ∧ l = [] ∧ B2 Eq H0 [] H1 | .inr y => e = .ret ∧ l = [(2, .v (vi y))] ∧ B2 Eq H0 [] H1) (by kernel_rfl) ?_ hx ?_ hO ?_
 ·intro s1 H o hO h;clear hx;cbv;refine D3 hE ?_;cbv;refine A5 hE h (fun hc h => ?_) (fun hc h => ?_)
  ·cbv;refine C2 hE eWu h fun x3 h => ?_;cbv;refine A5 hE h (fun hc h => ?_) (fun hc h => ?_)
   ·cbv;cases h;exact ⟨_, _, rfl, ⟨rfl, rfl, hO⟩, .e rfl .z, rfl⟩
   cbv;refine A6 hE h (c47 N aB.Types x3.On) (.refl _) fun r4 h => ?_;cbv;refine A5 hE h (fun hc h => ?_) (fun hc h => ?_)
   ·cbv;cases h;exact ⟨_, _, rfl, ⟨rfl, rfl, hO⟩, .e rfl .z, rfl⟩
   cbv;cases h;exact ⟨_, rfl, .e rfl (.e2 .z), rfl, hO⟩
  cbv;cases h;exact ⟨_, _, rfl, ⟨rfl, rfl, hO⟩, .z, rfl⟩
 ·exact .e rfl (.e2 .z)
 clear hx
 rcases s2 with y5 | y6
 ·rintro e l H ⟨rfl, rfl, hO⟩;cbv;cases h;exact hK _ _ _ hO (.refl _)
 rintro e l H ⟨rfl, rfl, hO⟩;cbv;cases h;exact hK _ _ _ hO (.refl _)
theorem c43 (N aJ aB r) (h : R4 N aJ aB = some r) : B4 prog 43 [vi aJ, (BN aB)] (vi r) := by
 unfold R4 at h
 refine J7 cf0 func43 call43 ntmps43 ?_;intro E H0 K hE hK hO;cbv;refine A5 hE h (fun hc h => ?_) (fun hc h => ?_)
 ·cbv;cases h;exact hK _ _ _ hO (.refl _)
 cbv;refine A5 hE h (fun hc h => ?_) (fun hc h => ?_)
 ·cbv;cases h;exact hK _ _ _ hO (.refl _)
 cbv;cases h;exact hK _ _ _ hO (.refl _)
theorem c165 (N aG aI r) (h : DK N aG aI = some r) : B4 prog 165 [.sl (Ar.lst eWm aG) .ro, vi aI] (.bool r) := by
 unfold DK at h
 refine J7 cf0 func165 call165 ntmps165 ?_;intro E H0 K hE hK hO;cbv;obtain ⟨s2, hx, h⟩ := bind_some h;refine F2 cf0 hE G8 (fun s1 => [(0, .v (.sl (Ar.lst eWm aG) .ro)), (1, .v (vi aI)), (5, .v (vi s1))]) (fun s1 H1 => B2 Eq H0 [] H1) (fun x e l H1 => match (generalizing := false) x with | .inl y => e = .exit 0 ∧ l = [] ∧ B2 Eq H0 [] H1 | .inr y => e = .ret ∧ l = [(4, .b true)] ∧ B2 Eq H0 [] H1) (by kernel_rfl) ?_ hx ?_ hO ?_
 ·intro s1 H o hO h;clear hx;cbv;refine D3 hE ?_;cbv;refine A5 hE h (fun hc h => ?_) (fun hc h => ?_)
  ·cbv;refine C2 hE eWv h fun x3 h => ?_;cbv;refine A5 hE h (fun hc h => ?_) (fun hc h => ?_)
   ·cbv;refine C2 hE eWv h fun x4 h => ?_;cbv;refine A5 hE h (fun hc h => ?_) (fun hc h => ?_)
    ·cbv;cases h;exact ⟨_, _, rfl, ⟨rfl, rfl, hO⟩, .b rfl (.z), rfl⟩
    cbv;cases h;exact ⟨_, rfl, .e rfl (.e2 .z), rfl, hO⟩
   cbv;cases h;exact ⟨_, rfl, .e rfl (.e2 .z), rfl, hO⟩
  cbv;cases h;exact ⟨_, _, rfl, ⟨rfl, rfl, hO⟩, .z, rfl⟩
 ·exact .e rfl (.e2 .z)
 clear hx
 rcases s2 with y5 | y6
 ·rintro e l H ⟨rfl, rfl, hO⟩;cbv;cases h;exact hK _ _ _ hO (.refl _)
 rintro e l H ⟨rfl, rfl, hO⟩;cbv;cases h;exact hK _ _ _ hO (.refl _)
def cf125 : Cf := ⟨[], [(1, 20)], [], [], [], []⟩
theorem c125 (N aA aB r) (h : Bs N aA aB = some r) : B4 prog 125 [(E2 aA), (BN aB)] (.bool r) := by
 unfold Bs at h
 refine J7 cf125 func125 call125 ntmps125 ?_;intro E H0 K hE hK hO;cbv;refine D3 hE ?_;cbv;refine A5 hE h (fun hc h => ?_) (fun hc h => ?_)
 ·cbv;refine C2 hE eWt h fun x1 h => ?_;cbv;refine A6 hE h (c165 N x1 aB.Num) (.refl _) fun r2 h => ?_;cbv;cases h;exact hK _ _ _ hO (.refl _)
 cbv;cases h;exact hK _ _ _ hO (.refl _)
theorem c93 (N aB bF aH r) (h : S3 N aB bF aH = some r) : B4 prog 93 [(H6 aB), .sl (Ar.lst V.bool bF) .ro, (BN aH)] (.sl (Ar.lst V.bool r) .ro) := by
 unfold S3 at h
 refine Q3 (T := TT) cf0 G8 func93 (by rfl) (by kernel_rfl) call93 ntmps93 (by rfl) (by rfl) ?_;intro E H0 K hE hK hF;have hO : B2 Eq H0 [] H0 := .start B6 rfl;cbv;refine D3 hE ?_;cbv;refine Jo hE (f := V.bool) (by decide) (z0 := (false : Bool)) ((.refl _)) hO h fun l2 q1 H hq1 h hO => ?_;cbv;obtain ⟨s5, hx, h⟩ := bind_some h;refine K3 cf0 hE G8 (γ := OG) (fun s3 g => [(1, .v (.sl (Ar.lst V.bool bF) .ro)), (3, .v (.eref (C1 aB) 0)), (5, .v (.eref (M3 aH) 0)), (7, .v (.own g.id g.lo g.n)), (8, .v (vi s3.1))]) (fun s3 g H1 => V3 g (Ar.len s3.2) ∧ B2 Eq H0 [.blk g.id (.arr 1 (g.pre ++ Ar.lst V.bool s3.2 ++ g.rest))] H1) (fun x e l H1 => ∃ u1 : OG, V3 u1 (Ar.len x) ∧ e = .exit 0 ∧ l = [(7, .v (.own u1.id u1.lo u1.n))] ∧ B2 Eq H0 [.blk u1.id (.arr 1 (u1.pre ++ Ar.lst V.bool x ++ u1.rest))] H1) (by kernel_rfl) ?_ q1 hx ?_ ?_ ?_
 ·rintro s3 q4 H o ⟨hq4, hO⟩ h;clear hx;cbv;refine D3 hE ?_;cbv;refine A5 hE h (fun hc h => ?_) (fun hc h => ?_)
  ·cbv;refine C2 hE eWu h fun x6 h => ?_;cbv;refine C2 hE (fun _ => rfl) h fun x7 h => ?_;cbv;refine A5 hE h (fun hc h => ?_) (fun hc h => ?_)
   ·cbv;refine A6 hE h (c125 N x6.On aH) (.refl _) fun r8 h => ?_;cbv;refine A5 hE h (fun hc h => ?_) (fun hc h => ?_)
    ·cbv;refine Y0 hE hO hq4 0 rfl h fun h => ?_;cbv;refine X9 hE (f := V.bool) (esz := 1) (tz := 1) (off := 0) (u := (fun x9 : Bool => true)) (fun _ => ⟨.bool true, .refl _, rfl, rfl, rfl⟩) (by decide) hO hq4 0 rfl h fun l10 H hq4 h hO => ?_;cbv;cases h;exact ⟨_, q4, rfl, .e rfl (.e4 .z), rfl, hq4, hO⟩
    cbv;cases h;exact ⟨_, q4, rfl, .e rfl (.e4 .z), rfl, hq4, hO⟩
   cbv;cases h;exact ⟨_, q4, rfl, .e rfl (.e4 .z), rfl, hq4, hO⟩
  cbv;cases h;exact ⟨_, _, rfl, ⟨q4, hq4, rfl, rfl, hO⟩, .e rfl .z, rfl⟩
 ·exact .e rfl (.e4 .z)
 ·exact ⟨hq1, hO⟩
 clear hx;rintro e l H ⟨q11, hq11, rfl, rfl, hO⟩;cbv;cases h;exact hF q11 _ _ 0 _ _ hO rfl (U7 hE hq11) (.refl _)
def cf44 : Cf := ⟨[], [(6, 6)], [], [], [(6, 5)], []⟩
theorem c44 (N aB aQ r) (h : BP N aB aQ = some r) : B4 prog 44 [(H6 aB), .sl (Ar.lst eWq aQ) .ro] (.bool r) := by
 unfold BP at h
 refine J7 cf44 func44 call44 ntmps44 ?_;intro E H0 K hE hK hO;cbv;refine D3 hE ?_;cbv;refine Jo hE (f := V.bool) (by decide) (z0 := (false : Bool)) ((.refl _)) hO h fun l2 q1 H hq1 h hO => ?_;cbv;refine Y0 hE hO hq1 0 rfl h fun h => ?_;cbv;refine X9 hE (f := V.bool) (esz := 1) (tz := 1) (off := 0) (u := (fun x3 : Bool => true)) (fun _ => ⟨.bool true, .refl _, rfl, rfl, rfl⟩) (by decide) hO hq1 0 rfl h fun l4 H hq1 h hO => ?_;cbv;refine Gj hE hO hq1 0 rfl fun H hO => ?_;cbv;obtain ⟨s6, hx, h⟩ := bind_some h;refine F2 cf44 hE G8 (fun s5 => [(1, .v (.sl (Ar.lst eWq aQ) .ro)), (2, .v (.eref (C1 aB) 0)), (5, .v (.sl (Ar.lst V.bool s5.1) .ro)), (6, .v (vi s5.2))]) (fun s5 H1 => B2 Eq H0 [] H1) (fun x e l H1 => e = .exit 0 ∧ l = [(2, .v (.eref (C1 aB) 0)), (5, .v (.sl (Ar.lst V.bool x) .ro))] ∧ B2 Eq H0 [] H1) (by kernel_rfl) ?_ hx ?_ hO ?_
 ·intro s5 H o hO h;clear hx;cbv;refine D3 hE ?_;cbv;refine A5 hE h (fun hc h => ?_) (fun hc h => ?_)
  ·cbv;refine C2 hE eWE h fun x7 h => ?_;cbv;refine A6 hE h (c93 N aB s5.1 x7) (.refl _) fun r8 h => ?_;cbv;cases h;exact ⟨_, rfl, .e4 .z, rfl, hO⟩
  cbv;cases h;exact ⟨_, _, rfl, ⟨rfl, rfl, hO⟩, .e2 .z, rfl⟩
 ·exact .e4 .z
 clear hx;rintro e l H ⟨rfl, rfl, hO⟩;cbv;obtain ⟨s10, hx, h⟩ := bind_some h;refine F2 cf44 hE G8 (fun s9 => [(2, .v (.eref (C1 aB) 0)), (5, .v (.sl (Ar.lst V.bool s6) .ro)), (7, .v (vi s9))]) (fun s9 H1 => B2 Eq H0 [] H1) (fun x e l H1 => match (generalizing := false) x with | .inl y => e = .exit 2 ∧ l = [] ∧ B2 Eq H0 [] H1 | .inr y => e = .ret ∧ l = [(4, .b true)] ∧ B2 Eq H0 [] H1) (by kernel_rfl) ?_ hx ?_ hO ?_
 ·intro s9 H o hO h;clear hx;cbv;refine D3 hE ?_;cbv;refine A5 hE h (fun hc h => ?_) (fun hc h => ?_)
  ·cbv;refine C2 hE (fun _ => rfl) h fun x11 h => ?_;cbv;refine A5 hE h (fun hc h => ?_) (fun hc h => ?_)
   ·cbv;refine C2 hE (fun _ => rfl) h fun x12 h => ?_;cbv;refine A5 hE h (fun hc h => ?_) (fun hc h => ?_)
    ·cbv;cases h;exact ⟨_, _, rfl, ⟨rfl, rfl, hO⟩, .b rfl (.z), rfl⟩
    cbv;cases h;exact ⟨_, rfl, .e rfl (.e2 .z), rfl, hO⟩
   cbv;cases h;exact ⟨_, rfl, .e rfl (.e2 .z), rfl, hO⟩
  cbv;cases h;exact ⟨_, _, rfl, ⟨rfl, rfl, hO⟩, .z, rfl⟩
 ·exact .e rfl (.e2 .z)
 clear hx
 rcases s10 with y13 | y14
 ·rintro e l H ⟨rfl, rfl, hO⟩;cbv;cases h;exact hK _ _ _ hO (.refl _)
 rintro e l H ⟨rfl, rfl, hO⟩;cbv;cases h;exact hK _ _ _ hO (.refl _)
def cf12 : Cf := ⟨[], [(9, 6)], [], [], [], []⟩
theorem c12 (N aB aQ r) (h : Ah N aB aQ = some r) : B4 prog 12 [(H6 aB), .sl (Ar.lst eWq aQ) .ro] (.tup [.bool r.1, vi r.2]) := by
 unfold Ah at h
 refine J7 cf12 func12 call12 ntmps12 ?_;intro E H0 K hE hK hO;cbv;refine A6 hE h (c14 N aB) (.refl _) fun r1 h => ?_;cbv;refine A5 hE h (fun hc h => ?_) (fun hc h => ?_)
 ·cbv;cases h;exact hK _ _ _ hO (.refl _)
 cbv;refine D3 hE ?_;cbv;refine A5 hE h (fun hc h => ?_) (fun hc h => ?_)
 ·cbv;cases h;exact hK _ _ _ hO (.refl _)
 cbv;obtain ⟨s3, hx, h⟩ := bind_some h;refine F2 cf12 hE G8 (fun s2 => [(1, .v (.sl (Ar.lst eWq aQ) .ro)), (2, .v (.eref (C1 aB) 0)), (7, .v (vi s2))]) (fun s2 H1 => B2 Eq H0 [] H1) (fun x e l H1 => match (generalizing := false) x with | .inl y => e = .exit 0 ∧ l = [(1, .v (.sl (Ar.lst eWq aQ) .ro)), (2, .v (.eref (C1 aB) 0))] ∧ B2 Eq H0 [] H1 | .inr y => e = .ret ∧ l = [(4, .b false), (5, .v (vi y))] ∧ B2 Eq H0 [] H1) (by kernel_rfl) ?_ hx ?_ hO ?_
 ·intro s2 H o hO h;clear hx;cbv;refine D3 hE ?_;cbv;refine A5 hE h (fun hc h => ?_) (fun hc h => ?_)
  ·cbv;refine C2 hE eWE h fun x4 h => ?_;cbv;refine A6 hE h (c43 N aB.Types x4) (.refl _) fun r5 h => ?_;cbv;refine A5 hE h (fun hc h => ?_) (fun hc h => ?_)
   ·cbv;cases h;exact ⟨_, _, rfl, ⟨rfl, rfl, hO⟩, .b rfl (.e rfl .z), rfl⟩
   cbv;cases h;exact ⟨_, rfl, .e rfl (.e2 .z), rfl, hO⟩
  cbv;cases h;exact ⟨_, _, rfl, ⟨rfl, rfl, hO⟩, .e2 .z, rfl⟩
 ·exact .e rfl (.e2 .z)
 clear hx
 rcases s3 with y6 | y8
 ·rintro e l H ⟨rfl, rfl, hO⟩;cbv;refine A6 hE h (c44 N aB aQ) (.refl _) fun r7 h => ?_;cbv;cases h;exact hK _ _ _ hO (.refl _)
 rintro e l H ⟨rfl, rfl, hO⟩;cbv;cases h;exact hK _ _ _ hO (.refl _)
def cf3 : Cf := ⟨[], [(5, 13)], [], [], [], []⟩
theorem c3 (N aB bQ r) (h : R5 N aB bQ = some r) : B4 prog 3 [(H6 aB), .sl (Ar.lst eWq bQ) .ro] (.bool r) := by
 unfold R5 at h
 refine J7 cf3 func3 call3 ntmps3 ?_;intro E H0 K hE hK hO;cbv;refine A6 hE h (c9 N aB) (.refl _) fun r1 h => ?_;cbv;refine D3 hE ?_;cbv;refine A5 hE h (fun hc h => ?_) (fun hc h => ?_)
 ·cbv;refine A6 hE h (c10 N ) (.refl _) fun r2 h => ?_;cbv;cases h;exact hK _ _ _ hO (.refl _)
 cbv;refine A6 hE h (c11 N aB bQ) (.refl _) fun r3 h => ?_;cbv;refine A6 hE h (c12 N aB bQ) (.refl _) fun r4 h => ?_;cbv;refine M1 hE (g := fun r5 => vi r5) h (c13 N aB) (.refl _) fun r5 h => ?_;cbv;refine M1 hE (g := fun r6 => vi r6) h (c14 N aB) (.refl _) fun r6 h => ?_;cbv;refine A5 hE h (fun hc h => ?_) (fun hc h => ?_)
 ·cbv;refine A6 hE h (c10 N ) (.refl _) fun r7 h => ?_;cbv;cases h;exact hK _ _ _ hO (.refl _)
 cbv;cases h;exact hK _ _ _ hO (.refl _)
end Go.Ab
