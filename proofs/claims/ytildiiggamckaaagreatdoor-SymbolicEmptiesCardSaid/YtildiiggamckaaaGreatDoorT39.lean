/- GYCo6 -/
import Derived.Test.YtildiiggamckaaaGreatDoorT38
set_option linter.all false
namespace Go.Ab
open Go.RowKit Go.Proofs Go.Proofs.Tryz G6
variable [Ar] [G6]
set_option maxRecDepth 100000
theorem c63 (N aH aM r) (h : W7 N aH aM = some r) : B6 prog 63 [(Av aH), (Av aM)] (.bool r) := by
 unfold W7 at h
 refine J9 cf0 func63 call63 ntmps63 ?_;intro E H0 K hE hK hO;cbv;cases h;exact hK _ _ _ hO (.refl _)
def cf19 : Cf := ⟨[7, 12, 13], [(3000031, 0), (3000031, 1), (3000031, 4), (3000031, 5), (3000031, 6)], [], [2000031], [], []⟩
set_option maxHeartbeats 2000000 in
theorem c19 (N aB r) (h : U3 N aB = some r) : B6 prog 19 [(H6 aB)] (.tup [.bool r.1, .sl (Ar.lst eXN r.2.1) .ro, vi r.2.2]) := by
 unfold U3 at h
 refine J9 cf19 func19 call19 ntmps19 ?_;intro E H0 K hE hK hO;cbv;refine A7 hE h (c13 N aB) (.refl _) fun r1 h => ?_;cbv;refine A6 hE h (fun hc h => ?_) (fun hc h => ?_)
 ·cbv;cases h;exact hK _ _ _ hO (.tup (.cons (.refl _) (.cons (.lit _ (B3)) (.refl _))))
 cbv;refine Tt hE h (c60 N aB) (.refl _) hO fun l2 m3 o4 H ho4 hO h => ?_;cbv;refine Mz hE (kt := 3) (et := 3) (by kernel_rfl) (by kernel_rfl) (Z2 .i64) (0 : Int) (by kernel_rfl) rfl hO ho4 0 rfl h fun r5 h => ?_;cbv;refine C8 hE hO fun b6 H hO => ?_;cbv;refine A8 hE hO 0 rfl rfl fun H hO => ?_;cbv;refine A6 hE h (fun hc h => ?_) (fun hc h => ?_)
 ·cbv;cases h;exact hK _ _ _ hO (.tup (.cons (.refl _) (.cons (.lit _ (B3)) (.refl _))))
 cbv;refine JO hE (.int .i64) (V.int .i64) V.bool hO fun m7 o8 H ho8 hO => ?_;cbv;refine Ft hE (kt := 3) (et := 4) (by kernel_rfl) (by kernel_rfl) (Z2 .i64) CJ hO ho8 0 rfl h fun l10 o9 H ho9 h hO => ?_;cbv;replace hO := hO.tl0 (t := .nil) rfl;obtain ⟨s17, hx, h⟩ := bind_some h;refine NV cf19 hE G7 (γ := D6 × Obj × Nat) (fun s12 g => [(1, .v (.eref (C1 aB) 0)), (2, .b false), (3, .v (.sl [] .nil)), (4, .v (vi 0)), (7, .v (.ref b6 0)), (9, .v (.eref [.func (.func 61) [] [.eref [.map m3] 0, .ref b6 0]] 0)), (10, .v (.sl (Ar.lst eXN s12.1) g.1)), (11, .v (.map g.2.2))]) (fun s12 g ds16 H1 => N2 g.1 ∧ DX (.int .i64) (V.int .i64) V.bool g.2.1 s12.2.1 ∧ True ∧ B4 Eq H0 (.tl g.1 :: .blk g.2.2 (.obj g.2.1) :: .blk b6 (.cells [vi s12.2.2]) :: .blk m3 (.obj o4) :: CL ds16) H1) (fun x e l ds16 H1 => ∃ u1 : D6, N2 u1 ∧ ∃ u2 : Obj, DX (.int .i64) (V.int .i64) V.bool u2 x.2.1 ∧ ∃ u3 : Nat, True ∧ e = .exit 0 ∧ l = [(10, .v (.sl (Ar.lst eXN x.1) u1))] ∧ B4 Eq H0 (.tl u1 :: .blk u3 (.obj u2) :: .blk b6 (.cells [vi x.2.2]) :: .blk m3 (.obj o4) :: CL ds16) H1) (by kernel_rfl) ?_ (⟨.nil, o9, m7⟩) hx ?_ ?_ ?_
 ·rintro s12 ⟨t13, q14, m15⟩ ds16 H o ⟨ht13, hq14, hm15, hO⟩ h;clear hx;cbv;refine B1 hE hO 2 rfl ?_;cbv;refine A6 hE h (fun hc h => ?_) (fun hc h => ?_)
  ·cbv;refine C8 hE hO fun b18 H hO => ?_;cbv;refine C8 hE hO fun b19 H hO => ?_;cbv;refine A8 hE hO 0 rfl rfl fun H hO => ?_;cbv;refine Qz hE (kt := 3) (et := 4) (by kernel_rfl) hO (hO.get 3 rfl) hq14 fun m20 b21 H hb21 hO => ?_;cbv;obtain ⟨s27, hx, h⟩ := bind_some h;refine IZ cf19 hE G7 (γ := Unit) (fun s23 _ => [(1, .v (.eref (C1 aB) 0)), (2, .b false), (3, .v (.sl [] .nil)), (4, .v (vi 0)), (7, .v (.ref b6 0)), (9, .v (.eref [.func (.func 61) [] [.eref [.map m3] 0, .ref b6 0]] 0)), (10, .v (.sl (Ar.lst eXN s12.1) t13)), (11, .v (.map m15)), (12, .v (.ref b18 0)), (13, .v (.ref b19 0)), (43, .v (.ref m20 0))]) (fun s23 _ ds26 b25 H1 => B4 Eq H0 (.blk m20 b25 :: .blk b19 (.cells [.bool s23.1]) :: .blk b18 (.cells (K0 s23.2)) :: .tl t13 :: .blk m15 (.obj q14) :: .blk b6 (.cells [vi s12.2.2]) :: .blk m3 (.obj o4) :: CL ds26) H1) (fun x e l ds26 H1 => e = .exit 2 ∧ l = [(1, .v (.eref (C1 aB) 0)), (2, .b false), (3, .v (.sl [] .nil)), (4, .v (vi 0)), (7, .v (.ref b6 0)), (9, .v (.eref [.func (.func 61) [] [.eref [.map m3] 0, .ref b6 0]] 0)), (10, .v (.sl (Ar.lst eXN s12.1) t13)), (11, .v (.map m15)), (12, .v (.ref b18 0))] ∧ B4 Eq H0 (.blk b19 (.cells [.bool x.1]) :: .blk b18 (.cells (K0 x.2)) :: .tl t13 :: .blk m15 (.obj q14) :: .blk b6 (.cells [vi s12.2.2]) :: .blk m3 (.obj o4) :: CL ds26) H1) (by kernel_rfl) ?_ () hx ?_ hb21 ?_ ?_
   ·rintro s23 _ ds26 lf23 b25 H hb25 hO hs23;clear hx;cbv;refine QA hE hO hb25 0 rfl (hO.get 4 rfl) (fun hl => ?_) fun p24 l28 b29 H hpp24 hb29 hO => ?_
    ·cbv;refine Ix hE (fun hc => by cases hc) (fun hc => ?_);cbv;exact ⟨_, _, _, .inl ⟨hl, rfl⟩, ⟨rfl, rfl, hO.tail⟩, .e rfl (.b rfl (.e rfl (.e rfl (.e rfl (.e rfl (.e rfl (.e rfl (.e rfl (.z))))))))), rfl⟩
    obtain ⟨o, h⟩ := hs23 p24 l28 hpp24;have h0p24 := h;cbv;refine Ix hE (fun hc => ?_) (fun hc => by cases hc);cbv;refine QB hE hO hb29 0 rfl (hO.get 4 rfl) ?_;cbv;refine Q0 hE h (c41 N aB p24.1) (.refl _) fun r30 v31 hv31 h => ?_;cbv;obtain ⟨o36, hx, h⟩ := bind_some h;refine AG cf19 hE G7 (ι := Unit) (enc := fun (x : D0) => [(Bz x)]) (fun (s33 : Bool × B2) F H => B4 Eq F (.blk m20 b29 :: .blk b19 (.cells [.bool s33.1]) :: .blk b18 (.cells (K0 s33.2)) :: .tl t13 :: .blk m15 (.obj q14) :: .blk b6 (.cells [vi s12.2.2]) :: .blk m3 (.obj o4) :: CL ds26) H) (fun (r : Unit) e F H => False) (fun i s33 y32 => [(9, .v (.eref [.func (.func 61) [] [.eref [.map m3] 0, .ref b6 0]] 0)), (12, .v (.ref b18 0)), (13, .v (.ref b19 0)), (15, .v (.eref (MS y32) 0))]) (fun i s33 y32 F H => B4 Eq F (.blk m20 b29 :: .blk b19 (.cells [.bool s33.1]) :: .blk b18 (.cells (K0 s33.2)) :: .tl t13 :: .blk m15 (.obj q14) :: .blk b6 (.cells [vi s12.2.2]) :: .blk m3 (.obj o4) :: CL ds26) H) (fun _ => B4.stable B7 _) (fun _ _ => ⟨fun h => h.elim, fun _ _ h => h.elim⟩) (fun _ _ _ => B4.stable B7 _) hv31 hx (hO) (by decide) (fun _ => rfl) (by kernel_rfl) (by kernel_rfl) ?_ ?_ ?_ ?_
    ·rintro E i35 y32 s33 F34 H hE hO;clear hx h;cbv;exact ⟨(), hO, .e4 .z, rfl⟩
    ·rintro E i35 _ y32 s33 F34 H o hE hF h hO;clear hx;cbv;refine A7 hE h (c62 N y32.On) (.refl _) fun r37 h => ?_;cbv;refine A6 hE h (fun hc h => ?_) (fun hc h => ?_)
     ·cbv;refine NW hE (F0 := []) (C0 := [.eref [.map m3] 0, .ref b6 0]) (args' := [(Bz y32)]) (g := fun r38 => .bool r38) h (fun r38 hx => c61 N y32 l2 s12.2.2 r38 hx m3 o4 ho4 b6) (.refl _) (Ug (neC (hO.ne 6 5 rfl rfl (by decide)) (ne0)) (Uh _)) (atC (hO.get 6 rfl) (atC (hO.get 5 rfl) (at0))) fun r38 h => ?_;cbv;refine B1 hE hO 1 rfl ?_;cbv;refine B1 hE hO 2 rfl ?_;cbv;refine A6 hE h (fun hc h => ?_) (fun hc h => ?_)
      ·cbv;refine A6 hE h (fun hc h => ?_) (fun hc h => ?_)
       ·cbv;refine A8 hE hO 2 rfl rfl fun H hO => ?_;cbv;refine A8 hE hO 1 rfl rfl fun H hO => ?_;cbv;cases h;exact ⟨_, rfl, hO⟩
       cbv;refine A7 hE h (c63 N r37.1 s33.2) (.refl _) fun r39 h => ?_;cbv;refine A6 hE h (fun hc h => ?_) (fun hc h => ?_)
       ·cbv;refine A8 hE hO 2 rfl rfl fun H hO => ?_;cbv;refine A8 hE hO 1 rfl rfl fun H hO => ?_;cbv;cases h;exact ⟨_, rfl, hO⟩
       cbv;cases h;exact ⟨_, rfl, hO⟩
      cbv;cases h;exact ⟨_, rfl, hO⟩
     cbv;cases h;exact ⟨_, rfl, hO⟩
    ·rintro d40 s42 H rfl hd hO;have hO : B4 Eq H0 (.blk m20 b29 :: .blk b19 (.cells [.bool s42.1]) :: .blk b18 (.cells (K0 s42.2)) :: .tl t13 :: .blk m15 (.obj q14) :: .blk b6 (.cells [vi s12.2.2]) :: .blk m3 (.obj o4) :: CL (d40 :: ds26)) H := B4.dbs1 (A := [_, _, _, _, _, _, _]) (ds := ds26) (B4.dblk hd hO);clear hd;clear hx;cbv;cases h;exact ⟨p24, l28, _, (), b29, _, hpp24, h0p24, .e rfl (.b rfl (.e rfl (.e rfl (.e rfl (.e rfl (.e rfl (.e rfl (.e rfl (.e rfl (.e rfl (.z))))))))))), rfl, hb29.1, hO⟩
    rintro d r e H rfl hd hO;exact hO.elim
   ·exact .e rfl (.b rfl (.e rfl (.e rfl (.e rfl (.e rfl (.e rfl (.e rfl (.e rfl (.e rfl (.e rfl (.z)))))))))))
   ·exact hO
   clear hx;rintro e l ds26 H ⟨rfl, rfl, hO⟩;cbv;refine JO hE (.int .i64) (V.int .i64) V.bool hO fun m43 o44 H ho44 hO => ?_;cbv;refine Qz hE (kt := 3) (et := 4) (by kernel_rfl) hO (hO.get 4 rfl) hq14 fun m45 b46 H hb46 hO => ?_;cbv;obtain ⟨s53, hx, h⟩ := bind_some h;refine IZ cf19 hE G7 (γ := Obj) (fun s48 g => [(1, .v (.eref (C1 aB) 0)), (2, .b false), (3, .v (.sl [] .nil)), (4, .v (vi 0)), (7, .v (.ref b6 0)), (9, .v (.eref [.func (.func 61) [] [.eref [.map m3] 0, .ref b6 0]] 0)), (10, .v (.sl (Ar.lst eXN s12.1) t13)), (11, .v (.map m15)), (12, .v (.ref b18 0)), (18, .v (.eref [.map m43] 0)), (77, .v (.ref m45 0))]) (fun s48 g ds52 b50 H1 => DX (.int .i64) (V.int .i64) V.bool g s48 ∧ B4 Eq H0 (.blk m45 b50 :: .blk m43 (.obj g) :: .blk b19 (.cells [.bool s27.1]) :: .blk b18 (.cells (K0 s27.2)) :: .tl t13 :: .blk m15 (.obj q14) :: .blk b6 (.cells [vi s12.2.2]) :: .blk m3 (.obj o4) :: CL ds52) H1) (fun x e l ds52 H1 => ∃ u1 : Obj, DX (.int .i64) (V.int .i64) V.bool u1 x ∧ e = .exit 6 ∧ l = [(1, .v (.eref (C1 aB) 0)), (2, .b false), (3, .v (.sl [] .nil)), (4, .v (vi 0)), (7, .v (.ref b6 0)), (9, .v (.eref [.func (.func 61) [] [.eref [.map m3] 0, .ref b6 0]] 0)), (10, .v (.sl (Ar.lst eXN s12.1) t13)), (12, .v (.ref b18 0)), (18, .v (.eref [.map m43] 0))] ∧ B4 Eq H0 (.blk m43 (.obj u1) :: .blk b19 (.cells [.bool s27.1]) :: .blk b18 (.cells (K0 s27.2)) :: .tl t13 :: .blk m15 (.obj q14) :: .blk b6 (.cells [vi s12.2.2]) :: .blk m3 (.obj o4) :: CL ds52) H1) (by kernel_rfl) ?_ o44 hx ?_ hb46 ?_ ?_
   ·rintro s48 q51 ds52 lf48 b50 H hb50 ⟨hq51, hO⟩ hs48;clear hx;cbv;refine QA hE hO hb50 0 rfl (hO.get 5 rfl) (fun hl => ?_) fun p49 l54 b55 H hpp49 hb55 hO => ?_
    ·cbv;refine Ix hE (fun hc => by cases hc) (fun hc => ?_);cbv;exact ⟨_, _, _, .inl ⟨hl, rfl⟩, ⟨q51, hq51.srt, rfl, rfl, hO.tail⟩, .e rfl (.b rfl (.e rfl (.e rfl (.e rfl (.e rfl (.e rfl (.e rfl (.e rfl (.z))))))))), rfl⟩
    obtain ⟨o, h⟩ := hs48 p49 l54 hpp49;have h0p49 := h;cbv;refine Ix hE (fun hc => ?_) (fun hc => by cases hc);cbv;refine QB hE hO hb55 0 rfl (hO.get 5 rfl) ?_;cbv;refine Q0 hE h (c41 N aB p49.1) (.refl _) fun r56 v57 hv57 h => ?_;cbv;obtain ⟨o63, hx, h⟩ := bind_some h;refine AG cf19 hE G7 (ι := Unit) (enc := fun (x : D0) => [(Bz x)]) (fun (s59 : (List (Int × Bool))) F H => ∃ g : Obj, (DX (.int .i64) (V.int .i64) V.bool g s59) ∧ B4 Eq F (.blk m45 b55 :: .blk m43 (.obj g) :: .blk b19 (.cells [.bool s27.1]) :: .blk b18 (.cells (K0 s27.2)) :: .tl t13 :: .blk m15 (.obj q14) :: .blk b6 (.cells [vi s12.2.2]) :: .blk m3 (.obj o4) :: CL ds52) H) (fun (r : Unit) e F H => False) (fun i s59 y58 => [(9, .v (.eref [.func (.func 61) [] [.eref [.map m3] 0, .ref b6 0]] 0)), (12, .v (.ref b18 0)), (18, .v (.eref [.map m43] 0)), (20, .v (.eref (MS y58) 0))]) (fun i s59 y58 F H => ∃ g : Obj, (DX (.int .i64) (V.int .i64) V.bool g s59) ∧ B4 Eq F (.blk m45 b55 :: .blk m43 (.obj g) :: .blk b19 (.cells [.bool s27.1]) :: .blk b18 (.cells (K0 s27.2)) :: .tl t13 :: .blk m15 (.obj q14) :: .blk b6 (.cells [vi s12.2.2]) :: .blk m3 (.obj o4) :: CL ds52) H) (fun _ => C6.ex fun _ => B4.stable B7 _) (fun _ _ => ⟨fun h => h.elim, fun _ _ h => h.elim⟩) (fun _ _ _ => C6.ex fun _ => B4.stable B7 _) hv57 hx (⟨q51, hq51, hO⟩) (by decide) (fun _ => rfl) (by kernel_rfl) (by kernel_rfl) ?_ ?_ ?_ ?_
    ·rintro E i61 y58 s59 F60 H hE ⟨q62, hq62, hO⟩;clear hx h;cbv;exact ⟨(), ⟨q62, hq62, hO⟩, .e4 .z, rfl⟩
    ·rintro E i61 _ y58 s59 F60 H o hE hF h ⟨q62, hq62, hO⟩;clear hx;cbv;refine NW hE (F0 := []) (C0 := [.eref [.map m3] 0, .ref b6 0]) (args' := [(Bz y58)]) (g := fun r64 => .bool r64) h (fun r64 hx => c61 N y58 l2 s12.2.2 r64 hx m3 o4 ho4 b6) (.refl _) (Ug (neC (hO.ne 7 6 rfl rfl (by decide)) (ne0)) (Uh _)) (atC (hO.get 7 rfl) (atC (hO.get 6 rfl) (at0))) fun r64 h => ?_;cbv;refine B1 hE hO 3 rfl ?_;cbv;refine A6 hE h (fun hc h => ?_) (fun hc h => ?_)
     ·cbv;refine A7 hE h (c42 N y58.On s27.2) (.refl _) fun r65 h => ?_;cbv;refine A6 hE h (fun hc h => ?_) (fun hc h => ?_)
      ·cbv;refine Ft hE (kt := 3) (et := 4) (by kernel_rfl) (by kernel_rfl) (Z2 .i64) CJ hO hq62 1 rfl h fun l67 o66 H ho66 h hO => ?_;cbv;cases h;exact ⟨_, rfl, ⟨o66, ho66, hO⟩⟩
      cbv;cases h;exact ⟨_, rfl, ⟨q62, hq62, hO⟩⟩
     cbv;cases h;exact ⟨_, rfl, ⟨q62, hq62, hO⟩⟩
    ·rintro d68 s71 H rfl hd ⟨q72, hq72, hO⟩;have hO : B4 Eq H0 (.blk m45 b55 :: .blk m43 (.obj q72) :: .blk b19 (.cells [.bool s27.1]) :: .blk b18 (.cells (K0 s27.2)) :: .tl t13 :: .blk m15 (.obj q14) :: .blk b6 (.cells [vi s12.2.2]) :: .blk m3 (.obj o4) :: CL (d68 :: ds52)) H := B4.dbs1 (A := [_, _, _, _, _, _, _, _]) (ds := ds52) (B4.dblk hd hO);clear hd;clear hx;cbv;cases h;exact ⟨p49, l54, _, q72, b55, _, hpp49, h0p49, .e rfl (.b rfl (.e rfl (.e rfl (.e rfl (.e rfl (.e rfl (.e rfl (.e rfl (.e rfl (.e rfl (.z))))))))))), rfl, hb55.1, hq72, hO⟩
    rintro d r e H rfl hd hO;exact hO.elim
   ·exact .e rfl (.b rfl (.e rfl (.e rfl (.e rfl (.e rfl (.e rfl (.e rfl (.e rfl (.e rfl (.e rfl (.z)))))))))))
   ·exact ⟨ho44, hO⟩
   clear hx;rintro e l ds52 H ⟨q73, hq73, rfl, rfl, hO⟩;cbv;obtain ⟨s74, hx, h⟩ := bind_some h;refine J8 cf19 hE G7 (fun e l H1 => ∃ u1 : D6, N2 u1 ∧ e = .normal ∧ l = [(1, .v (.eref (C1 aB) 0)), (2, .b false), (3, .v (.sl [] .nil)), (4, .v (vi 0)), (7, .v (.ref b6 0)), (9, .v (.eref [.func (.func 61) [] [.eref [.map m3] 0, .ref b6 0]] 0)), (10, .v (.sl (Ar.lst eXN s74) u1)), (11, .v (.map m43))] ∧ B4 Eq H0 (.blk m43 (.obj q73) :: .blk b19 (.cells [.bool s27.1]) :: .blk b18 (.cells (K0 s27.2)) :: .tl u1 :: .blk m15 (.obj q14) :: .blk b6 (.cells [vi s12.2.2]) :: .blk m3 (.obj o4) :: CL ds52) H1) (by kernel_rfl) ?_ ?_
   ·clear h;have h := hx;clear hx;cbv;refine B1 hE hO 2 rfl ?_;cbv;refine V9 (f := eXN) hE Gw (by decide) hO 3 rfl ht13 (l := s12.1) (m := [s27.2]) (.refl _) (.lstc (.eq (eYa s27.2) (.refl _)) (.lst0)) h fun l196 t195 H hO ht195 h => ?_;cbv;cases h;exact ⟨_, ⟨t195, ht195, rfl, rfl, hO⟩, .e rfl (.b rfl (.e rfl (.e rfl (.e rfl (.e rfl (.e rfl (.e rfl (.z)))))))), rfl⟩
   clear hx;rintro e l H ⟨t395, ht395, rfl, rfl, hO⟩;cbv;refine B1 hE hO 5 rfl ?_;cbv;refine A8 hE hO 5 rfl rfl fun H hO => ?_;cbv;have hO : B4 Eq H0 (.blk m15 (.obj q14) :: .blk b19 (.cells [.bool s27.1]) :: .blk b18 (.cells (K0 s27.2)) :: .tl t395 :: .blk m43 (.obj q73) :: .blk b6 (.cells [vi (Ar.ar .sub .i64 s12.2.2 1)]) :: .blk m3 (.obj o4) :: CL ds52) H := hO.swp 0 4 rfl rfl;cases h;exact ⟨_, ⟨t395, q73, m43⟩, _, rfl, .e rfl (.b rfl (.e rfl (.e rfl (.e rfl (.e rfl (.e rfl (.e rfl (.z)))))))), rfl, ht395, hq73, trivial, hO.tail.tail.tail⟩
  cbv;cases h;exact ⟨_, _, _, rfl, ⟨t13, ht13, q14, hq14, m15, trivial, rfl, rfl, hO⟩, .e rfl .z, rfl⟩
 ·exact .e rfl (.b rfl (.e rfl (.e rfl (.e rfl (.e rfl (.v (.slt _ (.lst0)) (.e rfl (.z))))))))
 ·exact ⟨trivial, ho9, trivial, hO⟩
 clear hx;rintro e l ds16 H ⟨t396, ht396, q397, hq397, m398, hm398, rfl, rfl, hO⟩;cbv
 rcases ds16 with _ | ⟨d0, ds16⟩
 ·cbv;have hO : B4 _ _ [.tl t396, .blk m398 (.obj q397), .blk b6 (.cells [vi s17.2.2]), .blk m3 (.obj o4)] H := hO;cases h;exact hK _ _ _ hO (.tup (.cons (.refl _) (.cons (.ro _ _) (.refl _))))
 cbv;refine HU (A := [_, _, _, _]) (ds := d0 :: ds16) hE hO fun H hO => ?_;cbv;cases h;exact hK _ _ _ hO (.tup (.cons (.refl _) (.cons (.ro _ _) (.refl _))))
def cf21 : Cf := ⟨[], [(6, 8)], [], [], [], []⟩
theorem c21 (N aC aE r) (h : S3 N aC aE = some r) : B6 prog 21 [.sl (Ar.lst eXN aC) .ro, .sl (Ar.lst eXN aE) .ro] (.bool r) := by
 unfold S3 at h
 refine J9 cf21 func21 call21 ntmps21 ?_;intro E H0 K hE hK hO;cbv;refine D5 hE ?_;cbv;refine D5 hE ?_;cbv;refine A6 hE h (fun hc h => ?_) (fun hc h => ?_)
 ·cbv;cases h;exact hK _ _ _ hO (.refl _)
 cbv;obtain ⟨s2, hx, h⟩ := bind_some h;refine F3 cf21 hE G7 (fun s1 => [(0, .v (.sl (Ar.lst eXN aC) .ro)), (1, .v (.sl (Ar.lst eXN aE) .ro)), (5, .v (vi s1))]) (fun s1 H1 => B4 Eq H0 [] H1) (fun x e l H1 => match (generalizing := false) x with | .inl y => e = .exit 0 ∧ l = [] ∧ B4 Eq H0 [] H1 | .inr y => e = .ret ∧ l = [(4, .b false)] ∧ B4 Eq H0 [] H1) (by kernel_rfl) ?_ hx ?_ hO ?_
 ·intro s1 H o hO h;clear hx;cbv;refine D5 hE ?_;cbv;refine A6 hE h (fun hc h => ?_) (fun hc h => ?_)
  ·cbv;refine C2 hE eYa h fun x3 h => ?_;cbv;refine C2 hE eYa h fun x4 h => ?_;cbv;refine A6 hE h (fun hc h => ?_) (fun hc h => ?_)
   ·cbv;cases h;exact ⟨_, _, rfl, ⟨rfl, rfl, hO⟩, .b rfl (.z), rfl⟩
   cbv;cases h;exact ⟨_, rfl, .e rfl (.e2 .z), rfl, hO⟩
  cbv;cases h;exact ⟨_, _, rfl, ⟨rfl, rfl, hO⟩, .z, rfl⟩
 ·exact .e rfl (.e2 .z)
 clear hx
 rcases s2 with y5 | y6
 ·rintro e l H ⟨rfl, rfl, hO⟩;cbv;cases h;exact hK _ _ _ hO (.refl _)
 rintro e l H ⟨rfl, rfl, hO⟩;cbv;cases h;exact hK _ _ _ hO (.refl _)
def cf118 : Cf := ⟨[7], [], [], [], [], []⟩
theorem c118 (N aB r) (h : M2 N aB = some r) : IN prog 118 [.sl (Ar.lst eXI aB) .ro] 2 (Ar.lst eXI r) := by
 unfold M2 at h
 intro H0;refine AW (T := TT) cf118 G7 func118 (by rfl) (by kernel_rfl) call118 ntmps118 (by rfl) (by rfl) ?_;intro E K hE hK hN;have hO : B4 Eq H0 [] H0 := .start B7 rfl;cbv;refine Tn hE rfl (fun hx => ?_) ?_
 ·cbv;exact hN (OI hx h) [] H0 hO
 cbv;refine Qy (f := eXI) hE P7 (by decide) hO (.inr rfl) (m := aB) (BD (f := eXI) hE P7 (.refl _)) h fun l q H hq hO h => ?_;cbv;cases h;exact hK q _ _ (T8 hE hq) hO
def cf71 : Cf := ⟨[2], [], [], [], [(22, 21), (24, 3)], []⟩
theorem c71 (N aA r) (h : AB N aA = some r) : B6 prog 71 [(E3 aA)] ((E3 r)) := by
 unfold AB at h
 refine J9 cf71 func71 call71 ntmps71 ?_;intro E H0 K hE hK hO;cbv;refine C8 hE hO fun b1 H hO => ?_;cbv;refine D5 hE ?_;cbv;refine Iw hE (f := eXM) (by decide) (z0 := ([] : List A2)) ((.eq (eXP _) (.lit _ (B3)))) hO h fun l3 q2 H hq2 h hO => ?_;cbv;refine D5 hE ?_;cbv;obtain ⟨s6, hx, h⟩ := bind_some h;refine I6 cf71 hE G7 (γ := OG) (fun s4 g => [(2, .v (.ref b1 0)), (3, .v (.own g.id g.lo g.n)), (11, .v (.sl (Ar.lst eXM aA.Sets) .ro)), (12, .v (vi (Ar.len aA.Sets))), (13, .v (vi s4.1))]) (fun s4 g H1 => T6 g (Ar.len s4.2) ∧ B4 Eq H0 [.blk g.id (.arr 1 (g.pre ++ Ar.lst eXM s4.2 ++ g.rest)), .blk b1 (.cells [.sl [] .nil])] H1) (fun x e l H1 => ∃ u1 : OG, T6 u1 (Ar.len x) ∧ e = .exit 0 ∧ l = [(2, .v (.ref b1 0)), (3, .v (.own u1.id u1.lo u1.n))] ∧ B4 Eq H0 [.blk u1.id (.arr 1 (u1.pre ++ Ar.lst eXM x ++ u1.rest)), .blk b1 (.cells [.sl [] .nil])] H1) (by kernel_rfl) ?_ q2 hx ?_ ?_ ?_
 ·rintro s4 q5 H o ⟨hq5, hO⟩ h;clear hx;cbv;refine A6 hE h (fun hc h => ?_) (fun hc h => ?_)
  ·cbv;refine C2 hE eXP h fun x7 h => ?_;cbv;refine Dt hE (f := eXI) h (c118 N x7) (.refl _) hO fun l8 q9 H hq9 hO h => ?_;cbv;refine Fs hE hO hq9 0 rfl fun H hO => ?_;cbv;refine S0 hE hO hq5 0 rfl h fun h => ?_;cbv;refine S6 hE (f := eXM) (esz := 1) (tz := 1) (off := 0) (u := (fun x10 : List A2 => l8)) (fun _ => ⟨_, .eq (eXP _) (.refl _), (by rw [eXP]; rfl), DF _, rfl⟩) (by decide) hO hq5 0 rfl h fun l11 H hq5 h hO => ?_;cbv;cases h;exact ⟨_, q5, rfl, .e rfl (.e4 .z), rfl, hq5, hO⟩
  cbv;cases h;exact ⟨_, _, rfl, ⟨q5, hq5, rfl, rfl, hO⟩, .e2 .z, rfl⟩
 ·exact .e rfl (.e4 .z)
 ·exact ⟨hq2, hO⟩
 clear hx;rintro e l H ⟨q12, hq12, rfl, rfl, hO⟩;cbv;refine Fs hE hO hq12 0 rfl fun H hO => ?_;cbv;refine A8 hE hO 0 rfl rfl fun H hO => ?_;cbv;refine B1 hE hO 0 rfl ?_;cbv;cases h;exact hK _ _ _ hO (.refl _)
def cf82 : Cf := ⟨[2], [], [], [], [], []⟩
theorem c82 (N aB r) (h : BA N aB = some r) : B6 prog 82 [(H6 aB)] (.tup [(H6 r.1), vi r.2]) := by
 unfold BA at h
 refine J9 cf82 func82 call82 ntmps82 ?_;intro E H0 K hE hK hO;cbv;refine C8 hE hO fun b1 H hO => ?_;cbv;refine D5 hE ?_;cbv;refine D5 hE ?_;cbv;refine A6 hE h (fun hc h => ?_) (fun hc h => ?_)
 ·cbv;refine A8 hE hO 0 rfl rfl fun H hO => ?_;cbv;refine B1 hE hO 0 rfl ?_;cbv;cases h;exact hK _ _ _ hO (.tup (.cons (.agg (.cons (.refl _) (.cons (.lit _ (B3)) (.cons (.lit _ (B3)) (.refl _))))) (.refl _)))
 cbv;refine A8 hE hO 0 rfl rfl fun H hO => ?_;cbv;refine B1 hE hO 0 rfl ?_;cbv;cases h;exact hK _ _ _ hO (.refl _)
def cf29 : Cf := ⟨[2, 5], [(10, 10), (15, 13), (3000004, 0), (3000004, 1), (3000004, 2), (3000004, 3), (3000004, 4), (3000004, 5), (3000004, 7), (3000005, 0), (3000005, 1), (3000005, 2), (3000005, 3), (3000005, 4), (3000005, 5), (3000005, 7)], [], [2000004, 2000005], [(83, 2000005)], []⟩
set_option maxHeartbeats 2000000 in
theorem c29 (N aB r) (h : BB N aB = some r) : B6 prog 29 [(H6 aB)] (.tup [(H6 r.1), vi r.2]) := by
 unfold BB at h
 refine J9 cf29 func29 call29 ntmps29 ?_;intro E H0 K hE hK hO;cbv;refine C8 hE hO fun b1 H hO => ?_;cbv;refine A7 hE h (c13 N aB) (.refl _) fun r2 h => ?_;cbv;refine A6 hE h (fun hc h => ?_) (fun hc h => ?_)
 ·cbv;refine A8 hE hO 0 rfl rfl fun H hO => ?_;cbv;refine B1 hE hO 0 rfl ?_;cbv;cases h;exact hK _ _ _ hO (.tup (.cons (.agg (.cons (.refl _) (.cons (.lit _ (B3)) (.cons (.lit _ (B3)) (.refl _))))) (.refl _)))
 cbv;obtain ⟨s3, hx, h⟩ := bind_some h;refine J8 cf29 hE G7 (fun e l H1 => ∃ u1 : Nat, True ∧ ∃ u2 : OG, T6 u2 (Ar.len s3) ∧ e = .normal ∧ l = [(1, .v (.eref (C1 aB) 0)), (2, .v (.ref b1 0)), (5, .v (.ref u1 0))] ∧ B4 Eq H0 [.blk u1 (.cells [vi aB.Types, .own u2.id u2.lo u2.n, .sl [] .nil]), .blk u2.id (.arr 1 (u2.pre ++ Ar.lst V.bool s3 ++ u2.rest)), .blk b1 (.cells [vi 0, .sl [] .nil, .sl [] .nil])] H1) (by kernel_rfl) ?_ ?_
 ·clear h;have h := hx;clear hx;cbv;refine D5 hE ?_;cbv
  repeat' first | refine And.intro ?_ ?_ | (refine Iw hE (f := V.bool) (by decide) (z0 := (false : Bool)) ((.refl _)) hO h fun l245 q244 H hq244 h hO => ?_; cbv) | (refine C8 hE hO fun b324 H hO => ?_; cbv) | (refine A8 hE hO 0 rfl rfl fun H hO => ?_; cbv) | (have h := O2 h; subst h; exact ⟨_, ⟨b324, trivial, q244, hq244, rfl, rfl, hO⟩, .e rfl (.e2 .z), rfl⟩) | (refine A8 hE hO 1 rfl rfl fun H hO => ?_; cbv) | (have hO : B4 Eq H0 [.blk b324 (.cells [vi aB.Types, .own q244.id q244.lo q244.n, .sl [] .nil]), .blk q244.id (.arr 1 (q244.pre ++ Ar.lst V.bool l245 ++ q244.rest)), .blk b1 (.cells [vi 0, .sl [] .nil, .sl [] .nil])] H := hO.swp 1 0 rfl rfl; have h := O2 h; subst h; exact ⟨_, ⟨b324, trivial, q244, hq244, rfl, rfl, hO⟩, .e rfl (.e2 .z), rfl⟩)
 clear hx;rintro e l H ⟨b444, hb444, q445, hq445, rfl, rfl, hO⟩;cbv;obtain ⟨s446, hx, h⟩ := bind_some h;refine J8 cf29 hE G7 (fun e l H1 => ∃ u1 : OG, T6 u1 (Ar.len s446) ∧ e = .normal ∧ l = [(1, .v (.eref (C1 aB) 0)), (2, .v (.ref b1 0)), (5, .v (.ref b444 0))] ∧ B4 Eq H0 [.blk b444 (.cells [vi aB.Types, .own u1.id u1.lo u1.n, .sl [] .nil]), .blk u1.id (.arr 1 (u1.pre ++ Ar.lst V.bool s446 ++ u1.rest)), .blk b1 (.cells [vi 0, .sl [] .nil, .sl [] .nil])] H1) (by kernel_rfl) ?_ ?_
 ·clear h;have h := hx;clear hx;cbv
  repeat' first | refine And.intro ?_ ?_ | (refine B1 hE hO 0 rfl ?_; cbv) | (refine C2 hE (fun _ => rfl) h fun x687 h => ?_; cbv) | (refine S0 hE hO hq445 1 rfl h fun h => ?_; cbv) | (refine S6 hE (f := V.bool) (esz := 1) (tz := 1) (off := 0) (u := (fun x807 : Bool => x687)) (fun _ => ⟨.bool x687, .refl _, rfl, rfl, rfl⟩) (by decide) hO hq445 1 rfl h fun l808 H hq445 h hO => ?_; cbv) | (refine S6 hE (f := V.bool) (esz := 1) (tz := 1) (off := 0) (u := (fun x887 : Bool => true)) (fun _ => ⟨.bool true, .refl _, rfl, rfl, rfl⟩) (by decide) hO hq445 1 rfl h fun l888 H hq445 h hO => ?_; cbv) | (have h := O2 h; subst h; exact ⟨_, ⟨q445, hq445, rfl, rfl, hO⟩, .e rfl (.e2 .z), rfl⟩)
 clear hx;rintro e l H ⟨q967, hq967, rfl, rfl, hO⟩;cbv;refine D5 hE ?_;cbv;replace hO := hO.cast (L' := [.blk b444 (.cells [vi aB.Types, .own q967.id q967.lo q967.n, .sl (Ar.lst eXS ([])) .nil]), .blk q967.id (.arr 1 (q967.pre ++ Ar.lst V.bool s446 ++ q967.rest)), .blk b1 (.cells [vi 0, .sl [] .nil, .sl [] .nil])]) (by first | (simp only [← B3]; done) | (simp only [← B3]; rfl));replace hO := hO.tl0 (t := .nil) rfl;obtain ⟨s970, hx, h⟩ := bind_some h;refine I6 cf29 hE G7 (γ := D6) (fun s968 g => [(1, .v (.eref (C1 aB) 0)), (2, .v (.ref b1 0)), (5, .v (.ref b444 0)), (35, .v (.sl (Ar.lst eXS aB.Moves) .ro)), (36, .v (vi (Ar.len aB.Moves))), (37, .v (vi s968.1))]) (fun s968 g H1 => N2 g ∧ B4 Eq H0 [.tl g, .blk b444 (.cells [vi s968.2.Types, .own q967.id q967.lo q967.n, .sl (Ar.lst eXS s968.2.Moves) g]), .blk q967.id (.arr 1 (q967.pre ++ Ar.lst V.bool s446 ++ q967.rest)), .blk b1 (.cells [vi 0, .sl [] .nil, .sl [] .nil])] H1) (fun x e l H1 => ∃ u1 : D6, N2 u1 ∧ e = .exit 0 ∧ l = [(1, .v (.eref (C1 aB) 0)), (2, .v (.ref b1 0)), (5, .v (.ref b444 0))] ∧ B4 Eq H0 [.tl u1, .blk b444 (.cells [vi x.Types, .own q967.id q967.lo q967.n, .sl (Ar.lst eXS x.Moves) u1]), .blk q967.id (.arr 1 (q967.pre ++ Ar.lst V.bool s446 ++ q967.rest)), .blk b1 (.cells [vi 0, .sl [] .nil, .sl [] .nil])] H1) (by kernel_rfl) ?_ .nil hx ?_ ?_ ?_
 ·rintro s968 t969 H o ⟨ht969, hO⟩ h;clear hx;cbv;refine A6 hE h (fun hc h => ?_) (fun hc h => ?_)
  ·cbv;refine C2 hE eXQ h fun x971 h => ?_;cbv;refine C2 hE (fun _ => rfl) h fun x972 h => ?_;cbv;refine A6 hE h (fun hc h => ?_) (fun hc h => ?_)
   ·cbv;refine B1 hE hO 1 rfl ?_;cbv;refine P2 hE (g := fun r973 => (E3 r973)) h (c71 N x971.On) (.refl _) fun r973 h => ?_;cbv;refine V9 (f := eXS) hE Jj (by decide) hO 0 rfl ht969 (l := s968.2.Moves) (m := [(⟨0, Ar.ar .add .i64 x971.From 1, r973⟩ : D0)]) (.refl _) (.lstc (.eq (eXQ (⟨0, Ar.ar .add .i64 x971.From 1, r973⟩ : D0)) (.refl _)) (.lst0)) h fun l975 t974 H hO ht974 h => ?_;cbv;refine A8 hE hO 1 rfl rfl fun H hO => ?_;cbv;cases h;exact ⟨_, t974, rfl, .e2 (.e4 .z), rfl, ht974, hO⟩
   cbv;cases h;exact ⟨_, t969, rfl, .e2 (.e4 .z), rfl, ht969, hO⟩
  cbv;cases h;exact ⟨_, _, rfl, ⟨t969, ht969, rfl, rfl, hO⟩, .e rfl (.e2 .z), rfl⟩
 ·exact .e2 (.e4 .z)
 ·exact ⟨trivial, hO⟩
 clear hx;rintro e l H ⟨t976, ht976, rfl, rfl, hO⟩;cbv;refine D5 hE ?_;cbv;obtain ⟨s979, hx, h⟩ := bind_some h;refine I6 cf29 hE G7 (γ := D6) (fun s977 g => [(2, .v (.ref b1 0)), (5, .v (.ref b444 0)), (61, .v (.sl (Ar.lst eXS aB.Moves) .ro)), (62, .v (vi (Ar.len aB.Moves))), (63, .v (vi s977.1))]) (fun s977 g H1 => N2 g ∧ B4 Eq H0 [.tl g, .blk b444 (.cells [vi s977.2.Types, .own q967.id q967.lo q967.n, .sl (Ar.lst eXS s977.2.Moves) g]), .blk q967.id (.arr 1 (q967.pre ++ Ar.lst V.bool s446 ++ q967.rest)), .blk b1 (.cells [vi 0, .sl [] .nil, .sl [] .nil])] H1) (fun x e l H1 => ∃ u1 : D6, N2 u1 ∧ e = .exit 2 ∧ l = [(2, .v (.ref b1 0)), (5, .v (.ref b444 0))] ∧ B4 Eq H0 [.tl u1, .blk b444 (.cells [vi x.Types, .own q967.id q967.lo q967.n, .sl (Ar.lst eXS x.Moves) u1]), .blk q967.id (.arr 1 (q967.pre ++ Ar.lst V.bool s446 ++ q967.rest)), .blk b1 (.cells [vi 0, .sl [] .nil, .sl [] .nil])] H1) (by kernel_rfl) ?_ t976 hx ?_ ?_ ?_
 ·rintro s977 t978 H o ⟨ht978, hO⟩ h;clear hx;cbv;refine A6 hE h (fun hc h => ?_) (fun hc h => ?_)
  ·cbv;refine C2 hE eXQ h fun x980 h => ?_;cbv;refine B1 hE hO 1 rfl ?_;cbv;refine P2 hE (g := fun r981 => (E3 r981)) h (c71 N x980.On) (.refl _) fun r981 h => ?_;cbv;refine V9 (f := eXS) hE Jj (by decide) hO 0 rfl ht978 (l := s977.2.Moves) (m := [(⟨Ar.ar .add .i64 x980.To 1, Ar.ar .add .i64 x980.From 1, r981⟩ : D0)]) (.refl _) (.lstc (.eq (eXQ (⟨Ar.ar .add .i64 x980.To 1, Ar.ar .add .i64 x980.From 1, r981⟩ : D0)) (.refl _)) (.lst0)) h fun l983 t982 H hO ht982 h => ?_;cbv;refine A8 hE hO 1 rfl rfl fun H hO => ?_;cbv;cases h;exact ⟨_, t982, rfl, .e rfl (.e4 .z), rfl, ht982, hO⟩
  cbv;cases h;exact ⟨_, _, rfl, ⟨t978, ht978, rfl, rfl, hO⟩, .e2 .z, rfl⟩
 ·exact .e rfl (.e4 .z)
 ·exact ⟨ht976, hO⟩
 clear hx;rintro e l H ⟨t984, ht984, rfl, rfl, hO⟩;cbv;refine QC hE hO hq967 1 2 rfl rfl rfl (by decide) fun H hO => ?_;cbv;refine B1 hE hO 1 rfl ?_;cbv;refine A7 hE h (c82 N ({ s979 with Finals := s446 })) (.cons (.agg (.cons (.refl _) (.cons (.refl _) (.cons (.ro _ _) (.refl _))))) (.refl _)) fun r985 h => ?_;cbv;refine A8 hE hO 2 rfl rfl fun H hO => ?_;cbv;refine B1 hE hO 2 rfl ?_;cbv;cases h;exact hK _ _ _ hO (.refl _)
def cf35 : Cf := ⟨[4], [], [], [], [], []⟩
theorem c35 (N bD bE r) (h : Z5 N bD bE = some r) : B6 prog 35 [vi bD, vi bE] ((E3 r)) := by
 unfold Z5 at h
 refine J9 cf35 func35 call35 ntmps35 ?_;intro E H0 K hE hK hO;cbv;refine C8 hE hO fun b1 H hO => ?_;cbv;refine A8 hE hO 0 rfl rfl fun H hO => ?_;cbv;refine B1 hE hO 0 rfl ?_;cbv;cases h;exact hK _ _ _ hO (.agg (.cons (.sl _ (.lstc (.eq (eXP ([(⟨bD, bE⟩ : A2)])) (.lit _ (C7 ((eXR (⟨bD, bE⟩ : A2)).symm) (B3)))) (.lst0))) (.refl _)))
theorem c36 (N aG r) (h : BM N aG = some r) : B6 prog 36 [.sl (Ar.lst (V.int .i64) aG) .ro] (.sl (Ar.lst eXN r) .ro) := by
 unfold BM at h
 refine J9 cf0 func36 call36 ntmps36 ?_;intro E H0 K hE hK hO;cbv;refine D5 hE ?_;cbv;replace hO := hO.tl0 (t := .nil) rfl;obtain ⟨s3, hx, h⟩ := bind_some h;refine I6 cf0 hE G7 (γ := D6) (fun s1 g => [(3, .v (.sl (Ar.lst eXN s1.1) g)), (6, .v (.sl (Ar.lst (V.int .i64) aG) .ro)), (7, .v (vi (Ar.len aG))), (8, .v (vi s1.2))]) (fun s1 g H1 => N2 g ∧ B4 Eq H0 [.tl g] H1) (fun x e l H1 => ∃ u1 : D6, N2 u1 ∧ e = .exit 0 ∧ l = [(3, .v (.sl (Ar.lst eXN x) u1))] ∧ B4 Eq H0 [.tl u1] H1) (by kernel_rfl) ?_ .nil hx ?_ ?_ ?_
 ·rintro s1 t2 H o ⟨ht2, hO⟩ h;clear hx;cbv;refine A6 hE h (fun hc h => ?_) (fun hc h => ?_)
  ·cbv;refine C2 hE (fun _ => rfl) h fun x4 h => ?_;cbv;refine V9 (f := eXN) hE Gw (by decide) hO 0 rfl ht2 (l := s1.1) (m := [(⟨0, x4⟩ : B2)]) (.refl _) (.lstc (.eq (eYa (⟨0, x4⟩ : B2)) (.refl _)) (.lst0)) h fun l6 t5 H hO ht5 h => ?_;cbv;cases h;exact ⟨_, t5, rfl, .e4 .z, rfl, ht5, hO⟩
  cbv;cases h;exact ⟨_, _, rfl, ⟨t2, ht2, rfl, rfl, hO⟩, .e rfl .z, rfl⟩
 ·exact .v (.slt _ (.lst0)) (.e rfl (.e2 .z))
 ·exact ⟨trivial, hO⟩
 clear hx;rintro e l H ⟨t7, ht7, rfl, rfl, hO⟩;cbv;cases h;exact hK _ _ _ hO (.ro _ _)
def cf38 : Cf := ⟨[2], [], [], [], [], []⟩
theorem c38 (N aE r) (h : GB N aE = some r) : B6 prog 38 [.bool aE] ((IT r)) := by
 unfold GB at h
 refine J9 cf38 func38 call38 ntmps38 ?_;intro E H0 K hE hK hO;cbv;refine C8 hE hO fun b1 H hO => ?_;cbv;refine A6 hE h (fun hc h => ?_) (fun hc h => ?_)
 ·cbv;refine A8 hE hO 0 rfl rfl fun H hO => ?_;cbv;refine B1 hE hO 0 rfl ?_;cbv;cases h;exact hK _ _ _ hO (.refl _)
 cbv;refine A8 hE hO 0 rfl rfl fun H hO => ?_;cbv;refine B1 hE hO 0 rfl ?_;cbv;cases h;exact hK _ _ _ hO (.refl _)
def cf37 : Cf := ⟨[2], [], [], [], [], []⟩
theorem c37 (N aN r) (h : BW N aN = some r) : B6 prog 37 [vi aN] ((B9 r)) := by
 unfold BW at h
 refine J9 cf37 func37 call37 ntmps37 ?_;intro E H0 K hE hK hO;cbv;refine C8 hE hO fun b1 H hO => ?_;cbv;refine A7 hE h (c38 N true) (.refl _) fun r2 h => ?_;cbv;refine A8 hE hO 0 rfl rfl fun H hO => ?_;cbv;refine B1 hE hO 0 rfl ?_;cbv;cases h;exact hK _ _ _ hO (.agg (.cons (.refl _) (.cons (.lit _ (B3)) (.cons (.refl _) (.cons (.refl _) (.cons (.refl _) (.cons (.refl _) (.cons (.refl _) (.cons (.lit _ (B3)) (.refl _))))))))))
def cf10 : Cf := ⟨[], [(17, 22)], [], [], [], []⟩
theorem c10 (N r) (h : AS N  = some r) : B6 prog 10 [] (.bool r) := by
 unfold AS at h
 refine J9 cf10 func10 call10 ntmps10 ?_;intro E H0 K hE hK hO;cbv;refine A7 hE h (c35 N 1 5) (.refl _) fun r1 h => ?_;cbv;refine A7 hE h (c35 N 4 9) (.refl _) fun r2 h => ?_;cbv;refine A7 hE h (c36 N ([4])) (.cons (.lit _ (C7 (rfl) (B3))) (.refl _)) fun r3 h => ?_;cbv;refine A7 hE h (c36 N ([1, 4])) (.cons (.lit _ (C7 (rfl) (C7 (rfl) (B3)))) (.refl _)) fun r4 h => ?_;cbv;refine A7 hE h (c36 N ([1])) (.cons (.lit _ (C7 (rfl) (B3))) (.refl _)) fun r5 h => ?_;cbv;refine Xo hE (n := 3) rfl ?_;cbv;obtain ⟨s7, hx, h⟩ := bind_some h;refine F3 cf10 hE G7 (fun s6 => [(1, .v (.eref [vi 1, .sl [.bool false, .bool true] .full, .sl [.agg [vi 0, vi 0, .sl (Ar.lst eXM r1.Sets) .ro], .agg [vi 0, vi 1, .sl (Ar.lst eXM r2.Sets) .ro]] .full] 0)), (29, .v (.sl (Ar.lst eYs ([r3, r4, r5])) .ro)), (30, .v (vi 3)), (31, .v (vi s6))]) (fun s6 H1 => B4 Eq H0 [] H1) (fun x e l H1 => match (generalizing := false) x with | .inl y => e = .exit 0 ∧ l = [(1, .v (.eref [vi 1, .sl [.bool false, .bool true] .full, .sl [.agg [vi 0, vi 0, .sl (Ar.lst eXM r1.Sets) .ro], .agg [vi 0, vi 1, .sl (Ar.lst eXM r2.Sets) .ro]] .full] 0))] ∧ B4 Eq H0 [] H1 | .inr y => e = .ret ∧ l = [(0, .b false)] ∧ B4 Eq H0 [] H1) (by kernel_rfl) ?_ hx ?_ hO ?_
 ·intro s6 H o hO h;clear hx;cbv;refine A6 hE h (fun hc h => ?_) (fun hc h => ?_)
  ·cbv;refine C2 hE eYm h fun x8 h => ?_;cbv;refine A7 hE h (c11 N (⟨1, [false, true], [(⟨0, 0, r1⟩ : D0), (⟨0, 1, r2⟩ : D0)]⟩ : A5) x8) (.cons (.agg (.cons (.refl _) (.cons (.lit _ (C7 (rfl) (C7 (rfl) (B3)))) (.cons (.lit _ (C7 ((eXQ (⟨0, 0, r1⟩ : D0)).symm) (C7 ((eXQ (⟨0, 1, r2⟩ : D0)).symm) (B3)))) (.refl _))))) (.refl _)) fun r9 h => ?_;cbv;refine A6 hE h (fun hc h => ?_) (fun hc h => ?_)
   ·cbv;cases h;exact ⟨_, _, rfl, ⟨rfl, rfl, hO⟩, .b rfl (.z), rfl⟩
   cbv;cases h;exact ⟨_, rfl, .e4 .z, rfl, hO⟩
  cbv;cases h;exact ⟨_, _, rfl, ⟨rfl, rfl, hO⟩, .e rfl .z, rfl⟩
 ·exact .e rfl (.v (.lit _ (C7 ((eYm r3).symm) (C7 ((eYm r4).symm) (C7 ((eYm r5).symm) (B3))))) (.e rfl (.e rfl (.z))))
 clear hx
 rcases s7 with y10 | y24
 ·rintro e l H ⟨rfl, rfl, hO⟩;cbv;refine A7 hE h (c19 N (⟨1, [false, true], [(⟨0, 0, r1⟩ : D0), (⟨0, 1, r2⟩ : D0)]⟩ : A5)) (.cons (.agg (.cons (.refl _) (.cons (.lit _ (C7 (rfl) (C7 (rfl) (B3)))) (.cons (.lit _ (C7 ((eXQ (⟨0, 0, r1⟩ : D0)).symm) (C7 ((eXQ (⟨0, 1, r2⟩ : D0)).symm) (B3)))) (.refl _))))) (.refl _)) fun r11 h => ?_;cbv;refine A7 hE h (c29 N (⟨1, [false, true], [(⟨0, 0, r1⟩ : D0), (⟨0, 1, r2⟩ : D0)]⟩ : A5)) (.cons (.agg (.cons (.refl _) (.cons (.lit _ (C7 (rfl) (C7 (rfl) (B3)))) (.cons (.lit _ (C7 ((eXQ (⟨0, 0, r1⟩ : D0)).symm) (C7 ((eXQ (⟨0, 1, r2⟩ : D0)).symm) (B3)))) (.refl _))))) (.refl _)) fun r12 h => ?_;cbv;refine A7 hE h (c37 N 0) (.refl _) fun r13 h => ?_;cbv;refine A7 hE h (c37 N 1) (.refl _) fun r14 h => ?_;cbv;refine A7 hE h (c16 N ([(⟨(⟨#[97]⟩ : ByteArray), []⟩ : Y2)]) (⟨1, [r13, (⟨4, [r14], 0, 0, 0, 0, (⟨0, [], 0, 0, 0, (⟨0, 0, ⟨#[]⟩⟩ : O9)⟩ : G2)⟩ : A4)], 0, 0, 0, 0, (⟨0, [], 0, 0, 0, (⟨0, 0, ⟨#[]⟩⟩ : O9)⟩ : G2)⟩ : A4)) (.cons (.sl _ (.lstc (.eq (eYk (⟨(⟨#[97]⟩ : ByteArray), []⟩ : Y2)) (.agg (.cons (.refl _) (.cons (.lit _ (B3)) (.refl _))))) (.lst0))) (.cons (.agg (.cons (.refl _) (.cons (.sl _ (.lstc (.eq (eXO r13) (.refl _)) (.lstc (.eq (eXO (⟨4, [r14], 0, 0, 0, 0, (⟨0, [], 0, 0, 0, (⟨0, 0, ⟨#[]⟩⟩ : O9)⟩ : G2)⟩ : A4)) (.agg (.cons (.refl _) (.cons (.lit _ (C7 ((eXO r14).symm) (B3))) (.cons (.refl _) (.cons (.refl _) (.cons (.refl _) (.cons (.refl _) (.cons (.refl _) (.cons (.lit _ (B3)) (.refl _))))))))))) (.lst0)))) (.cons (.refl _) (.cons (.refl _) (.cons (.refl _) (.cons (.refl _) (.cons (.refl _) (.cons (.lit _ (B3)) (.refl _)))))))))) (.refl _))) fun r15 h => ?_;cbv;refine A7 hE h (c35 N (-1099511627776) 1099511627776) (.refl _) fun r16 h => ?_;cbv;refine A6 hE h (fun hc h => ?_) (fun hc h => ?_)
  ·cbv;cases h;exact hK _ _ _ hO (.refl _)
  cbv;refine A7 hE h (c36 N ([4])) (.cons (.lit _ (C7 (rfl) (B3))) (.refl _)) fun r17 h => ?_;cbv;refine A7 hE h (c21 N r11.2.1 r17) (.refl _) fun r18 h => ?_;cbv;refine A6 hE h (fun hc h => ?_) (fun hc h => ?_)
  ·cbv;cases h;exact hK _ _ _ hO (.refl _)
  cbv;refine P2 hE (g := fun r19 => (E3 r19)) h (c35 N 4 9) (.refl _) fun r19 h => ?_;cbv;refine P2 hE (g := fun r20 => (E3 r20)) h (c35 N 1 5) (.refl _) fun r20 h => ?_;cbv;refine P2 hE (g := fun r21 => (E3 r21)) h (c35 N 4 9) (.refl _) fun r21 h => ?_;cbv;refine P2 hE (g := fun r22 => .bool r22) h (c18 N r12.1 (⟨1, [false, true, false], [(⟨0, 1, r19⟩ : D0), (⟨1, 1, r20⟩ : D0), (⟨2, 1, r21⟩ : D0)]⟩ : A5)) (.cons (.refl _) (.cons (.agg (.cons (.refl _) (.cons (.lit _ (C7 (rfl) (C7 (rfl) (C7 (rfl) (B3))))) (.cons (.lit _ (C7 ((eXQ (⟨0, 1, r19⟩ : D0)).symm) (C7 ((eXQ (⟨1, 1, r20⟩ : D0)).symm) (C7 ((eXQ (⟨2, 1, r21⟩ : D0)).symm) (B3))))) (.refl _))))) (.refl _))) fun r22 h => ?_;cbv;refine A6 hE h (fun hc h => ?_) (fun hc h => ?_)
  ·cbv;refine A7 hE h (c18 N r15.1 (⟨1, [false, false, true], [(⟨0, 1, r16⟩ : D0), (⟨1, 2, r16⟩ : D0), (⟨1, 1, r16⟩ : D0)]⟩ : A5)) (.cons (.refl _) (.cons (.agg (.cons (.refl _) (.cons (.lit _ (C7 (rfl) (C7 (rfl) (C7 (rfl) (B3))))) (.cons (.lit _ (C7 ((eXQ (⟨0, 1, r16⟩ : D0)).symm) (C7 ((eXQ (⟨1, 2, r16⟩ : D0)).symm) (C7 ((eXQ (⟨1, 1, r16⟩ : D0)).symm) (B3))))) (.refl _))))) (.refl _))) fun r23 h => ?_;cbv;cases h;exact hK _ _ _ hO (.refl _)
  cbv;cases h;exact hK _ _ _ hO (.refl _)
 rintro e l H ⟨rfl, rfl, hO⟩;cbv;cases h;exact hK _ _ _ hO (.refl _)
theorem c166 (N aI r) (h : Fj N aI = some r) : B6 prog 166 [vi aI] (.bool r) := by
 unfold Fj at h
 refine J9 cf0 func166 call166 ntmps166 ?_;intro E H0 K hE hK hO;cbv;cases h;exact hK _ _ _ hO (.refl _)
theorem c127 (N aH r) (h : Ec N aH = some r) : B6 prog 127 [(M5 aH)] (vi r) := by
 unfold Ec at h
 refine J9 cf0 func127 call127 ntmps127 ?_;intro E H0 K hE hK hO;cbv;refine A7 hE h (c166 N aH.Low) (.refl _) fun r1 h => ?_;cbv;refine A6 hE h (fun hc h => ?_) (fun hc h => ?_)
 ·cbv;cases h;exact hK _ _ _ hO (.refl _)
 cbv;refine A7 hE h (c166 N aH.High) (.refl _) fun r2 h => ?_;cbv;refine A6 hE h (fun hc h => ?_) (fun hc h => ?_)
 ·cbv;cases h;exact hK _ _ _ hO (.refl _)
 cbv;refine A6 hE h (fun hc h => ?_) (fun hc h => ?_)
 ·cbv;cases h;exact hK _ _ _ hO (.refl _)
 cbv;cases h;exact hK _ _ _ hO (.refl _)
def cf95 : Cf := ⟨[], [(9, 15)], [], [], [], []⟩
theorem c95 (N aG r) (h : Cg N aG = some r) : B6 prog 95 [.sl (Ar.lst eXI aG) .ro] (vi r) := by
 unfold Cg at h
 refine J9 cf95 func95 call95 ntmps95 ?_;intro E H0 K hE hK hO;cbv;refine D5 hE ?_;cbv;refine A6 hE h (fun hc h => ?_) (fun hc h => ?_)
 ·cbv;cases h;exact hK _ _ _ hO (.refl _)
 cbv;obtain ⟨s2, hx, h⟩ := bind_some h;refine F3 cf95 hE G7 (fun s1 => [(0, .v (.sl (Ar.lst eXI aG) .ro)), (3, .v (vi s1))]) (fun s1 H1 => B4 Eq H0 [] H1) (fun x e l H1 => match (generalizing := false) x with | .inl y => e = .exit 0 ∧ l = [] ∧ B4 Eq H0 [] H1 | .inr y => e = .ret ∧ l = [(2, .v (vi y))] ∧ B4 Eq H0 [] H1) (by kernel_rfl) ?_ hx ?_ hO ?_
 ·intro s1 H o hO h;clear hx;cbv;refine D5 hE ?_;cbv;refine A6 hE h (fun hc h => ?_) (fun hc h => ?_)
  ·cbv;refine C2 hE eXR h fun x3 h => ?_;cbv;refine A7 hE h (c127 N x3) (.refl _) fun r4 h => ?_;cbv;refine A6 hE h (fun hc h => ?_) (fun hc h => ?_)
   ·cbv;cases h;exact ⟨_, _, rfl, ⟨rfl, rfl, hO⟩, .e rfl .z, rfl⟩
   cbv;refine A6 hE h (fun hc h => ?_) (fun hc h => ?_)
   ·cbv;refine C2 hE eXR h fun x5 h => ?_;cbv;refine C2 hE eXR h fun x6 h => ?_;cbv;refine A6 hE h (fun hc h => ?_) (fun hc h => ?_)
    ·cbv;cases h;exact ⟨_, _, rfl, ⟨rfl, rfl, hO⟩, .e rfl .z, rfl⟩
    cbv;cases h;exact ⟨_, rfl, .e2 .z, rfl, hO⟩
   cbv;cases h;exact ⟨_, rfl, .e2 .z, rfl, hO⟩
  cbv;cases h;exact ⟨_, _, rfl, ⟨rfl, rfl, hO⟩, .z, rfl⟩
 ·exact .e2 .z
 clear hx
 rcases s2 with y7 | y8
 ·rintro e l H ⟨rfl, rfl, hO⟩;cbv;cases h;exact hK _ _ _ hO (.refl _)
 rintro e l H ⟨rfl, rfl, hO⟩;cbv;cases h;exact hK _ _ _ hO (.refl _)
theorem c47 (N aJ aA r) (h : Ce N aJ aA = some r) : B6 prog 47 [vi aJ, (E3 aA)] (vi r) := by
 unfold Ce at h
 refine J9 cf0 func47 call47 ntmps47 ?_;intro E H0 K hE hK hO;cbv;refine A6 hE h (fun hc h => ?_) (fun hc h => ?_)
 ·cbv;cases h;exact hK _ _ _ hO (.refl _)
 cbv;refine D5 hE ?_;cbv;refine A6 hE h (fun hc h => ?_) (fun hc h => ?_)
 ·cbv;cases h;exact hK _ _ _ hO (.refl _)
 cbv;obtain ⟨s2, hx, h⟩ := bind_some h;refine F3 cf0 hE G7 (fun s1 => [(0, .v (vi aJ)), (3, .v (.eref (O6 aA) 0)), (5, .v (vi s1))]) (fun s1 H1 => B4 Eq H0 [] H1) (fun x e l H1 => match (generalizing := false) x with | .inl y => e = .exit 0 ∧ l = [] ∧ B4 Eq H0 [] H1 | .inr y => e = .ret ∧ l = [(4, .v (vi y))] ∧ B4 Eq H0 [] H1) (by kernel_rfl) ?_ hx ?_ hO ?_
 ·intro s1 H o hO h;clear hx;cbv;refine A6 hE h (fun hc h => ?_) (fun hc h => ?_)
  ·cbv;refine C2 hE eXP h fun x3 h => ?_;cbv;refine A7 hE h (c95 N x3) (.refl _) fun r4 h => ?_;cbv;refine A6 hE h (fun hc h => ?_) (fun hc h => ?_)
   ·cbv;cases h;exact ⟨_, _, rfl, ⟨rfl, rfl, hO⟩, .e rfl .z, rfl⟩
   cbv;cases h;exact ⟨_, rfl, .e rfl (.e2 .z), rfl, hO⟩
  cbv;cases h;exact ⟨_, _, rfl, ⟨rfl, rfl, hO⟩, .z, rfl⟩
 ·exact .e rfl (.e2 .z)
 clear hx
 rcases s2 with y5 | y6
 ·rintro e l H ⟨rfl, rfl, hO⟩;cbv;cases h;exact hK _ _ _ hO (.refl _)
 rintro e l H ⟨rfl, rfl, hO⟩;cbv;cases h;exact hK _ _ _ hO (.refl _)
theorem c14 (N aB r) (h : Cd N aB = some r) : B6 prog 14 [(H6 aB)] (vi r) := by
 unfold Cd at h
 refine J9 cf0 func14 call14 ntmps14 ?_;intro E H0 K hE hK hO;cbv;refine A6 hE h (fun hc h => ?_) (fun hc h => ?_)
 ·cbv;cases h;exact hK _ _ _ hO (.refl _)
 cbv;refine D5 hE ?_;cbv;refine D5 hE ?_;cbv;refine A6 hE h (fun hc h => ?_) (fun hc h => ?_)
 ·cbv;cases h;exact hK _ _ _ hO (.refl _)
 cbv;obtain ⟨s2, hx, h⟩ := bind_some h;refine F3 cf0 hE G7 (fun s1 => [(1, .v (.eref (C1 aB) 0)), (3, .v (vi (Ar.len aB.Finals))), (4, .v (vi s1))]) (fun s1 H1 => B4 Eq H0 [] H1) (fun x e l H1 => match (generalizing := false) x with | .inl y => e = .exit 0 ∧ l = [] ∧ B4 Eq H0 [] H1 | .inr y => e = .ret ∧ l = [(2, .v (vi y))] ∧ B4 Eq H0 [] H1) (by kernel_rfl) ?_ hx ?_ hO ?_
 ·intro s1 H o hO h;clear hx;cbv;refine D5 hE ?_;cbv;refine A6 hE h (fun hc h => ?_) (fun hc h => ?_)
  ·cbv;refine C2 hE eXQ h fun x3 h => ?_;cbv;refine A6 hE h (fun hc h => ?_) (fun hc h => ?_)
   ·cbv;cases h;exact ⟨_, _, rfl, ⟨rfl, rfl, hO⟩, .e rfl .z, rfl⟩
   cbv;refine A7 hE h (c47 N aB.Types x3.On) (.refl _) fun r4 h => ?_;cbv;refine A6 hE h (fun hc h => ?_) (fun hc h => ?_)
   ·cbv;cases h;exact ⟨_, _, rfl, ⟨rfl, rfl, hO⟩, .e rfl .z, rfl⟩
   cbv;cases h;exact ⟨_, rfl, .e rfl (.e2 .z), rfl, hO⟩
  cbv;cases h;exact ⟨_, _, rfl, ⟨rfl, rfl, hO⟩, .z, rfl⟩
 ·exact .e rfl (.e2 .z)
 clear hx
 rcases s2 with y5 | y6
 ·rintro e l H ⟨rfl, rfl, hO⟩;cbv;cases h;exact hK _ _ _ hO (.refl _)
 rintro e l H ⟨rfl, rfl, hO⟩;cbv;cases h;exact hK _ _ _ hO (.refl _)
theorem c165 (N aG aI r) (h : Ee N aG aI = some r) : B6 prog 165 [.sl (Ar.lst eXI aG) .ro, vi aI] (.bool r) := by
 unfold Ee at h
 refine J9 cf0 func165 call165 ntmps165 ?_;intro E H0 K hE hK hO;cbv;obtain ⟨s2, hx, h⟩ := bind_some h;refine F3 cf0 hE G7 (fun s1 => [(0, .v (.sl (Ar.lst eXI aG) .ro)), (1, .v (vi aI)), (5, .v (vi s1))]) (fun s1 H1 => B4 Eq H0 [] H1) (fun x e l H1 => match (generalizing := false) x with | .inl y => e = .exit 0 ∧ l = [] ∧ B4 Eq H0 [] H1 | .inr y => e = .ret ∧ l = [(4, .b true)] ∧ B4 Eq H0 [] H1) (by kernel_rfl) ?_ hx ?_ hO ?_
 ·intro s1 H o hO h;clear hx;cbv;refine D5 hE ?_;cbv;refine A6 hE h (fun hc h => ?_) (fun hc h => ?_)
  ·cbv;refine C2 hE eXR h fun x3 h => ?_;cbv;refine A6 hE h (fun hc h => ?_) (fun hc h => ?_)
   ·cbv;refine C2 hE eXR h fun x4 h => ?_;cbv;refine A6 hE h (fun hc h => ?_) (fun hc h => ?_)
    ·cbv;cases h;exact ⟨_, _, rfl, ⟨rfl, rfl, hO⟩, .b rfl (.z), rfl⟩
    cbv;cases h;exact ⟨_, rfl, .e rfl (.e2 .z), rfl, hO⟩
   cbv;cases h;exact ⟨_, rfl, .e rfl (.e2 .z), rfl, hO⟩
  cbv;cases h;exact ⟨_, _, rfl, ⟨rfl, rfl, hO⟩, .z, rfl⟩
 ·exact .e rfl (.e2 .z)
 clear hx
 rcases s2 with y5 | y6
 ·rintro e l H ⟨rfl, rfl, hO⟩;cbv;cases h;exact hK _ _ _ hO (.refl _)
 rintro e l H ⟨rfl, rfl, hO⟩;cbv;cases h;exact hK _ _ _ hO (.refl _)
def cf125 : Cf := ⟨[], [(1, 20)], [], [], [], []⟩
theorem c125 (N aA aB r) (h : BG N aA aB = some r) : B6 prog 125 [(E3 aA), (Av aB)] (.bool r) := by
 unfold BG at h
 refine J9 cf125 func125 call125 ntmps125 ?_;intro E H0 K hE hK hO;cbv;refine D5 hE ?_;cbv;refine A6 hE h (fun hc h => ?_) (fun hc h => ?_)
 ·cbv;refine C2 hE eXP h fun x1 h => ?_;cbv;refine A7 hE h (c165 N x1 aB.Num) (.refl _) fun r2 h => ?_;cbv;cases h;exact hK _ _ _ hO (.refl _)
 cbv;cases h;exact hK _ _ _ hO (.refl _)
theorem c76 (N aA r) (h : V7 N aA = some r) : B6 prog 76 [(E3 aA)] (.bool r) := by
 unfold V7 at h
 refine J9 cf0 func76 call76 ntmps76 ?_;intro E H0 K hE hK hO;cbv;obtain ⟨s2, hx, h⟩ := bind_some h;refine F3 cf0 hE G7 (fun s1 => [(1, .v (.eref (O6 aA) 0)), (3, .v (vi s1))]) (fun s1 H1 => B4 Eq H0 [] H1) (fun x e l H1 => match (generalizing := false) x with | .inl y => e = .exit 0 ∧ l = [] ∧ B4 Eq H0 [] H1 | .inr y => e = .ret ∧ l = [(2, .b false)] ∧ B4 Eq H0 [] H1) (by kernel_rfl) ?_ hx ?_ hO ?_
 ·intro s1 H o hO h;clear hx;cbv;refine D5 hE ?_;cbv;refine A6 hE h (fun hc h => ?_) (fun hc h => ?_)
  ·cbv;refine C2 hE eXP h fun x3 h => ?_;cbv;refine D5 hE ?_;cbv;refine A6 hE h (fun hc h => ?_) (fun hc h => ?_)
   ·cbv;cases h;exact ⟨_, _, rfl, ⟨rfl, rfl, hO⟩, .b rfl (.z), rfl⟩
   cbv;cases h;exact ⟨_, rfl, .e2 .z, rfl, hO⟩
  cbv;cases h;exact ⟨_, _, rfl, ⟨rfl, rfl, hO⟩, .z, rfl⟩
 ·exact .e2 .z
 clear hx
 rcases s2 with y4 | y5
 ·rintro e l H ⟨rfl, rfl, hO⟩;cbv;cases h;exact hK _ _ _ hO (.refl _)
 rintro e l H ⟨rfl, rfl, hO⟩;cbv;cases h;exact hK _ _ _ hO (.refl _)
end Go.Ab
