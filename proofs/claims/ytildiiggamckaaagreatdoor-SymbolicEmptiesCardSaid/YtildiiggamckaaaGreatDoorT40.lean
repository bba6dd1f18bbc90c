/- GYCo7 AbG1 AbI1 AbG2 AbG3 -/
import Derived.Test.YtildiiggamckaaaGreatDoorT39
import Derived.Test.YtildiiggamckaaaGreatDoorT26
import Derived.Deep.Slices
import Derived.Carry
import Derived.Lib.LaidTab
set_option linter.all false
namespace Go.Ab
open Go.RowKit Go.Proofs Go.Proofs.Tryz G6
variable [Ar] [G6]
set_option maxRecDepth 100000
theorem c64 (N aB r) (h : P3 N aB = some r) : B6 prog 64 [(H6 aB)] (.sl (Ar.lst (V.int .i64) r) .ro) := by
 unfold P3 at h
 refine Q9 (T := TT) cf0 G7 func64 (by rfl) (by kernel_rfl) call64 ntmps64 (by rfl) (by rfl) ?_;intro E H0 K hE hK hF;have hO : B4 Eq H0 [] H0 := .start B7 rfl;cbv;refine D5 hE ?_;cbv;refine Iw hE (f := (V.int .i64)) (by decide) (z0 := (0 : Int)) ((.refl _)) hO h fun l2 q1 H hq1 h hO => ?_;cbv;obtain ⟨s5, hx, h⟩ := bind_some h;refine I6 cf0 hE G7 (γ := OG) (fun s3 g => [(1, .v (.eref (C1 aB) 0)), (3, .v (.own g.id g.lo g.n)), (4, .v (vi s3.1))]) (fun s3 g H1 => T6 g (Ar.len s3.2) ∧ B4 Eq H0 [.blk g.id (.arr 1 (g.pre ++ Ar.lst (V.int .i64) s3.2 ++ g.rest))] H1) (fun x e l H1 => ∃ u1 : OG, T6 u1 (Ar.len x) ∧ e = .exit 0 ∧ l = [(1, .v (.eref (C1 aB) 0)), (3, .v (.own u1.id u1.lo u1.n))] ∧ B4 Eq H0 [.blk u1.id (.arr 1 (u1.pre ++ Ar.lst (V.int .i64) x ++ u1.rest))] H1) (by kernel_rfl) ?_ q1 hx ?_ ?_ ?_
 ·rintro s3 q4 H o ⟨hq4, hO⟩ h;clear hx;cbv;refine EC hE hq4 ?_;cbv;refine A6 hE h (fun hc h => ?_) (fun hc h => ?_)
  ·cbv;refine S0 hE hO hq4 0 rfl h fun h => ?_;cbv;refine S6 hE (f := (V.int .i64)) (esz := 1) (tz := 1) (off := 0) (u := (fun x6 : Int => (-1))) (fun _ => ⟨.int .i64 (-1), .refl _, rfl, rfl, rfl⟩) (by decide) hO hq4 0 rfl h fun l7 H hq4 h hO => ?_;cbv;refine C2 hE (fun _ => rfl) h fun x8 h => ?_;cbv;refine A6 hE h (fun hc h => ?_) (fun hc h => ?_)
   ·cbv;refine S0 hE hO hq4 0 rfl h fun h => ?_;cbv;refine S6 hE (f := (V.int .i64)) (esz := 1) (tz := 1) (off := 0) (u := (fun x9 : Int => 0)) (fun _ => ⟨.int .i64 0, .refl _, rfl, rfl, rfl⟩) (by decide) hO hq4 0 rfl h fun l10 H hq4 h hO => ?_;cbv;cases h;exact ⟨_, q4, rfl, .e rfl (.e2 .z), rfl, hq4, hO⟩
   cbv;cases h;exact ⟨_, q4, rfl, .e rfl (.e2 .z), rfl, hq4, hO⟩
  cbv;cases h;exact ⟨_, _, rfl, ⟨q4, hq4, rfl, rfl, hO⟩, .e2 .z, rfl⟩
 ·exact .e rfl (.e2 .z)
 ·exact ⟨hq1, hO⟩
 clear hx;rintro e l H ⟨q11, hq11, rfl, rfl, hO⟩;cbv;obtain ⟨s14, hx, h⟩ := bind_some h;refine I6 cf0 hE G7 (γ := OG) (fun s12 g => [(1, .v (.eref (C1 aB) 0)), (3, .v (.own g.id g.lo g.n)), (5, .v (vi s12.1))]) (fun s12 g H1 => T6 g (Ar.len s12.2) ∧ B4 Eq H0 [.blk g.id (.arr 1 (g.pre ++ Ar.lst (V.int .i64) s12.2 ++ g.rest))] H1) (fun x e l H1 => ∃ u1 : OG, T6 u1 (Ar.len x) ∧ e = .exit 2 ∧ l = [(3, .v (.own u1.id u1.lo u1.n))] ∧ B4 Eq H0 [.blk u1.id (.arr 1 (u1.pre ++ Ar.lst (V.int .i64) x ++ u1.rest))] H1) (by kernel_rfl) ?_ q11 hx ?_ ?_ ?_
 ·rintro s12 q13 H o ⟨hq13, hO⟩ h;clear hx;cbv;refine EC hE hq13 ?_;cbv;refine A6 hE h (fun hc h => ?_) (fun hc h => ?_)
  ·cbv;obtain ⟨s17, hx, h⟩ := bind_some h;refine I6 cf0 hE G7 (γ := OG) (fun s15 g => [(1, .v (.eref (C1 aB) 0)), (3, .v (.own g.id g.lo g.n)), (5, .v (vi s12.1)), (6, .v (vi s15.1))]) (fun s15 g H1 => T6 g (Ar.len s15.2) ∧ B4 Eq H0 [.blk g.id (.arr 1 (g.pre ++ Ar.lst (V.int .i64) s15.2 ++ g.rest))] H1) (fun x e l H1 => ∃ u1 : OG, T6 u1 (Ar.len x) ∧ e = .exit 4 ∧ l = [(1, .v (.eref (C1 aB) 0)), (3, .v (.own u1.id u1.lo u1.n)), (5, .v (vi s12.1))] ∧ B4 Eq H0 [.blk u1.id (.arr 1 (u1.pre ++ Ar.lst (V.int .i64) x ++ u1.rest))] H1) (by kernel_rfl) ?_ q13 hx ?_ ?_ ?_
   ·rintro s15 q16 H o ⟨hq16, hO⟩ h;clear hx;cbv;refine D5 hE ?_;cbv;refine A6 hE h (fun hc h => ?_) (fun hc h => ?_)
    ·cbv;refine C2 hE eXQ h fun x18 h => ?_;cbv;refine S0 hE hO hq16 0 rfl h fun h => ?_;cbv;refine AH hE (fun _ => rfl) hO hq16 0 rfl h fun x19 h => ?_;cbv;refine A6 hE h (fun hc h => ?_) (fun hc h => ?_)
     ·cbv;refine S0 hE hO hq16 0 rfl h fun h => ?_;cbv;refine AH hE (fun _ => rfl) hO hq16 0 rfl h fun x20 h => ?_;cbv;refine A6 hE h (fun hc h => ?_) (fun hc h => ?_)
      ·cbv;refine A7 hE h (c76 N x18.On) (.refl _) fun r21 h => ?_;cbv;refine A6 hE h (fun hc h => ?_) (fun hc h => ?_)
       ·cbv;refine S0 hE hO hq16 0 rfl h fun h => ?_;cbv;refine S6 hE (f := (V.int .i64)) (esz := 1) (tz := 1) (off := 0) (u := (fun x22 : Int => s12.1)) (fun _ => ⟨.int .i64 s12.1, .refl _, rfl, rfl, rfl⟩) (by decide) hO hq16 0 rfl h fun l23 H hq16 h hO => ?_;cbv;cases h;exact ⟨_, q16, rfl, .e4 .z, rfl, hq16, hO⟩
       cbv;cases h;exact ⟨_, q16, rfl, .e4 .z, rfl, hq16, hO⟩
      cbv;cases h;exact ⟨_, q16, rfl, .e4 .z, rfl, hq16, hO⟩
     cbv;cases h;exact ⟨_, q16, rfl, .e4 .z, rfl, hq16, hO⟩
    cbv;cases h;exact ⟨_, _, rfl, ⟨q16, hq16, rfl, rfl, hO⟩, .e rfl (.e2 .z), rfl⟩
   ·exact .e4 .z
   ·exact ⟨hq13, hO⟩
   clear hx;rintro e l H ⟨q24, hq24, rfl, rfl, hO⟩;cbv;cases h;exact ⟨_, q24, rfl, .e rfl (.e2 .z), rfl, hq24, hO⟩
  cbv;cases h;exact ⟨_, _, rfl, ⟨q13, hq13, rfl, rfl, hO⟩, .e rfl .z, rfl⟩
 ·exact .e rfl (.e2 .z)
 ·exact ⟨hq11, hO⟩
 clear hx;rintro e l H ⟨q25, hq25, rfl, rfl, hO⟩;cbv;cases h;exact hF q25 _ _ 0 _ _ hO rfl (T8 hE hq25) (.refl _)
def cf114 : Cf := ⟨[2], [], [], [], [], []⟩
theorem c114 (N aA r) (h : Y9 N aA = some r) : B6 prog 114 [(E3 aA)] ((Av r)) := by
 unfold Y9 at h
 refine J9 cf114 func114 call114 ntmps114 ?_;intro E H0 K hE hK hO;cbv;refine C8 hE hO fun b1 H hO => ?_;cbv;obtain ⟨s3, hx, h⟩ := bind_some h;refine F3 cf114 hE G7 (fun s2 => [(1, .v (.eref (O6 aA) 0)), (2, .v (.ref b1 0)), (3, .v (vi s2))]) (fun s2 H1 => B4 Eq H0 [.blk b1 (.cells [vi 0, vi 0])] H1) (fun x e l H1 => match (generalizing := false) x with | .inl y => e = .exit 0 ∧ l = [(2, .v (.ref b1 0))] ∧ B4 Eq H0 [.blk b1 (.cells [vi 0, vi 0])] H1 | .inr y => e = .ret ∧ l = [(2, .v (.ref b1 0))] ∧ B4 Eq H0 [.blk b1 (.cells (K0 y))] H1) (by kernel_rfl) ?_ hx ?_ hO ?_
 ·intro s2 H o hO h;clear hx;cbv;refine D5 hE ?_;cbv;refine A6 hE h (fun hc h => ?_) (fun hc h => ?_)
  ·cbv;refine C2 hE eXP h fun x4 h => ?_;cbv;refine D5 hE ?_;cbv;refine A6 hE h (fun hc h => ?_) (fun hc h => ?_)
   ·cbv;refine C2 hE eXP h fun x5 h => ?_;cbv;refine C2 hE eXR h fun x6 h => ?_;cbv;refine A8 hE hO 0 rfl rfl fun H hO => ?_;cbv;cases h;exact ⟨_, _, rfl, ⟨rfl, rfl, hO⟩, .e rfl .z, rfl⟩
   cbv;cases h;exact ⟨_, rfl, .e rfl (.e2 .z), rfl, hO⟩
  cbv;cases h;exact ⟨_, _, rfl, ⟨rfl, rfl, hO⟩, .e rfl .z, rfl⟩
 ·exact .e rfl (.e2 .z)
 clear hx
 rcases s3 with y7 | y8
 ·rintro e l H ⟨rfl, rfl, hO⟩;cbv;refine A8 hE hO 0 rfl rfl fun H hO => ?_;cbv;refine B1 hE hO 0 rfl ?_;cbv;cases h;exact hK _ _ _ hO (.refl _)
 rintro e l H ⟨rfl, rfl, hO⟩;cbv;refine B1 hE hO 0 rfl ?_;cbv;cases h;exact hK _ _ _ hO (.refl _)
theorem c115 (N aC aE r) (h : Bc N aC aE = some r) : B6 prog 115 [(Av aC), (Av aE)] (.bool r) := by
 unfold Bc at h
 refine J9 cf0 func115 call115 ntmps115 ?_;intro E H0 K hE hK hO;cbv;cases h;exact hK _ _ _ hO (.refl _)
def cfo93 : Cf := ⟨[6000006], [], [], [], [], []⟩
theorem o93 (N aB bF aH r) (h : BF N aB bF aH = some r) : IN prog 93 [(H6 aB), .sl (Ar.lst V.bool bF) .ro, (Av aH)] 1 (Ar.lst V.bool r) := by
 unfold BF at h
 intro H0;refine AW (T := TT) (F := H0) cfo93 G7 func93 (by rfl) (by kernel_rfl) call93 ntmps93 (by rfl) (by rfl) ?_;intro E K hE hK hN;have hO : B4 Eq H0 [] H0 := .start B7 rfl;cbv;refine HT hE (f := V.bool) hO fun q1 H hq1 hO => ?_;cbv;refine D5 hE ?_;cbv;refine Iw hE (f := V.bool) (by decide) (z0 := (false : Bool)) ((.refl _)) hO h fun l3 q2 H hq2 h hO => ?_;cbv;obtain ⟨s6, hx, h⟩ := bind_some h;refine I6 cfo93 hE G7 (γ := OG) (fun s4 g => [(1, .v (.sl (Ar.lst V.bool bF) .ro)), (3, .v (.eref (C1 aB) 0)), (5, .v (.eref (K0 aH) 0)), (7, .v (.own g.id g.lo g.n)), (8, .v (vi s4.1))]) (fun s4 g H1 => T6 g (Ar.len s4.2) ∧ B4 Eq H0 [.blk g.id (.arr 1 (g.pre ++ Ar.lst V.bool s4.2 ++ g.rest)), .blk q1.id (.arr 1 (q1.pre ++ Ar.lst V.bool ([] : List Bool) ++ q1.rest))] H1) (fun x e l H1 => ∃ u1 : OG, T6 u1 (Ar.len x) ∧ e = .exit 0 ∧ l = [(7, .v (.own u1.id u1.lo u1.n))] ∧ B4 Eq H0 [.blk u1.id (.arr 1 (u1.pre ++ Ar.lst V.bool x ++ u1.rest)), .blk q1.id (.arr 1 (q1.pre ++ Ar.lst V.bool ([] : List Bool) ++ q1.rest))] H1) (by kernel_rfl) ?_ q2 hx ?_ ?_ ?_
 ·rintro s4 q5 H o ⟨hq5, hO⟩ h;clear hx;cbv;refine D5 hE ?_;cbv;refine A6 hE h (fun hc h => ?_) (fun hc h => ?_)
  ·cbv;refine C2 hE eXQ h fun x7 h => ?_;cbv;refine C2 hE (fun _ => rfl) h fun x8 h => ?_;cbv;refine A6 hE h (fun hc h => ?_) (fun hc h => ?_)
   ·cbv;refine A7 hE h (c125 N x7.On aH) (.refl _) fun r9 h => ?_;cbv;refine A6 hE h (fun hc h => ?_) (fun hc h => ?_)
    ·cbv;refine S0 hE hO hq5 0 rfl h fun h => ?_;cbv;refine S6 hE (f := V.bool) (esz := 1) (tz := 1) (off := 0) (u := (fun x10 : Bool => true)) (fun _ => ⟨.bool true, .refl _, rfl, rfl, rfl⟩) (by decide) hO hq5 0 rfl h fun l11 H hq5 h hO => ?_;cbv;cases h;exact ⟨_, q5, rfl, .e rfl (.e4 .z), rfl, hq5, hO⟩
    cbv;cases h;exact ⟨_, q5, rfl, .e rfl (.e4 .z), rfl, hq5, hO⟩
   cbv;cases h;exact ⟨_, q5, rfl, .e rfl (.e4 .z), rfl, hq5, hO⟩
  cbv;cases h;exact ⟨_, _, rfl, ⟨q5, hq5, rfl, rfl, hO⟩, .e rfl .z, rfl⟩
 ·exact .e rfl (.e4 .z)
 ·exact ⟨hq2, hO⟩
 clear hx;rintro e l H ⟨q12, hq12, rfl, rfl, hO⟩;cbv;cases h;exact hK q12 _ _ (T8 hE hq12) (hO)
def cf65 : Cf := ⟨[7], [], [], [], [(6, 4)], []⟩
theorem c65 (N aB r) (h : Dr N aB = some r) : B6 prog 65 [(H6 aB)] (.sl (Ar.lst eXN r) .ro) := by
 unfold Dr at h
 refine J9 cf65 func65 call65 ntmps65 ?_;intro E H0 K hE hK hO;cbv;refine A7 hE h (c64 N aB) (.refl _) fun r1 h => ?_;cbv;refine D5 hE ?_;cbv;refine Iw hE (f := V.bool) (by decide) (z0 := (false : Bool)) ((.refl _)) hO h fun l3 q2 H hq2 h hO => ?_;cbv;refine S0 hE hO hq2 0 rfl h fun h => ?_;cbv;refine S6 hE (f := V.bool) (esz := 1) (tz := 1) (off := 0) (u := (fun x4 : Bool => true)) (fun _ => ⟨.bool true, .refl _, rfl, rfl, rfl⟩) (by decide) hO hq2 0 rfl h fun l5 H hq2 h hO => ?_;cbv;refine C2 hE (fun _ => rfl) h fun x6 h => ?_;cbv;refine Fs hE hO hq2 0 rfl fun H hO => ?_;cbv;replace hO := hO.tl0 (t := .nil) rfl;obtain ⟨s9, hx, h⟩ := bind_some h;refine I6 cf65 hE G7 (γ := D6) (fun s7 g => [(1, .v (.eref (C1 aB) 0)), (3, .v (.sl (Ar.lst (V.int .i64) r1) .ro)), (4, .v (.sl (Ar.lst V.bool s7.1) .ro)), (5, .v (.sl (Ar.lst eXN s7.2.1) g)), (6, .v (vi s7.2.2))]) (fun s7 g H1 => N2 g ∧ B4 Eq H0 [.tl g] H1) (fun x e l H1 => ∃ u1 : D6, N2 u1 ∧ e = .exit 0 ∧ l = [(5, .v (.sl (Ar.lst eXN x) u1))] ∧ B4 Eq H0 [.tl u1] H1) (by kernel_rfl) ?_ .nil hx ?_ ?_ ?_
 ·rintro s7 t8 H o ⟨ht8, hO⟩ h;clear hx;cbv;refine A6 hE h (fun hc h => ?_) (fun hc h => ?_)
  ·cbv;refine C8 hE hO fun b10 H hO => ?_;cbv;obtain ⟨s12, hx, h⟩ := bind_some h;refine F3 cf65 hE G7 (fun s11 => [(1, .v (.eref (C1 aB) 0)), (3, .v (.sl (Ar.lst (V.int .i64) r1) .ro)), (4, .v (.sl (Ar.lst V.bool s7.1) .ro)), (5, .v (.sl (Ar.lst eXN s7.2.1) t8)), (6, .v (vi s7.2.2)), (7, .v (.ref b10 0)), (8, .v (.bool s11.1)), (9, .v (vi s11.2.1))]) (fun s11 H1 => B4 Eq H0 [.blk b10 (.cells (K0 s11.2.2)), .tl t8] H1) (fun x e l H1 => e = .exit 2 ∧ l = [(1, .v (.eref (C1 aB) 0)), (3, .v (.sl (Ar.lst (V.int .i64) r1) .ro)), (4, .v (.sl (Ar.lst V.bool s7.1) .ro)), (5, .v (.sl (Ar.lst eXN s7.2.1) t8)), (6, .v (vi s7.2.2)), (7, .v (.ref b10 0))] ∧ B4 Eq H0 [.blk b10 (.cells (K0 x)), .tl t8] H1) (by kernel_rfl) ?_ hx ?_ hO ?_
   ·intro s11 H o hO h;clear hx;cbv;refine D5 hE ?_;cbv;refine A6 hE h (fun hc h => ?_) (fun hc h => ?_)
    ·cbv;refine C2 hE eXQ h fun x13 h => ?_;cbv;refine C2 hE (fun _ => rfl) h fun x14 h => ?_;cbv;refine A6 hE h (fun hc h => ?_) (fun hc h => ?_)
     ·cbv;refine C2 hE (fun _ => rfl) h fun x15 h => ?_;cbv;refine A6 hE h (fun hc h => ?_) (fun hc h => ?_)
      ·cbv;refine C2 hE (fun _ => rfl) h fun x16 h => ?_;cbv;refine A6 hE h (fun hc h => ?_) (fun hc h => ?_)
       ·cbv;refine A7 hE h (c76 N x13.On) (.refl _) fun r17 h => ?_;cbv;refine A6 hE h (fun hc h => ?_) (fun hc h => ?_)
        ·cbv;refine A7 hE h (c114 N x13.On) (.refl _) fun r18 h => ?_;cbv;refine B1 hE hO 0 rfl ?_;cbv;refine A6 hE h (fun hc h => ?_) (fun hc h => ?_)
         ·cbv;refine A8 hE hO 0 rfl rfl fun H hO => ?_;cbv;cases h;exact ⟨_, rfl, .e4 (.e4 .z), rfl, hO⟩
         cbv;refine A7 hE h (c115 N r18 s11.2.2) (.refl _) fun r19 h => ?_;cbv;refine A6 hE h (fun hc h => ?_) (fun hc h => ?_)
         ·cbv;refine A8 hE hO 0 rfl rfl fun H hO => ?_;cbv;cases h;exact ⟨_, rfl, .e4 (.e4 .z), rfl, hO⟩
         cbv;cases h;exact ⟨_, rfl, .e4 (.e4 .z), rfl, hO⟩
        cbv;cases h;exact ⟨_, rfl, .e4 (.e4 .z), rfl, hO⟩
       cbv;cases h;exact ⟨_, rfl, .e4 (.e4 .z), rfl, hO⟩
      cbv;cases h;exact ⟨_, rfl, .e4 (.e4 .z), rfl, hO⟩
     cbv;cases h;exact ⟨_, rfl, .e4 (.e4 .z), rfl, hO⟩
    cbv;cases h;exact ⟨_, _, rfl, ⟨rfl, rfl, hO⟩, .e2 (.e4 .z), rfl⟩
   ·exact .e4 (.e4 .z)
   clear hx;rintro e l H ⟨rfl, rfl, hO⟩;cbv;refine B1 hE hO 0 rfl ?_;cbv;refine V9 (f := eXN) hE Gw (by decide) hO 1 rfl ht8 (l := s7.2.1) (m := [s12]) (.refl _) (.lstc (.eq (eYa s12) (.refl _)) (.lst0)) h fun l21 t20 H hO ht20 h => ?_;cbv;refine B1 hE hO 0 rfl ?_;cbv;refine Dt hE (f := V.bool) h (o93 N aB s7.1 s12) (.refl _) hO fun l22 q23 H hq23 hO h => ?_;cbv;refine Fs hE hO hq23 0 rfl fun H hO => ?_;cbv;cases h;exact ⟨_, t20, rfl, .e rfl (.e4 .z), rfl, ht20, hO.tail⟩
  cbv;cases h;exact ⟨_, _, rfl, ⟨t8, ht8, rfl, rfl, hO⟩, .e rfl .z, rfl⟩
 ·exact .e rfl (.e2 (.v (.slt _ (.lst0)) (.e rfl (.z))))
 ·exact ⟨trivial, hO⟩
 clear hx;rintro e l H ⟨t24, ht24, rfl, rfl, hO⟩;cbv;cases h;exact hK _ _ _ hO (.ro _ _)
theorem c20 (N aB r) (h : Cc N aB = some r) : B6 prog 20 [(H6 aB)] (.tup [.bool r.1, .sl (Ar.lst eXN r.2.1) .ro, vi r.2.2]) := by
 unfold Cc at h
 refine J9 cf0 func20 call20 ntmps20 ?_;intro E H0 K hE hK hO;cbv;refine A7 hE h (c14 N aB) (.refl _) fun r1 h => ?_;cbv;refine A6 hE h (fun hc h => ?_) (fun hc h => ?_)
 ·cbv;cases h;exact hK _ _ _ hO (.tup (.cons (.refl _) (.cons (.lit _ (B3)) (.refl _))))
 cbv;refine A7 hE h (c64 N aB) (.refl _) fun r2 h => ?_;cbv;refine C2 hE (fun _ => rfl) h fun x3 h => ?_;cbv;refine A6 hE h (fun hc h => ?_) (fun hc h => ?_)
 ·cbv;cases h;exact hK _ _ _ hO (.tup (.cons (.refl _) (.cons (.lit _ (B3)) (.refl _))))
 cbv;refine A7 hE h (c65 N aB) (.refl _) fun r4 h => ?_;cbv;cases h;exact hK _ _ _ hO (.refl _)
theorem c5 (N aB r) (h : R5 N aB = some r) : B6 prog 5 [(H6 aB)] (.bool r) := by
 unfold R5 at h
 refine J9 cf0 func5 call5 ntmps5 ?_;intro E H0 K hE hK hO;cbv;refine A7 hE h (c9 N aB) (.refl _) fun r1 h => ?_;cbv;refine A6 hE h (fun hc h => ?_) (fun hc h => ?_)
 ·cbv;refine A7 hE h (c10 N ) (.refl _) fun r2 h => ?_;cbv;cases h;exact hK _ _ _ hO (.refl _)
 cbv;refine A7 hE h (c19 N aB) (.refl _) fun r3 h => ?_;cbv;refine A7 hE h (c20 N aB) (.refl _) fun r4 h => ?_;cbv;refine A6 hE h (fun hc h => ?_) (fun hc h => ?_)
 ·cbv;refine A7 hE h (c21 N r3.2.1 r4.2.1) (.refl _) fun r5 h => ?_;cbv;refine A6 hE h (fun hc h => ?_) (fun hc h => ?_)
  ·cbv;refine A7 hE h (c10 N ) (.refl _) fun r6 h => ?_;cbv;cases h;exact hK _ _ _ hO (.refl _)
  cbv;cases h;exact hK _ _ _ hO (.refl _)
 cbv;cases h;exact hK _ _ _ hO (.refl _)
end Go.Ab
namespace Go.Ab
open Go.RowKit Go.ChangeShapes Go.WideShapes
variable [G5]
def g0 (W : World) : Gh := ⟨fun _ => none, fun _ => ⟨0, 0, 0⟩, fun _ => none, fun b o => ∃ v, W.cell? ⟨b, o, none⟩ = some v, 0, W.heap.size⟩
theorem rl0 {W : World} (hg : ∀ n, VR (g0 W) W (.pointer (some ⟨n, 0, none⟩)) (G5.gl n)) : Rl (g0 W) (fun _ => none) W :=
 ⟨fun id b h => (by cases h), fun id id' b h => (by simp [Gh.at] at h), fun b o h => h, fun id _ => ⟨rfl, rfl, rfl⟩, Nat.le_refl _, hg⟩
def Dg (g : Gh) (w : World) (cs : List Value) (xs : List V) : Prop :=
 cs.length = xs.length ∧ ∀ i, i < xs.length → (cs.getD i undef).oneCell' = true ∧ VR g w (cs.getD i undef) (xs.getD i .bad)
theorem Dg.nil (g : Gh) (w : World) : Dg g w [] [] := ⟨rfl, fun i hi => by simp at hi⟩
theorem Dg.one {g : Gh} {w : World} {v : Value} {x : V} (h1 : v.oneCell' = true) (h : VR g w v x) : Dg g w [v] [x] := by
 refine ⟨rfl, fun i hi => ?_⟩
 have : i = 0 := by simpa using hi
 subst this;exact ⟨h1, h⟩
theorem Dg.append {g : Gh} {w : World} {cs ds : List Value} {xs ys : List V} (h : Dg g w cs xs) (k : Dg g w ds ys) : Dg g w (cs ++ ds) (xs ++ ys) := by
 refine ⟨by simp [h.1, k.1], fun i hi => ?_⟩;have hl := h.1
 simp only [List.length_append] at hi
 by_cases hx : i < xs.length
 ·have e1 : (cs ++ ds).getD i undef = cs.getD i undef := by simp [List.getD, List.getElem?_append_left (show i < cs.length by omega)]
  have e2 : (xs ++ ys).getD i .bad = xs.getD i .bad := by simp [List.getD, List.getElem?_append_left hx]
  rw [e1, e2]; exact h.2 i hx
 have e1 : (cs ++ ds).getD i undef = ds.getD (i - xs.length) undef := by simp [List.getD, List.getElem?_append_right (show cs.length ≤ i by omega), hl]
 have e2 : (xs ++ ys).getD i .bad = ys.getD (i - xs.length) .bad := by simp [List.getD, List.getElem?_append_right (show xs.length ≤ i by omega)]
 rw [e1, e2]; exact k.2 _ (by omega)
theorem Dg.join {g : Gh} {w : World} {cs : List Value} {xs ys : List V} {a n m : Nat} (h : Dg g w ((cs.drop a).take n) xs) (k : Dg g w ((cs.drop (a + n)).take m) ys) : Dg g w ((cs.drop a).take (n + m)) (xs ++ ys) := by
 have := h.append k
 rwa [show (cs.drop (a + n)) = (cs.drop a).drop n by rw [List.drop_drop], ← List.take_add] at this
theorem Dg.agg {g : Gh} {w : World} {cs : Array Value} {xs : List V} (h : Dg g w cs.toList xs) : VR g w (.agg cs) (.agg xs) := by
 refine .agg (by simpa using h.1) (fun i hi => ?_) fun i hi => ?_
 ·have := (h.2 i hi).1
  simpa [List.getD, Array.getD_eq_getD_getElem?] using this
 have := (h.2 i hi).2
 simpa [List.getD, Array.getD_eq_getD_getElem?] using this
section
variable {H α : Type} {enc : TypeId × Value → H} {P : Program} {W : World} {base : Nat} {spare : Nat → Bool} {held : Bool} {t e : TypeId} {n : Nat}
def Opens (enc : TypeId × Value → H) (P : Program) (W : World) (base : Nat) (spare : Nat → Bool) (held : Bool) (t : TypeId) (f : α → V) (R : α → DataW H → Prop) (n : Nat) : Prop :=
 ∀ cs x, DataW.trod enc P W base spare held n t cs = some x → ∃ a, Dg (g0 W) W cs (f a).cells ∧ R a x.1
theorem HS {k : IntKind} (ht : P.underlying t = some (.int k)) : Opens enc P W base spare held t (V.int k) (fun a d => d = .lit (.int k a)) n := by
 intro cs x h;obtain ⟨a, rfl, rfl, _⟩ := DataW.trod_int ht h;exact ⟨a, .one rfl (.int _ _), rfl⟩
theorem CV (ht : P.underlying t = some .bool) : Opens enc P W base spare held t V.bool (fun a d => d = .lit (.bool a)) n := by
 intro cs x h;obtain ⟨a, rfl, rfl⟩ := DataW.trod_bool ht h;exact ⟨a, .one rfl (.bool _), rfl⟩
def RL (R : α → DataW H → Prop) (l : List α) (ds : List (DataW H)) : Prop := l.length = ds.length ∧ ∀ (i : Nat) a d, l[i]? = some a → ds[i]? = some d → R a d
def RS (R : α → DataW H → Prop) (l : List α) (d : DataW H) : Prop := l.length ≤ maxLen ∧ ((d = .nil ∧ l = []) ∨ ∃ es sp, d = .slice es sp ∧ RL R l es)
theorem Ds {f : α → V} {R : α → DataW H → Prop} (ht : P.underlying t = some (.slice e)) (hc : 0 < P.cellsOf e) (he : Opens enc P W base spare held e f R n) :
 Opens enc P W base spare held t (fun l : List α => .sl (l.map f) .ro) (RS R) (n + 1) := by
 intro cs x h
 rcases DataW.trod_slice ht h with ⟨rfl, rfl⟩ | ⟨a, len, cap, elems, rest, n', hn, rfl, rfl, hb, hl, hm, hlen, hel, hsp, hns⟩
 ·exact ⟨[], .one rfl (.sl0 rfl), Nat.zero_le _, .inl ⟨rfl, rfl⟩⟩
 have hn' : n' = n := by omega
 subst hn'
 rcases Nat.eq_zero_or_pos len with h0 | h0
 ·subst h0;have : elems = [] := List.length_eq_zero_iff.1 hlen;subst this;exact ⟨[], .one rfl (.sle (.inl rfl)), Nat.zero_le _, .inr ⟨_, _, rfl, rfl, fun i a d hi => by simp at hi⟩⟩
 have one : ∀ i, i < len → ∃ cs' y b, W.cells? base (a.add (i * P.cellsOf e)) (P.cellsOf e) = some cs' ∧ elems[i]? = some y ∧ Dg (g0 W) W cs' (f b).cells ∧ R b y.1 := by
  intro i hi;have h1 := hel i hi
  have h2 : elems[i]? = some (elems[i]'(by omega)) := by simp [hlen, hi]
  rw [h2] at h1
  obtain ⟨cs', hcs, hy⟩ := Option.bind_eq_some_iff.1 h1;obtain ⟨b, hr, hR⟩ := he cs' _ hy;exact ⟨cs', _, b, hcs, h2, hr, hR⟩
 obtain ⟨_, _, b0, _⟩ := one 0 h0
 haveI : Inhabited α := ⟨b0⟩
 obtain ⟨A, hA⟩ := Deep.choose_lt (α := α) (p := fun i b => ∃ cs' y, W.cells? base (a.add (i * P.cellsOf e)) (P.cellsOf e) = some cs' ∧ elems[i]? = some y ∧ Dg (g0 W) W cs' (f b).cells ∧ R b y.1)
  (fun i hi => let ⟨cs', y, b, h1, h2, h3, h4⟩ := one i hi; ⟨b, cs', y, h1, h2, h3, h4⟩)
 have hspot : a.spot = none := by
  obtain ⟨cs', y, h1, _, _, _⟩ := hA 0 h0;obtain ⟨_, hcl, hcell⟩ := World.cells?_some h1;have h2 := hcell 0 hc
  have e0 : (a.add (0 * P.cellsOf e)).add 0 = a := by simp [Addr.add]
  rw [e0] at h2
  have h3 : cs'[0]? = some (cs'[0]'(by omega)) := by simp [hcl, hc]
  rw [h3] at h2
  unfold World.cell? at h2
  split at h2
  ·split at h2
   ·cases h2
   rename_i hs; simpa using hs
  cases h2
 obtain ⟨b, o, s⟩ := a
 simp only at hspot
 subst hspot
 let l := (List.range len).map A
 have hll : l.length = len := by simp [l]
 have hg : ∀ i, i < len → (l.map f).getD i .bad = f (A i) := fun i hi => by simp [l, List.getD, hi]
 have cell : ∀ i j, i < len → j < P.cellsOf e → ∃ v, W.cell? ⟨b, o + i * P.cellsOf e + j, none⟩ = some v ∧ v.oneCell' = true ∧ VR (g0 W) W v ((f (A i)).cells.getD j .bad) := by
  intro i j hi hj;obtain ⟨cs', y, h1, _, hr, _⟩ := hA i hi;obtain ⟨_, hcl, hcell⟩ := World.cells?_some h1;have h2 := hcell j hj
  rw [O7, O7] at h2
  have h3 : cs'[j]? = some (cs'.getD j undef) := by simp [List.getD, hcl, hj]
  rw [h3] at h2
  have := hr.2 j (by rw [← hr.1, hcl]; exact hj);exact ⟨_, h2, this.1, this.2⟩
 refine ⟨l, .one rfl ?_, by omega, .inr ⟨_, _, rfl, by simp [hll, hlen], fun i a' d hi hd => ?_⟩⟩
 ·have hz : ∀ i, i < len → ((l.map f).getD i .bad).cells.length = P.cellsOf e := fun i hi => by
   obtain ⟨cs', y, h1, _, hr, _⟩ := hA i hi;obtain ⟨_, hcl, _⟩ := World.cells?_some h1;rw [hg i hi, ← hr.1, hcl]
  refine .sl (sz := P.cellsOf e) (fun i j => (W.cell? ⟨b, o + i * P.cellsOf e + j, none⟩).getD undef) (by simp [hll]) hl hz (fun i j hi hj => ?_) (fun i j hi hj => ?_) (fun i j hi hj => ?_) (fun i j hi hj => ?_) trivial
  ·obtain ⟨v, h1, _⟩ := cell i j hi hj; exact ⟨v, h1⟩
  ·obtain ⟨v, h1, _⟩ := cell i j hi hj; rw [h1]; rfl
  ·obtain ⟨v, h1, h2, _⟩ := cell i j hi hj; rw [h1]; exact h2
  obtain ⟨v, h1, h2, h3⟩ := cell i j hi hj; rw [h1, hg i hi]; exact h3
 have hi' : i < len := by
  rcases Nat.lt_or_ge i l.length with h | h
  ·omega
  rw [List.getElem?_eq_none h] at hi; cases hi
 obtain ⟨cs', y, h1, h2, h3, h4⟩ := hA i hi'
 have e1 : a' = A i := by simp [l, hi'] at hi; exact hi.symm
 have e2 : d = y.1 := by simp [h2] at hd; exact hd.symm
 rw [e1, e2]; exact h4
theorem PR {fs : Array Field} {xs : List (DataW H × List MemPlace)} {cs : List Value} {n : Nat} (hl : xs.length = fs.size)
 (hf : ∀ (i : Nat) (f : Field), fs[i]? = some f → DataW.trod enc P W base spare held n f.type ((cs.drop f.offset).take (P.cellsOf f.type)) = xs[i]?) (i : Nat) {f : Field} (h : fs[i]? = some f) :
 ∃ y, xs[i]? = some y ∧ DataW.trod enc P W base spare held n f.type ((cs.drop f.offset).take (P.cellsOf f.type)) = some y := by
 have hi : i < fs.size := by
  rcases Nat.lt_or_ge i fs.size with h' | h'
  ·exact h'
  rw [Array.getElem?_eq_none h'] at h; cases h
 have h1 : xs[i]? = some (xs[i]'(by omega)) := by simp [hl, hi]
 exact ⟨_, h1, by rw [hf i f h, h1]⟩
end
end Go.Ab
namespace Go.Ab
noncomputable instance arInst : Ar where
 cmp := Dk
 cmp_eq := fun _ _ _ => rfl
 ar := WO
 ar_eq := fun _ _ _ _ => rfl
 sh := Xi
 sh_eq := fun _ _ _ _ => rfl
 neg := fun k n => k.wrap (0 - n)
 neg_eq := fun _ _ => rfl
 wr := fun k n => k.wrap n
 wr_eq := fun _ _ => rfl
 scmp := WL
 scmp_eq := fun _ _ _ => rfl
 cat := fun a b => a ++ b
 cat_eq := fun _ _ => rfl
 slen := fun s => s.size
 slen_eq := fun _ => rfl
 sat := fun s i => match s[i.toNat]? with | some b => (b.toNat : Int) | none => 0
 sat_eq := fun _ _ => rfl
 beq := fun a b => a == b
 beq_eq := fun _ _ => rfl
 nt := fun a => !a
 nt_eq := fun _ => rfl
 an := fun a b => a && b
 an_eq := fun _ _ => rfl
 or := fun a b => a || b
 or_eq := fun _ _ => rfl
 pk := fun c a b => if c then a else b
 pk_eq := fun _ _ _ => rfl
 mx := fun a b => if a < b then b else a
 mx_eq := fun _ _ => rfl
 mn := fun a b => if b < a then b else a
 mn_eq := fun _ _ => rfl
 ofs := fun a b => a + b
 ofs_eq := fun _ _ => rfl
 ofN := fun n => n
 ofN_eq := fun _ => rfl
 len := fun l => l.length
 len_eq := fun _ => rfl
 lst := fun f l => l.map f
 lst_eq := fun _ _ => rfl
end Go.Ab
namespace Go.Ab
open Go.RowKit Go.ChangeShapes Go.WideShapes
variable [G5]
section
variable {H α : Type} {enc : TypeId × Value → H} {P : Program} {W : World} {base : Nat} {spare : Nat → Bool} {held : Bool} {t e : TypeId} {n : Nat}
theorem Li {cs : List Value} {sz : Nat} {f : α → V} : ∀ (l : List α) (o : Nat), (∀ (i : Nat) a, l[i]? = some a → Dg (g0 W) W ((cs.drop (o + i * sz)).take sz) (f a).cells) → Dg (g0 W) W ((cs.drop o).take (l.length * sz)) (l.flatMap fun a => (f a).cells)
 | [], o, _ => by simp; exact .nil _ _
 | a :: l, o, h => by
  have h0 := h 0 a rfl
  rw [Nat.zero_mul, Nat.add_zero] at h0
  have h1 := Li l (o + sz) fun i b hi => by
   have := h (i + 1) b (by simpa using hi)
   rwa [show o + (i + 1) * sz = o + sz + i * sz by rw [Nat.add_mul]; omega] at this
  have := h0.join h1;rw [List.length_cons, List.flatMap_cons, show (l.length + 1) * sz = sz + l.length * sz by rw [Nat.add_mul]; omega];exact this
theorem NN {f : α → V} {R : α → DataW H → Prop} {m : Nat} (ht : P.underlying t = some (.array m e)) (hct : P.cellsOf t = m * P.cellsOf e) (hm : 0 < m) (he : ∀ n, Opens enc P W base spare held e f R n) {cs : List Value} {x : DataW H × List MemPlace}
 (h : DataW.trod enc P W base spare held n t cs = some x) : ∃ l : List α, Dg (g0 W) W cs (l.flatMap fun a => (f a).cells) ∧ ∃ ds, x.1 = .agg ds ∧ RL R l ds := by
 cases n with
 | zero => simp [DataW.trod] at h
 | succ n =>
  simp only [DataW.trod, ht] at h
  split at h
  ·rename_i hl;obtain ⟨xs, hmm, rfl⟩ := Option.map_eq_some_iff.1 h
   have hxl : xs.length = m := by simpa using mapM_some_length hmm
   have one : ∀ i, i < m → ∃ b, Dg (g0 W) W ((cs.drop (i * P.cellsOf e)).take (P.cellsOf e)) (f b).cells ∧ ∀ y, xs[i]? = some y → R b y.1 := by
    intro i hi;have h1 := mapM_some_get hmm i i (by simp [hi])
    have h2 : xs[i]? = some (xs[i]'(by omega)) := by simp [hxl, hi]
    rw [h2] at h1
    obtain ⟨b, hr, hR⟩ := he n _ _ h1;exact ⟨b, hr, fun y hy => by rw [h2] at hy; cases hy; exact hR⟩
   obtain ⟨b0, _⟩ := one 0 hm
   haveI : Inhabited α := ⟨b0⟩
   obtain ⟨A, hA⟩ := Deep.choose_lt one
   have hat : ∀ (i : Nat) a, ((List.range m).map A)[i]? = some a → i < m ∧ a = A i := fun i a hi => by
    rcases Nat.lt_or_ge i m with hlt | hge
    ·simp [hlt] at hi; exact ⟨hlt, hi.symm⟩
    rw [List.getElem?_eq_none (by simpa using hge)] at hi; cases hi
   refine ⟨(List.range m).map A, ?_, _, rfl, by simp [hxl], fun i a d hi hd => ?_⟩
   ·have := Li (cs := cs) (sz := P.cellsOf e) (f := f) (W := W) ((List.range m).map A) 0 (fun i a hi => by
     obtain ⟨h1, rfl⟩ := hat i a hi
     simpa using (hA i h1).1)
    simpa [List.take_of_length_le, hl, hct] using this
   obtain ⟨h1, rfl⟩ := hat i a hi
   simp only [List.getElem?_map, Option.map_eq_some_iff] at hd
   obtain ⟨y, hy, rfl⟩ := hd;exact (hA i h1).2 y hy
  cases h
theorem Of {g : Nat} {cs : Array Value} {xs : List V} {name : String} (hg : P.globalNamed name = some g) (hv : W.var? P name = some cs) (hr : Dg (g0 W) W cs.toList xs) : VR (g0 W) W (.pointer (some ⟨g, 0, none⟩)) (.eref xs 0) := by
 have cell : ∀ j, j < xs.length → W.cell? ⟨g, 0 + j, none⟩ = some (cs.toList.getD j undef) := fun j hj => by
  have h1 := World.var?_cell hg hv j
  have h2 : j < cs.size := by have := hr.1; simp at this; omega
  rw [Nat.zero_add, h1];simp [List.getD, h2]
 exact .eref (g := g0 W) (o := 0) (off := 0) (fun j => cs.toList.getD j undef) (fun j hj => (⟨_, cell j hj⟩ : ∃ v, W.cell? ⟨g, 0 + j, none⟩ = some v)) (fun j hj => cell j hj) (fun j hj => (hr.2 j hj).1) fun j hj => (hr.2 j hj).2
end
end Go.Ab
namespace Go.Ab
open Go.RowKit Go.ChangeShapes Go.WideShapes
variable [G5]
section
variable {H : Type} {enc : TypeId × Value → H} {P : Program} {W : World} {base : Nat} {spare : Nat → Bool} {held : Bool} {t e : TypeId} {n : Nat}
end
end Go.Ab
