/- GXCo7 AbG1 AbI1 AbG2 AbG3 AbM1 GXIn GXL1 GXL2 GXL3 GXW1 GXW2 -/
import Derived.Test.YtildiiggamckaaaGreatDoorT15
import Derived.Deep.Slices
import Derived.Carry
import Derived.Lib.LaidTab
import Derived.Test.YtildiiggamckaaaGreatDoorRows
import Derived.WalkKit
import Derived.ProofKit
import Derived.OpenShut
import Derived.Deep.DeepHandedRow
set_option linter.all false
namespace Go.Ab
open Go.RowKit Go.Proofs Go.Proofs.Tryz G4
variable [Ar] [G4]
set_option maxRecDepth 100000
theorem c116 (N : Nat) (aA : List A3) (aU : V) (aL : A3 → Option Bool) (aY : ∀ y1 q, aL y1 = some q → Q6 prog aU [(F2 y1)] (.bool q)) (r : Int) (h : H9 N aA aL = some r) : B5 prog 116 [sr eYq aA, aU] (vi r) := by
 unfold H9 at h
 refine K2 cf0 func116 call116 ntmps116 ?_;intro E H0 K hE hK hO;cbv;refine D4 hE ?_;cbv;obtain ⟨s2, hx, h⟩ := bind_some h;refine F6 cf0 hE H6 (fun s1 => [(0, .v (sr eYq aA)), (1, .v (aU)), fi 7 (Ar.len aA), fi 8 s1]) (fun s1 H1 => B3 Eq H0 [] H1) (fun x e l H1 => match (generalizing := false) x with | .inl y => e = .exit 0 ∧ l = [] ∧ B3 Eq H0 [] H1 | .inr y => e = .ret ∧ l = [fi 4 y] ∧ B3 Eq H0 [] H1) (by kernel_rfl) ?_ hx ?_ hO ?_
 ·intro s1 H o hO h;clear hx;cbv;refine A6 hE h (fun _ h => ?_) fun _ h => ?_
  ·cbv;refine C2 hE eYC h fun x3 h => ?_;cbv;refine As hE (g := fun r4 => .bool r4) h (fun r4 hx => aY x3 r4 hx) (.refl _) fun r4 h => ?_;cbv;refine A6 hE h (fun _ h => ?_) fun _ h => ?_
   ·cbv;cases h;exact ⟨_, _, rfl, ⟨rfl, rfl, hO⟩, .e rfl .z, rfl⟩
   cbv;cases h;exact ⟨_, rfl, .e4 .z, rfl, hO⟩
  cbv;cases h;exact ⟨_, _, rfl, ⟨rfl, rfl, hO⟩, .z, rfl⟩
 ·exact .e4 .z
 clear hx
 rcases s2 with y5 | y6
 ·rintro e l H ⟨rfl, rfl, hO⟩;cbv;cases h;exact hK hO (.refl _)
 rintro e l H ⟨rfl, rfl, hO⟩;cbv;cases h;exact hK hO (.refl _)
theorem c66 (N : Nat) (aA : List A3) (aU : V) (aL : A3 → Option Bool) (aY : ∀ y1 q, aL y1 = some q → Q6 prog aU [(F2 y1)] (.bool q)) (r : Bool) (h : G5 N aA aL = some r) : B5 prog 66 [sr eYq aA, aU] (.bool r) := by
 unfold G5 at h
 refine K2 cf0 func66 call66 ntmps66 ?_;intro E H0 K hE hK hO;cbv;refine A7 hE h (c116 N aA aU aL aY) (.refl _) fun r1 h => ?_;cbv;cases h;exact hK hO (.refl _)
def cf67 : Cf := ⟨[], [(2, 14)], [], [], [], []⟩
theorem c67 (N aA aF aO r) (h : Au N aA aF aO = some r) : B5 prog 67 [(F2 aA), .eref [sr eYf aF] 0, .eref [sr eYq aO] 0] (.bool r) := by
 unfold Au at h
 refine K2 cf67 func67 call67 ntmps67 ?_;intro E H0 K hE hK hO;cbv;refine A7 hE h (c12 N aA aF) (.refl _) fun r1 h => ?_;cbv;refine M9 hE (g := fun r2 => .bool r2) h (c9 N aA) (.refl _) fun r2 h => ?_;cbv;refine A6 hE h (fun _ h => ?_) fun _ h => ?_
 ·cbv;cases h;exact hK hO (.refl _)
 cbv;refine C2 hE eYC h fun x3 h => ?_;cbv;cases h;exact hK hO (.refl _)
theorem c22 (N aX aG r) (h : Dg N aX aG = some r) : B5 prog 22 [sr eYf aX, sr eYq aG] (.bool r) := by
 unfold Dg at h
 refine K2 cf0 func22 call22 ntmps22 ?_;intro E H0 K hE hK hO;cbv;refine D4 hE ?_;cbv;refine A6 hE h (fun _ h => ?_) fun _ h => ?_
 ·cbv;cases h;exact hK hO (.refl _)
 cbv;refine A7 hE (g := fun r1 => .bool r1) h (fun r1 hx => c66 N aG (.func (.func 67) [] [.eref [sr eYf aX] 0, .eref [sr eYq aG] 0]) (fun y1 => Au N y1 aX aG) (fun y1 r hx => B5.value (F := []) (C := [.eref [sr eYf aX] 0, .eref [sr eYq aG] 0]) (c67 N y1 aX aG r hx)) r1 hx) (.refl _) fun r1 h => ?_;cbv;cases h;exact hK hO (.refl _)
def cf68 : Cf := ⟨[4], [(5, 4)], [], [], [], []⟩
theorem c68 (N aA r) (h : N6 N aA = some r) : NC prog 68 [(F2 aA)] (.int .i64) (V.int .i64) V.bool r := by
 unfold N6 at h
 refine KQ (T := TT) cf68 H6 func68 (by rfl) (by kernel_rfl) call68 ntmps68 (by rfl) (by rfl) ?_;intro E H0 K hE hK;have hO : B3 Eq H0 [] H0 := .start B7 rfl;cbv;refine Hr hE (.int .i64) (V.int .i64) V.bool hO fun m1 o2 H ho2 hO => ?_;cbv;refine Ct hE (kt := 3) (et := 4) (by kernel_rfl) (by kernel_rfl) (L1 .i64) Bd hO ho2 0 rfl h fun l4 o3 H ho3 h hO => ?_;cbv;refine D1 hE hO fun b5 H hO => ?_;cbv;refine A8 hE hO 0 rfl rfl fun H hO => ?_;cbv;replace hO := hO.cast (L' := (cb b5 [.sl (Ar.lst (V.int .i64) ([0])) .full] :: .blk m1 (.obj o3) :: BR [])) (by rw [show ([vi 0] : List V) = Ar.lst (V.int .i64) ([0]) from C5 rfl B4]; rfl);replace hO := hO.tl0 (t := .full) rfl;obtain ⟨s12, hx, h⟩ := bind_some h;refine Kj cf68 hE H6 (γ := D8 × Nat × Obj) (fun s7 g => [(1, .v (.eref (B9 aA) 0)), (2, .v (.nilmap)), (3, .v (.eref [.map m1] 0)), (4, .v (.ref g.2.1 0))]) (fun s7 g ds11 H1 => (s7.1 ≠ [] → O8 g.1) ∧ True ∧ Cr (.int .i64) (V.int .i64) V.bool g.2.2 s7.2 ∧ B3 Eq H0 (.tl g.1 :: .blk g.2.1 (.cells [.sl (Ar.lst (V.int .i64) s7.1) g.1]) :: .blk m1 (.obj g.2.2) :: BR ds11) H1) (fun x e l ds11 H1 => ∃ u1 : D8, True ∧ ∃ u2 : Nat, True ∧ ∃ u3 : Obj, Cr (.int .i64) (V.int .i64) V.bool u3 x.2 ∧ e = .exit 0 ∧ l = [(3, .v (.eref [.map m1] 0))] ∧ B3 Eq H0 (.tl u1 :: cb u2 [.sl (Ar.lst (V.int .i64) x.1) u1] :: .blk m1 (.obj u3) :: BR ds11) H1) (by kernel_rfl) ?_ (⟨.full, b5, o3⟩) hx ?_ ?_ ?_
 ·rintro s7 ⟨t8, b9, q10⟩ ds11 H o ⟨ht8, hb9, hq10, hO⟩ h;clear hx;cbv;refine B1 hE hO 1 rfl ?_;cbv;refine D4 hE ?_;cbv;refine A6 hE h (fun hc h => ?_) (fun hc h => ?_)
  ·have ht8 : O8 t8 := ht8 (by have hc : Ar.k .gtr (Ar.len s7.1) 0 = true := hc; intro e; rw [e, Ar.cmp_eq, Ar.len_eq] at hc; simp [Dn] at hc);cbv;refine B1 hE hO 1 rfl ?_;cbv;refine C2 hE (fun _ => rfl) h fun x13 h => ?_;cbv;refine R5 hE h (c41 N aA x13) (.refl _) fun r14 v15 hv15 h => ?_;cbv;obtain ⟨o22, hx, h⟩ := bind_some h;refine AU cf68 hE H6 (ι := Unit) (enc := fun (x : C9) => [(Bk x)]) (fun (s17 : (List Int) × (List (Int × Bool))) F H => ∃ g : D8 × Obj, (O8 g.1 ∧ Cr (.int .i64) (V.int .i64) V.bool g.2 s17.2) ∧ B3 Eq F (.tl g.1 :: cb b9 [.sl (Ar.lst (V.int .i64) s17.1) g.1] :: .blk m1 (.obj g.2) :: BR ds11) H) (fun (r : Unit) e F H => False) (fun i s17 y16 => [(3, .v (.eref [.map m1] 0)), (4, .v (.ref b9 0)), (5, .v (.eref (KT y16) 0))]) (fun i s17 y16 F H => ∃ g : D8 × Obj, (O8 g.1 ∧ Cr (.int .i64) (V.int .i64) V.bool g.2 s17.2) ∧ B3 Eq F (.tl g.1 :: cb b9 [.sl (Ar.lst (V.int .i64) s17.1) g.1] :: .blk m1 (.obj g.2) :: BR ds11) H) (fun _ => C7.ex fun _ => B3.stable B7 _) (fun _ _ => ⟨fun h => h.elim, fun _ _ h => h.elim⟩) (fun _ _ _ => C7.ex fun _ => B3.stable B7 _) hv15 hx (⟨⟨t8, q10⟩, ⟨ht8, hq10⟩, hO⟩) (by decide) (fun _ => rfl) (by kernel_rfl) (by kernel_rfl) ?_ ?_ ?_ ?_
   ·rintro E i19 y16 s17 F18 H hE ⟨⟨t20, q21⟩, ⟨ht20, hq21⟩, hO⟩;clear hx h;cbv;exact ⟨(), ⟨⟨t20, q21⟩, ⟨ht20, hq21⟩, hO⟩, .e rfl (.e2 .z), rfl⟩
   ·rintro E i19 _ y16 s17 F18 H o hE hF h ⟨⟨t20, q21⟩, ⟨ht20, hq21⟩, hO⟩;clear hx;cbv;refine Fs hE (kt := 3) (et := 4) (by kernel_rfl) (by kernel_rfl) (L1 .i64) (false : Bool) (by kernel_rfl) rfl hO hq21 2 rfl h fun r23 h => ?_;cbv;refine A6 hE h (fun hc h => ?_) (fun hc h => ?_)
    ·cbv;refine A7 hE h (c70 N y16.On) (.refl _) fun r24 h => ?_;cbv;refine A6 hE h (fun hc h => ?_) (fun hc h => ?_)
     ·cbv;refine Ct hE (kt := 3) (et := 4) (by kernel_rfl) (by kernel_rfl) (L1 .i64) Bd hO hq21 2 rfl h fun l26 o25 H ho25 h hO => ?_;cbv;refine B1 hE hO 1 rfl ?_;cbv;refine V7 (f := (V.int .i64)) hE (fun _ => rfl) (by decide) hO 0 rfl ht20 (l := s17.1) (m := [y16.To]) (.refl _) (.lstc (.refl _) (.lst0)) h fun l28 t27 H hO ht27 h => ?_;cbv;refine A8 hE hO 1 rfl rfl fun H hO => ?_;cbv;cases h;exact ⟨_, rfl, ⟨⟨t27, o25⟩, ⟨ht27, ho25⟩, hO⟩⟩
     cbv;cases h;exact ⟨_, rfl, ⟨⟨t20, q21⟩, ⟨ht20, hq21⟩, hO⟩⟩
    cbv;cases h;exact ⟨_, rfl, ⟨⟨t20, q21⟩, ⟨ht20, hq21⟩, hO⟩⟩
   ·rintro d29 s33 H rfl hd ⟨⟨t34, q35⟩, ⟨ht34, hq35⟩, hO⟩;have hO : B3 Eq H0 (.tl t34 :: cb b9 [.sl (Ar.lst (V.int .i64) s33.1) t34] :: .blk m1 (.obj q35) :: BR (d29 :: ds11)) H := B3.dbs1 (A := [_, _, _]) (ds := ds11) (B3.dblk hd hO);clear hd;clear hx;cbv;refine B1 hE hO 1 rfl ?_;cbv;refine D1 hE hO fun b36 H hO => ?_;cbv;refine A8 hE hO 0 rfl rfl fun H hO => ?_;cbv;refine B1 hE hO 0 rfl ?_;cbv;refine TJ hE (f := (V.int .i64)) (fun _ => rfl) h fun l37 t38 ht38 h => ?_;cbv;refine A8 hE hO 0 rfl rfl fun H hO => ?_;cbv;have hO : B3 Eq H0 (cb b9 [.sl (Ar.lst (V.int .i64) s33.1) t34] :: .tl t34 :: cb b36 [.sl (Ar.lst (V.int .i64) l37) t38] :: .blk m1 (.obj q35) :: BR (d29 :: ds11)) H := hO.swp 0 2 rfl rfl;cases h;replace hO := hO.tail
    rcases ht38 with rfl | ⟨rfl, rfl⟩
    ·exact ⟨_, ⟨_, b36, q35⟩, _, rfl, .e4 .z, rfl, fun _ => ht34, trivial, hq35, hO⟩
    exact ⟨_, ⟨.ro, b36, q35⟩, _, rfl, .e4 .z, rfl, fun e => (e rfl).elim, trivial, hq35, hO.tail.tl0 (t := .ro) rfl⟩
   rintro d r e H rfl hd hO;exact hO.elim
  cbv;cases h;exact ⟨_, _, _, rfl, ⟨t8, trivial, b9, trivial, q10, hq10, rfl, rfl, hO⟩, .e rfl .z, rfl⟩
 ·exact .e4 .z
 ·exact ⟨fun _ => trivial, trivial, ho3, hO⟩
 clear hx;rintro e l ds11 H ⟨t39, ht39, b40, hb40, q41, hq41, rfl, rfl, hO⟩;cbv
 rcases ds11 with _ | ⟨d0, ds11⟩
 ·cbv;have hO : B3 _ _ [.tl t39, cb b40 [.sl (Ar.lst (V.int .i64) s12.1) t39], .blk m1 (.obj q41)] H := hO;cases h;exact hK _ _ _ 2 _ hq41 rfl hO
 cbv;refine GK (A := [_, _, _]) (ds := d0 :: ds11) hE hO fun H hO => ?_;cbv;cases h;exact hK _ _ _ 2 _ hq41 rfl hO
theorem c69 (N aN aF aO r) (h : J3 N aN aF aO = some r) (mx1 : Nat) (ox1 : Obj) (hox1 : Cr (.int .i64) (V.int .i64) (V.int .i64) ox1 aF) (mx2 : Nat) (ox2 : Obj) (hox2 : Cr (.int .i64) (V.int .i64) V.bool ox2 aO) : NB prog 69 [vi aN, .eref [.map mx1] 0, .eref [.map mx2] 0] [(mx1, .obj ox1), (mx2, .obj ox2)] (.bool r) := by
 unfold J3 at h
 refine KM (T := TT) cf0 H6 func69 (by rfl) (by kernel_rfl) call69 ntmps69 (by rfl) (by rfl) ?_;intro E H0 K hE hO hK;have hO : B3 Eq (Dp H0 [(mx1, .obj ox1), (mx2, .obj ox2)]) [.blk mx1 (.obj ox1), .blk mx2 (.obj ox2)] H0 := hO;cbv;refine Jp hE (kt := 3) (et := 3) (by kernel_rfl) (by kernel_rfl) (L1 .i64) (0 : Int) (by kernel_rfl) rfl hO hox1 0 rfl h fun r1 h => ?_;cbv;refine A6 hE h (fun _ h => ?_) fun _ h => ?_
 ·cbv;refine Fs hE (kt := 3) (et := 4) (by kernel_rfl) (by kernel_rfl) (L1 .i64) (false : Bool) (by kernel_rfl) rfl hO hox2 1 rfl h fun r2 h => ?_;cbv;cases h;exact hK _ _ (hO) (.refl _)
 cbv;cases h;exact hK _ _ (hO) (.refl _)
def cf23 : Cf := ⟨[2, 9], [(19, 15), (3000004, 0), (3000004, 2)], [], [2000004], [(24, 6), (24, 5)], []⟩
set_option maxHeartbeats 2000000 in
theorem c23 (N aA r) (h : AJ N aA = some r) : B5 prog 23 [(F2 aA)] (.tup [(F2 r.1), vi r.2]) := by
 unfold AJ at h
 refine K2 cf23 func23 call23 ntmps23 ?_;intro E H0 K hE hK hO;cbv;refine D1 hE hO fun b1 H hO => ?_;cbv;refine A7 hE h (c13 N aA) (.refl _) fun r2 h => ?_;cbv;refine A6 hE h (fun _ h => ?_) fun _ h => ?_
 ·cbv;refine A8 hE hO 0 rfl rfl fun H hO => ?_;cbv;refine B1 hE hO 0 rfl ?_;cbv;cases h;exact hK hO (.tup (.cons (.agg (.cons (.refl _) (.cons (.lit _ (B4)) (.cons (.lit _ (B4)) (.refl _))))) (.refl _)))
 cbv;obtain ⟨s3, hx, h⟩ := bind_some h;refine K5 cf23 hE H6 (fun e l H1 => ∃ u1 : Nat, True ∧ ∃ u2 : Obj, Cr (.int .i64) (V.int .i64) (V.int .i64) u2 s3.1 ∧ ∃ u3 : Nat, True ∧ ∃ u4 : Nat, True ∧ ∃ u5 : Obj, Cr (.int .i64) (V.int .i64) V.bool u5 s3.2 ∧ ∃ u6 : Nat, True ∧ e = .normal ∧ l = [(1, .v (.eref (B9 aA) 0)), (2, .v (.ref b1 0)), (5, .v (.ref u4 0)), (6, .v (.ref u1 0))] ∧ B3 Eq H0 [cb u1 [.map u3], .blk u3 (.obj u2), cb u4 [.map u6], .blk u6 (.obj u5), cb b1 [vi 0, .sl [] .nil, .sl [] .nil]] H1) (by kernel_rfl) ?_ ?_
 ·clear h;have h := hx;clear hx;cbv
  repeat' first | refine And.intro ?_ ?_ | (refine Kk hE h (c68 N aA) (.refl _) hO fun l44 m45 o46 H ho46 hO h => ?_; cbv) | (refine Kk hE h (c60 N aA) (.refl _) hO fun l124 m125 o126 H ho126 hO h => ?_; cbv) | (refine D1 hE hO fun b164 H hO => ?_; cbv) | (refine A8 hE hO 1 rfl rfl fun H hO => ?_; cbv) | (refine A8 hE hO 0 rfl rfl fun H hO => ?_; cbv) | (refine A8 hE hO 2 rfl rfl fun H hO => ?_; cbv) | (refine A8 hE hO 3 rfl rfl fun H hO => ?_; cbv) | (have h := N2 h; subst h; first | exact ⟨_, ⟨_, trivial, _, ho126, _, trivial, _, trivial, _, ho46, _, trivial, rfl, rfl, hO.swp 2 1 rfl rfl⟩, .e4 .z, rfl⟩ | exact ⟨_, ⟨_, trivial, _, ho126, _, trivial, _, trivial, _, ho46, _, trivial, rfl, rfl, (hO.swp 1 0 rfl rfl).swp 2 1 rfl rfl⟩, .e4 .z, rfl⟩ | exact ⟨_, ⟨_, trivial, _, ho126, _, trivial, _, trivial, _, ho46, _, trivial, rfl, rfl, hO⟩, .e4 .z, rfl⟩ | exact ⟨_, ⟨_, trivial, _, ho126, _, trivial, _, trivial, _, ho46, _, trivial, rfl, rfl, hO.swp 1 0 rfl rfl⟩, .e4 .z, rfl⟩ | exact ⟨_, ⟨_, trivial, _, ho126, _, trivial, _, trivial, _, ho46, _, trivial, rfl, rfl, hO.swp 2 0 rfl rfl⟩, .e4 .z, rfl⟩ | exact ⟨_, ⟨_, trivial, _, ho126, _, trivial, _, trivial, _, ho46, _, trivial, rfl, rfl, (hO.swp 2 0 rfl rfl).swp 2 1 rfl rfl⟩, .e4 .z, rfl⟩ | exact ⟨_, ⟨_, trivial, _, ho126, _, trivial, _, trivial, _, ho46, _, trivial, rfl, rfl, hO.swp 3 2 rfl rfl⟩, .e4 .z, rfl⟩ | exact ⟨_, ⟨_, trivial, _, ho126, _, trivial, _, trivial, _, ho46, _, trivial, rfl, rfl, (hO.swp 1 0 rfl rfl).swp 3 2 rfl rfl⟩, .e4 .z, rfl⟩ | exact ⟨_, ⟨_, trivial, _, ho126, _, trivial, _, trivial, _, ho46, _, trivial, rfl, rfl, ((hO.swp 2 0 rfl rfl).swp 2 1 rfl rfl).swp 3 2 rfl rfl⟩, .e4 .z, rfl⟩ | exact ⟨_, ⟨_, trivial, _, ho126, _, trivial, _, trivial, _, ho46, _, trivial, rfl, rfl, (hO.swp 3 0 rfl rfl).swp 3 2 rfl rfl⟩, .e4 .z, rfl⟩ | exact ⟨_, ⟨_, trivial, _, ho126, _, trivial, _, trivial, _, ho46, _, trivial, rfl, rfl, ((hO.swp 3 0 rfl rfl).swp 3 1 rfl rfl).swp 3 2 rfl rfl⟩, .e4 .z, rfl⟩ | exact ⟨_, ⟨_, trivial, _, ho126, _, trivial, _, trivial, _, ho46, _, trivial, rfl, rfl, (hO.swp 3 0 rfl rfl).swp 3 1 rfl rfl⟩, .e4 .z, rfl⟩)
 clear hx;rintro e l H ⟨b364, hb364, q365, hq365, m366, hm366, b367, hb367, q368, hq368, m369, hm369, rfl, rfl, hO⟩;cbv;refine TM hE hO 0 rfl fun H hO => ?_;cbv;refine TM hE hO 1 rfl fun H hO => ?_;cbv;refine Hr hE (.int .i64) (V.int .i64) (V.int .i64) hO fun m370 o371 H ho371 hO => ?_;cbv;refine D1 hE hO fun b372 H hO => ?_;cbv;refine A8 hE hO 0 rfl rfl fun H hO => ?_;cbv;refine D4 hE ?_;cbv;replace hO := hO.cast (L' := [cb b372 [vi aA.cS, .sl (Ar.lst V.bool ([])) .nil, .sl [] .nil], .blk m370 (.obj o371), .blk m366 (.obj q365), .blk m369 (.obj q368), cb b1 [vi 0, .sl [] .nil, .sl [] .nil]]) (by simp only [ob, cb, sr, ← B4] <;> rfl);replace hO := hO.tl0 (t := .nil) rfl;obtain ⟨s376, hx, h⟩ := bind_some h;refine K1 cf23 hE H6 (γ := D8 × Obj) (fun s373 g => [(1, .v (.eref (B9 aA) 0)), (2, .v (.ref b1 0)), (7, .v (.func (.func 69) [] [.eref [.map m366] 0, .eref [.map m369] 0])), (8, .v (.map m370)), (9, .v (.ref b372 0)), (30, .v (sr V.bool aA.cM)), fi 31 (Ar.len aA.cM), fi 32 s373.1]) (fun s373 g H1 => O8 g.1 ∧ Cr (.int .i64) (V.int .i64) (V.int .i64) g.2 s373.2.2 ∧ B3 Eq H0 [.tl g.1, cb b372 [vi s373.2.1.cS, .sl (Ar.lst V.bool s373.2.1.cM) g.1, .sl [] .nil], .blk m370 (.obj g.2), .blk m366 (.obj q365), .blk m369 (.obj q368), cb b1 [vi 0, .sl [] .nil, .sl [] .nil]] H1) (fun x e l H1 => ∃ u1 : D8, O8 u1 ∧ ∃ u2 : Obj, Cr (.int .i64) (V.int .i64) (V.int .i64) u2 x.2 ∧ e = .exit 0 ∧ l = [(1, .v (.eref (B9 aA) 0)), (2, .v (.ref b1 0)), (7, .v (.func (.func 69) [] [.eref [.map m366] 0, .eref [.map m369] 0])), (8, .v (.map m370)), (9, .v (.ref b372 0))] ∧ B3 Eq H0 [.tl u1, cb b372 [vi x.1.cS, .sl (Ar.lst V.bool x.1.cM) u1, .sl [] .nil], .blk m370 (.obj u2), .blk m366 (.obj q365), .blk m369 (.obj q368), cb b1 [vi 0, .sl [] .nil, .sl [] .nil]] H1) (by kernel_rfl) ?_ (⟨.nil, o371⟩) hx ?_ ?_ ?_
 ·rintro s373 ⟨t374, q375⟩ H o ⟨ht374, hq375, hO⟩ h;clear hx;cbv;refine A6 hE h (fun _ h => ?_) fun _ h => ?_
  ·cbv;refine C2 hE (fun _ => rfl) h fun x377 h => ?_;cbv;refine A6 hE h (fun _ h => ?_) fun _ h => ?_
   ·cbv;refine B1 hE hO 1 rfl ?_;cbv;refine D4 hE ?_;cbv;refine Ct hE (kt := 3) (et := 3) (by kernel_rfl) (by kernel_rfl) (L1 .i64) (Ht .i64) hO hq375 2 rfl h fun l379 o378 H ho378 h hO => ?_;cbv;refine B1 hE hO 1 rfl ?_;cbv;refine V7 (f := V.bool) hE (fun _ => rfl) (by decide) hO 0 rfl ht374 (l := s373.2.1.cM) (m := [x377]) (.refl _) (.lstc (.refl _) (.lst0)) h fun l381 t380 H hO ht380 h => ?_;cbv;refine A8 hE hO 1 rfl rfl fun H hO => ?_;cbv;cases h;exact ⟨_, ⟨t380, o378⟩, rfl, .e4 (.e4 .z), rfl, ht380, ho378, hO⟩
   cbv;refine Ft hE (F0 := []) (C0 := [.eref [.map m366] 0, .eref [.map m369] 0]) (args' := [vi s373.1]) (g := fun r382 => .bool r382) h (fun r382 hx => c69 N s373.1 s3.1 s3.2 r382 hx m366 q365 hq365 m369 q368 hq368) (.refl _) (KX (XG (hO.ne 3 4 rfl rfl (by decide)) (XH)) (KY _)) (UM (hO.get 3 rfl) (UM (hO.get 4 rfl) (XU))) fun r382 h => ?_;cbv;refine A6 hE h (fun _ h => ?_) fun _ h => ?_
   ·cbv;refine B1 hE hO 1 rfl ?_;cbv;refine D4 hE ?_;cbv;refine Ct hE (kt := 3) (et := 3) (by kernel_rfl) (by kernel_rfl) (L1 .i64) (Ht .i64) hO hq375 2 rfl h fun l384 o383 H ho383 h hO => ?_;cbv;refine B1 hE hO 1 rfl ?_;cbv;refine V7 (f := V.bool) hE (fun _ => rfl) (by decide) hO 0 rfl ht374 (l := s373.2.1.cM) (m := [x377]) (.refl _) (.lstc (.refl _) (.lst0)) h fun l386 t385 H hO ht385 h => ?_;cbv;refine A8 hE hO 1 rfl rfl fun H hO => ?_;cbv;cases h;exact ⟨_, ⟨t385, o383⟩, rfl, .e4 (.e4 .z), rfl, ht385, ho383, hO⟩
   cbv;cases h;exact ⟨_, ⟨t374, q375⟩, rfl, .e4 (.e4 .z), rfl, ht374, hq375, hO⟩
  cbv;cases h;exact ⟨_, _, rfl, ⟨t374, ht374, q375, hq375, rfl, rfl, hO⟩, .e rfl (.e4 .z), rfl⟩
 ·exact .e4 (.e4 .z)
 ·exact ⟨trivial, ho371, hO⟩
 clear hx;rintro e l H ⟨t387, ht387, q388, hq388, rfl, rfl, hO⟩;cbv;refine D4 hE ?_;cbv;replace hO := hO.cast (L' := [.tl t387, cb b372 [vi s376.1.cS, .sl (Ar.lst V.bool s376.1.cM) t387, .sl (Ar.lst eYk ([])) .nil], .blk m370 (.obj q388), .blk m366 (.obj q365), .blk m369 (.obj q368), cb b1 [vi 0, .sl [] .nil, .sl [] .nil]]) (by simp only [ob, cb, sr, ← B4] <;> rfl);replace hO := hO.tl0 (t := .nil) rfl;obtain ⟨s391, hx, h⟩ := bind_some h;refine K1 cf23 hE H6 (γ := D8) (fun s389 g => [(2, .v (.ref b1 0)), (7, .v (.func (.func 69) [] [.eref [.map m366] 0, .eref [.map m369] 0])), (8, .v (.map m370)), (9, .v (.ref b372 0)), (57, .v (sr eYk aA.cO)), fi 58 (Ar.len aA.cO), fi 59 s389.1]) (fun s389 g H1 => O8 g ∧ B3 Eq H0 [.tl g, .tl t387, cb b372 [vi s389.2.cS, .sl (Ar.lst V.bool s376.1.cM) t387, .sl (Ar.lst eYk s389.2.cO) g], .blk m370 (.obj q388), .blk m366 (.obj q365), .blk m369 (.obj q368), cb b1 [vi 0, .sl [] .nil, .sl [] .nil]] H1) (fun x e l H1 => ∃ u1 : D8, O8 u1 ∧ e = .exit 2 ∧ l = [(2, .v (.ref b1 0)), (9, .v (.ref b372 0))] ∧ B3 Eq H0 [.tl u1, .tl t387, cb b372 [vi x.cS, .sl (Ar.lst V.bool s376.1.cM) t387, .sl (Ar.lst eYk x.cO) u1], .blk m370 (.obj q388), .blk m366 (.obj q365), .blk m369 (.obj q368), cb b1 [vi 0, .sl [] .nil, .sl [] .nil]] H1) (by kernel_rfl) ?_ .nil hx ?_ ?_ ?_
 ·rintro s389 t390 H o ⟨ht390, hO⟩ h;clear hx;cbv;refine A6 hE h (fun _ h => ?_) fun _ h => ?_
  ·cbv;refine C2 hE eYl h fun x392 h => ?_;cbv;refine Ft hE (F0 := []) (C0 := [.eref [.map m366] 0, .eref [.map m369] 0]) (args' := [vi x392.cQ]) (g := fun r393 => .bool r393) h (fun r393 hx => c69 N x392.cQ s3.1 s3.2 r393 hx m366 q365 hq365 m369 q368 hq368) (.refl _) (KX (XG (hO.ne 4 5 rfl rfl (by decide)) (XH)) (KY _)) (UM (hO.get 4 rfl) (UM (hO.get 5 rfl) (XU))) fun r393 h => ?_;cbv;refine A6 hE h (fun _ h => ?_) fun _ h => ?_
   ·cbv;refine Ft hE (F0 := []) (C0 := [.eref [.map m366] 0, .eref [.map m369] 0]) (args' := [vi x392.To]) (g := fun r394 => .bool r394) h (fun r394 hx => c69 N x392.To s3.1 s3.2 r394 hx m366 q365 hq365 m369 q368 hq368) (.refl _) (KX (XG (hO.ne 4 5 rfl rfl (by decide)) (XH)) (KY _)) (UM (hO.get 4 rfl) (UM (hO.get 5 rfl) (XU))) fun r394 h => ?_;cbv;refine A6 hE h (fun _ h => ?_) fun _ h => ?_
    ·cbv;refine A7 hE h (c70 N x392.On) (.refl _) fun r395 h => ?_;cbv;refine A6 hE h (fun _ h => ?_) fun _ h => ?_
     ·cbv;refine B1 hE hO 2 rfl ?_;cbv;refine Fs hE (kt := 3) (et := 3) (by kernel_rfl) (by kernel_rfl) (L1 .i64) (0 : Int) (by kernel_rfl) rfl hO hq388 3 rfl h fun r396 h => ?_;cbv;refine Fs hE (kt := 3) (et := 3) (by kernel_rfl) (by kernel_rfl) (L1 .i64) (0 : Int) (by kernel_rfl) rfl hO hq388 3 rfl h fun r397 h => ?_;cbv;refine M9 hE (g := fun r398 => (E5 r398)) h (c71 N x392.On) (.refl _) fun r398 h => ?_;cbv;refine V7 (f := eYk) hE Hh (by decide) hO 0 rfl ht390 (l := s389.2.cO) (m := [(⟨r396.1, r397.1, r398⟩ : C9)]) (.refl _) (.lstc (.eq (eYl (⟨r396.1, r397.1, r398⟩ : C9)) (.refl _)) (.lst0)) h fun l400 t399 H hO ht399 h => ?_;cbv;refine A8 hE hO 2 rfl rfl fun H hO => ?_;cbv;cases h;exact ⟨_, t399, rfl, .e rfl (.e2 (.e4 .z)), rfl, ht399, hO⟩
     cbv;cases h;exact ⟨_, t390, rfl, .e rfl (.e2 (.e4 .z)), rfl, ht390, hO⟩
    cbv;cases h;exact ⟨_, t390, rfl, .e rfl (.e2 (.e4 .z)), rfl, ht390, hO⟩
   cbv;cases h;exact ⟨_, t390, rfl, .e rfl (.e2 (.e4 .z)), rfl, ht390, hO⟩
  cbv;cases h;exact ⟨_, _, rfl, ⟨t390, ht390, rfl, rfl, hO⟩, .e2 .z, rfl⟩
 ·exact .e rfl (.e2 (.e4 .z))
 ·exact ⟨trivial, hO⟩
 clear hx;rintro e l H ⟨t401, ht401, rfl, rfl, hO⟩;cbv;refine B1 hE hO 2 rfl ?_;cbv;refine A8 hE hO 6 rfl rfl fun H hO => ?_;cbv;refine B1 hE hO 6 rfl ?_;cbv;cases h;exact hK hO (.tup (.cons (.agg (.cons (.refl _) (.cons (.ro _ _) (.cons (.ro _ _) (.refl _))))) (.refl _)))
theorem c24 (N aA aX r) (h : R6 N aA aX = some r) : B5 prog 24 [(F2 aA), sr eYf aX] (.bool r) := by
 unfold R6 at h
 refine K2 cf0 func24 call24 ntmps24 ?_;intro E H0 K hE hK hO;cbv;refine A7 hE h (c11 N aA aX) (.refl _) fun r1 h => ?_;cbv;cases h;exact hK hO (.refl _)
theorem c6 (N aA aX r) (h : Q1 N aA aX = some r) : B5 prog 6 [(F2 aA), sr eYf aX] (.bool r) := by
 unfold Q1 at h
 refine K2 cf0 func6 call6 ntmps6 ?_;intro E H0 K hE hK hO;cbv;refine A7 hE h (c22 N aX ([aA])) (.cons (.refl _) (.cons (.lit _ (C5 ((eYC aA).symm) (B4))) (.refl _))) fun r1 h => ?_;cbv;refine A6 hE h (fun _ h => ?_) fun _ h => ?_
 ·cbv;refine A7 hE h (c10 N ) (.refl _) fun r2 h => ?_;cbv;cases h;exact hK hO (.refl _)
 cbv;refine A7 hE h (c19 N aA) (.refl _) fun r3 h => ?_;cbv;refine A7 hE h (c23 N aA) (.refl _) fun r4 h => ?_;cbv;refine D4 hE ?_;cbv;refine D4 hE ?_;cbv;refine D4 hE ?_;cbv;refine A6 hE h (fun _ h => ?_) fun _ h => ?_
 ·cbv;cases h;exact hK hO (.refl _)
 cbv;refine A7 hE h (c24 N aA aX) (.refl _) fun r5 h => ?_;cbv;refine A6 hE h (fun _ h => ?_) fun _ h => ?_
 ·cbv;refine A6 hE h (fun _ h => ?_) fun _ h => ?_
  ·cbv;refine A7 hE h (c10 N ) (.refl _) fun r6 h => ?_;cbv;cases h;exact hK hO (.refl _)
  cbv;cases h;exact hK hO (.refl _)
 cbv;refine A7 hE h (c24 N aA r3.2.1) (.refl _) fun r7 h => ?_;cbv;refine D4 hE ?_;cbv;refine D4 hE ?_;cbv;refine A6 hE h (fun _ h => ?_) fun _ h => ?_
 ·cbv;refine A7 hE h (c10 N ) (.refl _) fun r8 h => ?_;cbv;cases h;exact hK hO (.refl _)
 cbv;cases h;exact hK hO (.refl _)
end Go.Ab
namespace Go.Ab
open Go.RowKit Go.ChangeShapes Go.WideShapes
variable [H5]
def g0 (W : World) : Gh := ⟨fun _ => none, fun _ => ⟨0, 0, 0⟩, fun _ => none, fun b o => ∃ v, W.cell? ⟨b, o, none⟩ = some v, 0, W.heap.size⟩
theorem rl0 {W : World} (hg : ∀ n, VR (g0 W) W (.pointer (some ⟨n, 0, none⟩)) (H5.gl n)) : Rl (g0 W) (fun _ => none) W :=
 ⟨fun id b h => (by cases h), fun id id' b h => (by simp [Gh.at] at h), fun b o h => h, fun id _ => ⟨rfl, rfl, rfl⟩, Nat.le_refl _, hg⟩
def Dq (g : Gh) (w : World) (cs : List Value) (xs : List V) : Prop :=
 cs.length = xs.length ∧ ∀ i, i < xs.length → (cs.getD i undef).oneCell' = true ∧ VR g w (cs.getD i undef) (xs.getD i .bad)
theorem Dq.nil (g : Gh) (w : World) : Dq g w [] [] := ⟨rfl, fun i hi => by simp at hi⟩
theorem Dq.one {g : Gh} {w : World} {v : Value} {x : V} (h1 : v.oneCell' = true) (h : VR g w v x) : Dq g w [v] [x] := by
 refine ⟨rfl, fun i hi => ?_⟩
 have : i = 0 := by simpa using hi
 subst this;exact ⟨h1, h⟩
theorem Dq.append {g : Gh} {w : World} {cs ds : List Value} {xs ys : List V} (h : Dq g w cs xs) (k : Dq g w ds ys) : Dq g w (cs ++ ds) (xs ++ ys) := by
 refine ⟨by simp [h.1, k.1], fun i hi => ?_⟩;have hl := h.1
 simp only [List.length_append] at hi
 by_cases hx : i < xs.length
 ·have e1 : (cs ++ ds).getD i undef = cs.getD i undef := by simp [List.getD, List.getElem?_append_left (show i < cs.length by omega)]
  have e2 : (xs ++ ys).getD i .bad = xs.getD i .bad := by simp [List.getD, List.getElem?_append_left hx]
  rw [e1, e2]; exact h.2 i hx
 have e1 : (cs ++ ds).getD i undef = ds.getD (i - xs.length) undef := by simp [List.getD, List.getElem?_append_right (show cs.length ≤ i by omega), hl]
 have e2 : (xs ++ ys).getD i .bad = ys.getD (i - xs.length) .bad := by simp [List.getD, List.getElem?_append_right (show xs.length ≤ i by omega)]
 rw [e1, e2]; exact k.2 _ (by omega)
theorem Dq.join {g : Gh} {w : World} {cs : List Value} {xs ys : List V} {a n m : Nat} (h : Dq g w ((cs.drop a).take n) xs) (k : Dq g w ((cs.drop (a + n)).take m) ys) : Dq g w ((cs.drop a).take (n + m)) (xs ++ ys) := by
 have := h.append k
 rwa [show (cs.drop (a + n)) = (cs.drop a).drop n by rw [List.drop_drop], ← List.take_add] at this
theorem Dq.agg {g : Gh} {w : World} {cs : Array Value} {xs : List V} (h : Dq g w cs.toList xs) : VR g w (.agg cs) (.agg xs) := by
 refine .agg (by simpa using h.1) (fun i hi => ?_) fun i hi => ?_
 ·have := (h.2 i hi).1
  simpa [List.getD, Array.getD_eq_getD_getElem?] using this
 have := (h.2 i hi).2
 simpa [List.getD, Array.getD_eq_getD_getElem?] using this
section
variable {H α : Type} {enc : TypeId × Value → H} {P : Program} {W : World} {base : Nat} {spare : Nat → Bool} {held : Bool} {t e : TypeId} {n : Nat}
def Opens (enc : TypeId × Value → H) (P : Program) (W : World) (base : Nat) (spare : Nat → Bool) (held : Bool) (t : TypeId) (f : α → V) (R : α → DataW H → Prop) (n : Nat) : Prop :=
 ∀ cs x, DataW.trod enc P W base spare held n t cs = some x → ∃ a, Dq (g0 W) W cs (f a).cells ∧ R a x.1
theorem Ik {k : IntKind} (ht : P.underlying t = some (.int k)) : Opens enc P W base spare held t (V.int k) (fun a d => d = .lit (.int k a)) n := by
 intro cs x h;obtain ⟨a, rfl, rfl, _⟩ := DataW.trod_int ht h;exact ⟨a, .one rfl (.int _ _), rfl⟩
theorem Dc (ht : P.underlying t = some .bool) : Opens enc P W base spare held t V.bool (fun a d => d = .lit (.bool a)) n := by
 intro cs x h;obtain ⟨a, rfl, rfl⟩ := DataW.trod_bool ht h;exact ⟨a, .one rfl (.bool _), rfl⟩
def RL (R : α → DataW H → Prop) (l : List α) (ds : List (DataW H)) : Prop := l.length = ds.length ∧ ∀ (i : Nat) a d, l[i]? = some a → ds[i]? = some d → R a d
def RS (R : α → DataW H → Prop) (l : List α) (d : DataW H) : Prop := l.length ≤ maxLen ∧ ((d = .nil ∧ l = []) ∨ ∃ es sp, d = .slice es sp ∧ RL R l es)
theorem Co {f : α → V} {R : α → DataW H → Prop} (ht : P.underlying t = some (.slice e)) (hc : 0 < P.cellsOf e) (he : Opens enc P W base spare held e f R n) :
 Opens enc P W base spare held t (fun l : List α => .sl (l.map f) .ro) (RS R) (n + 1) := by
 intro cs x h
 rcases DataW.trod_slice ht h with ⟨rfl, rfl⟩ | ⟨a, len, cap, elems, rest, n', hn, rfl, rfl, hb, hl, hm, hlen, hel, hsp, hns⟩
 ·exact ⟨[], .one rfl (.sl0 rfl), Nat.zero_le _, .inl ⟨rfl, rfl⟩⟩
 have hn' : n' = n := by omega
 subst hn'
 rcases Nat.eq_zero_or_pos len with h0 | h0
 ·subst h0;have : elems = [] := List.length_eq_zero_iff.1 hlen;subst this;exact ⟨[], .one rfl (.sle (.inl rfl)), Nat.zero_le _, .inr ⟨_, _, rfl, rfl, fun i a d hi => by simp at hi⟩⟩
 have one : ∀ i, i < len → ∃ cs' y b, W.cells? base (a.add (i * P.cellsOf e)) (P.cellsOf e) = some cs' ∧ elems[i]? = some y ∧ Dq (g0 W) W cs' (f b).cells ∧ R b y.1 := by
  intro i hi;have h1 := hel i hi
  have h2 : elems[i]? = some (elems[i]'(by omega)) := by simp [hlen, hi]
  rw [h2] at h1
  obtain ⟨cs', hcs, hy⟩ := Option.bind_eq_some_iff.1 h1;obtain ⟨b, hr, hR⟩ := he cs' _ hy;exact ⟨cs', _, b, hcs, h2, hr, hR⟩
 obtain ⟨_, _, b0, _⟩ := one 0 h0
 haveI : Inhabited α := ⟨b0⟩
 obtain ⟨A, hA⟩ := Deep.choose_lt (α := α) (p := fun i b => ∃ cs' y, W.cells? base (a.add (i * P.cellsOf e)) (P.cellsOf e) = some cs' ∧ elems[i]? = some y ∧ Dq (g0 W) W cs' (f b).cells ∧ R b y.1)
  (fun i hi => let ⟨cs', y, b, h1, h2, h3, h4⟩ := one i hi; ⟨b, cs', y, h1, h2, h3, h4⟩)
 have hspot : a.spot = none := by
  obtain ⟨cs', y, h1, _, _, _⟩ := hA 0 h0;obtain ⟨_, hcl, hcell⟩ := World.cells?_some h1;have h2 := hcell 0 hc
  have e0 : (a.add (0 * P.cellsOf e)).add 0 = a := by simp [Addr.add]
  rw [e0] at h2
  have h3 : cs'[0]? = some (cs'[0]'(by omega)) := by simp [hcl, hc]
  rw [h3] at h2
  unfold World.cell? at h2
  split at h2
  ·split at h2
   ·cases h2
   rename_i hs; simpa using hs
  cases h2
 obtain ⟨b, o, s⟩ := a
 simp only at hspot
 subst hspot
 let l := (List.range len).map A
 have hll : l.length = len := by simp [l]
 have hg : ∀ i, i < len → (l.map f).getD i .bad = f (A i) := fun i hi => by simp [l, List.getD, hi]
 have cell : ∀ i j, i < len → j < P.cellsOf e → ∃ v, W.cell? ⟨b, o + i * P.cellsOf e + j, none⟩ = some v ∧ v.oneCell' = true ∧ VR (g0 W) W v ((f (A i)).cells.getD j .bad) := by
  intro i j hi hj;obtain ⟨cs', y, h1, _, hr, _⟩ := hA i hi;obtain ⟨_, hcl, hcell⟩ := World.cells?_some h1;have h2 := hcell j hj
  rw [P5, P5] at h2
  have h3 : cs'[j]? = some (cs'.getD j undef) := by simp [List.getD, hcl, hj]
  rw [h3] at h2
  have := hr.2 j (by rw [← hr.1, hcl]; exact hj);exact ⟨_, h2, this.1, this.2⟩
 refine ⟨l, .one rfl ?_, by omega, .inr ⟨_, _, rfl, by simp [hll, hlen], fun i a' d hi hd => ?_⟩⟩
 ·have hz : ∀ i, i < len → ((l.map f).getD i .bad).cells.length = P.cellsOf e := fun i hi => by
   obtain ⟨cs', y, h1, _, hr, _⟩ := hA i hi;obtain ⟨_, hcl, _⟩ := World.cells?_some h1;rw [hg i hi, ← hr.1, hcl]
  refine .sl (sz := P.cellsOf e) (fun i j => (W.cell? ⟨b, o + i * P.cellsOf e + j, none⟩).getD undef) (by simp [hll]) hl hz (fun i j hi hj => ?_) (fun i j hi hj => ?_) (fun i j hi hj => ?_) (fun i j hi hj => ?_) trivial
  ·obtain ⟨v, h1, _⟩ := cell i j hi hj; exact ⟨v, h1⟩
  ·obtain ⟨v, h1, _⟩ := cell i j hi hj; rw [h1]; rfl
  ·obtain ⟨v, h1, h2, _⟩ := cell i j hi hj; rw [h1]; exact h2
  obtain ⟨v, h1, h2, h3⟩ := cell i j hi hj; rw [h1, hg i hi]; exact h3
 have hi' : i < len := by
  rcases Nat.lt_or_ge i l.length with h | h
  ·omega
  rw [List.getElem?_eq_none h] at hi; cases hi
 obtain ⟨cs', y, h1, h2, h3, h4⟩ := hA i hi'
 have e1 : a' = A i := by simp [l, hi'] at hi; exact hi.symm
 have e2 : d = y.1 := by simp [h2] at hd; exact hd.symm
 rw [e1, e2]; exact h4
theorem Qo {fs : Array Field} {xs : List (DataW H × List MemPlace)} {cs : List Value} {n : Nat} (hl : xs.length = fs.size)
 (hf : ∀ (i : Nat) (f : Field), fs[i]? = some f → DataW.trod enc P W base spare held n f.type ((cs.drop f.offset).take (P.cellsOf f.type)) = xs[i]?) (i : Nat) {f : Field} (h : fs[i]? = some f) :
 ∃ y, xs[i]? = some y ∧ DataW.trod enc P W base spare held n f.type ((cs.drop f.offset).take (P.cellsOf f.type)) = some y := by
 have hi : i < fs.size := by
  rcases Nat.lt_or_ge i fs.size with h' | h'
  ·exact h'
  rw [Array.getElem?_eq_none h'] at h; cases h
 have h1 : xs[i]? = some (xs[i]'(by omega)) := by simp [hl, hi]
 exact ⟨_, h1, by rw [hf i f h, h1]⟩
end
end Go.Ab
namespace Go.Ab
noncomputable instance arInst : Ar where
 k := Dn
 cmp_eq := fun _ _ _ => rfl
 ar := Xf
 ar_eq := fun _ _ _ _ => rfl
 sh := XB
 sh_eq := fun _ _ _ _ => rfl
 neg := fun k n => k.wrap (0 - n)
 neg_eq := fun _ _ => rfl
 wr := fun k n => k.wrap n
 wr_eq := fun _ _ => rfl
 scmp := Xd
 scmp_eq := fun _ _ _ => rfl
 cat := fun a b => a ++ b
 cat_eq := fun _ _ => rfl
 slen := fun s => s.size
 slen_eq := fun _ => rfl
 sat := fun s i => match s[i.toNat]? with | some b => (b.toNat : Int) | none => 0
 sat_eq := fun _ _ => rfl
 beq := fun a b => a == b
 beq_eq := fun _ _ => rfl
 nt := fun a => !a
 nt_eq := fun _ => rfl
 an := fun a b => a && b
 an_eq := fun _ _ => rfl
 or := fun a b => a || b
 or_eq := fun _ _ => rfl
 pk := fun c a b => if c then a else b
 pk_eq := fun _ _ _ => rfl
 mx := fun a b => if a < b then b else a
 mx_eq := fun _ _ => rfl
 mn := fun a b => if b < a then b else a
 mn_eq := fun _ _ => rfl
 ofs := fun a b => a + b
 ofs_eq := fun _ _ => rfl
 ofN := fun n => n
 ofN_eq := fun _ => rfl
 len := fun l => l.length
 len_eq := fun _ => rfl
 lst := fun f l => l.map f
 lst_eq := fun _ _ => rfl
end Go.Ab
namespace Go.Ab
open Go.RowKit Go.ChangeShapes Go.WideShapes
variable [H5]
section
variable {H α : Type} {enc : TypeId × Value → H} {P : Program} {W : World} {base : Nat} {spare : Nat → Bool} {held : Bool} {t e : TypeId} {n : Nat}
theorem LL {cs : List Value} {sz : Nat} {f : α → V} : ∀ (l : List α) (o : Nat), (∀ (i : Nat) a, l[i]? = some a → Dq (g0 W) W ((cs.drop (o + i * sz)).take sz) (f a).cells) → Dq (g0 W) W ((cs.drop o).take (l.length * sz)) (l.flatMap fun a => (f a).cells)
 | [], o, _ => by simp; exact .nil _ _
 | a :: l, o, h => by
  have h0 := h 0 a rfl
  rw [Nat.zero_mul, Nat.add_zero] at h0
  have h1 := LL l (o + sz) fun i b hi => by
   have := h (i + 1) b (by simpa using hi)
   rwa [show o + (i + 1) * sz = o + sz + i * sz by rw [Nat.add_mul]; omega] at this
  have := h0.join h1;rw [List.length_cons, List.flatMap_cons, show (l.length + 1) * sz = sz + l.length * sz by rw [Nat.add_mul]; omega];exact this
theorem Ot {f : α → V} {R : α → DataW H → Prop} {m : Nat} (ht : P.underlying t = some (.array m e)) (hct : P.cellsOf t = m * P.cellsOf e) (hm : 0 < m) (he : ∀ n, Opens enc P W base spare held e f R n) {cs : List Value} {x : DataW H × List MemPlace}
 (h : DataW.trod enc P W base spare held n t cs = some x) : ∃ l : List α, Dq (g0 W) W cs (l.flatMap fun a => (f a).cells) ∧ ∃ ds, x.1 = .agg ds ∧ RL R l ds := by
 cases n with
 | zero => simp [DataW.trod] at h
 | succ n =>
  simp only [DataW.trod, ht] at h
  split at h
  ·rename_i hl;obtain ⟨xs, hmm, rfl⟩ := Option.map_eq_some_iff.1 h
   have hxl : xs.length = m := by simpa using mapM_some_length hmm
   have one : ∀ i, i < m → ∃ b, Dq (g0 W) W ((cs.drop (i * P.cellsOf e)).take (P.cellsOf e)) (f b).cells ∧ ∀ y, xs[i]? = some y → R b y.1 := by
    intro i hi;have h1 := mapM_some_get hmm i i (by simp [hi])
    have h2 : xs[i]? = some (xs[i]'(by omega)) := by simp [hxl, hi]
    rw [h2] at h1
    obtain ⟨b, hr, hR⟩ := he n _ _ h1;exact ⟨b, hr, fun y hy => by rw [h2] at hy; cases hy; exact hR⟩
   obtain ⟨b0, _⟩ := one 0 hm
   haveI : Inhabited α := ⟨b0⟩
   obtain ⟨A, hA⟩ := Deep.choose_lt one
   have hat : ∀ (i : Nat) a, ((List.range m).map A)[i]? = some a → i < m ∧ a = A i := fun i a hi => by
    rcases Nat.lt_or_ge i m with hlt | hge
    ·simp [hlt] at hi; exact ⟨hlt, hi.symm⟩
    rw [List.getElem?_eq_none (by simpa using hge)] at hi; cases hi
   refine ⟨(List.range m).map A, ?_, _, rfl, by simp [hxl], fun i a d hi hd => ?_⟩
   ·have := LL (cs := cs) (sz := P.cellsOf e) (f := f) (W := W) ((List.range m).map A) 0 (fun i a hi => by
     obtain ⟨h1, rfl⟩ := hat i a hi
     simpa using (hA i h1).1)
    simpa [List.take_of_length_le, hl, hct] using this
   obtain ⟨h1, rfl⟩ := hat i a hi
   simp only [List.getElem?_map, Option.map_eq_some_iff] at hd
   obtain ⟨y, hy, rfl⟩ := hd;exact (hA i h1).2 y hy
  cases h
theorem OH {g : Nat} {cs : Array Value} {xs : List V} {name : String} (hg : P.globalNamed name = some g) (hv : W.var? P name = some cs) (hr : Dq (g0 W) W cs.toList xs) : VR (g0 W) W (.pointer (some ⟨g, 0, none⟩)) (.eref xs 0) := by
 have cell : ∀ j, j < xs.length → W.cell? ⟨g, 0 + j, none⟩ = some (cs.toList.getD j undef) := fun j hj => by
  have h1 := World.var?_cell hg hv j
  have h2 : j < cs.size := by have := hr.1; simp at this; omega
  rw [Nat.zero_add, h1];simp [List.getD, h2]
 exact .eref (g := g0 W) (o := 0) (off := 0) (fun j => cs.toList.getD j undef) (fun j hj => (⟨_, cell j hj⟩ : ∃ v, W.cell? ⟨g, 0 + j, none⟩ = some v)) (fun j hj => cell j hj) (fun j hj => (hr.2 j hj).1) fun j hj => (hr.2 j hj).2
end
end Go.Ab
namespace Go.Ab
open Go.RowKit Go.ChangeShapes Go.WideShapes
variable [H5]
section
variable {H : Type} {enc : TypeId × Value → H} {P : Program} {W : World} {base : Nat} {spare : Nat → Bool} {held : Bool} {t e : TypeId} {n : Nat}
end
end Go.Ab
namespace Go.Ab
theorem D2 (a b : Int) : Ar.k .lss a b = decide (a < b) := rfl
theorem HK (a b : Int) : Ar.k .leq a b = decide (a ≤ b) := rfl
theorem Q3 (a b : Int) : Ar.k .gtr a b = decide (b < a) := rfl
theorem ES (a b : Int) : Ar.k .geq a b = decide (b ≤ a) := rfl
theorem AB (a b : Int) : Ar.k .eql a b = decide (a = b) := rfl
theorem X4 (a b : Int) : Ar.k .neq a b = !decide (a = b) := rfl
theorem U2 (a : Bool) : Ar.nt a = !a := rfl
theorem W1 (a b : Bool) : Ar.an a b = (a && b) := rfl
theorem DL (a b : Bool) : Ar.or a b = (a || b) := rfl
theorem D7 {α : Type} (l : List α) : Ar.len l = (l.length : Int) := rfl
theorem He {n : Int} (h0 : -9223372036854775808 ≤ n) (h1 : n < 9223372036854775808) : IntKind.wrap .i64 n = n := by
 have e : IntKind.wrap .i64 n = (if n % 18446744073709551616 ≥ 9223372036854775808 then n % 18446744073709551616 - 18446744073709551616 else n % 18446744073709551616) := by
  unfold IntKind.wrap;simp [IntKind.bits, IntKind.signed]
 rw [e]
 split <;> omega
theorem CP {a b : Int} (h0 : -9223372036854775808 ≤ a + b) (h1 : a + b < 9223372036854775808) : Ar.ar .add .i64 a b = a + b := He h0 h1
theorem OC {S σ R α : Type} (l : List α) (hl : l.length < 1000000000000) (step : S → Option (S ⊕ R)) (mk : σ → Int → S) (body : σ → α → Option (σ ⊕ R)) (fin : σ → R)
 (hstep : ∀ s (i : Nat) x, l[i]? = some x → step (mk s i) = (body s x).bind fun o => match o with | .inl s' => some (.inl (mk s' (i + 1))) | .inr r => some (.inr r))
 (hend : ∀ s, step (mk s l.length) = some (.inr (fin s))) :
 ∀ (k : Nat) (i : Nat) (s : σ) (N : Nat), i + k = l.length → k < N → loopN step N (mk s i) = (D0 body (l.drop i) s).bind fun o => match o with | .inl s => some (fin s) | .inr r => some r := by
 intro k
 induction k with
 | zero =>
  intro i s N hi hN;obtain ⟨N, rfl⟩ : ∃ M, N = M + 1 := ⟨N - 1, by omega⟩;have e : l.drop i = [] := List.drop_eq_nil_of_le (by omega)
  have ei : ((i : Nat) : Int) = l.length := by omega
  rw [e, ei];simp only [loopN, hend, D0, Option.bind_some]
 | succ k ih =>
  intro i s N hi hN;obtain ⟨N, rfl⟩ : ∃ M, N = M + 1 := ⟨N - 1, by omega⟩
  have hlt : i < l.length := by omega
  have hx : l[i]? = some l[i] := by simp [hlt]
  have e : l.drop i = l[i] :: l.drop (i + 1) := List.drop_eq_getElem_cons hlt;rw [e];simp only [loopN, hstep s i _ hx, D0]
  cases hb : body s l[i] with
  | none => rfl
  | some o =>
   cases o with
   | inl s' =>
    simp only [Option.bind_some];have := ih (i + 1) s' N (by omega) (by omega);rw [show ((i : Int) + 1) = ((i + 1 : Nat) : Int) by omega];exact this
   | inr r => rfl
theorem G2 {α : Type} {l : List α} {i : Nat} : C6 l (i : Int) = l[i]? := by simp [C6]
theorem Na {β S σ R α : Type} (l : List α) (step : S → Option (List β × (S ⊕ R))) (mk : σ → Int → S) (body : σ → α → Option (List β × (σ ⊕ R))) (fin : σ → R)
 (hstep : ∀ s (i : Nat) x, l[i]? = some x → step (mk s i) = (body s x).bind fun o => match o with | (w, .inl s') => some (w, .inl (mk s' (i + 1))) | (w, .inr r) => some (w, .inr r))
 (hend : ∀ s, step (mk s l.length) = some ([], .inr (fin s))) :
 ∀ (k : Nat) (i : Nat) (s : σ) (N : Nat), i + k = l.length → k < N → Ag step N (mk s i) = (Ac body (l.drop i) s).bind fun o => match o with | (w, .inl s) => some (w, fin s) | (w, .inr r) => some (w, r) := by
 intro k
 induction k with
 | zero =>
  intro i s N hi hN;obtain ⟨N, rfl⟩ : ∃ M, N = M + 1 := ⟨N - 1, by omega⟩;have e : l.drop i = [] := List.drop_eq_nil_of_le (by omega)
  have ei : ((i : Nat) : Int) = l.length := by omega
  rw [e, ei];simp only [Ag, hend, Ac, Option.bind_some]
 | succ k ih =>
  intro i s N hi hN;obtain ⟨N, rfl⟩ : ∃ M, N = M + 1 := ⟨N - 1, by omega⟩
  have hlt : i < l.length := by omega
  have hx : l[i]? = some l[i] := by simp [hlt]
  have e : l.drop i = l[i] :: l.drop (i + 1) := List.drop_eq_getElem_cons hlt;rw [e];simp only [Ag, hstep s i _ hx, Ac]
  cases hb : body s l[i] with
  | none => rfl
  | some o =>
   obtain ⟨w, o⟩ := o
   cases o with
   | inl s' =>
    simp only [Option.bind_some];have := ih (i + 1) s' N (by omega) (by omega);rw [show ((i : Int) + 1) = ((i + 1 : Nat) : Int) by omega, this]
    cases hr : Ac body (l.drop (i + 1)) s' with
    | none => rfl
    | some q =>
     obtain ⟨w', o'⟩ := q;cases o' <;> rfl
   | inr r => rfl
theorem Im {S σ R α : Type} (l : List α) (hl : l.length < 1000000000000) {step : S → Option (S ⊕ R)} (mk : σ → Int → S) (body : σ → α → Option (σ ⊕ R)) (fin : σ → R) (s : σ) {N : Nat} (hN : l.length < N)
 (hstep : ∀ s (i : Nat) x, l[i]? = some x → (i : Int) < l.length → step (mk s i) = (body s x).bind fun o => match o with | .inl s' => some (.inl (mk s' (i + 1))) | .inr r => some (.inr r))
 (hend : ∀ s, step (mk s l.length) = some (.inr (fin s))) : loopN step N (mk s 0) = (D0 body l s).bind fun o => match o with | .inl s => some (fin s) | .inr r => some r := by
 have := OC l hl step mk body fin (fun s i x h => hstep s i x h (by
  rcases Nat.lt_or_ge i l.length with h' | h'
  ·omega
  rw [List.getElem?_eq_none h'] at h; cases h)) hend l.length 0 s N (by omega) hN
 simpa using this
theorem PZ {β S σ R α : Type} (l : List α) {step : S → Option (List β × (S ⊕ R))} (mk : σ → Int → S) (body : σ → α → Option (List β × (σ ⊕ R))) (fin : σ → R) (s : σ) {N : Nat} (hN : l.length < N)
 (hstep : ∀ s (i : Nat) x, l[i]? = some x → (i : Int) < l.length → step (mk s i) = (body s x).bind fun o => match o with | (w, .inl s') => some (w, .inl (mk s' (i + 1))) | (w, .inr r) => some (w, .inr r))
 (hend : ∀ s, step (mk s l.length) = some ([], .inr (fin s))) : Ag step N (mk s 0) = (Ac body l s).bind fun o => match o with | (w, .inl s) => some (w, fin s) | (w, .inr r) => some (w, r) := by
 have := Na l step mk body fin (fun s i x h => hstep s i x h (by
  rcases Nat.lt_or_ge i l.length with h' | h'
  ·omega
  rw [List.getElem?_eq_none h'] at h; cases h)) hend l.length 0 s N (by omega) hN
 simpa using this
end Go.Ab
namespace Go.Ab
open Go.RowKit Go.ChangeShapes Go.WideShapes Go.ChangeAt Go.Proofs Go.Proofs.YtildiiggamckaaaGreatDoor
set_option maxRecDepth 100000
mutual
def Iw : G7 → V
 | ⟨op, args, var, field, kind, val⟩ => .agg [.int .i64 op, .sl (OR args) .ro, .int .i64 var, .int .i64 field, .int .i64 kind, .int .i64 val.Kind, .int .i64 val.Num, .str val.Text]
def OR : List G7 → List V
 | [] => []
 | a :: r => Iw a :: OR r
end
theorem Mh : ∀ l : List G7, OR l = l.map Iw
 | [] => by simp [OR]
 | a :: r => by simp [OR, Mh r]
mutual
def Ss : A5 → V
 | ⟨op, args, typ, var, scope, span, c⟩ => .agg [.int .i64 op, .sl (OO args) .ro, .int .i64 typ, .int .i64 var, .int .i64 scope, .int .i64 span, .int .i64 c.Op, .sl (c.cR.map Iw) .ro, .int .i64 c.Var, .int .i64 c.Field, .int .i64 c.Kind, .int .i64 c.Value.Kind, .int .i64 c.Value.Num, .str c.Value.Text]
def OO : List A5 → List V
 | [] => []
 | a :: r => Ss a :: OO r
end
theorem Md : ∀ l : List A5, OO l = l.map Ss
 | [] => by simp [OO]
 | a :: r => by simp [OO, Md r]
noncomputable def HG (x : A2) : V := .agg [.int .i64 x.Low, .int .i64 x.cT]
noncomputable def DT (x : List A2) : V := .sl (Ar.lst HG x) .ro
noncomputable def Lr (x : B6) : V := .agg [.sl (Ar.lst DT x.cP) .ro]
noncomputable def KF (x : C9) : V := .agg [.int .i64 x.cQ, .int .i64 x.To, .sl (Ar.lst DT x.On.cP) .ro]
noncomputable def Np (x : A3) : V := .agg [.int .i64 x.cS, .sl (Ar.lst V.bool x.cM) .ro, .sl (Ar.lst KF x.cO) .ro]
noncomputable def KD (x : B2) : V := .agg [.int .i64 x.Typ, .int .i64 x.Num]
noncomputable def Mg (x : DW) : V := .agg [.str x.Name, .int .i64 x.Kind]
noncomputable def KE (x : Z3) : V := .agg [.str x.Name, .sl (Ar.lst Mg x.Fields) .ro]
noncomputable def Sw (x : P7) : V := .agg [.int .i64 x.Kind, .int .i64 x.Num, .str x.Text]
noncomputable def Mf (x : CB) : V := .agg [.int .i64 x.cU, .int .i64 x.Typ, .int .i64 x.Var, .int .i64 x.cN.Op, .sl (Ar.lst Iw x.cN.cR) .ro, .int .i64 x.cN.Var, .int .i64 x.cN.Field, .int .i64 x.cN.Kind, .int .i64 x.cN.Value.Kind, .int .i64 x.cN.Value.Num, .str x.cN.Value.Text]
noncomputable def Me (x : GX) : V := .agg [.sl (Ar.lst Mf x.dE) .ro]
noncomputable def Gg (x : X7) : V := .agg [.int .i64 x.cU, .int .i64 x.Span]
noncomputable def OQ (x : B8) : V := .agg [.int .i64 x.cQ, .int .i64 x.To, .int .i64 x.Var, .int .i64 x.Typ, .int .i64 x.cN.Op, .sl (Ar.lst Iw x.cN.cR) .ro, .int .i64 x.cN.Var, .int .i64 x.cN.Field, .int .i64 x.cN.Kind, .int .i64 x.cN.Value.Kind, .int .i64 x.cN.Value.Num, .str x.cN.Value.Text, .sl (Ar.lst (V.int .i64) x.cZ) .ro, .sl (Ar.lst (V.int .i64) x.cX) .ro, .sl (Ar.lst Iw x.cY) .ro, .sl (Ar.lst Gg x.dC) .ro, .sl (Ar.lst (V.int .i64) x.dA) .ro]
noncomputable def Ls (x : J1) : V := .agg [.int .i64 x.Vars, .int .i64 x.dD, .sl (Ar.lst Me x.cV) .ro, .sl (Ar.lst OQ x.cW) .ro]
noncomputable def Uo (x : WB) : V := .agg [.int .i64 x.E0, .int .i64 x.E1]
noncomputable def EN (x : CF) : V := .agg [.int .i64 x.a, .int .i64 x.b]
noncomputable def HF (x : L4) : V := .agg [.str x.Name, .int .i64 x.Typ]
noncomputable def KC (x : W5) : V := .agg [.sl (Ar.lst KE x.types) .ro, .sl (Ar.lst HF x.vars) .ro]
noncomputable def GR (x : D3) : V := .agg [.int .i64 x.times, .int .i64 x.plus]
noncomputable def EO (x : CG) : V := .agg [.int .i64 x.Edge.cQ, .int .i64 x.Edge.To, .int .i64 x.Edge.Var, .int .i64 x.Edge.Typ, .int .i64 x.Edge.cN.Op, .sl (Ar.lst Iw x.Edge.cN.cR) .ro, .int .i64 x.Edge.cN.Var, .int .i64 x.Edge.cN.Field, .int .i64 x.Edge.cN.Kind, .int .i64 x.Edge.cN.Value.Kind, .int .i64 x.Edge.cN.Value.Num, .str x.Edge.cN.Value.Text, .sl (Ar.lst (V.int .i64) x.Edge.cZ) .ro, .sl (Ar.lst (V.int .i64) x.Edge.cX) .ro, .sl (Ar.lst Iw x.Edge.cY) .ro, .sl (Ar.lst Gg x.Edge.dC) .ro, .sl (Ar.lst (V.int .i64) x.Edge.dA) .ro, .bool x.Done, .int .i64 x.Rest.Op, .sl (Ar.lst Ss x.Rest.cR) .ro, .int .i64 x.Rest.Typ, .int .i64 x.Rest.Var, .int .i64 x.Rest.cU, .int .i64 x.Rest.Span, .int .i64 x.Rest.cN.Op, .sl (Ar.lst Iw x.Rest.cN.cR) .ro, .int .i64 x.Rest.cN.Var, .int .i64 x.Rest.cN.Field, .int .i64 x.Rest.cN.Kind, .int .i64 x.Rest.cN.Value.Kind, .int .i64 x.Rest.cN.Value.Num, .str x.Rest.cN.Value.Text]
noncomputable def Gk (x : A1) : V := .agg [.bool x.done, .int .i64 x.p.Op, .sl (Ar.lst Ss x.p.cR) .ro, .int .i64 x.p.Typ, .int .i64 x.p.Var, .int .i64 x.p.cU, .int .i64 x.p.Span, .int .i64 x.p.cN.Op, .sl (Ar.lst Iw x.p.cN.cR) .ro, .int .i64 x.p.cN.Var, .int .i64 x.p.cN.Field, .int .i64 x.p.cN.Kind, .int .i64 x.p.cN.Value.Kind, .int .i64 x.p.cN.Value.Num, .str x.p.cN.Value.Text]
noncomputable def HE (x : P6) : V := .agg [.int .i64 x.least, .int .i64 x.most, .bool x.typed, .bool x.cond, .bool x.scope, .bool x.span]
noncomputable def XQ (x : List Bool) : V := .sl (Ar.lst V.bool x) .ro
noncomputable def Su (x : List C9) : V := .sl (Ar.lst KF x) .ro
noncomputable def OP (x : List B2) : V := .sl (Ar.lst KD x) .ro
noncomputable def Sv (x : List G7) : V := .sl (Ar.lst Iw x) .ro
noncomputable def XP (x : List Int) : V := .sl (Ar.lst (V.int .i64) x) .ro
noncomputable def Qs (x : List X7) : V := .sl (Ar.lst Gg x) .ro
noncomputable instance encsInst : G4 where
 eYc := HG
 eYm := fun _ => rfl
 eYE := Lr
 eYB := fun _ => rfl
 eYk := KF
 eYl := fun _ => rfl
 eYq := Np
 eYC := fun _ => rfl
 eYf := KD
 eYu := fun _ => rfl
 eYx := Mg
 eYK := fun _ => rfl
 eYr := KE
 eYF := fun _ => rfl
 eYQ := Sw
 eZb := fun _ => rfl
 eYg := Iw
 eYp := fun ⟨_, _, _, _, _, _⟩ => by simp only [Iw, Mh]; rfl
 eYd := Ss
 eYi := fun ⟨_, _, _, _, _, _, _⟩ => by simp only [Ss, Md]; rfl
 eYt := Mf
 eYO := fun _ => rfl
 eYs := Me
 eYP := fun _ => rfl
 eYn := Gg
 eYG := fun _ => rfl
 eYe := OQ
 eYv := fun _ => rfl
 eYR := Ls
 eZc := fun _ => rfl
 eYS := Uo
 eZd := fun _ => rfl
 eYT := EN
 eZe := fun _ => rfl
 eYo := HF
 eYD := fun _ => rfl
 eYU := KC
 eZf := fun _ => rfl
 eYV := GR
 eZg := fun _ => rfl
 eYW := EO
 eZh := fun _ => rfl
 eYX := Gk
 eZi := fun _ => rfl
 eYM := HE
 eZa := fun _ => rfl
 eLB := XQ
 eZj := fun _ => rfl
 eYZ := Su
 eZk := fun _ => rfl
 eYN := OP
 eYH := fun _ => rfl
 eYy := Sv
 eYI := fun _ => rfl
 eYz := XP
 eYw := fun _ => rfl
 eYA := Qs
 eYJ := fun _ => rfl
 eYh := DT
 eYj := fun _ => rfl
section
variable [H5] {H : Type} {enc : TypeId × Value → H} {W : World} {base : Nat} {spare : Nat → Bool} {held : Bool}
abbrev bk (d : DataW H) : Nat := Rows.uptoBulk d
noncomputable def Lp (P : Program) (t : TypeId) : Array Field := match P.underlying t with | some (.struct fs) => fs | _ => #[]
theorem P2 {P : Program} {t ty off sz : Nat} {xs : List (DataW H × List MemPlace)} {cs : List Value} {n : Nat} (hl : xs.length = (Lp P t).size)
 (hf : ∀ (i : Nat) (f : Field), (Lp P t)[i]? = some f → DataW.trod enc P W base spare held n f.type ((cs.drop f.offset).take (P.cellsOf f.type)) = xs[i]?) (i : Nat)
 (h : ((Lp P t)[i]?.map fun f => (f.type, f.offset, P.cellsOf f.type)) = some (ty, off, sz)) : ∃ y, xs[i]? = some y ∧ DataW.trod enc P W base spare held n ty ((cs.drop off).take sz) = some y := by
 cases hi : (Lp P t)[i]? with
 | none => rw [hi] at h; cases h
 | some f =>
  rw [hi] at h
  simp only [Option.map_some, Option.some.injEq, Prod.mk.injEq] at h
  obtain ⟨rfl, rfl, rfl⟩ := h;exact Qo hl hf i hi
theorem Opens.down {α : Type} {P : Program} {t : TypeId} {f : α → V} {R : α → DataW H → Prop} {n : Nat} (h : Opens enc P W base spare held t f R (n + 1)) : Opens enc P W base spare held t f R n := fun cs x hx => h cs x (DataW.trod_le (Nat.le_succ n) hx)
theorem Opens.imp {α : Type} {P : Program} {t : TypeId} {f : α → V} {R R' : α → DataW H → Prop} {n : Nat} (h : Opens enc P W base spare held t f R n) (hi : ∀ a d, R a d → R' a d) : Opens enc P W base spare held t f R' n := fun cs x hx => by
 obtain ⟨a, r, q⟩ := h cs x hx;exact ⟨a, r, hi _ _ q⟩
theorem Opens.congr {α : Type} {P : Program} {t : TypeId} {f g : α → V} {R : α → DataW H → Prop} {n : Nat} (h : Opens enc P W base spare held t f R n) (hg : ∀ x, f x = g x) : Opens enc P W base spare held t g R n := fun cs x hx => by
 obtain ⟨a, r, q⟩ := h cs x hx;exact ⟨a, by rw [← hg]; exact r, q⟩
theorem u25 : Tryz.prog.underlying 25 = some (.struct (Lp Tryz.prog 25)) := by kernel_rfl
theorem u3 : Tryz.prog.underlying 3 = some (.int .i64) := by kernel_rfl
theorem GF (n : Nat) : Opens enc Tryz.prog W base spare held 3 (V.int .i64) (fun _ _ => True) n := (Ik u3).imp fun _ _ _ => trivial
theorem u22 : Tryz.prog.underlying 22 = some (.slice 4) := by kernel_rfl
theorem u4 : Tryz.prog.underlying 4 = some .bool := by kernel_rfl
theorem WM (n : Nat) : Opens enc Tryz.prog W base spare held 4 V.bool (fun _ _ => True) n := (Dc u4).imp fun _ _ _ => trivial
theorem Vu (n : Nat) : Opens enc Tryz.prog W base spare held 22 (fun l : List Bool => .sl (Ar.lst V.bool l) .ro) (fun _ _ => True) n :=
 Opens.down (((Co u22 (show 0 < Tryz.prog.cellsOf 4 by rw [show Tryz.prog.cellsOf 4 = 1 by kernel_rfl]; decide) (WM n)).imp fun _ _ _ => trivial).congr fun x => by rw [Ar.lst_eq])
theorem u23 : Tryz.prog.underlying 23 = some (.slice 73) := by kernel_rfl
theorem u73 : Tryz.prog.underlying 73 = some (.struct (Lp Tryz.prog 73)) := by kernel_rfl
theorem u71 : Tryz.prog.underlying 71 = some (.struct (Lp Tryz.prog 71)) := by kernel_rfl
theorem u69 : Tryz.prog.underlying 69 = some (.slice 147) := by kernel_rfl
theorem u147 : Tryz.prog.underlying 147 = some (.slice 149) := by kernel_rfl
theorem u149 : Tryz.prog.underlying 149 = some (.struct (Lp Tryz.prog 149)) := by kernel_rfl
theorem TC (n : Nat) : Opens enc Tryz.prog W base spare held 149 G4.eYc (fun _ _ => True) n := by
 intro cs x h;obtain ⟨xs, m, hm, rfl, hcl, hl, hf⟩ := DataW.trod_struct u149 h;subst hm;obtain ⟨y0, k0, t0⟩ := P2 hl hf 0 (ty := 3) (off := 0) (sz := 1) (by kernel_rfl);obtain ⟨y1, k1, t1⟩ := P2 hl hf 1 (ty := 3) (off := 1) (sz := 1) (by kernel_rfl);obtain ⟨a0, r0, q0⟩ := GF _ _ _ t0;obtain ⟨a1, r1, q1⟩ := GF _ _ _ t1;refine ⟨⟨a0, a1⟩, ?_, ?_⟩
 ·have hc3 : cs.length = 2 := hcl.trans (by kernel_rfl);have := r0.join r1;rw [G4.eYm]
  simp only [Ar.lst_eq] at this ⊢
  simpa [List.take_of_length_le, hc3, V.cells] using this
 trivial
theorem TD (n : Nat) : Opens enc Tryz.prog W base spare held 147 (fun l : List A2 => .sl (Ar.lst G4.eYc l) .ro) (fun _ _ => True) n :=
 Opens.down (((Co u147 (show 0 < Tryz.prog.cellsOf 149 by rw [show Tryz.prog.cellsOf 149 = 2 by kernel_rfl]; decide) (TC n)).imp fun _ _ _ => trivial).congr fun x => by rw [Ar.lst_eq])
theorem Vp (n : Nat) : Opens enc Tryz.prog W base spare held 69 (fun l : List (List A2) => .sl (Ar.lst G4.eYh l) .ro) (fun _ _ => True) n :=
 Opens.down (((Co u69 (show 0 < Tryz.prog.cellsOf 147 by rw [show Tryz.prog.cellsOf 147 = 1 by kernel_rfl]; decide) ((TD n).congr fun x => (G4.eYj x).symm)).imp fun _ _ _ => trivial).congr fun x => by rw [Ar.lst_eq])
theorem Vo (n : Nat) : Opens enc Tryz.prog W base spare held 71 G4.eYE (fun _ _ => True) n := by
 intro cs x h;obtain ⟨xs, m, hm, rfl, hcl, hl, hf⟩ := DataW.trod_struct u71 h;subst hm;obtain ⟨y0, k0, t0⟩ := P2 hl hf 0 (ty := 69) (off := 0) (sz := 1) (by kernel_rfl);obtain ⟨a0, r0, q0⟩ := Vp _ _ _ t0;refine ⟨⟨a0⟩, ?_, ?_⟩
 ·have hc3 : cs.length = 1 := hcl.trans (by kernel_rfl);have := r0;rw [G4.eYB]
  simp only [Ar.lst_eq] at this ⊢
  simpa [List.take_of_length_le, hc3, V.cells] using this
 trivial
theorem Vn (n : Nat) : Opens enc Tryz.prog W base spare held 73 G4.eYk (fun _ _ => True) n := by
 intro cs x h;obtain ⟨xs, m, hm, rfl, hcl, hl, hf⟩ := DataW.trod_struct u73 h;subst hm;obtain ⟨y0, k0, t0⟩ := P2 hl hf 0 (ty := 3) (off := 0) (sz := 1) (by kernel_rfl);obtain ⟨y1, k1, t1⟩ := P2 hl hf 1 (ty := 3) (off := 1) (sz := 1) (by kernel_rfl);obtain ⟨y2, k2, t2⟩ := P2 hl hf 2 (ty := 71) (off := 2) (sz := 1) (by kernel_rfl);obtain ⟨a0, r0, q0⟩ := GF _ _ _ t0;obtain ⟨a1, r1, q1⟩ := GF _ _ _ t1;obtain ⟨a2, r2, q2⟩ := Vo _ _ _ t2;refine ⟨⟨a0, a1, a2⟩, ?_, ?_⟩
 ·have hc3 : cs.length = 3 := hcl.trans (by kernel_rfl)
  rw [G4.eYB] at r2
  have := (r0.join r1).join r2;rw [G4.eYl]
  simp only [Ar.lst_eq] at this ⊢
  simpa [List.take_of_length_le, hc3, V.cells] using this
 trivial
theorem Vt (n : Nat) : Opens enc Tryz.prog W base spare held 23 (fun l : List C9 => .sl (Ar.lst G4.eYk l) .ro) (fun _ _ => True) n :=
 Opens.down (((Co u23 (show 0 < Tryz.prog.cellsOf 73 by rw [show Tryz.prog.cellsOf 73 = 3 by kernel_rfl]; decide) (Vn n)).imp fun _ _ _ => trivial).congr fun x => by rw [Ar.lst_eq])
theorem Vs (n : Nat) : Opens enc Tryz.prog W base spare held 25 G4.eYq (fun _ _ => True) n := by
 intro cs x h;obtain ⟨xs, m, hm, rfl, hcl, hl, hf⟩ := DataW.trod_struct u25 h;subst hm;obtain ⟨y0, k0, t0⟩ := P2 hl hf 0 (ty := 3) (off := 0) (sz := 1) (by kernel_rfl);obtain ⟨y1, k1, t1⟩ := P2 hl hf 1 (ty := 22) (off := 1) (sz := 1) (by kernel_rfl);obtain ⟨y2, k2, t2⟩ := P2 hl hf 2 (ty := 23) (off := 2) (sz := 1) (by kernel_rfl);obtain ⟨a0, r0, q0⟩ := GF _ _ _ t0;obtain ⟨a1, r1, q1⟩ := Vu _ _ _ t1;obtain ⟨a2, r2, q2⟩ := Vt _ _ _ t2;refine ⟨⟨a0, a1, a2⟩, ?_, ?_⟩
 ·have hc3 : cs.length = 3 := hcl.trans (by kernel_rfl);have := (r0.join r1).join r2;rw [G4.eYC]
  simp only [Ar.lst_eq] at this ⊢
  simpa [List.take_of_length_le, hc3, V.cells] using this
 trivial
theorem u26 : Tryz.prog.underlying 26 = some (.slice 65) := by kernel_rfl
theorem u65 : Tryz.prog.underlying 65 = some (.struct (Lp Tryz.prog 65)) := by kernel_rfl
theorem Vq (n : Nat) : Opens enc Tryz.prog W base spare held 65 G4.eYf (fun _ _ => True) n := by
 intro cs x h;obtain ⟨xs, m, hm, rfl, hcl, hl, hf⟩ := DataW.trod_struct u65 h;subst hm;obtain ⟨y0, k0, t0⟩ := P2 hl hf 0 (ty := 3) (off := 0) (sz := 1) (by kernel_rfl);obtain ⟨y1, k1, t1⟩ := P2 hl hf 1 (ty := 3) (off := 1) (sz := 1) (by kernel_rfl);obtain ⟨a0, r0, q0⟩ := GF _ _ _ t0;obtain ⟨a1, r1, q1⟩ := GF _ _ _ t1;refine ⟨⟨a0, a1⟩, ?_, ?_⟩
 ·have hc3 : cs.length = 2 := hcl.trans (by kernel_rfl);have := r0.join r1;rw [G4.eYu]
  simp only [Ar.lst_eq] at this ⊢
  simpa [List.take_of_length_le, hc3, V.cells] using this
 trivial
theorem Vr (n : Nat) : Opens enc Tryz.prog W base spare held 26 (fun l : List B2 => .sl (Ar.lst G4.eYf l) .ro) (fun _ _ => True) n :=
 Opens.down (((Co u26 (show 0 < Tryz.prog.cellsOf 65 by rw [show Tryz.prog.cellsOf 65 = 2 by kernel_rfl]; decide) (Vq n)).imp fun _ _ _ => trivial).congr fun x => by rw [Ar.lst_eq])
theorem Lx {v : Value} {d : DataW H} {p : List MemPlace} (hv : Value.okWide Tryz.prog W .any base 25 v) (h : DataW.Trod enc Tryz.prog W 0 (fun _ => true) true 25 v d p) : ∃ x : A3, VR (g0 W) W v (G4.eYq x) := by
 obtain ⟨fuel, ht⟩ := h;obtain ⟨cs, rfl, hcs⟩ := okWide_struct u25 hv;obtain ⟨x, hr, hb⟩ := Vs fuel _ _ ht;have hr' : Dq (g0 W) W cs.toList (G4.eYq x).cells := hr;refine ⟨x, ?_⟩;have := hr'.agg
 rw [G4.eYC] at this ⊢
 exact this
theorem Nt {v : Value} {d : DataW H} {p : List MemPlace} (hv : Value.okWide Tryz.prog W .any base 26 v) (h : DataW.Trod enc Tryz.prog W 0 (fun _ => true) true 26 v d p) : ∃ x : List B2, VR (g0 W) W v (.sl (Ar.lst G4.eYf x) .ro) := by
 obtain ⟨fuel, ht⟩ := h;obtain ⟨a, len, cap, rfl⟩ := okWide_slice u26 hv;obtain ⟨x, hr, hb⟩ := Vr fuel _ _ ht;exact ⟨x, (hr.2 0 (by simp [V.cells])).2⟩
theorem VI {f : FuncId} {vals : Array Value} {args : List V} (hg : ∀ n, VR (g0 W) W (.pointer (some ⟨n, 0, none⟩)) (H5.gl n)) (hcall : ∀ vals w, (callFunc f vals).run Tryz.prog w = .ok (.enter f vals) w) (law : B5 Tryz.prog f args (.bool true)) (hA : Args (g0 W) W vals args) :
 Calls Tryz.prog f vals W fun e W' => e = .returned (.bool true) ∧ Below W.heap.size W W' := by
 have hc := law (fun _ => none) (g0 W) W vals (rl0 hg) hA
 rw [hcall] at hc
 refine (callsIn_wide.1 hc).mono fun e W' ⟨v, he, g', y, H', hs, hR, hvy, hy, _⟩ => ?_;subst hy;cases hvy;exact ⟨he, hs.low⟩
theorem XV {v0 v1 : Value} {x0 x1 : V} (h0 : VR (g0 W) W v0 x0) (h1 : VR (g0 W) W v1 x1) : Args (g0 W) W #[v0, v1] [x0, x1] := ⟨rfl, fun i hi => by
 match i, hi with
 | 0, _ => exact h0
 | 1, _ => exact h1⟩
end
end Go.Ab
namespace Go.Ab
def fb {α : Type} (f : Nat → α → Int) : Nat → List α → Int
 | _, [] => 0
 | i, x :: r => if f i x = 0 then fb f (i + 1) r else f i x
theorem Ay {α : Type} {f : Nat → α → Int} : ∀ {l : List α} {i : Nat}, fb f i l = 0 ↔ ∀ (k : Nat) x, l[k]? = some x → f (i + k) x = 0
 | [], i => by simp [fb]
 | y :: r, i => by
  unfold fb
  split
  ·rename_i h;rw [Ay];refine ⟨fun H k x hk => ?_, fun H k x hk => ?_⟩
   ·cases k with
    | zero => simp at hk; subst hk; exact h
    | succ k => rw [show i + (k + 1) = i + 1 + k by omega]; exact H k x (by simpa using hk)
   have := H (k + 1) x (by simpa using hk)
   rwa [show i + (k + 1) = i + 1 + k by omega] at this
  rename_i h;exact ⟨fun e => absurd e h, fun H => absurd (H 0 y (by simp)) h⟩
theorem Q2 {i : Nat} {n : Nat} (hi : i < n) (hn : n < 1000000000000) : Ar.ar .add .i64 (i : Int) 1 = ((i + 1 : Nat) : Int) := by
 rw [CP (by omega) (by omega)]; omega
theorem T7 {α R : Type} {l : List α} {step : Int → Option (Int ⊕ R)} {f : Nat → α → Int} {e : R} {b : Int → R}
 (hs : ∀ (i : Nat) x, l[i]? = some x → i < l.length → step (i : Int) = if f i x = 0 then some (.inl ((i + 1 : Nat) : Int)) else some (.inr (b (f i x))))
 (he : step (l.length : Int) = some (.inr e)) : ∀ {N : Nat}, l.length < N → loopN step N 0 = some (if fb f 0 l = 0 then e else b (fb f 0 l)) := by
 have key : ∀ (k i N : Nat), i + k = l.length → k < N → loopN step N (i : Int) = some (if fb f i (l.drop i) = 0 then e else b (fb f i (l.drop i))) := by
  intro k
  induction k with
  | zero =>
   intro i N hi hN;obtain ⟨N, rfl⟩ : ∃ M, N = M + 1 := ⟨N - 1, by omega⟩;rw [show i = l.length by omega, List.drop_length];simp [loopN, he, fb]
  | succ k ih =>
   intro i N hi hN;obtain ⟨N, rfl⟩ : ∃ M, N = M + 1 := ⟨N - 1, by omega⟩
   have hlt : i < l.length := by omega
   rw [List.drop_eq_getElem_cons hlt];simp only [loopN, hs i _ (List.getElem?_eq_getElem hlt) hlt, fb]
   by_cases h : f i l[i] = 0
   ·simp only [h, if_true];exact ih (i + 1) N (by omega) (by omega)
   simp only [h, if_false]
 intro N hN;have := key l.length 0 N (by omega) hN
 simpa using this
def fm (x : A2) : Int :=
 if x.Low < -1099511627776 ∨ 1099511627776 < x.Low ∨ x.cT < -1099511627776 ∨ 1099511627776 < x.cT then 2 else if x.cT < x.Low then 3 else 0
theorem Ri {x : A2} (h : fm x = 0) : -1099511627776 ≤ x.Low ∧ x.Low ≤ x.cT ∧ x.cT ≤ 1099511627776 := by
 unfold fm at h
 split at h
 ·cases h
 split at h
 ·cases h
 omega
theorem Sq (N : Nat) (x : A2) : Y2 N x = some (fm x) := by
 unfold Y2 fm;simp only [D2, Q3, DL, Bool.or_eq_true, decide_eq_true_eq, or_assoc]
 split
 ·rfl
 split <;> rfl
theorem WN (N : Nat) (x : A2) : Ec N x = some (fm x) := by
 unfold Ec Fk fm;simp only [ES, HK, Q3, W1, U2, Option.bind_some, Bool.not_eq_true', Bool.and_eq_false_iff, decide_eq_false_iff_not, decide_eq_true_eq]
 repeat' split
 all_goals first | rfl | (exfalso; omega)
noncomputable def fiq (l : List A2) (i : Nat) (x : A2) : Int :=
 if fm x = 0 then (if 0 < i then match l[i - 1]? with | some y => if x.Low < Ar.ar .add .i64 y.cT 2 then 14 else 0 | none => 0 else 0) else fm x
noncomputable def ck (l : List A2) : Int := if 256 < l.length then 5 else fb (fiq l) 0 l
theorem Ur {α : Type} {l : List α} {i : Nat} (hi : 0 < i) (hl : i < l.length) (hn : l.length < 1000000000000) : C6 l (Ar.ar .sub .i64 (i : Int) 1) = l[i - 1]? := by
 have e : Ar.ar .sub .i64 (i : Int) 1 = ((i - 1 : Nat) : Int) := by
  show IntKind.wrap .i64 ((i : Int) - 1) = _
  rw [He (by omega) (by omega)]; omega
 rw [e, G2]
theorem LY {N : Nat} {l : List A2} (hN : 256 < N) : M4 N l = some (ck l) := by
 unfold M4 ck;simp only [Q3, D7, decide_eq_true_eq]
 by_cases hl : 256 < l.length
 ·rw [if_pos (by omega), if_pos hl]
 rw [if_neg (by omega), if_neg hl];rw [T7 (l := l) (f := fiq l) (e := .inl ()) (b := .inr) (N := N) ?_ ?_ (by omega)]
 ·simp only [Option.bind_some]
  by_cases h : fb (fiq l) 0 l = 0
  ·simp [h]
  simp [h]
 ·intro i x hx hi;simp only [D2, X4, Sq, G2, hx, Option.bind_some, decide_eq_true_eq];rw [if_pos (by omega), Q2 hi (by omega)];unfold fiq
  by_cases h0 : fm x = 0
  ·simp only [h0, decide_true, Bool.not_true, Bool.false_eq_true, if_false, if_true]
   by_cases hp : 0 < i
   ·rw [if_pos (by omega), Ur hp hi (by omega)]
    cases hy : l[i - 1]? with
    | none => rw [List.getElem?_eq_none_iff] at hy; omega
    | some y =>
     simp only [Option.bind_some, hp, if_true]
     by_cases hh : x.Low < Ar.ar .add .i64 y.cT 2
     ·rw [if_pos hh, if_pos hh]; rfl
     rw [if_neg hh, if_neg hh]; rfl
   rw [if_neg (by omega)]; simp [hp]
  simp [h0]
 simp [D2]
theorem RX {N : Nat} {l : List A2} (hN : 256 < N) : Cm N l = some (ck l) := by
 unfold Cm ck;simp only [Q3, D7, decide_eq_true_eq]
 by_cases hl : 256 < l.length
 ·rw [if_pos (by omega), if_pos hl]
 rw [if_neg (by omega), if_neg hl];rw [T7 (l := l) (f := fiq l) (e := .inl ()) (b := .inr) (N := N) ?_ ?_ (by omega)]
 ·simp only [Option.bind_some]
  by_cases h : fb (fiq l) 0 l = 0
  ·simp [h]
  simp [h]
 ·intro i x hx hi;simp only [D2, X4, WN, G2, hx, Option.bind_some, decide_eq_true_eq];rw [if_pos (by omega), Q2 hi (by omega)];unfold fiq
  by_cases h0 : fm x = 0
  ·simp only [h0, decide_true, Bool.not_true, Bool.false_eq_true, if_false, if_true]
   by_cases hp : 0 < i
   ·rw [if_pos (by omega), Ur hp hi (by omega)]
    cases hy : l[i - 1]? with
    | none => rw [List.getElem?_eq_none_iff] at hy; omega
    | some y =>
     simp only [Option.bind_some, hp, if_true]
     by_cases hh : x.Low < Ar.ar .add .i64 y.cT 2
     ·rw [if_pos hh, if_pos hh]; rfl
     rw [if_neg hh, if_neg hh]; rfl
   rw [if_neg (by omega)]; simp [hp]
  simp [h0]
 simp [D2]
def XX (l : List A2) : Prop := l.length ≤ 256 ∧ (∀ x ∈ l, -1099511627776 ≤ x.Low ∧ x.Low ≤ x.cT ∧ x.cT ≤ 1099511627776) ∧ ∀ (i : Nat) x y, l[i]? = some x → l[i + 1]? = some y → x.cT + 2 ≤ y.Low
theorem VX {l : List A2} (h : ck l = 0) : XX l := by
 unfold ck at h
 split at h
 ·cases h
 rename_i hl;have h := Ay.1 h
 have hm : ∀ (k : Nat) x, l[k]? = some x → fm x = 0 := fun k x hx => by
  have := h k x hx
  unfold fiq at this
  by_cases h0 : fm x = 0
  ·exact h0
  rw [if_neg h0] at this; exact this
 refine ⟨by omega, fun x hx => ?_, fun i x y hx hy => ?_⟩
 ·obtain ⟨k, hk⟩ := List.getElem?_of_mem hx;exact Ri (hm k x hk)
 have h1 := Ri (hm _ _ hx);have := h (i + 1) y hy
 simp only [Nat.zero_add] at this
 unfold fiq at this
 rw [if_pos (hm _ _ hy), if_pos (by omega), show i + 1 - 1 = i by omega, hx] at this
 simp only at this
 rw [CP (by omega) (by omega)] at this
 split at this
 ·cases this
 omega
end Go.Ab
namespace Go.Ab
theorem SW {n : Int} (h0 : 0 ≤ n) (h1 : n < 18446744073709551616) : IntKind.wrap .u64 n = n := by
 have e : IntKind.wrap .u64 n = n % 18446744073709551616 := by
  unfold IntKind.wrap;simp [IntKind.bits, IntKind.signed]
 rw [e]; omega
theorem WP {i j : Nat} (h : i + j < 1000000000000) : Ar.wr .i64 (Ar.sh .shr .u64 (Ar.wr .u64 (Ar.ar .add .i64 (i : Int) (j : Int))) 1) = (((i + j) / 2 : Nat) : Int) := by
 rw [CP (by omega) (by omega)]
 show IntKind.wrap .i64 (XB .shr .u64 (IntKind.wrap .u64 ((i : Int) + j)) 1) = _
 rw [SW (by omega) (by omega)]
 have e : XB .shr .u64 ((i : Int) + j) 1 = ((i : Int) + j) / 2 := by
  show ((i : Int) + j).fdiv (2 ^ (min (1 : Int).toNat 64)) = _
  rw [show (2 : Int) ^ (min (1 : Int).toNat 64) = 2 from rfl, Int.fdiv_eq_ediv_of_nonneg _ (by decide)]
 rw [e, He (by omega) (by omega)]; omega
def SX (x : A2) (n : Int) : Int := if x.cT < n then -1 else if n < x.Low then 1 else 0
theorem Ni (N : Nat) (x : A2) (n : Int) : S3 N x n = some (SX x n) := by
 unfold S3 SX;simp only [D2, Q3, decide_eq_true_eq]
 repeat' split
 all_goals rfl
def InL (l : List A2) (n : Int) : Prop := ∃ x ∈ l, x.Low ≤ n ∧ n ≤ x.cT
theorem MD {l : List A2} (hs : XX l) : ∀ (d i : Nat) x y, l[i]? = some x → l[i + d + 1]? = some y → x.cT + 2 ≤ y.Low
 | 0, i, x, y, hx, hy => hs.2.2 i x y hx hy
 | d + 1, i, x, y, hx, hy => by
  have hlt : i + d + 1 < l.length := by
   rcases Nat.lt_or_ge (i + d + 1) l.length with h | h
   ·exact h
   rw [List.getElem?_eq_none (by omega)] at hy; cases hy
  have h1 := MD hs d i x _ hx (List.getElem?_eq_getElem hlt);have h2 := hs.2.2 (i + d + 1) _ y (List.getElem?_eq_getElem hlt) hy;have h3 := hs.2.1 _ (List.getElem_mem hlt);omega
theorem VZ {N0 : Nat} {l : List A2} {n : Int} (hs : XX l) : ∀ (k i j N : Nat), j - i ≤ k → i ≤ j → j ≤ l.length → k < N →
 (∀ m x, m < i → l[m]? = some x → x.cT < n) → (∀ m x, j ≤ m → l[m]? = some x → n ≤ x.cT) →
 ∃ r : Nat, r ≤ l.length ∧ (∀ m x, m < r → l[m]? = some x → x.cT < n) ∧ (∀ m x, r ≤ m → l[m]? = some x → n ≤ x.cT) ∧
  loopN (fun (s1 : Int × Int) => (
   if Ar.k .lss s1.1 s1.2 = true then
    (C6 l (Ar.wr .i64 (Ar.sh .shr .u64 (Ar.wr .u64 (Ar.ar .add .i64 s1.1 s1.2)) 1))).bind fun x3 =>
    (S3 N0 x3 n).bind fun r4 =>
    if Ar.k .lss r4 0 = true then
     some (.inl (Ar.ar .add .i64 (Ar.wr .i64 (Ar.sh .shr .u64 (Ar.wr .u64 (Ar.ar .add .i64 s1.1 s1.2)) 1)) 1, s1.2))
    else
     some (.inl (s1.1, Ar.wr .i64 (Ar.sh .shr .u64 (Ar.wr .u64 (Ar.ar .add .i64 s1.1 s1.2)) 1)))
   else
    some (.inr s1.1) : Option ((Int × Int) ⊕ (Int)))) N ((i : Int), (j : Int)) = some (r : Int) := by
 intro k;have hl := hs.1
 induction k with
 | zero =>
  intro i j N hk hij hj hN h1 h2;obtain ⟨N, rfl⟩ : ∃ M, N = M + 1 := ⟨N - 1, by omega⟩;refine ⟨i, by omega, h1, fun m x hm hx => h2 m x (by omega) hx, ?_⟩;unfold loopN;simp only [D2, decide_eq_true_eq];rw [if_neg (by omega)]
 | succ k ih =>
  intro i j N hk hij hj hN h1 h2;obtain ⟨N, rfl⟩ : ∃ M, N = M + 1 := ⟨N - 1, by omega⟩
  by_cases hlt : i < j
  ·have hm : (i + j) / 2 < l.length := by omega
   have hx := List.getElem?_eq_getElem hm;have step := WP (i := i) (j := j) (by omega)
   by_cases hc : l[(i + j) / 2].cT < n
   ·obtain ⟨r, r1, r2, r3, r4⟩ := ih ((i + j) / 2 + 1) j N (by omega) (by omega) hj (by omega) (fun m x hm' hx' => by
     by_cases e : m = (i + j) / 2
     ·subst e; rw [hx] at hx'; cases hx'; exact hc
     have := MD hs ((i + j) / 2 - m - 1) m x l[(i + j) / 2] hx' (by rw [← hx]; congr 1; omega);have := hs.2.1 _ (List.getElem_mem hm)
     omega) h2
    refine ⟨r, r1, r2, r3, ?_⟩;rw [← r4]
    conv => lhs; unfold loopN
    simp only [D2, decide_eq_true_eq, step, G2, hx, Option.bind_some, Ni];rw [if_pos (by omega), if_pos (by unfold SX; rw [if_pos hc]; decide)];simp only [Q2 hm (by omega)]
   obtain ⟨r, r1, r2, r3, r4⟩ := ih i ((i + j) / 2) N (by omega) (by omega) (by omega) (by omega) h1 (fun m x hm' hx' => by
    by_cases e : m = (i + j) / 2
    ·subst e; rw [hx] at hx'; cases hx'; omega
    have := MD hs (m - (i + j) / 2 - 1) ((i + j) / 2) l[(i + j) / 2] x hx (by rw [← hx']; congr 1; omega);have := hs.2.1 x (List.mem_of_getElem? hx')
    omega)
   refine ⟨r, r1, r2, r3, ?_⟩;rw [← r4]
   conv => lhs; unfold loopN
   simp only [D2, decide_eq_true_eq, step, G2, hx, Option.bind_some, Ni];rw [if_pos (by omega), if_neg (by unfold SX; rw [if_neg hc]; split <;> decide)]
  refine ⟨i, by omega, h1, fun m x hm hx => h2 m x (by omega) hx, ?_⟩;unfold loopN;simp only [D2, decide_eq_true_eq];rw [if_neg (by omega)]
theorem WV {N : Nat} {l : List A2} {n : Int} (hs : XX l) (hN : 300 < N) : ∃ b, X0 N l n = some b ∧ (b = true ↔ InL l n) := by
 have hl := hs.1;obtain ⟨r, r1, r2, r3, r4⟩ := VZ (N0 := N) (n := n) hs l.length 0 l.length N (by omega) (by omega) (by omega) (by omega) (fun m x h => by omega) (fun m x h hx => by rw [List.getElem?_eq_none h] at hx; cases hx);unfold X0 E6;simp only [D7];rw [show ((0 : Int), ((l.length : Nat) : Int)) = (((0 : Nat) : Int), ((l.length : Nat) : Int)) from rfl, r4];simp only [Option.bind_some, D2, decide_eq_true_eq]
 by_cases hr : r < l.length
 ·have hx := List.getElem?_eq_getElem hr;rw [if_pos (by omega), G2, hx];simp only [Option.bind_some, Ni];refine ⟨_, rfl, ?_⟩;simp only [AB, decide_eq_true_eq];have h3 := r3 r _ (by omega) hx;unfold SX;rw [if_neg (by omega)]
  constructor
  ·intro h
   split at h
   ·cases h
   exact ⟨_, List.getElem_mem hr, by omega, h3⟩
  rintro ⟨x, hx', h1, h2⟩;obtain ⟨m, hm⟩ := List.getElem?_of_mem hx'
  have hmr : ¬ m < r := fun h => by have := r2 m x h hm; omega
  by_cases e : m = r
  ·subst e; rw [hx] at hm; cases hm; rw [if_neg (by omega)]
  have := MD hs (m - r - 1) r l[r] x hx (by rw [← hm]; congr 1; omega);omega
 rw [if_neg (by omega)];refine ⟨_, rfl, ?_⟩;simp only [Bool.false_eq_true, false_iff];rintro ⟨x, hx', h1, h2⟩;obtain ⟨m, hm⟩ := List.getElem?_of_mem hx';have hml : m < l.length := (List.getElem?_eq_some_iff.1 hm).1;have := r2 m x (by omega) hm;omega
theorem Vc {N : Nat} {l : List A2} {n : Int} (hl : l.length < 1000000000) (hN : l.length < N) : ∃ b, Ee N l n = some b ∧ (b = true ↔ InL l n) := by
 unfold Ee;simp only [D7];rw [T7 (l := l) (f := fun _ x => if x.Low ≤ n ∧ n ≤ x.cT then 1 else 0) (e := .inl ()) (b := fun _ => .inr ()) (N := N) ?_ ?_ hN]
 ·simp only [Option.bind_some]
  by_cases h : fb (fun _ (x : A2) => if x.Low ≤ n ∧ n ≤ x.cT then (1 : Int) else 0) 0 l = 0
  ·rw [if_pos h];refine ⟨false, rfl, ?_⟩;simp only [Bool.false_eq_true, false_iff];rintro ⟨x, hx, h1⟩;obtain ⟨k, hk⟩ := List.getElem?_of_mem hx;have := Ay.1 h k x hk
   rw [if_pos h1] at this; cases this
  rw [if_neg h];refine ⟨true, rfl, ?_⟩;simp only [true_iff];refine Classical.byContradiction fun hn => h (Ay.2 fun k x hk => ?_);rw [if_neg fun h1 => hn ⟨x, List.mem_of_getElem? hk, h1⟩]
 ·intro i x hx hi;simp only [D2, HK, G2, hx, Option.bind_some, decide_eq_true_eq];rw [if_pos (by omega), Q2 hi (by omega)]
  by_cases h1 : x.Low ≤ n
  ·rw [if_pos h1]
   by_cases h2 : n ≤ x.cT
   ·rw [if_pos h2, if_neg (by rw [if_pos ⟨h1, h2⟩]; decide)]
   rw [if_neg h2, if_pos (by rw [if_neg (by omega)])]
  rw [if_neg h1, if_pos (by rw [if_neg (by omega)])]
 simp [D2]
end Go.Ab
namespace Go.Ab
noncomputable def HU (types : Int) (p : B6) : Int := if types < 1 ∨ 16 < types then 2 else if (p.cP.length : Int) ≠ types then 15 else fb (fun _ x => ck x) 0 p.cP
theorem PU {N : Nat} {types : Int} {p : B6} (hN : 256 < N) : Q5 N types p = some (HU types p) := by
 unfold Q5 HU;simp only [D2, Q3, X4, DL, D7, Bool.or_eq_true, Bool.not_eq_true', decide_eq_true_eq, decide_eq_false_iff_not]
 by_cases h1 : types < 1 ∨ 16 < types
 ·rw [if_pos h1, if_pos h1]
 rw [if_neg h1, if_neg h1]
 by_cases h2 : (p.cP.length : Int) = types
 ·rw [if_neg (by simpa using h2), if_neg (by simpa using h2)];rw [T7 (l := p.cP) (f := fun _ x => ck x) (e := .inl ()) (b := .inr) (N := N) ?_ ?_ (by omega)]
  ·simp only [Option.bind_some]
   by_cases h : fb (fun _ x => ck x) 0 p.cP = 0
   ·simp [h]
   simp [h]
  ·intro i x hx hi;simp only [G2, hx, Option.bind_some, LY hN];rw [if_pos (by omega), Q2 hi (by omega)]
   by_cases h : ck x = 0
   ·simp [h]
   simp [h]
  rw [if_neg (by omega)]
 rw [if_pos (by simpa using h2), if_pos (by simpa using h2)]
theorem Vb {N : Nat} {types : Int} {p : B6} (hN : 256 < N) : Cl N types p = some (HU types p) := by
 unfold Cl HU;simp only [D2, Q3, X4, DL, D7, Bool.or_eq_true, Bool.not_eq_true', decide_eq_true_eq, decide_eq_false_iff_not]
 by_cases h1 : types < 1 ∨ 16 < types
 ·rw [if_pos h1, if_pos h1]
 rw [if_neg h1, if_neg h1]
 by_cases h2 : (p.cP.length : Int) = types
 ·rw [if_neg (by simpa using h2), if_neg (by simpa using h2)];subst h2;rw [T7 (l := p.cP) (f := fun _ x => ck x) (e := .inl ()) (b := .inr) (N := N) ?_ ?_ (by omega)]
  ·simp only [Option.bind_some]
   by_cases h : fb (fun _ x => ck x) 0 p.cP = 0
   ·simp [h]
   simp [h]
  ·intro i x hx hi;simp only [G2, hx, Option.bind_some, RX hN];rw [if_pos (by omega), Q2 hi (by omega)]
   by_cases h : ck x = 0
   ·simp [h]
   simp [h]
  rw [if_neg (by omega)]
 rw [if_pos (by simpa using h2), if_pos (by simpa using h2)]
noncomputable abbrev MV (p : B6) : Int := HU (p.cP.length : Int) p
theorem CS {p : B6} (h : MV p = 0) : (1 ≤ p.cP.length ∧ p.cP.length ≤ 16) ∧ ∀ x ∈ p.cP, XX x := by
 unfold MV HU at h
 split at h
 ·cases h
 rw [if_neg (by simp)] at h
 refine ⟨by omega, fun x hx => ?_⟩;obtain ⟨k, hk⟩ := List.getElem?_of_mem hx;exact VX (Ay.1 h k x hk)
theorem Qv {N : Nat} {l : List B6} (hN : 256 < N) (hl : l.length < N) (hb : l.length < 1000000000) : K0 N l = some (fb (fun _ x => MV x) 0 l) := by
 unfold K0;rw [T7 (l := l) (f := fun _ x => MV x) (e := .inl ()) (b := .inr) (N := N) ?_ ?_ hl]
 ·simp only [Option.bind_some]
  by_cases h : fb (fun _ x => MV x) 0 l = 0
  ·simp [h]
  simp [h]
 ·intro i x hx hi;simp only [D2, X4, D7, G2, hx, Option.bind_some, PU hN, decide_eq_true_eq];rw [if_pos (by omega), Q2 hi (by omega)]
  by_cases h : MV x = 0
  ·simp [h]
  simp [h]
 simp [D2, D7]
theorem FI {N : Nat} {p : B6} (hN : 256 < N) : K0 N [p] = some (MV p) := by
 rw [Qv hN (by simp; omega) (by simp)];unfold fb fb
 split
 ·rename_i h; rw [h]
 rfl
def InP (p : B6) (s : B2) : Prop := 0 ≤ s.Typ ∧ ∃ l, p.cP[s.Typ.toNat]? = some l ∧ InL l s.Num
noncomputable def FP (types : Int) (s : B2) : Int := if s.Typ < 0 ∨ types ≤ s.Typ then 6 else if s.Num < -1099511627776 ∨ 1099511627776 < s.Num then 2 else 0
theorem Va {N : Nat} {types : Int} {s : B2} : T3 N types s = some (FP types s) := by
 unfold T3 FP;simp only [D2, Q3, ES, DL, Bool.or_eq_true, decide_eq_true_eq]
 repeat' split
 all_goals rfl
theorem Pc {a b : Bool} {P : Prop} (h : a = true ↔ P) (k : b = true ↔ P) : a = b := by
 cases a <;> cases b <;> simp_all
end Go.Ab
namespace Go.Ab
noncomputable def UL (n : Nat) (t : Int) (m : C9) : Int := if (0 ≤ m.cQ ∧ m.cQ < (n : Int)) ∧ 0 ≤ m.To ∧ m.To < (n : Int) then HU t m.On else 2
noncomputable def SI (s : A3) : Int := if s.cS < 1 ∨ 16 < s.cS then 2 else if ((s.cM.length : Int) < 1 ∨ 256 < (s.cM.length : Int)) ∨ 2048 < (s.cO.length : Int) then 5 else fb (fun _ m => UL s.cM.length s.cS m) 0 s.cO
theorem Ig {N : Nat} {s : A3} (hN : 3000 < N) : K3 N s = some (SI s) := by
 unfold K3 SI;simp only [D2, Q3, DL, D7, Bool.or_eq_true, decide_eq_true_eq]
 by_cases h1 : s.cS < 1 ∨ 16 < s.cS
 ·rw [if_pos h1, if_pos h1]
 rw [if_neg h1, if_neg h1]
 by_cases h2 : ((s.cM.length : Int) < 1 ∨ 256 < (s.cM.length : Int)) ∨ 2048 < (s.cO.length : Int)
 ·rw [if_pos h2, if_pos h2]
 rw [if_neg h2, if_neg h2];rw [T7 (l := s.cO) (f := fun _ m => UL s.cM.length s.cS m) (e := .inl ()) (b := .inr) (N := N) ?_ ?_ (by omega)]
 ·simp only [Option.bind_some]
  by_cases h : fb (fun _ m => UL s.cM.length s.cS m) 0 s.cO = 0
  ·simp [h]
  simp [h]
 ·intro i x hx hi;simp only [V1, ES, D2, X4, W1, U2, D7, G2, hx, Option.bind_some, PU (show 256 < N by omega)];rw [if_pos (by omega), Q2 hi (by omega)]
  by_cases h3 : 0 ≤ x.cQ ∧ x.cQ < (s.cM.length : Int)
  ·rw [if_neg (by simp; omega)]
   by_cases h4 : 0 ≤ x.To ∧ x.To < (s.cM.length : Int)
   ·rw [if_neg (by simp; omega), show UL s.cM.length s.cS x = HU s.cS x.On from if_pos ⟨h3, h4⟩]
    by_cases h : HU s.cS x.On = 0
    ·simp [h]
    simp [h]
   rw [if_pos (by simp; omega), show UL s.cM.length s.cS x = 2 from if_neg (fun h => h4 h.2)];simp
  rw [if_pos (by simp; omega), show UL s.cM.length s.cS x = 2 from if_neg (fun h => h3 h.1)];simp
 rw [if_neg (by omega)]
theorem PN {N : Nat} {s : A3} (hN : 3000 < N) : Ck N s = some (SI s) := by
 unfold Ck SI;simp only [D2, Q3, ES, X4, DL, D7, Bool.or_eq_true, decide_eq_true_eq]
 by_cases h1 : s.cS < 1 ∨ 16 < s.cS
 ·rw [if_pos h1, if_pos h1]
 rw [if_neg h1, if_neg h1]
 by_cases h2 : ((s.cM.length : Int) < 1 ∨ 256 < (s.cM.length : Int)) ∨ 2048 < (s.cO.length : Int)
 ·rw [if_pos h2, if_pos h2]
 rw [if_neg h2, if_neg h2];rw [T7 (l := s.cO) (f := fun _ m => UL s.cM.length s.cS m) (e := .inl ()) (b := .inr) (N := N) ?_ ?_ (by omega)]
 ·simp only [Option.bind_some]
  by_cases h : fb (fun _ m => UL s.cM.length s.cS m) 0 s.cO = 0
  ·simp [h]
  simp [h]
 ·intro i x hx hi;simp only [G2, hx, Option.bind_some, Vb (show 256 < N by omega)];rw [if_pos (by omega), Q2 hi (by omega)];unfold UL
  by_cases h3 : (0 ≤ x.cQ ∧ x.cQ < (s.cM.length : Int)) ∧ 0 ≤ x.To ∧ x.To < (s.cM.length : Int)
  ·rw [if_neg (by omega), if_pos h3]
   by_cases h : HU s.cS x.On = 0
   ·simp [h]
   simp [h]
  rw [if_pos (by omega), if_neg h3];simp
 rw [if_neg (by omega)]
structure IB (s : A3) : Prop where
 ty : 1 ≤ s.cS ∧ s.cS ≤ 16
 fi : 1 ≤ s.cM.length ∧ s.cM.length ≤ 256
 mv : s.cO.length ≤ 2048
 each : ∀ m ∈ s.cO, ((0 ≤ m.cQ ∧ m.cQ < (s.cM.length : Int)) ∧ 0 ≤ m.To ∧ m.To < (s.cM.length : Int)) ∧ HU s.cS m.On = 0
theorem MA {s : A3} (h : SI s = 0) : IB s := by
 unfold SI at h
 split at h
 ·cases h
 rename_i h1
 split at h
 ·cases h
 rename_i h2;refine ⟨by omega, by omega, by omega, fun m hm => ?_⟩;obtain ⟨k, hk⟩ := List.getElem?_of_mem hm;have := Ay.1 h k m hk
 unfold UL at this
 split at this
 ·rename_i h3; exact ⟨h3, this⟩
 cases this
theorem Ju {N : Nat} {s : A3} {i : Int} (hN : 3000 < N) (hs : s.cO.length ≤ 2048) : J2 N s i = some (s.cO.filter fun m => decide (m.cQ = i)) := by
 unfold J2 AP;rw [PZ (β := C9) (σ := Unit) (R := Unit) s.cO (fun _ i => i) (fun _ m => if m.cQ = i then some ([m], .inl ()) else some ([], .inl ())) (fun _ => ()) () (by omega)]
 ·have key : ∀ l : List C9, Ac (β := C9) (σ := Unit) (R := Unit) (fun _ m => if m.cQ = i then some ([m], .inl ()) else some ([], .inl ())) l () = some (l.filter (fun m => decide (m.cQ = i)), .inl ()) := by
   intro l
   induction l with
   | nil => rfl
   | cons m l ih =>
    by_cases h : m.cQ = i
    ·simp [Ac, h, ih]
    simp [Ac, h, ih]
  rw [key];simp [O3]
 ·intro _ j x hx hj;simp only [D2, AB, D7, G2, hx, Option.bind_some, decide_eq_true_eq];rw [if_pos hj, CP (by omega) (by omega)]
  by_cases h : x.cQ = i
  ·simp [h, O3]
  simp [h]
 intro _;simp [D2, D7]
noncomputable def Ip (p : B6) (x : B2) : Bool := @decide (InP p x) (Classical.propDecidable _)
theorem HA {p : B6} {x : B2} : Ip p x = true ↔ InP p x := by unfold Ip; exact @decide_eq_true_iff _ (Classical.propDecidable _)
theorem Tq {t : Int} {x : B2} (h : FP t x = 0) : (0 ≤ x.Typ ∧ x.Typ < t) ∧ -1099511627776 ≤ x.Num ∧ x.Num ≤ 1099511627776 := by
 unfold FP at h
 split at h
 ·cases h
 split at h
 ·cases h
 omega
theorem Fs0 {t : Int} {p : B6} (h : HU t p = 0) : (p.cP.length : Int) = t ∧ MV p = 0 := by
 have h0 := h
 unfold HU at h
 split at h
 ·cases h
 split at h
 ·cases h
 rename_i h2
 have h2 : (p.cP.length : Int) = t := by omega
 subst h2;exact ⟨rfl, h0⟩
theorem IW {N : Nat} {t : Int} {p : B6} {x : B2} (hN : 300 < N) (hp : HU t p = 0) : ∃ r, O2 N p x = some r ∧ r.2 = FP t x ∧ (r.2 = 0 → r.1 = Ip p x) := by
 obtain ⟨ht, h0⟩ := Fs0 hp;subst ht;unfold O2;simp only [FI (show 256 < N by omega), Option.bind_some, X4, D2, ES, Q3, DL, D7, Bool.or_eq_true, Bool.not_eq_true', decide_eq_true_eq, decide_eq_false_iff_not, h0, not_true_eq_false, if_false];obtain ⟨hlen, hsrt⟩ := CS h0;unfold FP
 by_cases h1 : x.Typ < 0 ∨ (p.cP.length : Int) ≤ x.Typ
 ·simp only [if_pos h1];exact ⟨_, rfl, rfl, fun h => by cases h⟩
 simp only [if_neg h1]
 by_cases h2 : x.Num < -1099511627776 ∨ 1099511627776 < x.Num
 ·simp only [if_pos h2];exact ⟨_, rfl, rfl, fun h => by cases h⟩
 simp only [if_neg h2];obtain ⟨k, hk⟩ : ∃ k : Nat, x.Typ = (k : Int) := ⟨x.Typ.toNat, by omega⟩
 have hkl : k < p.cP.length := by omega
 have hx := List.getElem?_eq_getElem hkl
 have hcx : ck p.cP[k] = 0 := by
  have := h0
  unfold MV HU at this
  rw [if_neg (by omega), if_neg (by simp)] at this
  exact Ay.1 this k _ hx
 obtain ⟨b, e1, e2⟩ := WV (N := N) (n := x.Num) (hsrt _ (List.getElem_mem hkl)) (by omega);unfold Z0;simp only [hk, G2, hx, Option.bind_some, LY (show 256 < N by omega), hcx, X4, decide_true, Bool.not_true, Bool.false_eq_true, if_false, e1];refine ⟨_, rfl, rfl, fun _ => Pc e2 ?_⟩;rw [HA];unfold InP;rw [hk]
 constructor
 ·rintro ⟨_, l, hl, h⟩
  rw [show (k : Int).toNat = k by omega, hx] at hl; cases hl; exact h
 intro h; exact ⟨by omega, _, hx, h⟩
theorem Hj {N : Nat} {t : Int} {p : B6} {x : B2} (hN : 300 < N) (hp : HU t p = 0) (hx : FP t x = 0) : J6 N p x = some (Ip p x) := by
 obtain ⟨r, h1, h2, h3⟩ := IW (x := x) hN hp;unfold J6;simp only [h1, Option.bind_some, AB, W1]
 rw [hx] at h2
 rw [h3 h2, h2];simp
theorem RU {N : Nat} {t : Int} {p : B6} {x : B2} (hN : 300 < N) (hp : HU t p = 0) (hx : FP t x = 0) : BL N p x = some (Ip p x) := by
 obtain ⟨ht, h0⟩ := Fs0 hp;subst ht;obtain ⟨hlen, hsrt⟩ := CS h0;have h1 := Tq hx;obtain ⟨k, hk⟩ : ∃ k : Nat, x.Typ = (k : Int) := ⟨x.Typ.toNat, by omega⟩
 have hkl : k < p.cP.length := by omega
 have hy := List.getElem?_eq_getElem hkl;have hsx := hsrt _ (List.getElem_mem hkl);obtain ⟨b', e3, e4⟩ := Vc (N := N) (l := p.cP[k]) (n := x.Num) (by have := hsx.1; omega) (by have := hsx.1; omega);unfold BL;simp only [ES, D2, W1, D7, Bool.and_eq_true, decide_eq_true_eq, hk, G2, hy, Option.bind_some, e3];rw [if_pos (by omega)];rw [Pc e4 (k := ?_)];rw [HA];unfold InP;rw [hk]
 constructor
 ·rintro ⟨_, l, hl, h⟩
  rw [show (k : Int).toNat = k by omega, hy] at hl; cases hl; exact h
 intro h; exact ⟨by omega, _, hy, h⟩
theorem Xg : ((List.range 16).all fun k => ((AM 40000000 ((k : Int) + 1)).bind fun r => if r.2 = 0 then Q5 40000000 ((k : Int) + 1) r.1 else none) == some 0) = true := by kernel_rfl
theorem Xh {t : Int} (h : 1 ≤ t ∧ t ≤ 16) : ∃ p, AM 40000000 t = some (p, 0) ∧ HU t p = 0 := by
 have := List.all_eq_true.1 Xg (t - 1).toNat (by simp; omega)
 rw [show (((t - 1).toNat : Nat) : Int) + 1 = t by omega] at this
 have := eq_of_beq this;obtain ⟨r, h1, h2⟩ := bind_some this
 split at h2
 ·rename_i h3;obtain ⟨p, e⟩ := r;cases h3;exact ⟨p, h1, by rw [PU (by omega)] at h2; exact Option.some.inj h2⟩
 cases h2
end Go.Ab
namespace Go.Ab
def Lb (S : List (Int × Bool)) : Prop := S.Nodup ∧ ∀ p ∈ S, p.2 = true
theorem Ji : Lb [] := ⟨List.nodup_nil, fun p h => by cases h⟩
theorem Qm {S : List (Int × Bool)} (h : Lb S) {k : Int} (hk : (k, true) ∈ S) : Z5 S k (false : Bool) = some (true, true) := by
 unfold Z5
 cases hf : S.find? (fun p => decide (p.1 = k)) with
 | none => have := List.find?_eq_none.1 hf _ hk; simp at this
 | some p =>
  have h1 := h.2 p (List.mem_of_find?_eq_some hf);simp only [h1]
theorem Js {S : List (Int × Bool)} (h : Lb S) {k : Int} (hk : ¬(k, true) ∈ S) : Z5 S k (false : Bool) = some (false, false) ∧ Y6 S k true = some (S ++ [(k, true)]) ∧ Lb (S ++ [(k, true)]) := by
 have hn : ∀ p ∈ S, ¬p.1 = k := fun p hp e => hk (by have := h.2 p hp; obtain ⟨a, b⟩ := p; simp only at this e; subst this; subst e; exact hp);refine ⟨?_, ?_, ?_, ?_⟩
 ·unfold Z5;rw [List.find?_eq_none.2 (fun p hp => by simpa using hn p hp)]
 ·unfold Y6;rw [if_neg];simp only [List.any_eq_true, decide_eq_true_eq];rintro ⟨p, hp, e⟩;exact hn p hp e
 ·rw [List.nodup_append];refine ⟨h.1, by simp, fun a ha b hb => ?_⟩
  simp only [List.mem_singleton] at hb
  subst hb;rintro rfl;exact hk ha
 intro p hp
 rcases List.mem_append.1 hp with hp | hp
 ·exact h.2 p hp
 simp only [List.mem_singleton] at hp; rw [hp]
theorem LW {p q : Int × Bool} (h : p.1 = q.1 → p = q) : ∀ l, Hz p (Hz q l) = Hz q (Hz p l)
 | [] => by
  by_cases e : p = q
  ·rw [e]
  have : ¬p.1 = q.1 := fun h' => e (h h');simp only [Hz]
  by_cases h1 : p.1 ≤ q.1
  ·rw [if_pos h1, if_neg (by omega)]
  rw [if_neg h1, if_pos (by omega)]
 | r :: l => by
  by_cases e : p = q
  ·rw [e]
  have hne : ¬p.1 = q.1 := fun h' => e (h h');have ih := LW h l
  by_cases h1 : p.1 ≤ r.1
  ·by_cases h2 : q.1 ≤ r.1
   ·by_cases h3 : p.1 ≤ q.1
    ·simp only [Hz, if_pos h1, if_pos h2, if_pos h3, if_neg (show ¬q.1 ≤ p.1 by omega)]
    simp only [Hz, if_pos h1, if_pos h2, if_neg h3, if_pos (show q.1 ≤ p.1 by omega)]
   simp only [Hz, if_pos h1, if_neg h2, if_neg (show ¬q.1 ≤ p.1 by omega)]
  by_cases h2 : q.1 ≤ r.1
  ·simp only [Hz, if_neg h1, if_pos h2, if_neg (show ¬p.1 ≤ q.1 by omega)]
  simp only [Hz, if_neg h1, if_neg h2, ih]
theorem Te {l m : List (Int × Bool)} (h : l.Perm m) (ht : ∀ p ∈ l, p.2 = true) : AC l = AC m := by
 induction h with
 | nil => rfl
 | cons x _ ih => simp only [AC]; rw [ih (fun p hp => ht p (List.mem_cons_of_mem _ hp))]
 | swap x y l =>
  simp only [AC];refine LW (fun e => ?_) _;have h1 := ht x (by simp);have h2 := ht y (by simp);exact Prod.ext e (by rw [h1, h2])
 | trans h1 _ ih1 ih2 => rw [ih1 ht, ih2 (fun p hp => ht p (h1.mem_iff.2 hp))]
theorem NL {S : List (Int × Bool)} (h : Lb S) : Lb (AC S) := ⟨(BJ S).nodup_iff.2 h.1, fun p hp => h.2 p ((BJ S).mem_iff.1 hp)⟩
theorem QJ {S S' : List (Int × Bool)} (h : Lb S) (h' : Lb S') (hm : ∀ k, (k, true) ∈ S ↔ (k, true) ∈ S') : AC S = AC S' := by
 refine Te ((List.perm_ext_iff_of_nodup h.1 h'.1).2 fun p => ?_) h.2;obtain ⟨k, b⟩ := p;cases b
 ·exact ⟨fun hp => by have := h.2 _ hp; simp at this, fun hp => by have := h'.2 _ hp; simp at this⟩
 exact hm k
section
variable {x : B2} {t : Int}
noncomputable def Pj (N : Nat) (x : B2) (S : List (Int × Bool)) (m : C9) : Option (List (Int × Bool) ⊕ Unit) :=
 (Z5 S m.To (false : Bool)).bind fun r => if Ar.nt r.1 = true then (J6 N m.On x).bind fun c => if c = true then (Y6 S m.To true).bind fun l => some (.inl l) else some (.inl S) else some (.inl S)
theorem HS {N : Nat} (hN : 300 < N) (hx : FP t x = 0) : ∀ (l : List C9) (S : List (Int × Bool)), (∀ m ∈ l, HU t m.On = 0) → Lb S →
 ∃ S', D0 (Pj N x) l S = some (.inl S') ∧ Lb S' ∧ ∀ k, (k, true) ∈ S' ↔ (k, true) ∈ S ∨ ∃ m ∈ l, m.To = k ∧ Ip m.On x = true
 | [], S, _, hS => ⟨S, rfl, hS, fun k => by simp⟩
 | m :: l, S, hl, hS => by
  have hm := Hj hN (hl m (by simp)) hx;have hl' : ∀ m ∈ l, HU t m.On = 0 := fun y hy => hl y (List.mem_cons_of_mem _ hy)
  by_cases h1 : (m.To, true) ∈ S
  ·obtain ⟨S', e, h2, h3⟩ := HS hN hx l S hl' hS;refine ⟨S', ?_, h2, fun k => ?_⟩
   ·rw [D0, show Pj N x S m = some (.inl S) by simp [Pj, Qm hS h1, U2]];exact e
   rw [h3 k]
   constructor
   ·rintro (h | ⟨y, hy, h⟩)
    ·exact .inl h
    exact .inr ⟨y, List.mem_cons_of_mem _ hy, h⟩
   rintro (h | ⟨y, hy, h⟩)
   ·exact .inl h
   rcases List.mem_cons.1 hy with rfl | hy
   ·exact .inl (by rw [← h.1]; exact h1)
   exact .inr ⟨y, hy, h⟩
  obtain ⟨g1, g2, g3⟩ := Js hS h1
  cases hc : Ip m.On x with
  | false =>
   obtain ⟨S', e, h2, h3⟩ := HS hN hx l S hl' hS;refine ⟨S', ?_, h2, fun k => ?_⟩
   ·rw [D0, show Pj N x S m = some (.inl S) by simp [Pj, g1, U2, hm, hc]];exact e
   rw [h3 k]
   constructor
   ·rintro (h | ⟨y, hy, h⟩)
    ·exact .inl h
    exact .inr ⟨y, List.mem_cons_of_mem _ hy, h⟩
   rintro (h | ⟨y, hy, h⟩)
   ·exact .inl h
   rcases List.mem_cons.1 hy with rfl | hy
   ·rw [hc] at h; cases h.2
   exact .inr ⟨y, hy, h⟩
  | true =>
   obtain ⟨S', e, h2, h3⟩ := HS hN hx l _ hl' g3;refine ⟨S', ?_, h2, fun k => ?_⟩
   ·rw [D0, show Pj N x S m = some (.inl (S ++ [(m.To, true)])) by simp [Pj, g1, g2, U2, hm, hc]];exact e
   rw [h3 k]
   constructor
   ·rintro (h | ⟨y, hy, h⟩)
    ·rcases List.mem_append.1 h with h | h
     ·exact .inl h
     simp only [List.mem_singleton, Prod.mk.injEq, and_true] at h
     exact .inr ⟨m, by simp, h.symm, hc⟩
    exact .inr ⟨y, List.mem_cons_of_mem _ hy, h⟩
   rintro (h | ⟨y, hy, h⟩)
   ·exact .inl (List.mem_append_left _ h)
   rcases List.mem_cons.1 hy with rfl | hy
   ·exact .inl (List.mem_append_right _ (by rw [h.1]; simp))
   exact .inr ⟨y, hy, h⟩
variable {s : A3}
noncomputable def Nx (N : Nat) (s : A3) (x : B2) (S : List (Int × Bool)) (p : Int × Bool) : Option (List (Int × Bool) ⊕ List (Int × Bool)) :=
 (J2 N s p.1).bind fun r => (D0 (Pj N x) r S).bind fun o => match o with | .inl S' => some (.inl S') | .inr _ => none
theorem KZ {N : Nat} (hN : 3000 < N) (hx : FP s.cS x = 0) (hs : IB s) : ∀ (l S : List (Int × Bool)), Lb S →
 ∃ S', D0 (Nx N s x) l S = some (.inl S') ∧ Lb S' ∧ ∀ k, (k, true) ∈ S' ↔ (k, true) ∈ S ∨ ∃ p ∈ l, ∃ m ∈ s.cO, m.cQ = p.1 ∧ m.To = k ∧ Ip m.On x = true
 | [], S, hS => ⟨S, rfl, hS, fun k => by simp⟩
 | p :: l, S, hS => by
  obtain ⟨S1, e1, h1, h2⟩ := HS (N := N) (t := s.cS) (by omega) hx (s.cO.filter fun m => decide (m.cQ = p.1)) S (fun m hm => (hs.each m (List.mem_filter.1 hm).1).2) hS;obtain ⟨S', e, h3, h4⟩ := KZ hN hx hs l S1 h1;refine ⟨S', ?_, h3, fun k => ?_⟩
  ·rw [D0, show Nx N s x S p = some (.inl S1) by simp [Nx, Ju hN hs.mv, e1]];exact e
  rw [h4 k, h2 k]
  constructor
  ·rintro ((h | ⟨m, hm, h⟩) | ⟨q, hq, h⟩)
   ·exact .inl h
   ·obtain ⟨hm, e⟩ := List.mem_filter.1 hm;exact .inr ⟨p, by simp, m, hm, by simpa using e, h⟩
   exact .inr ⟨q, List.mem_cons_of_mem _ hq, h⟩
  rintro (h | ⟨q, hq, m, hm, e, h⟩)
  ·exact .inl (.inl h)
  rcases List.mem_cons.1 hq with rfl | hq
  ·exact .inl (.inr ⟨m, List.mem_filter.2 ⟨hm, by simpa using e⟩, h⟩)
  exact .inr ⟨q, hq, m, hm, e, h⟩
theorem addP {N : Nat} (hN : 3000 < N) (hx : FP s.cS x = 0) (hs : IB s) (S : List (Int × Bool)) :
 ∃ S', V3 (Nx N s x) (fun S => S) (fun S => AC S) S ([] : List (Int × Bool)) = some S' ∧ Lb S' ∧ ∀ k, (k, true) ∈ S' ↔ ∃ p ∈ S, ∃ m ∈ s.cO, m.cQ = p.1 ∧ m.To = k ∧ Ip m.On x = true := by
 obtain ⟨S', e, h1, h2⟩ := KZ hN hx hs S [] Ji;refine ⟨AC S', Ef fun m hm => ?_, NL h1, fun k => ?_⟩
 ·obtain ⟨S2, e2, h3, h4⟩ := KZ hN hx hs m [] Ji;rw [e2];simp only [Option.map_some, Qq, Option.some.injEq];refine QJ h3 h1 fun k => ?_;rw [h4, h2];simp only [List.not_mem_nil, false_or];exact ⟨fun ⟨p, hp, h⟩ => ⟨p, hm.mem_iff.1 hp, h⟩, fun ⟨p, hp, h⟩ => ⟨p, hm.mem_iff.2 hp, h⟩⟩
 rw [(BJ S').mem_iff, h2];simp
end
noncomputable def Vw (N : Nat) (b : List Bool) (x : B2) (o : List Bool) (m : C9) : Option (List Bool ⊕ List Bool) :=
 (C6 b m.cQ).bind fun x7 => if x7 = true then (BL N m.On x).bind fun r => if r = true then (Ea (Gb o m.To)).bind fun _ => (CW o m.To (fun _ : Bool => true)).bind fun l => some (.inl l) else some (.inl o) else some (.inl o)
theorem MW {N : Nat} {x : B2} {t : Int} {b : List Bool} (hN : 300 < N) (hx : FP t x = 0) : ∀ (l : List C9) (o : List Bool), o.length = b.length →
 (∀ m ∈ l, ((0 ≤ m.cQ ∧ m.cQ < (b.length : Int)) ∧ 0 ≤ m.To ∧ m.To < (b.length : Int)) ∧ HU t m.On = 0) →
 ∃ o', D0 (Vw N b x) l o = some (.inl o') ∧ o'.length = b.length ∧ ∀ k : Nat, o'[k]? = some true ↔ o[k]? = some true ∨ ∃ m ∈ l, b[m.cQ.toNat]? = some true ∧ m.To = (k : Int) ∧ Ip m.On x = true
 | [], o, ho, _ => ⟨o, rfl, ho, fun k => by simp⟩
 | m :: l, o, ho, hl => by
  have hl' := fun y hy => hl y (List.mem_cons_of_mem m hy);obtain ⟨⟨⟨f0, f1⟩, t0, t1⟩, hp⟩ := hl m (by simp);have hc := RU (x := x) hN hp hx;obtain ⟨i, hi⟩ : ∃ i : Nat, m.cQ = (i : Int) := ⟨m.cQ.toNat, by omega⟩;obtain ⟨j, hj⟩ : ∃ j : Nat, m.To = (j : Int) := ⟨m.To.toNat, by omega⟩
  have hib : i < b.length := by omega
  have hbi := List.getElem?_eq_getElem hib
  have skip : ∀ {P : Prop}, (b[i] = true ∧ Ip m.On x = true → P) → Vw N b x o m = some (.inl o) → (∀ k : Nat, (k : Int) = m.To → b[i] = true ∧ Ip m.On x = true → o[k]? = some true) →
   ∃ o', D0 (Vw N b x) (m :: l) o = some (.inl o') ∧ o'.length = b.length ∧ ∀ k : Nat, o'[k]? = some true ↔ o[k]? = some true ∨ ∃ y ∈ m :: l, b[y.cQ.toNat]? = some true ∧ y.To = (k : Int) ∧ Ip y.On x = true := by
   intro P _ e1 hk;obtain ⟨o', e, h1, h2⟩ := MW (N := N) (b := b) hN hx l o ho hl';refine ⟨o', by rw [D0, e1]; exact e, h1, fun k => ?_⟩;rw [h2 k]
   constructor
   ·rintro (h | ⟨y, hy, h⟩)
    ·exact .inl h
    exact .inr ⟨y, List.mem_cons_of_mem _ hy, h⟩
   rintro (h | ⟨y, hy, h⟩)
   ·exact .inl h
   rcases List.mem_cons.1 hy with rfl | hy
   ·rw [hi, show (i : Int).toNat = i by omega, hbi] at h
    exact .inl (hk k h.2.1.symm ⟨Option.some.inj h.1, h.2.2⟩)
   exact .inr ⟨y, hy, h⟩
  cases hb : b[i] with
  | false => exact skip (P := True) (fun _ => trivial) (by simp [Vw, hi, G2, hbi, hb]) (fun k _ h => by rw [hb] at h; cases h.1)
  | true =>
   cases hcc : Ip m.On x with
   | false => exact skip (P := True) (fun _ => trivial) (by simp [Vw, hi, G2, hbi, hb, hc, hcc]) (fun k _ h => by rw [hcc] at h; cases h.2)
   | true =>
    have hjo : j < o.length := by omega
    obtain ⟨o', e, h1, h2⟩ := MW (N := N) (b := b) hN hx l (o.set j true) (by simpa using ho) hl';refine ⟨o', ?_, h1, fun k => ?_⟩
    ·rw [D0, show Vw N b x o m = some (.inl (o.set j true)) by
      unfold Vw
      have hio : Gb o (j : Int) = true := by unfold Gb; simp; omega
      simp only [hi, G2, hbi, hb, hc, hcc, Option.bind_some, if_true, hj, Ea, hio, CW, List.getElem?_eq_getElem hjo, Option.map_some]
      rfl]
     exact e
    rw [h2 k]
    have hset : (o.set j true)[k]? = some true ↔ o[k]? = some true ∨ j = k := by
     rw [List.getElem?_set]
     by_cases e : j = k
     ·subst e; simp [hjo]
     simp [e]
    rw [hset]
    constructor
    ·rintro ((h | h) | ⟨y, hy, h⟩)
     ·exact .inl h
     ·exact .inr ⟨m, by simp, by rw [hi, show (i : Int).toNat = i by omega, hbi, hb], by omega, hcc⟩
     exact .inr ⟨y, List.mem_cons_of_mem _ hy, h⟩
    rintro (h | ⟨y, hy, h⟩)
    ·exact .inl (.inl h)
    rcases List.mem_cons.1 hy with rfl | hy
    ·exact .inl (.inr (by omega))
    exact .inr ⟨y, hy, h⟩
theorem QP {N : Nat} {s : A3} {x : B2} {b : List Bool} (hN : 3000 < N) (hx : FP s.cS x = 0) (hs : IB s) (hb : b.length = s.cM.length) :
 ∃ o, Q4 N s b x = some o ∧ o.length = s.cM.length ∧ ∀ k : Nat, o[k]? = some true ↔ ∃ m ∈ s.cO, b[m.cQ.toNat]? = some true ∧ m.To = (k : Int) ∧ Ip m.On x = true := by
 have hf := hs.fi;obtain ⟨o, e, h1, h2⟩ := MW (N := N) (b := b) (t := s.cS) (by omega) hx s.cO (List.replicate b.length false) (by simp) (fun m hm => by rw [hb]; exact hs.each m hm);refine ⟨o, ?_, by omega, fun k => ?_⟩
 ·unfold Q4;simp only [D7, Sh];rw [if_pos (by omega)];simp only [Option.bind_some, show ((b.length : Int)).toNat = b.length by omega];rw [Im (α := C9) (σ := List Bool) (R := List Bool) s.cO (by have := hs.mv; omega) (fun o i => (i, o)) (Vw N b x) (fun o => o) (List.replicate b.length false) (by have := hs.mv; omega)]
  ·rw [e]; rfl
  ·intro o i y hy hi;simp only [D2, D7, G2, hy, Option.bind_some, decide_eq_true_eq];rw [if_pos hi, CP (by omega) (by have := hs.mv; omega)];unfold Vw
   cases C6 b y.cQ with
   | none => rfl
   | some v =>
    simp only [Option.bind_some]
    cases v with
    | false => rfl
    | true =>
     simp only [if_true]
     cases BL N y.On x with
     | none => rfl
     | some r =>
      cases r with
      | false => rfl
      | true =>
       simp only [Option.bind_some, if_true]
       cases Ea (Gb o y.To) with
       | none => rfl
       | some _ =>
        simp only [Option.bind_some]
        cases CW o y.To (fun _ => true) with
        | none => rfl
        | some _ => rfl
  intro o;simp [D2]
 rw [h2 k]
 have : ¬(List.replicate b.length false)[k]? = some true := by
  rw [List.getElem?_replicate]; split <;> simp
 simp [this]
end Go.Ab
