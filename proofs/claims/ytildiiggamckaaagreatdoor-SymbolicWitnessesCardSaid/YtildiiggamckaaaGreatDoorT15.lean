/- GXCo5 GXCo6 -/
import Derived.Test.YtildiiggamckaaaGreatDoorT14
set_option linter.all false
namespace Go.Ab
open Go.RowKit Go.Proofs Go.Proofs.Tryz G4
variable [Ar] [G4]
set_option maxRecDepth 100000
def cf138 : Cf := ⟨[6, 10], [(3, 9), (5, 12)], [(37, 8), (62, 12)], [], [], [(3, 6, [6]), (5, 6, [6])]⟩
theorem c138 (N : Nat) : ∀ n aD aW aS r, R8 N n aD aW aS = some r → B5 prog 138 [(AE aD), vi aW, vi aS] (.tup [(Ap r.1), .bool r.2]) := by
 intro n
 induction n with
 | zero => intro aD aW aS r h; cases h
 | succ n ih =>
 intro aD aW aS r h
 unfold R8 at h
 refine K2 cf138 func138 call138 ntmps138 ?_;intro E H0 K hE hK hO;cbv;refine D1 hE hO fun b1 H hO => ?_;cbv;refine A6 hE h (fun _ h => ?_) fun _ h => ?_
 ·cbv;refine MX hE hO 0 rfl fun H1 hT hW => ?_;cbv;refine EE hE trivial ?_;cbv;refine MY hE hO 0 rfl hT fun H hO => ?_;cbv;refine B1 hE hO 0 rfl ?_;cbv;cases h;exact hK hO (.refl _)
 cbv;refine A6 hE h (fun _ h => ?_) fun _ h => ?_
 ·cbv;refine MX hE hO 0 rfl fun H1 hT hW => ?_;cbv;refine EE hE trivial ?_;cbv;refine MY hE hO 0 rfl hT fun H hO => ?_;cbv;refine B1 hE hO 0 rfl ?_;cbv;cases h;exact hK hO (.refl _)
 cbv;obtain ⟨s2, hx, h⟩ := bind_some h;refine K5 cf138 hE H6 (fun e l H1 => e = .normal ∧ l = [fi 1 aW, fi 2 aS, (3, .v (.eref (BW aD) 0)), (6, .v (.ref b1 0)), (37, .v (.bool s2))] ∧ B3 Eq H0 [cb b1 [vi 0, vi 0]] H1) (by kernel_rfl) ?_ ?_
 ·clear h;have h := hx;clear hx;cbv;refine A6 hE h (fun _ h => ?_) fun _ h => ?_
  ·cbv;cases h;exact ⟨_, ⟨rfl, rfl, hO⟩, .e rfl (.e4 .z), rfl⟩
  cbv;cases h;exact ⟨_, ⟨rfl, rfl, hO⟩, .e rfl (.e4 .z), rfl⟩
 clear hx;rintro e l H ⟨rfl, rfl, hO⟩;cbv;refine A6 hE h (fun _ h => ?_) fun _ h => ?_
 ·cbv;refine C2 hE eYp h fun x3 h => ?_;cbv;refine A7 hE h (ih x3 aW aS) (.refl _) fun r4 h => ?_;cbv;refine C2 hE eYp h fun x5 h => ?_;cbv;refine A7 hE h (ih x5 aW aS) (.refl _) fun r6 h => ?_;cbv;refine D1 hE hO fun b7 H hO => ?_;cbv;refine A8 hE hO 0 rfl rfl fun H hO => ?_;cbv;obtain ⟨s8, hx, h⟩ := bind_some h;refine K5 cf138 hE H6 (fun e l H1 => e = .normal ∧ l = [(6, .v (.ref b1 0)), (8, .v (.eref (BV r4.1) 0)), (9, .v (.bool r4.2)), (10, .v (.ref b7 0)), (11, .v (.bool r6.2))] ∧ B3 Eq H0 [cb b7 (BV s8), cb b1 [vi 0, vi 0]] H1) (by kernel_rfl) ?_ ?_
  ·clear h;have h := hx;clear hx;cbv;refine A6 hE h (fun _ h => ?_) fun _ h => ?_
   ·cbv;refine B1 hE hO 0 rfl ?_;cbv;refine B1 hE hO 0 rfl ?_;cbv;refine A8 hE hO 0 rfl rfl fun H hO => ?_;cbv;cases h;exact ⟨_, ⟨rfl, rfl, hO⟩, .e rfl (.e4 .z), rfl⟩
   cbv;cases h;exact ⟨_, ⟨rfl, rfl, hO⟩, .e rfl (.e4 .z), rfl⟩
  clear hx;rintro e l H ⟨rfl, rfl, hO⟩;cbv;refine B1 hE hO 0 rfl ?_;cbv;refine B1 hE hO 0 rfl ?_;cbv;refine A8 hE hO 1 rfl rfl fun H hO => ?_;cbv;refine B1 hE hO 1 rfl ?_;cbv;cases h;exact hK hO (.refl _)
 cbv;refine A8 hE hO 0 rfl rfl fun H hO => ?_;cbv;refine B1 hE hO 0 rfl ?_;cbv;cases h;exact hK hO (.refl _)
theorem c224 (N bE bF r) (h : Y9 N bE bF = some r) : B5 prog 224 [vi bE, vi bF] (sr eYc r) := by
 unfold Y9 at h
 refine K2 cf0 func224 call224 ntmps224 ?_;intro E H0 K hE hK hO;cbv;refine A6 hE h (fun _ h => ?_) fun _ h => ?_
 ·cbv;cases h;exact hK hO (.lit _ (B4))
 cbv;cases h;exact hK hO (.lit _ (C5 ((eYm (⟨Ar.mx bE (-1099511627776), Ar.mn bF 1099511627776⟩ : A2)).symm) (B4)))
theorem c225 (N aC aE r) (h : Bn N aC aE = some r) : B5 prog 225 [vi aC, vi aE] (vi r) := by
 unfold Bn at h
 refine K2 cf0 func225 call225 ntmps225 ?_;intro E H0 K hE hK hO;cbv;refine Hq hE h fun h => ?_;cbv;refine Hq hE h fun h => ?_;cbv;refine A6 hE h (fun _ h => ?_) fun _ h => ?_
 ·cbv;cases h;exact hK hO (.refl _)
 cbv;cases h;exact hK hO (.refl _)
theorem c185 (N aC r) (h : V4 N aC = some r) : B5 prog 185 [(Ap aC)] (sr eYc r) := by
 unfold V4 at h
 refine K2 cf0 func185 call185 ntmps185 ?_;intro E H0 K hE hK hO;cbv;refine A6 hE h (fun _ h => ?_) fun _ h => ?_
 ·cbv;refine A7 hE h (c225 N (Ar.neg .i64 aC.plus) aC.times) (.refl _) fun r1 h => ?_;cbv;refine A7 hE h (c224 N (-1099511627776) r1) (.refl _) fun r2 h => ?_;cbv;cases h;exact hK hO (.refl _)
 cbv;refine A6 hE h (fun _ h => ?_) fun _ h => ?_
 ·cbv;refine A7 hE h (c225 N (Ar.neg .i64 aC.plus) (Ar.neg .i64 aC.times)) (.refl _) fun r3 h => ?_;cbv;refine A7 hE h (c224 N (Ar.neg .i64 r3) 1099511627776) (.refl _) fun r4 h => ?_;cbv;cases h;exact hK hO (.refl _)
 cbv;refine A6 hE h (fun _ h => ?_) fun _ h => ?_
 ·cbv;refine A7 hE h (c89 N ) (.refl _) fun r5 h => ?_;cbv;cases h;exact hK hO (.refl _)
 cbv;cases h;exact hK hO (.lit _ (B4))
def cf139 : Cf := ⟨[8], [(8, 13)], [], [], [], []⟩
theorem c139 (N aM aC aE r) (h : AW N aM aC aE = some r) : B5 prog 139 [vi aM, (Ap aC), (Ap aE)] (.tup [sr eYc r.1, vi r.2]) := by
 unfold AW at h
 refine K2 cf139 func139 call139 ntmps139 ?_;intro E H0 K hE hK hO;cbv;refine D1 hE hO fun b1 H hO => ?_;cbv;refine A8 hE hO 0 rfl rfl fun H hO => ?_;cbv;refine A6 hE h (fun _ h => ?_) fun _ h => ?_
 ·cbv;refine B1 hE hO 0 rfl ?_;cbv;refine A8 hE hO 0 rfl rfl fun H hO => ?_;cbv;refine B1 hE hO 0 rfl ?_;cbv;refine A7 hE h (c185 N (⟨Ar.ar .sub .i64 aC.times aE.times, Ar.ar .add .i64 (Ar.ar .sub .i64 aC.plus aE.plus) 1⟩ : D3)) (.refl _) fun r2 h => ?_;cbv;cases h;exact hK hO (.refl _)
 cbv;refine A6 hE h (fun _ h => ?_) fun _ h => ?_
 ·cbv;refine B1 hE hO 0 rfl ?_;cbv;refine A7 hE h (c185 N (⟨Ar.ar .sub .i64 aC.times aE.times, Ar.ar .sub .i64 aC.plus aE.plus⟩ : D3)) (.refl _) fun r3 h => ?_;cbv;cases h;exact hK hO (.refl _)
 cbv;refine B1 hE hO 0 rfl ?_;cbv;refine M9 hE (g := fun r4 => sr eYc r4) h (c185 N (⟨Ar.ar .sub .i64 aC.times aE.times, Ar.ar .sub .i64 aC.plus aE.plus⟩ : D3)) (.refl _) fun r4 h => ?_;cbv;refine B1 hE hO 0 rfl ?_;cbv;refine B1 hE hO 0 rfl ?_;cbv;refine M9 hE (g := fun r5 => sr eYc r5) h (c185 N (⟨Ar.neg .i64 (Ar.ar .sub .i64 aC.times aE.times), Ar.neg .i64 (Ar.ar .sub .i64 aC.plus aE.plus)⟩ : D3)) (.refl _) fun r5 h => ?_;cbv;refine M9 hE (g := fun r6 => .tup [sr eYc r6.1, vi r6.2]) h (c120 N r4 r5) (.refl _) fun r6 h => ?_;cbv;cases h;exact hK hO (.refl _)
theorem c186 (N aH aP r) (h : Aw N aH aP = some r) : B5 prog 186 [.bool aH, .bool aP] (.bool r) := by
 unfold Aw at h
 refine K2 cf0 func186 call186 ntmps186 ?_;intro E H0 K hE hK hO;cbv;cases h;exact hK hO (.refl _)
theorem c140 (N aC aE r) (h : Bq N aC aE = some r) : B5 prog 140 [sr eYc aC, sr eYc aE] (.tup [sr eYc r.1, vi r.2]) := by
 unfold Bq at h
 refine K2 cf0 func140 call140 ntmps140 ?_;intro E H0 K hE hK hO;cbv;refine A7 hE (g := fun r1 => .tup [sr eYc r1.1, vi r1.2]) h (fun r1 hx => c160 N aC aE (.func (.func 186) [] []) (fun y1 y2 => Aw N y1 y2) (fun y1 y2 r hx => B5.value (F := []) (C := []) (c186 N y1 y2 r hx)) r1 hx) (.refl _) fun r1 h => ?_;cbv;cases h;exact hK hO (.refl _)
theorem c226 (N aF r) (h : Cv N aF = some r) : Et prog 226 (fun yv => [yv, .eref [sr eYc aF] 0]) (List.map (fun (x : A2) => [(N5 x)]) r) Vd := by
 unfold Cv at h
 obtain ⟨⟨w0, u0⟩, h1, hr⟩ := bind_some h;clear h;have hr := N2 hr;subst hr;have h := h1;clear h1;refine L7 cf0 H6 func226 (by rfl) (by kernel_rfl) call226 ntmps226 (by rfl) (fun _ => rfl) ?_;intro yv I D hI hD hy tl F E H K hE hO hK hKD
 have hO : B3 (I (List.map (fun (x : A2) => [(N5 x)]) (w0 ++ []) ++ tl)) F [] H := by rw [List.append_nil]; exact hO
 cbv;refine D4 hE ?_;cbv;obtain ⟨w2, w3, s6, hx, h1, he⟩ := K7 h;clear h;have h := h1;clear h1
 rw [he, List.append_assoc] at hO
 clear he;refine FZ cf0 hE H6 (γ := Unit) (fun s1 g => [(0, .v (yv)), fi 3 s1.1, (6, .v (sr eYc aF)), fi 7 (Ar.len aF), fi 8 s1.2]) (fun s1 g w H1 => B3 (I (List.map (fun (x : A2) => [(N5 x)]) w ++ tl)) F [] H1) (fun x e l w H1 => e = .exit 0 ∧ l = [(0, .v (yv)), fi 3 x] ∧ B3 (I (List.map (fun (x : A2) => [(N5 x)]) w ++ tl)) F [] H1) (fun e l H1 => (e = .ret ∧ l = [] ∧ B3 D F [] H1)) (by kernel_rfl) ?_ (w' := w3 ++ []) () hx ?_ ?_ ?_ ?_
 ·rintro s1 _ w4 w5 H o hO h;clear hx
  skip
  cbv;refine A6 hE h (fun _ h => ?_) fun _ h => ?_
  ·cbv;refine C2 hE eYm h fun x7 h => ?_;cbv;refine A6 hE h (fun _ h => ?_) fun _ h => ?_
   ·cbv;obtain ⟨w8, h1, he⟩ := P8 h;clear h;have h := h1;clear h1
    rw [he, List.append_assoc] at hO
    clear he;have hO : B3 (I ([.agg [vi s1.1, vi (Ar.ar .sub .i64 x7.Low 1)]] :: (List.map (fun (x : A2) => [(N5 x)]) (w8 ++ w5) ++ tl))) F [] _ := hO;refine AT hE hI hD hy hO (.refl _) (fun H hO => ?_) (fun H hO => ?_)
    ·cbv;refine Fv hE (Ar.nt_eq _) ?_;cbv;obtain ⟨hw, rfl⟩ := C4 h
     rw [← hw] at hO
     exact ⟨_, (), rfl, .e rfl (.e4 .z), rfl, hO⟩
    clear h;cbv;refine Fu hE (Ar.nt_eq _) ?_;cbv;exact .inr ⟨_, ⟨rfl, rfl, hO⟩, .z, rfl⟩
   cbv;obtain ⟨hw, rfl⟩ := C4 h
   rw [← hw] at hO
   exact ⟨_, (), rfl, .e rfl (.e4 .z), rfl, hO⟩
  cbv;obtain ⟨hw, rfl⟩ := C4 h
  rw [← hw] at hO
  exact .inl ⟨_, _, rfl, ⟨rfl, rfl, hO⟩, .e2 .z, rfl⟩
 ·exact .e rfl (.e4 .z)
 ·exact hO
 ·rintro e l H ⟨rfl, rfl, hO⟩;clear hx;cbv;refine A6 hE h (fun _ h => ?_) fun _ h => ?_
  ·cbv;obtain ⟨w9, h1, he⟩ := P8 h;clear h;have h := h1;clear h1
   rw [he, List.append_assoc] at hO
   clear he;have hO : B3 (I ([.agg [vi s6, vi 1099511627776]] :: (List.map (fun (x : A2) => [(N5 x)]) (w9 ++ []) ++ tl))) F [] _ := hO;refine AT hE hI hD hy hO (.refl _) (fun H hO => ?_) (fun H hO => ?_)
   ·cbv;obtain ⟨hw, _⟩ := C4 h
    rw [← hw] at hO
    exact hK _ _ _ hO trivial
   clear h;cbv;exact hKD _ _ _ hO trivial
  cbv;obtain ⟨hw, _⟩ := C4 h
  rw [← hw] at hO
  exact hK _ _ _ hO trivial
 rintro e l H hX;obtain ⟨rfl, rfl, hO⟩ := hX;clear h;cbv;exact hKD _ _ _ hO trivial
theorem c187 (N aG r) (h : DQ N aG = some r) : CH prog 187 [sr eYc aG] (fun v => DE prog v (r.map fun (x : A2) => [(N5 x)])) := by
 unfold DQ at h
 refine O6 cf0 H6 func187 (by rfl) (by kernel_rfl) call187 ntmps187 (by rfl) (by rfl) ?_;intro E H0 K hE hK;have hO : B3 Eq H0 [] H0 := .start B7 rfl;cbv;exact hK _ _ _ hO (O4 call226 (c226 N aG r h))
def cf141 : Cf := ⟨[5], [], [], [], [], []⟩
theorem c141 (N aG r) (h : U6 N aG = some r) : B5 prog 141 [sr eYc aG] (.tup [sr eYc r.1, vi r.2]) := by
 unfold U6 at h
 refine K2 cf141 func141 call141 ntmps141 ?_;intro E H0 K hE hK hO;cbv;refine A7 hE h (c94 N aG) (.refl _) fun r1 h => ?_;cbv;refine A6 hE h (fun _ h => ?_) fun _ h => ?_
 ·cbv;cases h;exact hK hO (.tup (.cons (.lit _ (B4)) (.refl _)))
 cbv;refine D1 hE hO fun b2 H hO => ?_;cbv;refine R5 hE h (c187 N aG) (.refl _) fun r3 v4 hv4 h => ?_;cbv;replace hO := hO.tl0 (t := .nil) rfl;obtain ⟨o10, hx, h⟩ := bind_some h;replace hO := hO.cast (L' := [.tl .nil, cb b2 [.sl (Ar.lst eYc ([])) .nil]]) (by simp only [ob, cb, sr, ← B4] <;> rfl);refine AU cf141 hE H6 (ι := Unit) (enc := fun (x : A2) => [(N5 x)]) (fun (s6 : (List A2)) F H => ∃ g : D8, (O8 g) ∧ B3 Eq F [.tl g, cb b2 [.sl (Ar.lst eYc s6) g]] H) (fun (r : Unit) e F H => False) (fun i s6 y5 => [(5, .v (.ref b2 0)), (6, .v (.eref (KU y5) 0))]) (fun i s6 y5 F H => ∃ g : D8, (O8 g) ∧ B3 Eq F [.tl g, cb b2 [.sl (Ar.lst eYc s6) g]] H) (fun _ => C7.ex fun _ => B3.stable B7 _) (fun _ _ => ⟨fun h => h.elim, fun _ _ h => h.elim⟩) (fun _ _ _ => C7.ex fun _ => B3.stable B7 _) hv4 hx (⟨.nil, trivial, hO⟩) (by decide) (fun _ => rfl) (by kernel_rfl) (by kernel_rfl) ?_ ?_ ?_ ?_
 ·rintro E i8 y5 s6 F7 H hE ⟨t9, ht9, hO⟩;clear hx h;cbv;exact ⟨(), ⟨t9, ht9, hO⟩, .e2 .z, rfl⟩
 ·rintro E i8 _ y5 s6 F7 H o hE hF h ⟨t9, ht9, hO⟩;clear hx;cbv;refine B1 hE hO 1 rfl ?_;cbv;refine V7 (f := eYc) hE R0 (by decide) hO 0 rfl ht9 (l := s6) (m := [y5]) (.refl _) (.lstc (.eq (eYm y5) (.refl _)) (.lst0)) h fun l12 t11 H hO ht11 h => ?_;cbv;refine A8 hE hO 1 rfl rfl fun H hO => ?_;cbv;cases h;exact ⟨_, rfl, ⟨t11, ht11, hO⟩⟩
 ·rintro d13 s16 H rfl hd ⟨t17, ht17, hO⟩;have hO : B3 Eq H0 [.tl t17, cb b2 [.sl (Ar.lst eYc s16) t17], .blk d13 DB] H := B3.dblk hd hO;clear hd;clear hx;cbv;refine B1 hE hO 1 rfl ?_;cbv;refine A7 hE h (c188 N s16) (.cons (.ro _ _) (.refl _)) fun r18 h => ?_;cbv;refine Bp hE hO 2 rfl fun H hO => ?_;cbv;cases h;exact hK hO (.refl _)
 rintro d r e H rfl hd hO;exact hO.elim
theorem c227 (N aH aP r) (h : Ax N aH aP = some r) : B5 prog 227 [.bool aH, .bool aP] (.bool r) := by
 unfold Ax at h
 refine K2 cf0 func227 call227 ntmps227 ?_;intro E H0 K hE hK hO;cbv;cases h;exact hK hO (.refl _)
theorem c189 (N aC aE r) (h : Br N aC aE = some r) : B5 prog 189 [sr eYc aC, sr eYc aE] (.tup [sr eYc r.1, vi r.2]) := by
 unfold Br at h
 refine K2 cf0 func189 call189 ntmps189 ?_;intro E H0 K hE hK hO;cbv;refine A7 hE (g := fun r1 => .tup [sr eYc r1.1, vi r1.2]) h (fun r1 hx => c160 N aC aE (.func (.func 227) [] []) (fun y1 y2 => Ax N y1 y2) (fun y1 y2 r hx => B5.value (F := []) (C := []) (c227 N y1 y2 r hx)) r1 hx) (.refl _) fun r1 h => ?_;cbv;cases h;exact hK hO (.refl _)
theorem c142 (N aC aE r) (h : Da N aC aE = some r) : B5 prog 142 [sr eYc aC, sr eYc aE] (.tup [sr eYc r.1, vi r.2]) := by
 unfold Da at h
 refine K2 cf0 func142 call142 ntmps142 ?_;intro E H0 K hE hK hO;cbv;refine A7 hE h (c189 N aC aE) (.refl _) fun r1 h => ?_;cbv;refine A6 hE h (fun _ h => ?_) fun _ h => ?_
 ·cbv;cases h;exact hK hO (.tup (.cons (.lit _ (B4)) (.refl _)))
 cbv;refine A7 hE h (c189 N aE aC) (.refl _) fun r2 h => ?_;cbv;refine A6 hE h (fun _ h => ?_) fun _ h => ?_
 ·cbv;cases h;exact hK hO (.tup (.cons (.lit _ (B4)) (.refl _)))
 cbv;refine A7 hE h (c140 N r1.1 r2.1) (.refl _) fun r3 h => ?_;cbv;refine A6 hE h (fun _ h => ?_) fun _ h => ?_
 ·cbv;cases h;exact hK hO (.tup (.cons (.lit _ (B4)) (.refl _)))
 cbv;refine A7 hE h (c141 N r3.1) (.refl _) fun r4 h => ?_;cbv;cases h;exact hK hO (.refl _)
def cf102 : Cf := ⟨[], [(32, 9), (34, 9), (37, 9)], [(32, 11)], [0], [], []⟩
theorem c102 (N : Nat) : ∀ n aD aW aS r, AQ N n aD aW aS = some r → B5 prog 102 [(AE aD), vi aW, vi aS] (.tup [sr eYc r.1, vi r.2]) := by
 intro n
 induction n with
 | zero => intro aD aW aS r h; cases h
 | succ n ih =>
 intro aD aW aS r h
 unfold AQ at h
 refine K2 cf102 func102 call102 ntmps102 ?_;intro E H0 K hE hK hO;cbv;obtain ⟨s1, hx, h⟩ := bind_some h;refine K5 cf102 hE H6 (fun e l H1 => match (generalizing := false) s1 with | .inl y => e = .normal ∧ l = [fi 1 aW, fi 2 aS, (3, .v (.eref (BW aD) 0))] ∧ B3 Eq H0 [] H1 | .inr y => e = .ret ∧ l = [(6, .v (sr eYc y.1)), fi 7 y.2] ∧ B3 Eq H0 [] H1) (by kernel_rfl) ?_ ?_
 ·clear h;have h := hx;clear hx;cbv;refine A6 hE h (fun _ h => ?_) fun _ h => ?_
  ·cbv;refine A6 hE h (fun _ h => ?_) fun _ h => ?_
   ·cbv;cases h;exact ⟨_, ⟨rfl, rfl, hO⟩, .v (.lit _ (B4)) (.e rfl .z), rfl⟩
   cbv;refine A6 hE h (fun _ h => ?_) fun _ h => ?_
   ·cbv;refine A7 hE h (c89 N ) (.refl _) fun r2 h => ?_;cbv;cases h;exact ⟨_, ⟨rfl, rfl, hO⟩, .e2 .z, rfl⟩
   cbv;cases h;exact ⟨_, ⟨rfl, rfl, hO⟩, .v (.lit _ (B4)) (.e rfl .z), rfl⟩
  cbv;obtain ⟨s3, hx, h⟩ := bind_some h;refine K5 cf102 hE H6 (fun e l H1 => e = .normal ∧ l = [fi 1 aW, fi 2 aS, (3, .v (.eref (BW aD) 0)), fi 18 aD.Op, (32, .v (.bool s3))] ∧ B3 Eq H0 [] H1) (by kernel_rfl) ?_ ?_
  ·clear h;have h := hx;clear hx;cbv;refine A6 hE h (fun _ h => ?_) fun _ h => ?_
   ·cbv;cases h;exact ⟨_, ⟨rfl, rfl, hO⟩, .e rfl (.e4 .z), rfl⟩
   cbv;refine A6 hE h (fun _ h => ?_) fun _ h => ?_
   ·cbv;cases h;exact ⟨_, ⟨rfl, rfl, hO⟩, .e rfl (.e4 .z), rfl⟩
   cbv;cases h;exact ⟨_, ⟨rfl, rfl, hO⟩, .e rfl (.e4 .z), rfl⟩
  clear hx;rintro e l H ⟨rfl, rfl, hO⟩;cbv;refine A6 hE h (fun _ h => ?_) fun _ h => ?_
  ·cbv;refine C2 hE eYp h fun x4 h => ?_;cbv;refine A7 hE h (c138 N N x4 aW aS) (.refl _) fun r5 h => ?_;cbv;refine C2 hE eYp h fun x6 h => ?_;cbv;refine A7 hE h (c138 N N x6 aW aS) (.refl _) fun r7 h => ?_;cbv;refine A6 hE h (fun _ h => ?_) fun _ h => ?_
   ·cbv;refine A7 hE h (c139 N aD.Op r5.1 r7.1) (.refl _) fun r8 h => ?_;cbv;cases h;exact ⟨_, ⟨rfl, rfl, hO⟩, .e2 .z, rfl⟩
   cbv;refine A6 hE h (fun _ h => ?_) fun _ h => ?_
   ·cbv;cases h;exact ⟨_, ⟨rfl, rfl, hO⟩, .v (.lit _ (B4)) (.e rfl .z), rfl⟩
   cbv;cases h;exact ⟨_, ⟨rfl, rfl, hO⟩, .e rfl (.e2 .z), rfl⟩
  cbv;refine A6 hE h (fun _ h => ?_) fun _ h => ?_
  ·cbv;cases h;exact ⟨_, ⟨rfl, rfl, hO⟩, .e rfl (.e2 .z), rfl⟩
  cbv;refine A6 hE h (fun _ h => ?_) fun _ h => ?_
  ·cbv;cases h;exact ⟨_, ⟨rfl, rfl, hO⟩, .e rfl (.e2 .z), rfl⟩
  cbv;refine A6 hE h (fun _ h => ?_) fun _ h => ?_
  ·cbv;cases h;exact ⟨_, ⟨rfl, rfl, hO⟩, .e rfl (.e2 .z), rfl⟩
  cbv;cases h;exact ⟨_, ⟨rfl, rfl, hO⟩, .v (.lit _ (B4)) (.e rfl .z), rfl⟩
 clear hx
 rcases s1 with y9 | y32
 ·rintro e l H ⟨rfl, rfl, hO⟩;cbv;refine D4 hE ?_;cbv;replace hO := hO.tl0 (t := .nil) rfl;obtain ⟨s12, hx, h⟩ := bind_some h;refine K1 cf102 hE H6 (γ := D8) (fun s10 g => [fi 1 aW, fi 2 aS, (3, .v (.eref (BW aD) 0)), (12, .v (.sl (Ar.lst eYh s10.1) g)), (75, .v (sr eYg aD.cR)), fi 76 (Ar.len aD.cR), fi 77 s10.2]) (fun s10 g H1 => O8 g ∧ B3 Eq H0 [.tl g] H1) (fun x e l H1 => match (generalizing := false) x with | .inl y => ∃ u1 : D8, O8 u1 ∧ e = .exit 2 ∧ l = [(3, .v (.eref (BW aD) 0)), (12, .v (.sl (Ar.lst eYh y) u1))] ∧ B3 Eq H0 [.tl u1] H1 | .inr y => ∃ u1 : D8, O8 u1 ∧ e = .ret ∧ l = [(6, .v (.sl [] .nil)), fi 7 y] ∧ B3 Eq H0 [.tl u1] H1) (by kernel_rfl) ?_ .nil hx ?_ ?_ ?_
  ·rintro s10 t11 H o ⟨ht11, hO⟩ h;clear hx;cbv;refine A6 hE h (fun _ h => ?_) fun _ h => ?_
   ·cbv;refine C2 hE eYp h fun x13 h => ?_;cbv;refine A7 hE h (ih x13 aW aS) (.refl _) fun r14 h => ?_;cbv;refine A6 hE h (fun _ h => ?_) fun _ h => ?_
    ·cbv;cases h;exact ⟨_, _, rfl, ⟨t11, ht11, rfl, rfl, hO⟩, .e2 .z, rfl⟩
    cbv;refine V7 (f := eYh) hE DG (by decide) hO 0 rfl ht11 (l := s10.1) (m := [r14.1]) (.refl _) (.lstc (.eq (eYj r14.1) (.refl _)) (.lst0)) h fun l16 t15 H hO ht15 h => ?_;cbv;cases h;exact ⟨_, t15, rfl, .e rfl (.e2 (.e4 .z)), rfl, ht15, hO⟩
   cbv;cases h;exact ⟨_, _, rfl, ⟨t11, ht11, rfl, rfl, hO⟩, .e2 .z, rfl⟩
  ·exact .e rfl (.e2 (.v (.slt _ (.lst0)) (.e rfl (.e rfl (.e rfl (.z))))))
  ·exact ⟨trivial, hO⟩
  clear hx
  rcases s12 with y17 | y30
  ·rintro e l H ⟨t18, ht18, rfl, rfl, hO⟩;cbv;refine A6 hE h (fun _ h => ?_) fun _ h => ?_
   ·cbv;refine C2 hE eYj h fun x19 h => ?_;cbv;refine C2 hE eYj h fun x20 h => ?_;cbv;refine M9 hE (g := fun r21 => .tup [sr eYc r21.1, vi r21.2]) h (c120 N x19 x20) (.refl _) fun r21 h => ?_;cbv;cases h;exact hK hO (.refl _)
   cbv;refine A6 hE h (fun _ h => ?_) fun _ h => ?_
   ·cbv;refine C2 hE eYj h fun x22 h => ?_;cbv;refine C2 hE eYj h fun x23 h => ?_;cbv;refine M9 hE (g := fun r24 => .tup [sr eYc r24.1, vi r24.2]) h (c140 N x22 x23) (.refl _) fun r24 h => ?_;cbv;cases h;exact hK hO (.refl _)
   cbv;refine A6 hE h (fun _ h => ?_) fun _ h => ?_
   ·cbv;refine C2 hE eYj h fun x25 h => ?_;cbv;refine A7 hE h (c141 N x25) (.refl _) fun r26 h => ?_;cbv;cases h;exact hK hO (.refl _)
   cbv;refine C2 hE eYj h fun x27 h => ?_;cbv;refine C2 hE eYj h fun x28 h => ?_;cbv;refine M9 hE (g := fun r29 => .tup [sr eYc r29.1, vi r29.2]) h (c142 N x27 x28) (.refl _) fun r29 h => ?_;cbv;cases h;exact hK hO (.refl _)
  rintro e l H ⟨t31, ht31, rfl, rfl, hO⟩;cbv;cases h;exact hK hO (.tup (.cons (.lit _ (B4)) (.refl _)))
 rintro e l H ⟨rfl, rfl, hO⟩;cbv;cases h;exact hK hO (.refl _)
theorem c143 (N : Nat) (aA : List DW) (aU : V) (aL : DW → Option Bool) (aY : ∀ y1 q, aL y1 = some q → Q6 prog aU [(QH y1)] (.bool q)) (r : Int) (h : P0 N aA aL = some r) : B5 prog 143 [sr eYx aA, aU] (vi r) := by
 unfold P0 at h
 refine K2 cf0 func143 call143 ntmps143 ?_;intro E H0 K hE hK hO;cbv;refine D4 hE ?_;cbv;obtain ⟨s2, hx, h⟩ := bind_some h;refine F6 cf0 hE H6 (fun s1 => [(0, .v (sr eYx aA)), (1, .v (aU)), fi 7 (Ar.len aA), fi 8 s1]) (fun s1 H1 => B3 Eq H0 [] H1) (fun x e l H1 => match (generalizing := false) x with | .inl y => e = .exit 0 ∧ l = [] ∧ B3 Eq H0 [] H1 | .inr y => e = .ret ∧ l = [fi 4 y] ∧ B3 Eq H0 [] H1) (by kernel_rfl) ?_ hx ?_ hO ?_
 ·intro s1 H o hO h;clear hx;cbv;refine A6 hE h (fun _ h => ?_) fun _ h => ?_
  ·cbv;refine C2 hE eYK h fun x3 h => ?_;cbv;refine As hE (g := fun r4 => .bool r4) h (fun r4 hx => aY x3 r4 hx) (.refl _) fun r4 h => ?_;cbv;refine A6 hE h (fun _ h => ?_) fun _ h => ?_
   ·cbv;cases h;exact ⟨_, _, rfl, ⟨rfl, rfl, hO⟩, .e rfl .z, rfl⟩
   cbv;cases h;exact ⟨_, rfl, .e4 .z, rfl, hO⟩
  cbv;cases h;exact ⟨_, _, rfl, ⟨rfl, rfl, hO⟩, .z, rfl⟩
 ·exact .e4 .z
 clear hx
 rcases s2 with y5 | y6
 ·rintro e l H ⟨rfl, rfl, hO⟩;cbv;cases h;exact hK hO (.refl _)
 rintro e l H ⟨rfl, rfl, hO⟩;cbv;cases h;exact hK hO (.refl _)
theorem c144 (N aL r) (h : U5 N aL = some r) : B5 prog 144 [(QH aL)] (.bool r) := by
 unfold U5 at h
 refine K2 cf0 func144 call144 ntmps144 ?_;intro E H0 K hE hK hO;cbv;cases h;exact hK hO (.refl _)
theorem c103 (N aA r) (h : Bm N aA = some r) : B5 prog 103 [(NJ aA)] (vi r) := by
 unfold Bm at h
 refine K2 cf0 func103 call103 ntmps103 ?_;intro E H0 K hE hK hO;cbv;refine A7 hE (g := fun r1 => vi r1) h (fun r1 hx => c143 N aA.Fields (.func (.func 144) [] []) (fun y1 => U5 N y1) (fun y1 r hx => B5.value (F := []) (C := []) (c144 N y1 r hx)) r1 hx) (.refl _) fun r1 h => ?_;cbv;cases h;exact hK hO (.refl _)
def cf54 : Cf := ⟨[8], [(8, 13), (13, 12)], [], [], [], []⟩
theorem c54 (N aJ bB bU aS r) (h : EB N aJ bB bU aS = some r) : B5 prog 54 [sr eYr aJ, vi bB, (AE bU), vi aS] (.tup [(E5 r.1), vi r.2]) := by
 unfold EB at h
 refine KN cf54 H6 func54 (by rfl) (by kernel_rfl) call54 ntmps54 (by rfl) (by rfl) ?_;intro E H0 K hE hK hG;have hO : B3 Eq H0 [] H0 := .start B7 rfl;cbv;refine D1 hE hO fun b1 H hO => ?_;cbv;refine A7 hE h (c51 N aJ) (.refl _) fun r2 h => ?_;cbv;refine A6 hE h (fun _ h => ?_) fun _ h => ?_
 ·cbv;refine A8 hE hO 0 rfl rfl fun H hO => ?_;cbv;refine B1 hE hO 0 rfl ?_;cbv;cases h;exact hK _ _ _ hO (.tup (.cons (.agg (.cons (.lit _ (B4)) (.refl _))) (.refl _)))
 cbv;refine D4 hE ?_;cbv;refine A6 hE h (fun _ h => ?_) fun _ h => ?_
 ·cbv;refine A8 hE hO 0 rfl rfl fun H hO => ?_;cbv;refine B1 hE hO 0 rfl ?_;cbv;cases h;exact hK _ _ _ hO (.tup (.cons (.agg (.cons (.lit _ (B4)) (.refl _))) (.refl _)))
 cbv;refine A6 hE h (fun _ h => ?_) fun _ h => ?_
 ·cbv;refine A8 hE hO 0 rfl rfl fun H hO => ?_;cbv;refine B1 hE hO 0 rfl ?_;cbv;cases h;exact hK _ _ _ hO (.tup (.cons (.agg (.cons (.lit _ (B4)) (.refl _))) (.refl _)))
 cbv;refine M9 hE (g := fun r3 => sr eYo r3) h (c101 N ([(⟨⟨#[]⟩, bB⟩ : L4)]) (Ar.ar .add .i64 aS 1)) (.cons (.lit _ (C5 ((eYD (⟨⟨#[]⟩, bB⟩ : L4)).symm) (B4))) (.refl _)) fun r3 h => ?_;cbv;refine M9 hE (g := fun r4 => .tup [vi r4.1, vi r4.2]) h (c100 N aJ r3 bU) (.refl _) fun r4 h => ?_;cbv;refine A6 hE h (fun _ h => ?_) fun _ h => ?_
 ·cbv;refine A8 hE hO 0 rfl rfl fun H hO => ?_;cbv;refine B1 hE hO 0 rfl ?_;cbv;cases h;exact hK _ _ _ hO (.tup (.cons (.agg (.cons (.lit _ (B4)) (.refl _))) (.refl _)))
 cbv;refine A6 hE h (fun _ h => ?_) fun _ h => ?_
 ·cbv;refine A8 hE hO 0 rfl rfl fun H hO => ?_;cbv;refine B1 hE hO 0 rfl ?_;cbv;cases h;exact hK _ _ _ hO (.tup (.cons (.agg (.cons (.lit _ (B4)) (.refl _))) (.refl _)))
 cbv;refine C2 hE eYF h fun x5 h => ?_;cbv;refine M9 hE (g := fun r6 => vi r6) h (c103 N x5) (.refl _) fun r6 h => ?_;cbv;refine M9 hE (g := fun r7 => .tup [sr eYc r7.1, vi r7.2]) h (c102 N N bU r6 aS) (.refl _) fun r7 h => ?_;cbv;refine A6 hE h (fun _ h => ?_) fun _ h => ?_
 ·cbv;refine A8 hE hO 0 rfl rfl fun H hO => ?_;cbv;refine B1 hE hO 0 rfl ?_;cbv;cases h;exact hK _ _ _ hO (.tup (.cons (.agg (.cons (.lit _ (B4)) (.refl _))) (.refl _)))
 cbv;refine D4 hE ?_;cbv;obtain ⟨l8, hmk, h⟩ := bind_some h;obtain ⟨_, hin, h⟩ := bind_some h;obtain ⟨l9, hup, h⟩ := bind_some h;refine Ki hE (f := eYh) (z0 := ([] : List A2)) (by decide) (.eq (eYj []) (.lit _ (B4))) hO (F := fun l => some l) (r := l8) (show (Sh (Ar.len aJ) (Ar.len aJ) ([] : List A2)).bind (fun l => some l) = some l8 by rw [hmk]; rfl) fun l8' q8 H hq8 e8 hO => ?_;cases e8;cbv
 have hb : 0 ≤ bB ∧ bB < (l8.length : Nat) := by
  unfold Ea Gb at hin
  split at hin
  ·rename_i hd; exact of_decide_eq_true hd
  cases hin
 have e9 : l9 = l8.set bB.toNat r7.1 := by
  unfold CW at hup
  cases hx : C6 l8 bB with
  | none => rw [hx] at hup; cases hup
  | some y => rw [hx] at hup; cases hup; rfl
 refine WZ hE (f := eYh) hO hq8 0 rfl hb ?_;cbv;refine Um hE (f := eYh) (tz := 1) (x' := r7.1) (fun x => ⟨sr eYc r7.1, .refl _, rfl, rfl, by rw [eYj, eYj]; rfl⟩) (by decide) hO hq8 0 rfl hb fun H hO => ?_
 rw [← e9] at hO
 have hq9 : X6 q8 (Ar.len l9) := by rw [e9, Ar.len_eq, List.length_set, ← Ar.len_eq]; exact hq8
 cbv;refine A8 hE hO 1 rfl rfl fun H hO => ?_;cbv;refine B1 hE hO 1 rfl ?_;cbv;cases h;obtain ⟨H2, g1, g2⟩ := hO.frzG (f := eYh) 0 rfl hq9;exact hG _ _ _ _ g1.agg1.tup2 g2 (.refl _)
def cf16 : Cf := ⟨[4, 10], [], [(77, 23)], [], [(90, 2000010)], []⟩
theorem c16 (N aJ aB r) (h : Z8 N aJ aB = some r) : B5 prog 16 [sr eYr aJ, (C1 aB)] (.tup [(F2 r.1), vi r.2]) := by
 unfold Z8 at h
 refine K2 cf16 func16 call16 ntmps16 ?_;intro E H0 K hE hK hO;cbv;refine D1 hE hO fun b1 H hO => ?_;cbv;refine A7 hE h (c51 N aJ) (.refl _) fun r2 h => ?_;cbv;refine A6 hE h (fun _ h => ?_) fun _ h => ?_
 ·cbv;refine A8 hE hO 0 rfl rfl fun H hO => ?_;cbv;refine B1 hE hO 0 rfl ?_;cbv;cases h;exact hK hO (.tup (.cons (.agg (.cons (.refl _) (.cons (.lit _ (B4)) (.cons (.lit _ (B4)) (.refl _))))) (.refl _)))
 cbv;refine A7 hE h (c52 N aB) (.refl _) fun r3 h => ?_;cbv;refine A6 hE h (fun _ h => ?_) fun _ h => ?_
 ·cbv;refine A8 hE hO 0 rfl rfl fun H hO => ?_;cbv;refine B1 hE hO 0 rfl ?_;cbv;cases h;exact hK hO (.tup (.cons (.agg (.cons (.refl _) (.cons (.lit _ (B4)) (.cons (.lit _ (B4)) (.refl _))))) (.refl _)))
 cbv;refine A7 hE h (c53 N N aB) (.refl _) fun r4 h => ?_;cbv;refine A6 hE h (fun _ h => ?_) fun _ h => ?_
 ·cbv;refine A8 hE hO 0 rfl rfl fun H hO => ?_;cbv;refine B1 hE hO 0 rfl ?_;cbv;cases h;exact hK hO (.tup (.cons (.agg (.cons (.refl _) (.cons (.lit _ (B4)) (.cons (.lit _ (B4)) (.refl _))))) (.refl _)))
 cbv;refine D4 hE ?_;cbv;refine A6 hE h (fun _ h => ?_) fun _ h => ?_
 ·cbv;refine A8 hE hO 0 rfl rfl fun H hO => ?_;cbv;refine B1 hE hO 0 rfl ?_;cbv;cases h;exact hK hO (.tup (.cons (.agg (.cons (.refl _) (.cons (.lit _ (B4)) (.cons (.lit _ (B4)) (.refl _))))) (.refl _)))
 cbv;refine D4 hE ?_;cbv;refine Ki hE (f := V.bool) (by decide) (z0 := (false : Bool)) ((.refl _)) hO h fun l6 q5 H hq5 h hO => ?_;cbv;refine D1 hE hO fun b7 H hO => ?_;cbv;refine A8 hE hO 0 rfl rfl fun H hO => ?_;cbv;refine B1 hE hO 0 rfl ?_;cbv;refine Af hE hO hq5 1 rfl h fun h => ?_;cbv;refine Ae hE (f := V.bool) (esz := 1) (tz := 1) (off := 0) (u := (fun x8 : Bool => true)) (fun _ => ⟨.bool true, .refl _, rfl, rfl, rfl⟩) (by decide) hO hq5 1 rfl h fun l9 H hq5 h hO => ?_;cbv;refine D4 hE ?_;cbv;replace hO := hO.cast (L' := [cb b7 [vi (Ar.len aJ), .own q5.id q5.lo q5.n, .sl (Ar.lst eYk ([])) .nil], ob q5 1 V.bool l9, cb b1 [vi 0, .sl [] .nil, .sl [] .nil]]) (by simp only [ob, cb, sr, ← B4] <;> rfl);replace hO := hO.tl0 (t := .nil) rfl;obtain ⟨s12, hx, h⟩ := bind_some h;refine K1 cf16 hE H6 (γ := D8) (fun s10 g => [(0, .v (sr eYr aJ)), (4, .v (.ref b1 0)), fi 9 (Ar.len r3.1.cV), (10, .v (.ref b7 0)), (53, .v (sr eYe r3.1.cW)), fi 54 (Ar.len r3.1.cW), fi 55 s10.1]) (fun s10 g H1 => O8 g ∧ B3 Eq H0 [.tl g, cb b7 [vi s10.2.cS, .own q5.id q5.lo q5.n, .sl (Ar.lst eYk s10.2.cO) g], ob q5 1 V.bool l9, cb b1 [vi 0, .sl [] .nil, .sl [] .nil]] H1) (fun x e l H1 => match (generalizing := false) x with | .inl y => ∃ u1 : D8, O8 u1 ∧ e = .exit 0 ∧ l = [(4, .v (.ref b1 0)), (10, .v (.ref b7 0))] ∧ B3 Eq H0 [.tl u1, cb b7 [vi y.cS, .own q5.id q5.lo q5.n, .sl (Ar.lst eYk y.cO) u1], ob q5 1 V.bool l9, cb b1 [vi 0, .sl [] .nil, .sl [] .nil]] H1 | .inr y => ∃ u1 : D8, O8 u1 ∧ e = .ret ∧ l = [(4, .v (.ref b1 0)), fi 5 y.1] ∧ B3 Eq H0 [.tl u1, cb b7 [vi y.2.cS, .own q5.id q5.lo q5.n, .sl (Ar.lst eYk y.2.cO) u1], ob q5 1 V.bool l9, cb b1 [vi 0, .sl [] .nil, .sl [] .nil]] H1) (by kernel_rfl) ?_ .nil hx ?_ ?_ ?_
 ·rintro s10 t11 H o ⟨ht11, hO⟩ h;clear hx;cbv;refine A6 hE h (fun _ h => ?_) fun _ h => ?_
  ·cbv;refine C2 hE eYv h fun x13 h => ?_;cbv;refine A7 hE h (c54 N aJ x13.Typ x13.cN x13.Var) (.refl _) fun r14 h => ?_;cbv;refine A6 hE h (fun _ h => ?_) fun _ h => ?_
   ·cbv;refine A8 hE hO 3 rfl rfl fun H hO => ?_;cbv;cases h;exact ⟨_, _, rfl, ⟨t11, ht11, rfl, rfl, hO⟩, .e2 .z, rfl⟩
   cbv;obtain ⟨s15, hx, h⟩ := bind_some h;refine K5 cf16 hE H6 (fun e l H1 => e = .normal ∧ l = [(0, .v (sr eYr aJ)), (4, .v (.ref b1 0)), fi 9 (Ar.len r3.1.cV), (10, .v (.ref b7 0)), (12, .v (.eref (Y8 x13) 0)), (13, .v (.eref (T8 r14.1) 0)), fi 15 s15, (53, .v (sr eYe r3.1.cW)), fi 54 (Ar.len r3.1.cW), fi 55 s10.1] ∧ B3 Eq H0 [.tl t11, cb b7 [vi s10.2.cS, .own q5.id q5.lo q5.n, .sl (Ar.lst eYk s10.2.cO) t11], ob q5 1 V.bool l9, cb b1 [vi 0, .sl [] .nil, .sl [] .nil]] H1) (by kernel_rfl) ?_ ?_
   ·clear h;have h := hx;clear hx;cbv;refine A6 hE h (fun _ h => ?_) fun _ h => ?_
    ·cbv;cases h;exact ⟨_, ⟨rfl, rfl, hO⟩, .e2 (.e4 (.e4 .z)), rfl⟩
    cbv;cases h;exact ⟨_, ⟨rfl, rfl, hO⟩, .e2 (.e4 (.e4 .z)), rfl⟩
   clear hx;rintro e l H ⟨rfl, rfl, hO⟩;cbv;refine B1 hE hO 1 rfl ?_;cbv;refine V7 (f := eYk) hE Hh (by decide) hO 0 rfl ht11 (l := s10.2.cO) (m := [(⟨x13.cQ, s15, r14.1⟩ : C9)]) (.refl _) (.lstc (.eq (eYl (⟨x13.cQ, s15, r14.1⟩ : C9)) (.refl _)) (.lst0)) h fun l17 t16 H hO ht16 h => ?_;cbv;refine A8 hE hO 1 rfl rfl fun H hO => ?_;cbv;cases h;exact ⟨_, t16, rfl, .e rfl (.e2 (.e4 .z)), rfl, ht16, hO⟩
  cbv;cases h;exact ⟨_, _, rfl, ⟨t11, ht11, rfl, rfl, hO⟩, .e2 .z, rfl⟩
 ·exact .e rfl (.e2 (.e4 .z))
 ·exact ⟨trivial, hO⟩
 clear hx
 rcases s12 with y18 | y20
 ·rintro e l H ⟨t19, ht19, rfl, rfl, hO⟩;cbv;refine QW hE hO hq5 1 2 rfl rfl rfl (by decide) fun H hO => ?_;cbv;refine B1 hE hO 1 rfl ?_;cbv;refine A8 hE hO 2 rfl rfl fun H hO => ?_;cbv;refine B1 hE hO 2 rfl ?_;cbv;cases h;exact hK hO (.tup (.cons (.agg (.cons (.refl _) (.cons (.refl _) (.cons (.ro _ _) (.refl _))))) (.refl _)))
 rintro e l H ⟨t21, ht21, rfl, rfl, hO⟩;cbv;refine B1 hE hO 3 rfl ?_;cbv;cases h;exact hK hO (.tup (.cons (.agg (.cons (.refl _) (.cons (.lit _ (B4)) (.cons (.lit _ (B4)) (.refl _))))) (.refl _)))
def cf112 : Cf := ⟨[], [(6, 8)], [], [], [], []⟩
theorem c112 (N aC aE r) (h : GE N aC aE = some r) : B5 prog 112 [sr eYc aC, sr eYc aE] (.bool r) := by
 unfold GE at h
 refine K2 cf112 func112 call112 ntmps112 ?_;intro E H0 K hE hK hO;cbv;refine D4 hE ?_;cbv;refine D4 hE ?_;cbv;refine A6 hE h (fun _ h => ?_) fun _ h => ?_
 ·cbv;cases h;exact hK hO (.refl _)
 cbv;obtain ⟨s2, hx, h⟩ := bind_some h;refine F6 cf112 hE H6 (fun s1 => [(0, .v (sr eYc aC)), (1, .v (sr eYc aE)), fi 5 s1]) (fun s1 H1 => B3 Eq H0 [] H1) (fun x e l H1 => match (generalizing := false) x with | .inl y => e = .exit 0 ∧ l = [] ∧ B3 Eq H0 [] H1 | .inr y => e = .ret ∧ l = [(4, .b false)] ∧ B3 Eq H0 [] H1) (by kernel_rfl) ?_ hx ?_ hO ?_
 ·intro s1 H o hO h;clear hx;cbv;refine D4 hE ?_;cbv;refine A6 hE h (fun _ h => ?_) fun _ h => ?_
  ·cbv;refine C2 hE eYm h fun x3 h => ?_;cbv;refine C2 hE eYm h fun x4 h => ?_;cbv;refine A6 hE h (fun _ h => ?_) fun _ h => ?_
   ·cbv;cases h;exact ⟨_, _, rfl, ⟨rfl, rfl, hO⟩, .b rfl (.z), rfl⟩
   cbv;cases h;exact ⟨_, rfl, .e rfl (.e2 .z), rfl, hO⟩
  cbv;cases h;exact ⟨_, _, rfl, ⟨rfl, rfl, hO⟩, .z, rfl⟩
 ·exact .e rfl (.e2 .z)
 clear hx
 rcases s2 with y5 | y6
 ·rintro e l H ⟨rfl, rfl, hO⟩;cbv;cases h;exact hK hO (.refl _)
 rintro e l H ⟨rfl, rfl, hO⟩;cbv;cases h;exact hK hO (.refl _)
def cf59 : Cf := ⟨[], [(6, 10)], [], [], [], []⟩
theorem c59 (N aB bH r) (h : GC N aB bH = some r) : B5 prog 59 [(E5 aB), (E5 bH)] (.bool r) := by
 unfold GC at h
 refine K2 cf59 func59 call59 ntmps59 ?_;intro E H0 K hE hK hO;cbv;refine D4 hE ?_;cbv;refine D4 hE ?_;cbv;refine A6 hE h (fun _ h => ?_) fun _ h => ?_
 ·cbv;cases h;exact hK hO (.refl _)
 cbv;obtain ⟨s2, hx, h⟩ := bind_some h;refine F6 cf59 hE H6 (fun s1 => [(2, .v (.eref (T8 aB) 0)), (3, .v (.eref (T8 bH) 0)), fi 5 s1]) (fun s1 H1 => B3 Eq H0 [] H1) (fun x e l H1 => match (generalizing := false) x with | .inl y => e = .exit 0 ∧ l = [] ∧ B3 Eq H0 [] H1 | .inr y => e = .ret ∧ l = [(4, .b false)] ∧ B3 Eq H0 [] H1) (by kernel_rfl) ?_ hx ?_ hO ?_
 ·intro s1 H o hO h;clear hx;cbv;refine D4 hE ?_;cbv;refine A6 hE h (fun _ h => ?_) fun _ h => ?_
  ·cbv;refine C2 hE eYj h fun x3 h => ?_;cbv;refine C2 hE eYj h fun x4 h => ?_;cbv;refine A7 hE h (c112 N x3 x4) (.refl _) fun r5 h => ?_;cbv;refine A6 hE h (fun _ h => ?_) fun _ h => ?_
   ·cbv;cases h;exact ⟨_, _, rfl, ⟨rfl, rfl, hO⟩, .b rfl (.z), rfl⟩
   cbv;cases h;exact ⟨_, rfl, .e rfl (.e2 .z), rfl, hO⟩
  cbv;cases h;exact ⟨_, _, rfl, ⟨rfl, rfl, hO⟩, .z, rfl⟩
 ·exact .e rfl (.e2 .z)
 clear hx
 rcases s2 with y6 | y7
 ·rintro e l H ⟨rfl, rfl, hO⟩;cbv;cases h;exact hK hO (.refl _)
 rintro e l H ⟨rfl, rfl, hO⟩;cbv;cases h;exact hK hO (.refl _)
def cf18 : Cf := ⟨[], [(6, 10), (11, 14)], [], [], [], []⟩
theorem c18 (N aC aE r) (h : EA N aC aE = some r) : B5 prog 18 [(F2 aC), (F2 aE)] (.bool r) := by
 unfold EA at h
 refine K2 cf18 func18 call18 ntmps18 ?_;intro E H0 K hE hK hO;cbv;refine D4 hE ?_;cbv;refine D4 hE ?_;cbv;refine D4 hE ?_;cbv;refine D4 hE ?_;cbv;refine A6 hE h (fun _ h => ?_) fun _ h => ?_
 ·cbv;cases h;exact hK hO (.refl _)
 cbv;obtain ⟨s2, hx, h⟩ := bind_some h;refine F6 cf18 hE H6 (fun s1 => [(2, .v (.eref (B9 aC) 0)), (3, .v (.eref (B9 aE) 0)), fi 5 s1]) (fun s1 H1 => B3 Eq H0 [] H1) (fun x e l H1 => match (generalizing := false) x with | .inl y => e = .exit 0 ∧ l = [(2, .v (.eref (B9 aC) 0)), (3, .v (.eref (B9 aE) 0))] ∧ B3 Eq H0 [] H1 | .inr y => e = .ret ∧ l = [(4, .b false)] ∧ B3 Eq H0 [] H1) (by kernel_rfl) ?_ hx ?_ hO ?_
 ·intro s1 H o hO h;clear hx;cbv;refine D4 hE ?_;cbv;refine A6 hE h (fun _ h => ?_) fun _ h => ?_
  ·cbv;refine C2 hE (fun _ => rfl) h fun x3 h => ?_;cbv;refine C2 hE (fun _ => rfl) h fun x4 h => ?_;cbv;refine A6 hE h (fun _ h => ?_) fun _ h => ?_
   ·cbv;cases h;exact ⟨_, _, rfl, ⟨rfl, rfl, hO⟩, .b rfl (.z), rfl⟩
   cbv;cases h;exact ⟨_, rfl, .e rfl (.e2 .z), rfl, hO⟩
  cbv;cases h;exact ⟨_, _, rfl, ⟨rfl, rfl, hO⟩, .e2 .z, rfl⟩
 ·exact .e rfl (.e2 .z)
 clear hx
 rcases s2 with y5 | y13
 ·rintro e l H ⟨rfl, rfl, hO⟩;cbv;obtain ⟨s7, hx, h⟩ := bind_some h;refine F6 cf18 hE H6 (fun s6 => [(2, .v (.eref (B9 aC) 0)), (3, .v (.eref (B9 aE) 0)), fi 6 s6]) (fun s6 H1 => B3 Eq H0 [] H1) (fun x e l H1 => match (generalizing := false) x with | .inl y => e = .exit 2 ∧ l = [] ∧ B3 Eq H0 [] H1 | .inr y => e = .ret ∧ l = [(4, .b false)] ∧ B3 Eq H0 [] H1) (by kernel_rfl) ?_ hx ?_ hO ?_
  ·intro s6 H o hO h;clear hx;cbv;refine D4 hE ?_;cbv;refine A6 hE h (fun _ h => ?_) fun _ h => ?_
   ·cbv;refine C2 hE eYl h fun x8 h => ?_;cbv;refine C2 hE eYl h fun x9 h => ?_;cbv;refine A6 hE h (fun _ h => ?_) fun _ h => ?_
    ·cbv;cases h;exact ⟨_, _, rfl, ⟨rfl, rfl, hO⟩, .b rfl (.z), rfl⟩
    cbv;refine A7 hE h (c59 N x8.On x9.On) (.refl _) fun r10 h => ?_;cbv;refine A6 hE h (fun _ h => ?_) fun _ h => ?_
    ·cbv;cases h;exact ⟨_, _, rfl, ⟨rfl, rfl, hO⟩, .b rfl (.z), rfl⟩
    cbv;cases h;exact ⟨_, rfl, .e rfl (.e2 .z), rfl, hO⟩
   cbv;cases h;exact ⟨_, _, rfl, ⟨rfl, rfl, hO⟩, .z, rfl⟩
  ·exact .e rfl (.e2 .z)
  clear hx
  rcases s7 with y11 | y12
  ·rintro e l H ⟨rfl, rfl, hO⟩;cbv;cases h;exact hK hO (.refl _)
  rintro e l H ⟨rfl, rfl, hO⟩;cbv;cases h;exact hK hO (.refl _)
 rintro e l H ⟨rfl, rfl, hO⟩;cbv;cases h;exact hK hO (.refl _)
theorem c158 (N aF r) (h : W8 N aF = some r) : Et prog 158 (fun yv => [yv, .eref (T8 aF) 0]) (List.map (fun (x : (Int × (List A2))) => [vi x.1, sr eYc x.2]) r) Vd := by
 unfold W8 at h
 obtain ⟨⟨w0, u0⟩, h1, hr⟩ := bind_some h;clear h;have hr := N2 hr;subst hr;have h := h1;clear h1;refine L7 cf0 H6 func158 (by rfl) (by kernel_rfl) call158 ntmps158 (by rfl) (fun _ => rfl) ?_;intro yv I D hI hD hy tl F E H K hE hO hK hKD
 have hO : B3 (I (List.map (fun (x : (Int × (List A2))) => [vi x.1, sr eYc x.2]) (w0 ++ []) ++ tl)) F [] H := by rw [List.append_nil]; exact hO
 cbv;refine D4 hE ?_;cbv;obtain ⟨w2, w3, s6, hx, h1, he⟩ := K7 h;clear h;have h := h1;clear h1
 rw [he, List.append_assoc] at hO
 clear he;refine FZ cf0 hE H6 (γ := Unit) (fun s1 g => [(0, .v (yv)), (6, .v (sr eYh aF.cP)), fi 7 (Ar.len aF.cP), fi 8 s1]) (fun s1 g w H1 => B3 (I (List.map (fun (x : (Int × (List A2))) => [vi x.1, sr eYc x.2]) w ++ tl)) F [] H1) (fun x e l w H1 => e = .exit 0 ∧ l = [] ∧ B3 (I (List.map (fun (x : (Int × (List A2))) => [vi x.1, sr eYc x.2]) w ++ tl)) F [] H1) (fun e l H1 => (e = .ret ∧ l = [] ∧ B3 D F [] H1)) (by kernel_rfl) ?_ (w' := w3 ++ []) () hx ?_ ?_ ?_ ?_
 ·rintro s1 _ w4 w5 H o hO h;clear hx
  skip
  cbv;refine A6 hE h (fun _ h => ?_) fun _ h => ?_
  ·cbv;refine C2 hE eYj h fun x7 h => ?_;cbv;refine D4 hE ?_;cbv;refine A6 hE h (fun _ h => ?_) fun _ h => ?_
   ·cbv;obtain ⟨w8, h1, he⟩ := P8 h;clear h;have h := h1;clear h1
    rw [he, List.append_assoc] at hO
    clear he;have hO : B3 (I ([vi s1, sr eYc x7] :: (List.map (fun (x : (Int × (List A2))) => [vi x.1, sr eYc x.2]) (w8 ++ w5) ++ tl))) F [] _ := hO;refine AT hE hI hD hy hO (.refl _) (fun H hO => ?_) (fun H hO => ?_)
    ·cbv;refine Fv hE (Ar.nt_eq _) ?_;cbv;obtain ⟨hw, rfl⟩ := C4 h
     rw [← hw] at hO
     exact ⟨_, (), rfl, .e4 .z, rfl, hO⟩
    clear h;cbv;refine Fu hE (Ar.nt_eq _) ?_;cbv;exact .inr ⟨_, ⟨rfl, rfl, hO⟩, .z, rfl⟩
   cbv;obtain ⟨hw, rfl⟩ := C4 h
   rw [← hw] at hO
   exact ⟨_, (), rfl, .e4 .z, rfl, hO⟩
  cbv;obtain ⟨hw, rfl⟩ := C4 h
  rw [← hw] at hO
  exact .inl ⟨_, _, rfl, ⟨rfl, rfl, hO⟩, .z, rfl⟩
 ·exact .e4 .z
 ·exact hO
 ·rintro e l H ⟨rfl, rfl, hO⟩;clear hx;cbv;obtain ⟨hw, _⟩ := C4 h
  rw [← hw] at hO
  exact hK _ _ _ hO trivial
 rintro e l H hX;obtain ⟨rfl, rfl, hO⟩ := hX;clear h;cbv;exact hKD _ _ _ hO trivial
theorem c113 (N aB r) (h : R9 N aB = some r) : CH prog 113 [(E5 aB)] (fun v => DE prog v (r.map fun (x : (Int × (List A2))) => [vi x.1, sr eYc x.2])) := by
 unfold R9 at h
 refine O6 cf0 H6 func113 (by rfl) (by kernel_rfl) call113 ntmps113 (by rfl) (by rfl) ?_;intro E H0 K hE hK;have hO : B3 Eq H0 [] H0 := .start B7 rfl;cbv;exact hK _ _ _ hO (O4 call158 (c158 N aB r h))
def cf117 : Cf := ⟨[2, 3], [], [], [], [], []⟩
theorem c117 (N aB r) (h : AR N aB = some r) : B5 prog 117 [(E5 aB)] (.tup [.bool r.1, vi r.2]) := by
 unfold AR at h
 refine K2 cf117 func117 call117 ntmps117 ?_;intro E H0 K hE hK hO;cbv;refine D1 hE hO fun b1 H hO => ?_;cbv;refine D1 hE hO fun b2 H hO => ?_;cbv;refine A7 hE h (c90 N ([aB])) (.cons (.lit _ (C5 ((eYB aB).symm) (B4))) (.refl _)) fun r3 h => ?_;cbv;refine A6 hE h (fun _ h => ?_) fun _ h => ?_
 ·cbv;refine A8 hE hO 1 rfl rfl fun H hO => ?_;cbv;refine A8 hE hO 0 rfl rfl fun H hO => ?_;cbv;refine B1 hE hO 1 rfl ?_;cbv;refine B1 hE hO 0 rfl ?_;cbv;cases h;exact hK hO (.refl _)
 cbv;refine R5 hE h (c113 N aB) (.refl _) fun r4 v5 hv5 h => ?_;cbv;obtain ⟨o10, hx, h⟩ := bind_some h;refine AU cf117 hE H6 (ι := Unit) (enc := fun (x : (Int × (List A2))) => [vi x.1, sr eYc x.2]) (fun (s7 : Unit) F H => B3 Eq F [cb b2 [vi 0], cb b1 [.bool false]] H) (fun (r : Unit) e F H => e = .ret ∧ B3 Eq F [cb b2 [vi 0], cb b1 [.bool false]] H) (fun i s7 y6 => [(2, .v (.ref b1 0)), (3, .v (.ref b2 0))]) (fun i s7 y6 F H => B3 Eq F [cb b2 [vi 0], cb b1 [.bool false]] H) (fun _ => B3.stable B7 _) (fun _ _ => C7.con (B3.stable B7 _)) (fun _ _ _ => B3.stable B7 _) hv5 hx (hO) (by decide) (fun _ => rfl) (by kernel_rfl) (by kernel_rfl) ?_ ?_ ?_ ?_
 ·rintro E i9 y6 s7 F8 H hE hO;clear hx h;cbv;exact ⟨(), hO, .e2 .z, rfl⟩
 ·rintro E i9 _ y6 s7 F8 H o hE hF h hO;clear hx;cbv;refine A8 hE hO 1 rfl rfl fun H hO => ?_;cbv;refine A8 hE hO 0 rfl rfl fun H hO => ?_;cbv;cases h;exact ⟨_, rfl, rfl, ⟨rfl, hO⟩⟩
 ·rintro d11 s13 H rfl hd hO;have hO : B3 Eq H0 [cb b2 [vi 0], cb b1 [.bool false], .blk d11 DB] H := B3.dblk hd hO;clear hd;clear hx;cbv;refine A8 hE hO 1 rfl rfl fun H hO => ?_;cbv;refine A8 hE hO 0 rfl rfl fun H hO => ?_;cbv;refine Bp hE hO 2 rfl fun H hO => ?_;cbv;refine B1 hE hO 1 rfl ?_;cbv;refine B1 hE hO 0 rfl ?_;cbv;cases h;exact hK hO (.refl _)
 rintro d11 y14 e H rfl hd hX;clear hx
 rcases hX with ⟨rfl, hO⟩
 have hO : B3 Eq H0 [cb b2 [vi 0], cb b1 [.bool false], .blk d11 DB] H := B3.dblk hd hO;clear hd;cbv;refine Bp hE hO 2 rfl fun H hO => ?_;cbv;refine B1 hE hO 1 rfl ?_;cbv;refine B1 hE hO 0 rfl ?_;cbv;cases h;exact hK hO (.refl _)
theorem c70 (N aB r) (h : L6 N aB = some r) : B5 prog 70 [(E5 aB)] (.bool r) := by
 unfold L6 at h
 refine K2 cf0 func70 call70 ntmps70 ?_;intro E H0 K hE hK hO;cbv;refine A7 hE h (c117 N aB) (.refl _) fun r1 h => ?_;cbv;cases h;exact hK hO (.refl _)
def cf60 : Cf := ⟨[6000004], [(16, 5), (17, 9)], [], [], [], []⟩
theorem c60 (N aA r) (h : I9 N aA = some r) : NC prog 60 [(F2 aA)] (.int .i64) (V.int .i64) (V.int .i64) r := by
 unfold I9 at h
 refine KQ (T := TT) cf60 H6 func60 (by rfl) (by kernel_rfl) call60 ntmps60 (by rfl) (by rfl) ?_;intro E H0 K hE hK;have hO : B3 Eq H0 [] H0 := .start B7 rfl;cbv;refine Hr hE (.int .i64) (V.int .i64) (V.int .i64) hO fun m1 o2 H ho2 hO => ?_;cbv;refine Kh hE (f := (V.int .i64)) hO fun q3 H hq3 hO => ?_;cbv;refine D4 hE ?_;cbv;obtain ⟨s7, hx, h⟩ := bind_some h;refine K1 cf60 hE H6 (γ := OG × Obj) (fun s4 g => [(1, .v (.eref (B9 aA) 0)), (3, .v (.map m1)), (4, .v (.own g.1.id g.1.lo g.1.n)), (13, .v (sr V.bool aA.cM)), fi 14 (Ar.len aA.cM), fi 15 s4.1]) (fun s4 g H1 => X6 g.1 (Ar.len s4.2.1) ∧ Cr (.int .i64) (V.int .i64) (V.int .i64) g.2 s4.2.2 ∧ B3 Eq H0 [.blk g.1.id (.arr 1 (g.1.pre ++ Ar.lst (V.int .i64) s4.2.1 ++ g.1.rest)), .blk m1 (.obj g.2)] H1) (fun x e l H1 => ∃ u1 : OG, X6 u1 (Ar.len x.1) ∧ ∃ u2 : Obj, Cr (.int .i64) (V.int .i64) (V.int .i64) u2 x.2 ∧ e = .exit 0 ∧ l = [(1, .v (.eref (B9 aA) 0)), (3, .v (.map m1)), (4, .v (.own u1.id u1.lo u1.n))] ∧ B3 Eq H0 [ob u1 1 (V.int .i64) x.1, .blk m1 (.obj u2)] H1) (by kernel_rfl) ?_ (⟨q3, o2⟩) hx ?_ ?_ ?_
 ·rintro s4 ⟨q5, q6⟩ H o ⟨hq5, hq6, hO⟩ h;clear hx;cbv;refine A6 hE h (fun _ h => ?_) fun _ h => ?_
  ·cbv;refine C2 hE (fun _ => rfl) h fun x8 h => ?_;cbv;refine A6 hE h (fun _ h => ?_) fun _ h => ?_
   ·cbv;refine Ct hE (kt := 3) (et := 3) (by kernel_rfl) (by kernel_rfl) (L1 .i64) (Ht .i64) hO hq6 1 rfl h fun l10 o9 H ho9 h hO => ?_;cbv;refine DO (f := (V.int .i64)) hE (fun _ => rfl) (by decide) hO hq5 0 rfl (m := [s4.1]) (BI (f := (V.int .i64)) hE (fun _ => rfl) (.lstc (.refl _) (.lst0))) h fun l12 q11 H hq11 hO h => ?_;cbv;cases h;exact ⟨_, ⟨q11, o9⟩, rfl, .e2 (.e4 .z), rfl, hq11, ho9, hO⟩
   cbv;cases h;exact ⟨_, ⟨q5, q6⟩, rfl, .e2 (.e4 .z), rfl, hq5, hq6, hO⟩
  cbv;cases h;exact ⟨_, _, rfl, ⟨q5, hq5, q6, hq6, rfl, rfl, hO⟩, .e rfl (.e2 .z), rfl⟩
 ·exact .e2 (.e4 .z)
 ·exact ⟨hq3, ho2, hO⟩
 clear hx;rintro e l H ⟨q13, hq13, q14, hq14, rfl, rfl, hO⟩;cbv;obtain ⟨s18, hx, h⟩ := bind_some h;refine K1 cf60 hE H6 (γ := OG × Obj) (fun s15 g => [(1, .v (.eref (B9 aA) 0)), (3, .v (.map m1)), (4, .v (.own g.1.id g.1.lo g.1.n))]) (fun s15 g H1 => X6 g.1 (Ar.len s15.1) ∧ Cr (.int .i64) (V.int .i64) (V.int .i64) g.2 s15.2 ∧ B3 Eq H0 [.blk g.1.id (.arr 1 (g.1.pre ++ Ar.lst (V.int .i64) s15.1 ++ g.1.rest)), .blk m1 (.obj g.2)] H1) (fun x e l H1 => ∃ u1 : OG, X6 u1 (Ar.len x.1) ∧ ∃ u2 : Obj, Cr (.int .i64) (V.int .i64) (V.int .i64) u2 x.2 ∧ e = .exit 2 ∧ l = [(3, .v (.map m1))] ∧ B3 Eq H0 [ob u1 1 (V.int .i64) x.1, .blk m1 (.obj u2)] H1) (by kernel_rfl) ?_ (⟨q13, q14⟩) hx ?_ ?_ ?_
 ·rintro s15 ⟨q16, q17⟩ H o ⟨hq16, hq17, hO⟩ h;clear hx;cbv;refine GI hE hq16 ?_;cbv;refine A6 hE h (fun _ h => ?_) fun _ h => ?_
  ·cbv;refine D4 hE ?_;cbv;obtain ⟨s22, hx, h⟩ := bind_some h;refine K1 cf60 hE H6 (γ := OG × Obj) (fun s19 g => [(1, .v (.eref (B9 aA) 0)), (3, .v (.map m1)), (4, .v (.own g.1.id g.1.lo g.1.n)), (34, .v (sr eYk aA.cO)), fi 35 (Ar.len aA.cO), fi 36 s19.1]) (fun s19 g H1 => X6 g.1 (Ar.len s19.2.1) ∧ Cr (.int .i64) (V.int .i64) (V.int .i64) g.2 s19.2.2 ∧ B3 Eq H0 [.blk g.1.id (.arr 1 (g.1.pre ++ Ar.lst (V.int .i64) s19.2.1 ++ g.1.rest)), .blk m1 (.obj g.2)] H1) (fun x e l H1 => ∃ u1 : OG, X6 u1 (Ar.len x.1) ∧ ∃ u2 : Obj, Cr (.int .i64) (V.int .i64) (V.int .i64) u2 x.2 ∧ e = .exit 4 ∧ l = [(1, .v (.eref (B9 aA) 0)), (3, .v (.map m1)), (4, .v (.own u1.id u1.lo u1.n))] ∧ B3 Eq H0 [ob u1 1 (V.int .i64) x.1, .blk m1 (.obj u2)] H1) (by kernel_rfl) ?_ (⟨q16, q17⟩) hx ?_ ?_ ?_
   ·rintro s19 ⟨q20, q21⟩ H o ⟨hq20, hq21, hO⟩ h;clear hx;cbv;refine A6 hE h (fun _ h => ?_) fun _ h => ?_
    ·cbv;refine C2 hE eYl h fun x23 h => ?_;cbv;refine Jp hE (kt := 3) (et := 3) (by kernel_rfl) (by kernel_rfl) (L1 .i64) (0 : Int) (by kernel_rfl) rfl hO hq21 1 rfl h fun r24 h => ?_;cbv;refine Af hE hO hq20 0 rfl h fun h => ?_;cbv;refine Cb hE (fun _ => rfl) hO hq20 0 rfl h fun x25 h => ?_;cbv;refine A6 hE h (fun _ h => ?_) fun _ h => ?_
     ·cbv;refine A7 hE h (c70 N x23.On) (.refl _) fun r26 h => ?_;cbv;refine A6 hE h (fun _ h => ?_) fun _ h => ?_
      ·cbv;refine Af hE hO hq20 0 rfl h fun h => ?_;cbv;refine Cb hE (fun _ => rfl) hO hq20 0 rfl h fun x27 h => ?_;cbv;refine Fs hE (kt := 3) (et := 3) (by kernel_rfl) (by kernel_rfl) (L1 .i64) (0 : Int) (by kernel_rfl) rfl hO hq21 1 rfl h fun r28 h => ?_;cbv;refine Ct hE (kt := 3) (et := 3) (by kernel_rfl) (by kernel_rfl) (L1 .i64) (Ht .i64) hO hq21 1 rfl h fun l30 o29 H ho29 h hO => ?_;cbv;refine DO (f := (V.int .i64)) hE (fun _ => rfl) (by decide) hO hq20 0 rfl (m := [x23.cQ]) (BI (f := (V.int .i64)) hE (fun _ => rfl) (.lstc (.refl _) (.lst0))) h fun l32 q31 H hq31 hO h => ?_;cbv;cases h;exact ⟨_, ⟨q31, o29⟩, rfl, .e2 (.e4 .z), rfl, hq31, ho29, hO⟩
      cbv;cases h;exact ⟨_, ⟨q20, q21⟩, rfl, .e2 (.e4 .z), rfl, hq20, hq21, hO⟩
     cbv;cases h;exact ⟨_, ⟨q20, q21⟩, rfl, .e2 (.e4 .z), rfl, hq20, hq21, hO⟩
    cbv;cases h;exact ⟨_, _, rfl, ⟨q20, hq20, q21, hq21, rfl, rfl, hO⟩, .e rfl (.e2 .z), rfl⟩
   ·exact .e2 (.e4 .z)
   ·exact ⟨hq16, hq17, hO⟩
   clear hx;rintro e l H ⟨q33, hq33, q34, hq34, rfl, rfl, hO⟩;cbv;refine Ox hE hO hq33 0 rfl h fun l36 q35 hq35 hO h => ?_;cbv;cases h;exact ⟨_, ⟨q35, q34⟩, rfl, .e rfl (.e2 .z), rfl, hq35, hq34, hO⟩
  cbv;cases h;exact ⟨_, _, rfl, ⟨q16, hq16, q17, hq17, rfl, rfl, hO⟩, .e rfl .z, rfl⟩
 ·exact .e rfl (.e2 .z)
 ·exact ⟨hq13, hq14, hO⟩
 clear hx;rintro e l H ⟨q37, hq37, q38, hq38, rfl, rfl, hO⟩;cbv;cases h;exact hK _ _ _ 1 _ hq38 rfl hO
end Go.Ab
namespace Go.Ab
open Go.RowKit Go.Proofs Go.Proofs.Tryz G4
variable [Ar] [G4]
set_option maxRecDepth 100000
theorem c61 (N cE aF aO r) (h : K9 N cE aF aO = some r) (mx1 : Nat) (ox1 : Obj) (hox1 : Cr (.int .i64) (V.int .i64) (V.int .i64) ox1 aF) (bx2 : Nat) : NB prog 61 [(Bk cE), .eref [.map mx1] 0, .ref bx2 0] [(mx1, .obj ox1), (bx2, .cells [vi aO])] (.bool r) := by
 unfold K9 at h
 refine KM (T := TT) cf0 H6 func61 (by rfl) (by kernel_rfl) call61 ntmps61 (by rfl) (by rfl) ?_;intro E H0 K hE hO hK;have hO : B3 Eq (Dp H0 [(mx1, .obj ox1), (bx2, .cells [vi aO])]) [.blk mx1 (.obj ox1), cb bx2 [vi aO]] H0 := hO;cbv;refine Jp hE (kt := 3) (et := 3) (by kernel_rfl) (by kernel_rfl) (L1 .i64) (0 : Int) (by kernel_rfl) rfl hO hox1 0 rfl h fun r1 h => ?_;cbv;refine B1 hE hO 1 rfl ?_;cbv;cases h;exact hK _ _ (hO) (.refl _)
def cf62 : Cf := ⟨[2, 3], [], [], [], [], []⟩
theorem c62 (N aB r) (h : P9 N aB = some r) : B5 prog 62 [(E5 aB)] (.tup [(Ch r.1), vi r.2]) := by
 unfold P9 at h
 refine K2 cf62 func62 call62 ntmps62 ?_;intro E H0 K hE hK hO;cbv;refine D1 hE hO fun b1 H hO => ?_;cbv;refine D1 hE hO fun b2 H hO => ?_;cbv;refine A7 hE h (c90 N ([aB])) (.cons (.lit _ (C5 ((eYB aB).symm) (B4))) (.refl _)) fun r3 h => ?_;cbv;refine A6 hE h (fun _ h => ?_) fun _ h => ?_
 ·cbv;refine A8 hE hO 1 rfl rfl fun H hO => ?_;cbv;refine A8 hE hO 0 rfl rfl fun H hO => ?_;cbv;refine B1 hE hO 1 rfl ?_;cbv;refine B1 hE hO 0 rfl ?_;cbv;cases h;exact hK hO (.refl _)
 cbv;refine R5 hE h (c113 N aB) (.refl _) fun r4 v5 hv5 h => ?_;cbv;obtain ⟨o10, hx, h⟩ := bind_some h;refine AU cf62 hE H6 (ι := Unit) (enc := fun (x : (Int × (List A2))) => [vi x.1, sr eYc x.2]) (fun (s7 : Unit) F H => B3 Eq F [cb b2 [vi 0], cb b1 [vi 0, vi 0]] H) (fun (r : B2) e F H => e = .ret ∧ B3 Eq F [cb b2 [vi 0], cb b1 (N3 r)] H) (fun i s7 y6 => [(2, .v (.ref b1 0)), (3, .v (.ref b2 0)), fi 5 y6.1, (6, .v (sr eYc y6.2))]) (fun i s7 y6 F H => B3 Eq F [cb b2 [vi 0], cb b1 [vi 0, vi 0]] H) (fun _ => B3.stable B7 _) (fun _ _ => C7.con (B3.stable B7 _)) (fun _ _ _ => B3.stable B7 _) hv5 hx (hO) (by decide) (fun _ => rfl) (by kernel_rfl) (by kernel_rfl) ?_ ?_ ?_ ?_
 ·rintro E i9 y6 s7 F8 H hE hO;clear hx h;cbv;exact ⟨(), hO, .e4 .z, rfl⟩
 ·rintro E i9 _ y6 s7 F8 H o hE hF h hO;clear hx;cbv;refine C2 hE eYm h fun x11 h => ?_;cbv;refine A8 hE hO 1 rfl rfl fun H hO => ?_;cbv;refine A8 hE hO 0 rfl rfl fun H hO => ?_;cbv;cases h;exact ⟨_, rfl, rfl, ⟨rfl, hO⟩⟩
 ·rintro d12 s14 H rfl hd hO;have hO : B3 Eq H0 [cb b2 [vi 0], cb b1 [vi 0, vi 0], .blk d12 DB] H := B3.dblk hd hO;clear hd;clear hx;cbv;refine A8 hE hO 1 rfl rfl fun H hO => ?_;cbv;refine A8 hE hO 0 rfl rfl fun H hO => ?_;cbv;refine Bp hE hO 2 rfl fun H hO => ?_;cbv;refine B1 hE hO 1 rfl ?_;cbv;refine B1 hE hO 0 rfl ?_;cbv;cases h;exact hK hO (.refl _)
 rintro d12 y15 e H rfl hd hX;clear hx
 rcases hX with ⟨rfl, hO⟩
 have hO : B3 Eq H0 [cb b2 [vi 0], cb b1 (N3 y15), .blk d12 DB] H := B3.dblk hd hO;clear hd;cbv;refine Bp hE hO 2 rfl fun H hO => ?_;cbv;refine B1 hE hO 1 rfl ?_;cbv;refine B1 hE hO 0 rfl ?_;cbv;cases h;exact hK hO (.refl _)
theorem c63 (N aH aP r) (h : X8 N aH aP = some r) : B5 prog 63 [(Ch aH), (Ch aP)] (.bool r) := by
 unfold X8 at h
 refine K2 cf0 func63 call63 ntmps63 ?_;intro E H0 K hE hK hO;cbv;cases h;exact hK hO (.refl _)
def cf19 : Cf := ⟨[7, 12, 13], [(3000031, 0), (3000031, 1), (3000031, 4), (3000031, 5), (3000031, 6)], [], [2000031], [], []⟩
set_option maxHeartbeats 2000000 in
theorem c19 (N aA r) (h : V0 N aA = some r) : B5 prog 19 [(F2 aA)] (.tup [.bool r.1, sr eYf r.2.1, vi r.2.2]) := by
 unfold V0 at h
 refine K2 cf19 func19 call19 ntmps19 ?_;intro E H0 K hE hK hO;cbv;refine A7 hE h (c13 N aA) (.refl _) fun r1 h => ?_;cbv;refine A6 hE h (fun hc h => ?_) (fun hc h => ?_)
 ·cbv;cases h;exact hK hO (.tup (.cons (.refl _) (.cons (.lit _ (B4)) (.refl _))))
 cbv;refine Kk hE h (c60 N aA) (.refl _) hO fun l2 m3 o4 H ho4 hO h => ?_;cbv;refine Jp hE (kt := 3) (et := 3) (by kernel_rfl) (by kernel_rfl) (L1 .i64) (0 : Int) (by kernel_rfl) rfl hO ho4 0 rfl h fun r5 h => ?_;cbv;refine D1 hE hO fun b6 H hO => ?_;cbv;refine A8 hE hO 0 rfl rfl fun H hO => ?_;cbv;refine A6 hE h (fun hc h => ?_) (fun hc h => ?_)
 ·cbv;cases h;exact hK hO (.tup (.cons (.refl _) (.cons (.lit _ (B4)) (.refl _))))
 cbv;refine Hr hE (.int .i64) (V.int .i64) V.bool hO fun m7 o8 H ho8 hO => ?_;cbv;refine Ct hE (kt := 3) (et := 4) (by kernel_rfl) (by kernel_rfl) (L1 .i64) Bd hO ho8 0 rfl h fun l10 o9 H ho9 h hO => ?_;cbv;replace hO := hO.tl0 (t := .nil) rfl;obtain ⟨s17, hx, h⟩ := bind_some h;refine Kj cf19 hE H6 (γ := D8 × Obj × Nat) (fun s12 g => [(1, .v (.eref (B9 aA) 0)), (2, .b false), (3, .v (.sl [] .nil)), fi 4 0, (7, .v (.ref b6 0)), (9, .v (.eref [.func (.func 61) [] [.eref [.map m3] 0, .ref b6 0]] 0)), (10, .v (.sl (Ar.lst eYf s12.1) g.1)), (11, .v (.map g.2.2))]) (fun s12 g ds16 H1 => O8 g.1 ∧ Cr (.int .i64) (V.int .i64) V.bool g.2.1 s12.2.1 ∧ True ∧ B3 Eq H0 (.tl g.1 :: .blk g.2.2 (.obj g.2.1) :: cb b6 [vi s12.2.2] :: .blk m3 (.obj o4) :: BR ds16) H1) (fun x e l ds16 H1 => ∃ u1 : D8, O8 u1 ∧ ∃ u2 : Obj, Cr (.int .i64) (V.int .i64) V.bool u2 x.2.1 ∧ ∃ u3 : Nat, True ∧ e = .exit 0 ∧ l = [(10, .v (.sl (Ar.lst eYf x.1) u1))] ∧ B3 Eq H0 (.tl u1 :: .blk u3 (.obj u2) :: cb b6 [vi x.2.2] :: .blk m3 (.obj o4) :: BR ds16) H1) (by kernel_rfl) ?_ (⟨.nil, o9, m7⟩) hx ?_ ?_ ?_
 ·rintro s12 ⟨t13, q14, m15⟩ ds16 H o ⟨ht13, hq14, hm15, hO⟩ h;clear hx;cbv;refine B1 hE hO 2 rfl ?_;cbv;refine A6 hE h (fun hc h => ?_) (fun hc h => ?_)
  ·cbv;refine D1 hE hO fun b18 H hO => ?_;cbv;refine D1 hE hO fun b19 H hO => ?_;cbv;refine A8 hE hO 0 rfl rfl fun H hO => ?_;cbv;refine QT hE (kt := 3) (et := 4) (by kernel_rfl) hO (hO.get 3 rfl) hq14 fun m20 b21 H hb21 hO => ?_;cbv;obtain ⟨s27, hx, h⟩ := bind_some h;refine Jq cf19 hE H6 (γ := Unit) (fun s23 _ => [(1, .v (.eref (B9 aA) 0)), (2, .b false), (3, .v (.sl [] .nil)), fi 4 0, (7, .v (.ref b6 0)), (9, .v (.eref [.func (.func 61) [] [.eref [.map m3] 0, .ref b6 0]] 0)), (10, .v (.sl (Ar.lst eYf s12.1) t13)), (11, .v (.map m15)), (12, .v (.ref b18 0)), (13, .v (.ref b19 0)), (43, .v (.ref m20 0))]) (fun s23 _ ds26 b25 H1 => B3 Eq H0 (.blk m20 b25 :: cb b19 [.bool s23.1] :: cb b18 (N3 s23.2) :: .tl t13 :: .blk m15 (.obj q14) :: cb b6 [vi s12.2.2] :: .blk m3 (.obj o4) :: BR ds26) H1) (fun x e l ds26 H1 => e = .exit 2 ∧ l = [(1, .v (.eref (B9 aA) 0)), (2, .b false), (3, .v (.sl [] .nil)), fi 4 0, (7, .v (.ref b6 0)), (9, .v (.eref [.func (.func 61) [] [.eref [.map m3] 0, .ref b6 0]] 0)), (10, .v (.sl (Ar.lst eYf s12.1) t13)), (11, .v (.map m15)), (12, .v (.ref b18 0))] ∧ B3 Eq H0 (cb b19 [.bool x.1] :: cb b18 (N3 x.2) :: .tl t13 :: .blk m15 (.obj q14) :: cb b6 [vi s12.2.2] :: .blk m3 (.obj o4) :: BR ds26) H1) (by kernel_rfl) ?_ () hx ?_ hb21 ?_ ?_
   ·rintro s23 _ ds26 lf23 b25 H hb25 hO hs23;clear hx;cbv;refine QU hE hO hb25 0 rfl (hO.get 4 rfl) (fun hl => ?_) fun p24 l28 b29 H hpp24 hb29 hO => ?_
    ·cbv;refine IL hE (fun hc => by cases hc) (fun hc => ?_);cbv;exact ⟨_, _, _, .inl ⟨hl, rfl⟩, ⟨rfl, rfl, hO.tail⟩, .e rfl (.b rfl (.e rfl (.e rfl (.e rfl (.e rfl (.e rfl (.e rfl (.e rfl (.z))))))))), rfl⟩
    obtain ⟨o, h⟩ := hs23 p24 l28 hpp24;have h0p24 := h;cbv;refine IL hE (fun hc => ?_) (fun hc => by cases hc);cbv;refine QV hE hO hb29 0 rfl (hO.get 4 rfl) ?_;cbv;refine R5 hE h (c41 N aA p24.1) (.refl _) fun r30 v31 hv31 h => ?_;cbv;obtain ⟨o36, hx, h⟩ := bind_some h;refine AU cf19 hE H6 (ι := Unit) (enc := fun (x : C9) => [(Bk x)]) (fun (s33 : Bool × B2) F H => B3 Eq F (.blk m20 b29 :: cb b19 [.bool s33.1] :: cb b18 (N3 s33.2) :: .tl t13 :: .blk m15 (.obj q14) :: cb b6 [vi s12.2.2] :: .blk m3 (.obj o4) :: BR ds26) H) (fun (r : Unit) e F H => False) (fun i s33 y32 => [(9, .v (.eref [.func (.func 61) [] [.eref [.map m3] 0, .ref b6 0]] 0)), (12, .v (.ref b18 0)), (13, .v (.ref b19 0)), (15, .v (.eref (KT y32) 0))]) (fun i s33 y32 F H => B3 Eq F (.blk m20 b29 :: cb b19 [.bool s33.1] :: cb b18 (N3 s33.2) :: .tl t13 :: .blk m15 (.obj q14) :: cb b6 [vi s12.2.2] :: .blk m3 (.obj o4) :: BR ds26) H) (fun _ => B3.stable B7 _) (fun _ _ => ⟨fun h => h.elim, fun _ _ h => h.elim⟩) (fun _ _ _ => B3.stable B7 _) hv31 hx (hO) (by decide) (fun _ => rfl) (by kernel_rfl) (by kernel_rfl) ?_ ?_ ?_ ?_
    ·rintro E i35 y32 s33 F34 H hE hO;clear hx h;cbv;exact ⟨(), hO, .e4 .z, rfl⟩
    ·rintro E i35 _ y32 s33 F34 H o hE hF h hO;clear hx;cbv;refine A7 hE h (c62 N y32.On) (.refl _) fun r37 h => ?_;cbv;refine A6 hE h (fun hc h => ?_) (fun hc h => ?_)
     ·cbv;refine Ft hE (F0 := []) (C0 := [.eref [.map m3] 0, .ref b6 0]) (args' := [(Bk y32)]) (g := fun r38 => .bool r38) h (fun r38 hx => c61 N y32 l2 s12.2.2 r38 hx m3 o4 ho4 b6) (.refl _) (KX (XG (hO.ne 6 5 rfl rfl (by decide)) (XH)) (KY _)) (UM (hO.get 6 rfl) (UM (hO.get 5 rfl) (XU))) fun r38 h => ?_;cbv;refine B1 hE hO 1 rfl ?_;cbv;refine B1 hE hO 2 rfl ?_;cbv;refine A6 hE h (fun hc h => ?_) (fun hc h => ?_)
      ·cbv;refine A6 hE h (fun hc h => ?_) (fun hc h => ?_)
       ·cbv;refine A8 hE hO 2 rfl rfl fun H hO => ?_;cbv;refine A8 hE hO 1 rfl rfl fun H hO => ?_;cbv;cases h;exact ⟨_, rfl, hO⟩
       cbv;refine A7 hE h (c63 N r37.1 s33.2) (.refl _) fun r39 h => ?_;cbv;refine A6 hE h (fun hc h => ?_) (fun hc h => ?_)
       ·cbv;refine A8 hE hO 2 rfl rfl fun H hO => ?_;cbv;refine A8 hE hO 1 rfl rfl fun H hO => ?_;cbv;cases h;exact ⟨_, rfl, hO⟩
       cbv;cases h;exact ⟨_, rfl, hO⟩
      cbv;cases h;exact ⟨_, rfl, hO⟩
     cbv;cases h;exact ⟨_, rfl, hO⟩
    ·rintro d40 s42 H rfl hd hO;have hO : B3 Eq H0 (.blk m20 b29 :: cb b19 [.bool s42.1] :: cb b18 (N3 s42.2) :: .tl t13 :: .blk m15 (.obj q14) :: cb b6 [vi s12.2.2] :: .blk m3 (.obj o4) :: BR (d40 :: ds26)) H := B3.dbs1 (A := [_, _, _, _, _, _, _]) (ds := ds26) (B3.dblk hd hO);clear hd;clear hx;cbv;cases h;exact ⟨p24, l28, _, (), b29, _, hpp24, h0p24, .e rfl (.b rfl (.e rfl (.e rfl (.e rfl (.e rfl (.e rfl (.e rfl (.e rfl (.e rfl (.e rfl (.z))))))))))), rfl, hb29.1, hO⟩
    rintro d r e H rfl hd hO;exact hO.elim
   ·exact .e rfl (.b rfl (.e rfl (.e rfl (.e rfl (.e rfl (.e rfl (.e rfl (.e rfl (.e rfl (.e rfl (.z)))))))))))
   ·exact hO
   clear hx;rintro e l ds26 H ⟨rfl, rfl, hO⟩;cbv;refine Hr hE (.int .i64) (V.int .i64) V.bool hO fun m43 o44 H ho44 hO => ?_;cbv;refine QT hE (kt := 3) (et := 4) (by kernel_rfl) hO (hO.get 4 rfl) hq14 fun m45 b46 H hb46 hO => ?_;cbv;obtain ⟨s53, hx, h⟩ := bind_some h;refine Jq cf19 hE H6 (γ := Obj) (fun s48 g => [(1, .v (.eref (B9 aA) 0)), (2, .b false), (3, .v (.sl [] .nil)), fi 4 0, (7, .v (.ref b6 0)), (9, .v (.eref [.func (.func 61) [] [.eref [.map m3] 0, .ref b6 0]] 0)), (10, .v (.sl (Ar.lst eYf s12.1) t13)), (11, .v (.map m15)), (12, .v (.ref b18 0)), (18, .v (.eref [.map m43] 0)), (77, .v (.ref m45 0))]) (fun s48 g ds52 b50 H1 => Cr (.int .i64) (V.int .i64) V.bool g s48 ∧ B3 Eq H0 (.blk m45 b50 :: .blk m43 (.obj g) :: cb b19 [.bool s27.1] :: cb b18 (N3 s27.2) :: .tl t13 :: .blk m15 (.obj q14) :: cb b6 [vi s12.2.2] :: .blk m3 (.obj o4) :: BR ds52) H1) (fun x e l ds52 H1 => ∃ u1 : Obj, Cr (.int .i64) (V.int .i64) V.bool u1 x ∧ e = .exit 6 ∧ l = [(1, .v (.eref (B9 aA) 0)), (2, .b false), (3, .v (.sl [] .nil)), fi 4 0, (7, .v (.ref b6 0)), (9, .v (.eref [.func (.func 61) [] [.eref [.map m3] 0, .ref b6 0]] 0)), (10, .v (.sl (Ar.lst eYf s12.1) t13)), (12, .v (.ref b18 0)), (18, .v (.eref [.map m43] 0))] ∧ B3 Eq H0 (.blk m43 (.obj u1) :: cb b19 [.bool s27.1] :: cb b18 (N3 s27.2) :: .tl t13 :: .blk m15 (.obj q14) :: cb b6 [vi s12.2.2] :: .blk m3 (.obj o4) :: BR ds52) H1) (by kernel_rfl) ?_ o44 hx ?_ hb46 ?_ ?_
   ·rintro s48 q51 ds52 lf48 b50 H hb50 ⟨hq51, hO⟩ hs48;clear hx;cbv;refine QU hE hO hb50 0 rfl (hO.get 5 rfl) (fun hl => ?_) fun p49 l54 b55 H hpp49 hb55 hO => ?_
    ·cbv;refine IL hE (fun hc => by cases hc) (fun hc => ?_);cbv;exact ⟨_, _, _, .inl ⟨hl, rfl⟩, ⟨q51, hq51.srt, rfl, rfl, hO.tail⟩, .e rfl (.b rfl (.e rfl (.e rfl (.e rfl (.e rfl (.e rfl (.e rfl (.e rfl (.z))))))))), rfl⟩
    obtain ⟨o, h⟩ := hs48 p49 l54 hpp49;have h0p49 := h;cbv;refine IL hE (fun hc => ?_) (fun hc => by cases hc);cbv;refine QV hE hO hb55 0 rfl (hO.get 5 rfl) ?_;cbv;refine R5 hE h (c41 N aA p49.1) (.refl _) fun r56 v57 hv57 h => ?_;cbv;obtain ⟨o63, hx, h⟩ := bind_some h;refine AU cf19 hE H6 (ι := Unit) (enc := fun (x : C9) => [(Bk x)]) (fun (s59 : (List (Int × Bool))) F H => ∃ g : Obj, (Cr (.int .i64) (V.int .i64) V.bool g s59) ∧ B3 Eq F (.blk m45 b55 :: .blk m43 (.obj g) :: cb b19 [.bool s27.1] :: cb b18 (N3 s27.2) :: .tl t13 :: .blk m15 (.obj q14) :: cb b6 [vi s12.2.2] :: .blk m3 (.obj o4) :: BR ds52) H) (fun (r : Unit) e F H => False) (fun i s59 y58 => [(9, .v (.eref [.func (.func 61) [] [.eref [.map m3] 0, .ref b6 0]] 0)), (12, .v (.ref b18 0)), (18, .v (.eref [.map m43] 0)), (20, .v (.eref (KT y58) 0))]) (fun i s59 y58 F H => ∃ g : Obj, (Cr (.int .i64) (V.int .i64) V.bool g s59) ∧ B3 Eq F (.blk m45 b55 :: .blk m43 (.obj g) :: cb b19 [.bool s27.1] :: cb b18 (N3 s27.2) :: .tl t13 :: .blk m15 (.obj q14) :: cb b6 [vi s12.2.2] :: .blk m3 (.obj o4) :: BR ds52) H) (fun _ => C7.ex fun _ => B3.stable B7 _) (fun _ _ => ⟨fun h => h.elim, fun _ _ h => h.elim⟩) (fun _ _ _ => C7.ex fun _ => B3.stable B7 _) hv57 hx (⟨q51, hq51, hO⟩) (by decide) (fun _ => rfl) (by kernel_rfl) (by kernel_rfl) ?_ ?_ ?_ ?_
    ·rintro E i61 y58 s59 F60 H hE ⟨q62, hq62, hO⟩;clear hx h;cbv;exact ⟨(), ⟨q62, hq62, hO⟩, .e4 .z, rfl⟩
    ·rintro E i61 _ y58 s59 F60 H o hE hF h ⟨q62, hq62, hO⟩;clear hx;cbv;refine Ft hE (F0 := []) (C0 := [.eref [.map m3] 0, .ref b6 0]) (args' := [(Bk y58)]) (g := fun r64 => .bool r64) h (fun r64 hx => c61 N y58 l2 s12.2.2 r64 hx m3 o4 ho4 b6) (.refl _) (KX (XG (hO.ne 7 6 rfl rfl (by decide)) (XH)) (KY _)) (UM (hO.get 7 rfl) (UM (hO.get 6 rfl) (XU))) fun r64 h => ?_;cbv;refine B1 hE hO 3 rfl ?_;cbv;refine A6 hE h (fun hc h => ?_) (fun hc h => ?_)
     ·cbv;refine A7 hE h (c42 N y58.On s27.2) (.refl _) fun r65 h => ?_;cbv;refine A6 hE h (fun hc h => ?_) (fun hc h => ?_)
      ·cbv;refine Ct hE (kt := 3) (et := 4) (by kernel_rfl) (by kernel_rfl) (L1 .i64) Bd hO hq62 1 rfl h fun l67 o66 H ho66 h hO => ?_;cbv;cases h;exact ⟨_, rfl, ⟨o66, ho66, hO⟩⟩
      cbv;cases h;exact ⟨_, rfl, ⟨q62, hq62, hO⟩⟩
     cbv;cases h;exact ⟨_, rfl, ⟨q62, hq62, hO⟩⟩
    ·rintro d68 s71 H rfl hd ⟨q72, hq72, hO⟩;have hO : B3 Eq H0 (.blk m45 b55 :: .blk m43 (.obj q72) :: cb b19 [.bool s27.1] :: cb b18 (N3 s27.2) :: .tl t13 :: .blk m15 (.obj q14) :: cb b6 [vi s12.2.2] :: .blk m3 (.obj o4) :: BR (d68 :: ds52)) H := B3.dbs1 (A := [_, _, _, _, _, _, _, _]) (ds := ds52) (B3.dblk hd hO);clear hd;clear hx;cbv;cases h;exact ⟨p49, l54, _, q72, b55, _, hpp49, h0p49, .e rfl (.b rfl (.e rfl (.e rfl (.e rfl (.e rfl (.e rfl (.e rfl (.e rfl (.e rfl (.e rfl (.z))))))))))), rfl, hb55.1, hq72, hO⟩
    rintro d r e H rfl hd hO;exact hO.elim
   ·exact .e rfl (.b rfl (.e rfl (.e rfl (.e rfl (.e rfl (.e rfl (.e rfl (.e rfl (.e rfl (.e rfl (.z)))))))))))
   ·exact ⟨ho44, hO⟩
   clear hx;rintro e l ds52 H ⟨q73, hq73, rfl, rfl, hO⟩;cbv;obtain ⟨s74, hx, h⟩ := bind_some h;refine K5 cf19 hE H6 (fun e l H1 => ∃ u1 : D8, O8 u1 ∧ e = .normal ∧ l = [(1, .v (.eref (B9 aA) 0)), (2, .b false), (3, .v (.sl [] .nil)), fi 4 0, (7, .v (.ref b6 0)), (9, .v (.eref [.func (.func 61) [] [.eref [.map m3] 0, .ref b6 0]] 0)), (10, .v (.sl (Ar.lst eYf s74) u1)), (11, .v (.map m43))] ∧ B3 Eq H0 (.blk m43 (.obj q73) :: cb b19 [.bool s27.1] :: cb b18 (N3 s27.2) :: .tl u1 :: .blk m15 (.obj q14) :: cb b6 [vi s12.2.2] :: .blk m3 (.obj o4) :: BR ds52) H1) (by kernel_rfl) ?_ ?_
   ·clear h;have h := hx;clear hx;cbv;refine B1 hE hO 2 rfl ?_;cbv;refine V7 (f := eYf) hE JF (by decide) hO 3 rfl ht13 (l := s12.1) (m := [s27.2]) (.refl _) (.lstc (.eq (eYu s27.2) (.refl _)) (.lst0)) h fun l196 t195 H hO ht195 h => ?_;cbv;cases h;exact ⟨_, ⟨t195, ht195, rfl, rfl, hO⟩, .e rfl (.b rfl (.e rfl (.e rfl (.e rfl (.e rfl (.e rfl (.e rfl (.z)))))))), rfl⟩
   clear hx;rintro e l H ⟨t395, ht395, rfl, rfl, hO⟩;cbv;refine B1 hE hO 5 rfl ?_;cbv;refine A8 hE hO 5 rfl rfl fun H hO => ?_;cbv;have hO : B3 Eq H0 (.blk m15 (.obj q14) :: cb b19 [.bool s27.1] :: cb b18 (N3 s27.2) :: .tl t395 :: .blk m43 (.obj q73) :: cb b6 [vi (Ar.ar .sub .i64 s12.2.2 1)] :: .blk m3 (.obj o4) :: BR ds52) H := hO.swp 0 4 rfl rfl;cases h;exact ⟨_, ⟨t395, q73, m43⟩, _, rfl, .e rfl (.b rfl (.e rfl (.e rfl (.e rfl (.e rfl (.e rfl (.e rfl (.z)))))))), rfl, ht395, hq73, trivial, hO.tail.tail.tail⟩
  cbv;cases h;exact ⟨_, _, _, rfl, ⟨t13, ht13, q14, hq14, m15, trivial, rfl, rfl, hO⟩, .e rfl .z, rfl⟩
 ·exact .e rfl (.b rfl (.e rfl (.e rfl (.e rfl (.e rfl (.v (.slt _ (.lst0)) (.e rfl (.z))))))))
 ·exact ⟨trivial, ho9, trivial, hO⟩
 clear hx;rintro e l ds16 H ⟨t396, ht396, q397, hq397, m398, hm398, rfl, rfl, hO⟩;cbv
 rcases ds16 with _ | ⟨d0, ds16⟩
 ·cbv;have hO : B3 _ _ [.tl t396, .blk m398 (.obj q397), cb b6 [vi s17.2.2], .blk m3 (.obj o4)] H := hO;cases h;exact hK hO (.tup (.cons (.refl _) (.cons (.ro _ _) (.refl _))))
 cbv;refine GK (A := [_, _, _, _]) (ds := d0 :: ds16) hE hO fun H hO => ?_;cbv;cases h;exact hK hO (.tup (.cons (.refl _) (.cons (.ro _ _) (.refl _))))
def cf21 : Cf := ⟨[], [(6, 8)], [], [], [], []⟩
theorem c21 (N aC aE r) (h : Cs N aC aE = some r) : B5 prog 21 [sr eYf aC, sr eYf aE] (.bool r) := by
 unfold Cs at h
 refine K2 cf21 func21 call21 ntmps21 ?_;intro E H0 K hE hK hO;cbv;refine D4 hE ?_;cbv;refine D4 hE ?_;cbv;refine A6 hE h (fun _ h => ?_) fun _ h => ?_
 ·cbv;cases h;exact hK hO (.refl _)
 cbv;obtain ⟨s2, hx, h⟩ := bind_some h;refine F6 cf21 hE H6 (fun s1 => [(0, .v (sr eYf aC)), (1, .v (sr eYf aE)), fi 5 s1]) (fun s1 H1 => B3 Eq H0 [] H1) (fun x e l H1 => match (generalizing := false) x with | .inl y => e = .exit 0 ∧ l = [] ∧ B3 Eq H0 [] H1 | .inr y => e = .ret ∧ l = [(4, .b false)] ∧ B3 Eq H0 [] H1) (by kernel_rfl) ?_ hx ?_ hO ?_
 ·intro s1 H o hO h;clear hx;cbv;refine D4 hE ?_;cbv;refine A6 hE h (fun _ h => ?_) fun _ h => ?_
  ·cbv;refine C2 hE eYu h fun x3 h => ?_;cbv;refine C2 hE eYu h fun x4 h => ?_;cbv;refine A6 hE h (fun _ h => ?_) fun _ h => ?_
   ·cbv;cases h;exact ⟨_, _, rfl, ⟨rfl, rfl, hO⟩, .b rfl (.z), rfl⟩
   cbv;cases h;exact ⟨_, rfl, .e rfl (.e2 .z), rfl, hO⟩
  cbv;cases h;exact ⟨_, _, rfl, ⟨rfl, rfl, hO⟩, .z, rfl⟩
 ·exact .e rfl (.e2 .z)
 clear hx
 rcases s2 with y5 | y6
 ·rintro e l H ⟨rfl, rfl, hO⟩;cbv;cases h;exact hK hO (.refl _)
 rintro e l H ⟨rfl, rfl, hO⟩;cbv;cases h;exact hK hO (.refl _)
def cf118 : Cf := ⟨[7], [], [], [], [], []⟩
theorem c118 (N aA r) (h : F9 N aA = some r) : Ld prog 118 [sr eYc aA] 2 (Ar.lst eYc r) := by
 unfold F9 at h
 intro H0;refine BU (T := TT) cf118 H6 func118 (by rfl) (by kernel_rfl) call118 ntmps118 (by rfl) (by rfl) ?_;intro E K hE hK hN;have hO : B3 Eq H0 [] H0 := .start B7 rfl;cbv;refine TK hE rfl (fun hx => ?_) ?_
 ·cbv;exact hN (Pf hx h) [] H0 hO
 cbv;refine QS (f := eYc) hE R0 (by decide) hO (.inr rfl) (m := aA) (BI (f := eYc) hE R0 (.refl _)) h fun l q H hq hO h => ?_;cbv;cases h;exact hK q _ _ (W9 hE hq) hO
def cf71 : Cf := ⟨[2], [], [], [], [(22, 21), (24, 3)], []⟩
theorem c71 (N aB r) (h : M8 N aB = some r) : B5 prog 71 [(E5 aB)] ((E5 r)) := by
 unfold M8 at h
 refine K2 cf71 func71 call71 ntmps71 ?_;intro E H0 K hE hK hO;cbv;refine D1 hE hO fun b1 H hO => ?_;cbv;refine D4 hE ?_;cbv;refine Ki hE (f := eYh) (by decide) (z0 := ([] : List A2)) ((.eq (eYj _) (.lit _ (B4)))) hO h fun l3 q2 H hq2 h hO => ?_;cbv;refine D4 hE ?_;cbv;obtain ⟨s6, hx, h⟩ := bind_some h;refine K1 cf71 hE H6 (γ := OG) (fun s4 g => [(2, .v (.ref b1 0)), (3, .v (.own g.id g.lo g.n)), (11, .v (sr eYh aB.cP)), fi 12 (Ar.len aB.cP), fi 13 s4.1]) (fun s4 g H1 => X6 g (Ar.len s4.2) ∧ B3 Eq H0 [ob g 1 eYh s4.2, cb b1 [.sl [] .nil]] H1) (fun x e l H1 => ∃ u1 : OG, X6 u1 (Ar.len x) ∧ e = .exit 0 ∧ l = [(2, .v (.ref b1 0)), (3, .v (.own u1.id u1.lo u1.n))] ∧ B3 Eq H0 [ob u1 1 eYh x, cb b1 [.sl [] .nil]] H1) (by kernel_rfl) ?_ q2 hx ?_ ?_ ?_
 ·rintro s4 q5 H o ⟨hq5, hO⟩ h;clear hx;cbv;refine A6 hE h (fun _ h => ?_) fun _ h => ?_
  ·cbv;refine C2 hE eYj h fun x7 h => ?_;cbv;refine EF hE (f := eYc) h (c118 N x7) (.refl _) hO fun l8 q9 H hq9 hO h => ?_;cbv;refine GJ hE hO hq9 0 rfl fun H hO => ?_;cbv;refine Af hE hO hq5 0 rfl h fun h => ?_;cbv;refine Ae hE (f := eYh) (esz := 1) (tz := 1) (off := 0) (u := (fun x10 : List A2 => l8)) (fun _ => ⟨_, .eq (eYj _) (.refl _), (by rw [eYj]; rfl), DG _, rfl⟩) (by decide) hO hq5 0 rfl h fun l11 H hq5 h hO => ?_;cbv;cases h;exact ⟨_, q5, rfl, .e rfl (.e4 .z), rfl, hq5, hO⟩
  cbv;cases h;exact ⟨_, _, rfl, ⟨q5, hq5, rfl, rfl, hO⟩, .e2 .z, rfl⟩
 ·exact .e rfl (.e4 .z)
 ·exact ⟨hq2, hO⟩
 clear hx;rintro e l H ⟨q12, hq12, rfl, rfl, hO⟩;cbv;refine GJ hE hO hq12 0 rfl fun H hO => ?_;cbv;refine A8 hE hO 0 rfl rfl fun H hO => ?_;cbv;refine B1 hE hO 0 rfl ?_;cbv;cases h;exact hK hO (.refl _)
def cf82 : Cf := ⟨[2], [], [], [], [], []⟩
theorem c82 (N aA r) (h : BG N aA = some r) : B5 prog 82 [(F2 aA)] (.tup [(F2 r.1), vi r.2]) := by
 unfold BG at h
 refine K2 cf82 func82 call82 ntmps82 ?_;intro E H0 K hE hK hO;cbv;refine D1 hE hO fun b1 H hO => ?_;cbv;refine D4 hE ?_;cbv;refine D4 hE ?_;cbv;refine A6 hE h (fun _ h => ?_) fun _ h => ?_
 ·cbv;refine A8 hE hO 0 rfl rfl fun H hO => ?_;cbv;refine B1 hE hO 0 rfl ?_;cbv;cases h;exact hK hO (.tup (.cons (.agg (.cons (.refl _) (.cons (.lit _ (B4)) (.cons (.lit _ (B4)) (.refl _))))) (.refl _)))
 cbv;refine A8 hE hO 0 rfl rfl fun H hO => ?_;cbv;refine B1 hE hO 0 rfl ?_;cbv;cases h;exact hK hO (.refl _)
def cf29 : Cf := ⟨[2, 5], [(10, 10), (15, 13), (3000004, 0), (3000004, 1), (3000004, 2), (3000004, 3), (3000004, 4), (3000004, 5), (3000004, 7), (3000005, 0), (3000005, 1), (3000005, 2), (3000005, 3), (3000005, 4), (3000005, 5), (3000005, 7)], [], [2000004, 2000005], [(83, 2000005)], []⟩
set_option maxHeartbeats 2000000 in
theorem c29 (N aA r) (h : BH N aA = some r) : B5 prog 29 [(F2 aA)] (.tup [(F2 r.1), vi r.2]) := by
 unfold BH at h
 refine K2 cf29 func29 call29 ntmps29 ?_;intro E H0 K hE hK hO;cbv;refine D1 hE hO fun b1 H hO => ?_;cbv;refine A7 hE h (c13 N aA) (.refl _) fun r2 h => ?_;cbv;refine A6 hE h (fun _ h => ?_) fun _ h => ?_
 ·cbv;refine A8 hE hO 0 rfl rfl fun H hO => ?_;cbv;refine B1 hE hO 0 rfl ?_;cbv;cases h;exact hK hO (.tup (.cons (.agg (.cons (.refl _) (.cons (.lit _ (B4)) (.cons (.lit _ (B4)) (.refl _))))) (.refl _)))
 cbv;obtain ⟨s3, hx, h⟩ := bind_some h;refine K5 cf29 hE H6 (fun e l H1 => ∃ u1 : Nat, True ∧ ∃ u2 : OG, X6 u2 (Ar.len s3) ∧ e = .normal ∧ l = [(1, .v (.eref (B9 aA) 0)), (2, .v (.ref b1 0)), (5, .v (.ref u1 0))] ∧ B3 Eq H0 [cb u1 [vi aA.cS, .own u2.id u2.lo u2.n, .sl [] .nil], ob u2 1 V.bool s3, cb b1 [vi 0, .sl [] .nil, .sl [] .nil]] H1) (by kernel_rfl) ?_ ?_
 ·clear h;have h := hx;clear hx;cbv;refine D4 hE ?_;cbv
  repeat' first | refine And.intro ?_ ?_ | (refine Ki hE (f := V.bool) (by decide) (z0 := (false : Bool)) ((.refl _)) hO h fun l245 q244 H hq244 h hO => ?_; cbv) | (refine D1 hE hO fun b324 H hO => ?_; cbv) | (refine A8 hE hO 0 rfl rfl fun H hO => ?_; cbv) | (have h := N2 h; subst h; exact ⟨_, ⟨b324, trivial, q244, hq244, rfl, rfl, hO⟩, .e rfl (.e2 .z), rfl⟩) | (refine A8 hE hO 1 rfl rfl fun H hO => ?_; cbv) | (have hO : B3 Eq H0 [cb b324 [vi aA.cS, .own q244.id q244.lo q244.n, .sl [] .nil], ob q244 1 V.bool l245, cb b1 [vi 0, .sl [] .nil, .sl [] .nil]] H := hO.swp 1 0 rfl rfl; have h := N2 h; subst h; exact ⟨_, ⟨b324, trivial, q244, hq244, rfl, rfl, hO⟩, .e rfl (.e2 .z), rfl⟩)
 clear hx;rintro e l H ⟨b444, hb444, q445, hq445, rfl, rfl, hO⟩;cbv;obtain ⟨s446, hx, h⟩ := bind_some h;refine K5 cf29 hE H6 (fun e l H1 => ∃ u1 : OG, X6 u1 (Ar.len s446) ∧ e = .normal ∧ l = [(1, .v (.eref (B9 aA) 0)), (2, .v (.ref b1 0)), (5, .v (.ref b444 0))] ∧ B3 Eq H0 [cb b444 [vi aA.cS, .own u1.id u1.lo u1.n, .sl [] .nil], ob u1 1 V.bool s446, cb b1 [vi 0, .sl [] .nil, .sl [] .nil]] H1) (by kernel_rfl) ?_ ?_
 ·clear h;have h := hx;clear hx;cbv
  repeat' first | refine And.intro ?_ ?_ | (refine B1 hE hO 0 rfl ?_; cbv) | (refine C2 hE (fun _ => rfl) h fun x687 h => ?_; cbv) | (refine Af hE hO hq445 1 rfl h fun h => ?_; cbv) | (refine Ae hE (f := V.bool) (esz := 1) (tz := 1) (off := 0) (u := (fun x807 : Bool => x687)) (fun _ => ⟨.bool x687, .refl _, rfl, rfl, rfl⟩) (by decide) hO hq445 1 rfl h fun l808 H hq445 h hO => ?_; cbv) | (refine Ae hE (f := V.bool) (esz := 1) (tz := 1) (off := 0) (u := (fun x887 : Bool => true)) (fun _ => ⟨.bool true, .refl _, rfl, rfl, rfl⟩) (by decide) hO hq445 1 rfl h fun l888 H hq445 h hO => ?_; cbv) | (have h := N2 h; subst h; exact ⟨_, ⟨q445, hq445, rfl, rfl, hO⟩, .e rfl (.e2 .z), rfl⟩)
 clear hx;rintro e l H ⟨q967, hq967, rfl, rfl, hO⟩;cbv;refine D4 hE ?_;cbv;replace hO := hO.cast (L' := [cb b444 [vi aA.cS, .own q967.id q967.lo q967.n, .sl (Ar.lst eYk ([])) .nil], ob q967 1 V.bool s446, cb b1 [vi 0, .sl [] .nil, .sl [] .nil]]) (by simp only [ob, cb, sr, ← B4] <;> rfl);replace hO := hO.tl0 (t := .nil) rfl;obtain ⟨s970, hx, h⟩ := bind_some h;refine K1 cf29 hE H6 (γ := D8) (fun s968 g => [(1, .v (.eref (B9 aA) 0)), (2, .v (.ref b1 0)), (5, .v (.ref b444 0)), (35, .v (sr eYk aA.cO)), fi 36 (Ar.len aA.cO), fi 37 s968.1]) (fun s968 g H1 => O8 g ∧ B3 Eq H0 [.tl g, cb b444 [vi s968.2.cS, .own q967.id q967.lo q967.n, .sl (Ar.lst eYk s968.2.cO) g], ob q967 1 V.bool s446, cb b1 [vi 0, .sl [] .nil, .sl [] .nil]] H1) (fun x e l H1 => ∃ u1 : D8, O8 u1 ∧ e = .exit 0 ∧ l = [(1, .v (.eref (B9 aA) 0)), (2, .v (.ref b1 0)), (5, .v (.ref b444 0))] ∧ B3 Eq H0 [.tl u1, cb b444 [vi x.cS, .own q967.id q967.lo q967.n, .sl (Ar.lst eYk x.cO) u1], ob q967 1 V.bool s446, cb b1 [vi 0, .sl [] .nil, .sl [] .nil]] H1) (by kernel_rfl) ?_ .nil hx ?_ ?_ ?_
 ·rintro s968 t969 H o ⟨ht969, hO⟩ h;clear hx;cbv;refine A6 hE h (fun _ h => ?_) fun _ h => ?_
  ·cbv;refine C2 hE eYl h fun x971 h => ?_;cbv;refine C2 hE (fun _ => rfl) h fun x972 h => ?_;cbv;refine A6 hE h (fun _ h => ?_) fun _ h => ?_
   ·cbv;refine B1 hE hO 1 rfl ?_;cbv;refine M9 hE (g := fun r973 => (E5 r973)) h (c71 N x971.On) (.refl _) fun r973 h => ?_;cbv;refine V7 (f := eYk) hE Hh (by decide) hO 0 rfl ht969 (l := s968.2.cO) (m := [(⟨0, Ar.ar .add .i64 x971.cQ 1, r973⟩ : C9)]) (.refl _) (.lstc (.eq (eYl (⟨0, Ar.ar .add .i64 x971.cQ 1, r973⟩ : C9)) (.refl _)) (.lst0)) h fun l975 t974 H hO ht974 h => ?_;cbv;refine A8 hE hO 1 rfl rfl fun H hO => ?_;cbv;cases h;exact ⟨_, t974, rfl, .e2 (.e4 .z), rfl, ht974, hO⟩
   cbv;cases h;exact ⟨_, t969, rfl, .e2 (.e4 .z), rfl, ht969, hO⟩
  cbv;cases h;exact ⟨_, _, rfl, ⟨t969, ht969, rfl, rfl, hO⟩, .e rfl (.e2 .z), rfl⟩
 ·exact .e2 (.e4 .z)
 ·exact ⟨trivial, hO⟩
 clear hx;rintro e l H ⟨t976, ht976, rfl, rfl, hO⟩;cbv;refine D4 hE ?_;cbv;obtain ⟨s979, hx, h⟩ := bind_some h;refine K1 cf29 hE H6 (γ := D8) (fun s977 g => [(2, .v (.ref b1 0)), (5, .v (.ref b444 0)), (61, .v (sr eYk aA.cO)), fi 62 (Ar.len aA.cO), fi 63 s977.1]) (fun s977 g H1 => O8 g ∧ B3 Eq H0 [.tl g, cb b444 [vi s977.2.cS, .own q967.id q967.lo q967.n, .sl (Ar.lst eYk s977.2.cO) g], ob q967 1 V.bool s446, cb b1 [vi 0, .sl [] .nil, .sl [] .nil]] H1) (fun x e l H1 => ∃ u1 : D8, O8 u1 ∧ e = .exit 2 ∧ l = [(2, .v (.ref b1 0)), (5, .v (.ref b444 0))] ∧ B3 Eq H0 [.tl u1, cb b444 [vi x.cS, .own q967.id q967.lo q967.n, .sl (Ar.lst eYk x.cO) u1], ob q967 1 V.bool s446, cb b1 [vi 0, .sl [] .nil, .sl [] .nil]] H1) (by kernel_rfl) ?_ t976 hx ?_ ?_ ?_
 ·rintro s977 t978 H o ⟨ht978, hO⟩ h;clear hx;cbv;refine A6 hE h (fun _ h => ?_) fun _ h => ?_
  ·cbv;refine C2 hE eYl h fun x980 h => ?_;cbv;refine B1 hE hO 1 rfl ?_;cbv;refine M9 hE (g := fun r981 => (E5 r981)) h (c71 N x980.On) (.refl _) fun r981 h => ?_;cbv;refine V7 (f := eYk) hE Hh (by decide) hO 0 rfl ht978 (l := s977.2.cO) (m := [(⟨Ar.ar .add .i64 x980.To 1, Ar.ar .add .i64 x980.cQ 1, r981⟩ : C9)]) (.refl _) (.lstc (.eq (eYl (⟨Ar.ar .add .i64 x980.To 1, Ar.ar .add .i64 x980.cQ 1, r981⟩ : C9)) (.refl _)) (.lst0)) h fun l983 t982 H hO ht982 h => ?_;cbv;refine A8 hE hO 1 rfl rfl fun H hO => ?_;cbv;cases h;exact ⟨_, t982, rfl, .e rfl (.e4 .z), rfl, ht982, hO⟩
  cbv;cases h;exact ⟨_, _, rfl, ⟨t978, ht978, rfl, rfl, hO⟩, .e2 .z, rfl⟩
 ·exact .e rfl (.e4 .z)
 ·exact ⟨ht976, hO⟩
 clear hx;rintro e l H ⟨t984, ht984, rfl, rfl, hO⟩;cbv;refine QW hE hO hq967 1 2 rfl rfl rfl (by decide) fun H hO => ?_;cbv;refine B1 hE hO 1 rfl ?_;cbv;refine A7 hE h (c82 N ({ s979 with cM := s446 })) (.cons (.agg (.cons (.refl _) (.cons (.refl _) (.cons (.ro _ _) (.refl _))))) (.refl _)) fun r985 h => ?_;cbv;refine A8 hE hO 2 rfl rfl fun H hO => ?_;cbv;refine B1 hE hO 2 rfl ?_;cbv;cases h;exact hK hO (.refl _)
def cf35 : Cf := ⟨[4], [], [], [], [], []⟩
theorem c35 (N bE bF r) (h : Ah N bE bF = some r) : B5 prog 35 [vi bE, vi bF] ((E5 r)) := by
 unfold Ah at h
 refine K2 cf35 func35 call35 ntmps35 ?_;intro E H0 K hE hK hO;cbv;refine D1 hE hO fun b1 H hO => ?_;cbv;refine A8 hE hO 0 rfl rfl fun H hO => ?_;cbv;refine B1 hE hO 0 rfl ?_;cbv;cases h;exact hK hO (.agg (.cons (.sl _ (.lstc (.eq (eYj ([(⟨bE, bF⟩ : A2)])) (.lit _ (C5 ((eYm (⟨bE, bF⟩ : A2)).symm) (B4)))) (.lst0))) (.refl _)))
theorem c36 (N aG r) (h : BP N aG = some r) : B5 prog 36 [sr (V.int .i64) aG] (sr eYf r) := by
 unfold BP at h
 refine K2 cf0 func36 call36 ntmps36 ?_;intro E H0 K hE hK hO;cbv;refine D4 hE ?_;cbv;replace hO := hO.tl0 (t := .nil) rfl;obtain ⟨s3, hx, h⟩ := bind_some h;refine K1 cf0 hE H6 (γ := D8) (fun s1 g => [(3, .v (.sl (Ar.lst eYf s1.1) g)), (6, .v (sr (V.int .i64) aG)), fi 7 (Ar.len aG), fi 8 s1.2]) (fun s1 g H1 => O8 g ∧ B3 Eq H0 [.tl g] H1) (fun x e l H1 => ∃ u1 : D8, O8 u1 ∧ e = .exit 0 ∧ l = [(3, .v (.sl (Ar.lst eYf x) u1))] ∧ B3 Eq H0 [.tl u1] H1) (by kernel_rfl) ?_ .nil hx ?_ ?_ ?_
 ·rintro s1 t2 H o ⟨ht2, hO⟩ h;clear hx;cbv;refine A6 hE h (fun _ h => ?_) fun _ h => ?_
  ·cbv;refine C2 hE (fun _ => rfl) h fun x4 h => ?_;cbv;refine V7 (f := eYf) hE JF (by decide) hO 0 rfl ht2 (l := s1.1) (m := [(⟨0, x4⟩ : B2)]) (.refl _) (.lstc (.eq (eYu (⟨0, x4⟩ : B2)) (.refl _)) (.lst0)) h fun l6 t5 H hO ht5 h => ?_;cbv;cases h;exact ⟨_, t5, rfl, .e4 .z, rfl, ht5, hO⟩
  cbv;cases h;exact ⟨_, _, rfl, ⟨t2, ht2, rfl, rfl, hO⟩, .e rfl .z, rfl⟩
 ·exact .v (.slt _ (.lst0)) (.e rfl (.e2 .z))
 ·exact ⟨trivial, hO⟩
 clear hx;rintro e l H ⟨t7, ht7, rfl, rfl, hO⟩;cbv;cases h;exact hK hO (.ro _ _)
def cf38 : Cf := ⟨[2], [], [], [], [], []⟩
theorem c38 (N aE r) (h : GD N aE = some r) : B5 prog 38 [.bool aE] ((Jh r)) := by
 unfold GD at h
 refine K2 cf38 func38 call38 ntmps38 ?_;intro E H0 K hE hK hO;cbv;refine D1 hE hO fun b1 H hO => ?_;cbv;refine A6 hE h (fun _ h => ?_) fun _ h => ?_
 ·cbv;refine A8 hE hO 0 rfl rfl fun H hO => ?_;cbv;refine B1 hE hO 0 rfl ?_;cbv;cases h;exact hK hO (.refl _)
 cbv;refine A8 hE hO 0 rfl rfl fun H hO => ?_;cbv;refine B1 hE hO 0 rfl ?_;cbv;cases h;exact hK hO (.refl _)
def cf37 : Cf := ⟨[2], [], [], [], [], []⟩
theorem c37 (N aQ r) (h : Cc N aQ = some r) : B5 prog 37 [vi aQ] ((C1 r)) := by
 unfold Cc at h
 refine K2 cf37 func37 call37 ntmps37 ?_;intro E H0 K hE hK hO;cbv;refine D1 hE hO fun b1 H hO => ?_;cbv;refine A7 hE h (c38 N true) (.refl _) fun r2 h => ?_;cbv;refine A8 hE hO 0 rfl rfl fun H hO => ?_;cbv;refine B1 hE hO 0 rfl ?_;cbv;cases h;exact hK hO (.agg (.cons (.refl _) (.cons (.lit _ (B4)) (.cons (.refl _) (.cons (.refl _) (.cons (.refl _) (.cons (.refl _) (.cons (.refl _) (.cons (.lit _ (B4)) (.refl _))))))))))
def cf10 : Cf := ⟨[], [(17, 22)], [], [], [], []⟩
theorem c10 (N r) (h : Ai N  = some r) : B5 prog 10 [] (.bool r) := by
 unfold Ai at h
 refine K2 cf10 func10 call10 ntmps10 ?_;intro E H0 K hE hK hO;cbv;refine A7 hE h (c35 N 1 5) (.refl _) fun r1 h => ?_;cbv;refine A7 hE h (c35 N 4 9) (.refl _) fun r2 h => ?_;cbv;refine A7 hE h (c36 N ([4])) (.cons (.lit _ (C5 (rfl) (B4))) (.refl _)) fun r3 h => ?_;cbv;refine A7 hE h (c36 N ([1, 4])) (.cons (.lit _ (C5 (rfl) (C5 (rfl) (B4)))) (.refl _)) fun r4 h => ?_;cbv;refine A7 hE h (c36 N ([1])) (.cons (.lit _ (C5 (rfl) (B4))) (.refl _)) fun r5 h => ?_;cbv;refine XI hE (n := 3) rfl ?_;cbv;obtain ⟨s7, hx, h⟩ := bind_some h;refine F6 cf10 hE H6 (fun s6 => [(1, .v (.eref [vi 1, .sl [.bool false, .bool true] .full, .sl [.agg [vi 0, vi 0, sr eYh r1.cP], .agg [vi 0, vi 1, sr eYh r2.cP]] .full] 0)), (29, .v (sr eYN ([r3, r4, r5]))), fi 30 3, fi 31 s6]) (fun s6 H1 => B3 Eq H0 [] H1) (fun x e l H1 => match (generalizing := false) x with | .inl y => e = .exit 0 ∧ l = [(1, .v (.eref [vi 1, .sl [.bool false, .bool true] .full, .sl [.agg [vi 0, vi 0, sr eYh r1.cP], .agg [vi 0, vi 1, sr eYh r2.cP]] .full] 0))] ∧ B3 Eq H0 [] H1 | .inr y => e = .ret ∧ l = [(0, .b false)] ∧ B3 Eq H0 [] H1) (by kernel_rfl) ?_ hx ?_ hO ?_
 ·intro s6 H o hO h;clear hx;cbv;refine A6 hE h (fun _ h => ?_) fun _ h => ?_
  ·cbv;refine C2 hE eYH h fun x8 h => ?_;cbv;refine A7 hE h (c11 N (⟨1, [false, true], [(⟨0, 0, r1⟩ : C9), (⟨0, 1, r2⟩ : C9)]⟩ : A3) x8) (.cons (.agg (.cons (.refl _) (.cons (.lit _ (C5 (rfl) (C5 (rfl) (B4)))) (.cons (.lit _ (C5 ((eYl (⟨0, 0, r1⟩ : C9)).symm) (C5 ((eYl (⟨0, 1, r2⟩ : C9)).symm) (B4)))) (.refl _))))) (.refl _)) fun r9 h => ?_;cbv;refine A6 hE h (fun _ h => ?_) fun _ h => ?_
   ·cbv;cases h;exact ⟨_, _, rfl, ⟨rfl, rfl, hO⟩, .b rfl (.z), rfl⟩
   cbv;cases h;exact ⟨_, rfl, .e4 .z, rfl, hO⟩
  cbv;cases h;exact ⟨_, _, rfl, ⟨rfl, rfl, hO⟩, .e rfl .z, rfl⟩
 ·exact .e rfl (.v (.lit _ (C5 ((eYH r3).symm) (C5 ((eYH r4).symm) (C5 ((eYH r5).symm) (B4))))) (.e rfl (.e rfl (.z))))
 clear hx
 rcases s7 with y10 | y24
 ·rintro e l H ⟨rfl, rfl, hO⟩;cbv;refine A7 hE h (c19 N (⟨1, [false, true], [(⟨0, 0, r1⟩ : C9), (⟨0, 1, r2⟩ : C9)]⟩ : A3)) (.cons (.agg (.cons (.refl _) (.cons (.lit _ (C5 (rfl) (C5 (rfl) (B4)))) (.cons (.lit _ (C5 ((eYl (⟨0, 0, r1⟩ : C9)).symm) (C5 ((eYl (⟨0, 1, r2⟩ : C9)).symm) (B4)))) (.refl _))))) (.refl _)) fun r11 h => ?_;cbv;refine A7 hE h (c29 N (⟨1, [false, true], [(⟨0, 0, r1⟩ : C9), (⟨0, 1, r2⟩ : C9)]⟩ : A3)) (.cons (.agg (.cons (.refl _) (.cons (.lit _ (C5 (rfl) (C5 (rfl) (B4)))) (.cons (.lit _ (C5 ((eYl (⟨0, 0, r1⟩ : C9)).symm) (C5 ((eYl (⟨0, 1, r2⟩ : C9)).symm) (B4)))) (.refl _))))) (.refl _)) fun r12 h => ?_;cbv;refine A7 hE h (c37 N 0) (.refl _) fun r13 h => ?_;cbv;refine A7 hE h (c37 N 1) (.refl _) fun r14 h => ?_;cbv;refine A7 hE h (c16 N ([(⟨(⟨#[97]⟩ : ByteArray), []⟩ : Z3)]) (⟨1, [r13, (⟨4, [r14], 0, 0, 0, 0, (⟨0, [], 0, 0, 0, (⟨0, 0, ⟨#[]⟩⟩ : P7)⟩ : G7)⟩ : A5)], 0, 0, 0, 0, (⟨0, [], 0, 0, 0, (⟨0, 0, ⟨#[]⟩⟩ : P7)⟩ : G7)⟩ : A5)) (.cons (.sl _ (.lstc (.eq (eYF (⟨(⟨#[97]⟩ : ByteArray), []⟩ : Z3)) (.agg (.cons (.refl _) (.cons (.lit _ (B4)) (.refl _))))) (.lst0))) (.cons (.agg (.cons (.refl _) (.cons (.sl _ (.lstc (.eq (eYi r13) (.refl _)) (.lstc (.eq (eYi (⟨4, [r14], 0, 0, 0, 0, (⟨0, [], 0, 0, 0, (⟨0, 0, ⟨#[]⟩⟩ : P7)⟩ : G7)⟩ : A5)) (.agg (.cons (.refl _) (.cons (.lit _ (C5 ((eYi r14).symm) (B4))) (.cons (.refl _) (.cons (.refl _) (.cons (.refl _) (.cons (.refl _) (.cons (.refl _) (.cons (.lit _ (B4)) (.refl _))))))))))) (.lst0)))) (.cons (.refl _) (.cons (.refl _) (.cons (.refl _) (.cons (.refl _) (.cons (.refl _) (.cons (.lit _ (B4)) (.refl _)))))))))) (.refl _))) fun r15 h => ?_;cbv;refine A7 hE h (c35 N (-1099511627776) 1099511627776) (.refl _) fun r16 h => ?_;cbv;refine A6 hE h (fun _ h => ?_) fun _ h => ?_
  ·cbv;cases h;exact hK hO (.refl _)
  cbv;refine A7 hE h (c36 N ([4])) (.cons (.lit _ (C5 (rfl) (B4))) (.refl _)) fun r17 h => ?_;cbv;refine A7 hE h (c21 N r11.2.1 r17) (.refl _) fun r18 h => ?_;cbv;refine A6 hE h (fun _ h => ?_) fun _ h => ?_
  ·cbv;cases h;exact hK hO (.refl _)
  cbv;refine M9 hE (g := fun r19 => (E5 r19)) h (c35 N 4 9) (.refl _) fun r19 h => ?_;cbv;refine M9 hE (g := fun r20 => (E5 r20)) h (c35 N 1 5) (.refl _) fun r20 h => ?_;cbv;refine M9 hE (g := fun r21 => (E5 r21)) h (c35 N 4 9) (.refl _) fun r21 h => ?_;cbv;refine M9 hE (g := fun r22 => .bool r22) h (c18 N r12.1 (⟨1, [false, true, false], [(⟨0, 1, r19⟩ : C9), (⟨1, 1, r20⟩ : C9), (⟨2, 1, r21⟩ : C9)]⟩ : A3)) (.cons (.refl _) (.cons (.agg (.cons (.refl _) (.cons (.lit _ (C5 (rfl) (C5 (rfl) (C5 (rfl) (B4))))) (.cons (.lit _ (C5 ((eYl (⟨0, 1, r19⟩ : C9)).symm) (C5 ((eYl (⟨1, 1, r20⟩ : C9)).symm) (C5 ((eYl (⟨2, 1, r21⟩ : C9)).symm) (B4))))) (.refl _))))) (.refl _))) fun r22 h => ?_;cbv;refine A6 hE h (fun _ h => ?_) fun _ h => ?_
  ·cbv;refine A7 hE h (c18 N r15.1 (⟨1, [false, false, true], [(⟨0, 1, r16⟩ : C9), (⟨1, 2, r16⟩ : C9), (⟨1, 1, r16⟩ : C9)]⟩ : A3)) (.cons (.refl _) (.cons (.agg (.cons (.refl _) (.cons (.lit _ (C5 (rfl) (C5 (rfl) (C5 (rfl) (B4))))) (.cons (.lit _ (C5 ((eYl (⟨0, 1, r16⟩ : C9)).symm) (C5 ((eYl (⟨1, 2, r16⟩ : C9)).symm) (C5 ((eYl (⟨1, 1, r16⟩ : C9)).symm) (B4))))) (.refl _))))) (.refl _))) fun r23 h => ?_;cbv;cases h;exact hK hO (.refl _)
  cbv;cases h;exact hK hO (.refl _)
 rintro e l H ⟨rfl, rfl, hO⟩;cbv;cases h;exact hK hO (.refl _)
theorem c166 (N aI r) (h : Fk N aI = some r) : B5 prog 166 [vi aI] (.bool r) := by
 unfold Fk at h
 refine K2 cf0 func166 call166 ntmps166 ?_;intro E H0 K hE hK hO;cbv;cases h;exact hK hO (.refl _)
theorem c127 (N aH r) (h : Ec N aH = some r) : B5 prog 127 [(N5 aH)] (vi r) := by
 unfold Ec at h
 refine K2 cf0 func127 call127 ntmps127 ?_;intro E H0 K hE hK hO;cbv;refine A7 hE h (c166 N aH.Low) (.refl _) fun r1 h => ?_;cbv;refine A6 hE h (fun _ h => ?_) fun _ h => ?_
 ·cbv;cases h;exact hK hO (.refl _)
 cbv;refine A7 hE h (c166 N aH.cT) (.refl _) fun r2 h => ?_;cbv;refine A6 hE h (fun _ h => ?_) fun _ h => ?_
 ·cbv;cases h;exact hK hO (.refl _)
 cbv;refine A6 hE h (fun _ h => ?_) fun _ h => ?_
 ·cbv;cases h;exact hK hO (.refl _)
 cbv;cases h;exact hK hO (.refl _)
def cf95 : Cf := ⟨[], [(9, 15)], [], [], [], []⟩
theorem c95 (N aG r) (h : Cm N aG = some r) : B5 prog 95 [sr eYc aG] (vi r) := by
 unfold Cm at h
 refine K2 cf95 func95 call95 ntmps95 ?_;intro E H0 K hE hK hO;cbv;refine D4 hE ?_;cbv;refine A6 hE h (fun _ h => ?_) fun _ h => ?_
 ·cbv;cases h;exact hK hO (.refl _)
 cbv;obtain ⟨s2, hx, h⟩ := bind_some h;refine F6 cf95 hE H6 (fun s1 => [(0, .v (sr eYc aG)), fi 3 s1]) (fun s1 H1 => B3 Eq H0 [] H1) (fun x e l H1 => match (generalizing := false) x with | .inl y => e = .exit 0 ∧ l = [] ∧ B3 Eq H0 [] H1 | .inr y => e = .ret ∧ l = [fi 2 y] ∧ B3 Eq H0 [] H1) (by kernel_rfl) ?_ hx ?_ hO ?_
 ·intro s1 H o hO h;clear hx;cbv;refine D4 hE ?_;cbv;refine A6 hE h (fun _ h => ?_) fun _ h => ?_
  ·cbv;refine C2 hE eYm h fun x3 h => ?_;cbv;refine A7 hE h (c127 N x3) (.refl _) fun r4 h => ?_;cbv;refine A6 hE h (fun _ h => ?_) fun _ h => ?_
   ·cbv;cases h;exact ⟨_, _, rfl, ⟨rfl, rfl, hO⟩, .e rfl .z, rfl⟩
   cbv;refine A6 hE h (fun _ h => ?_) fun _ h => ?_
   ·cbv;refine C2 hE eYm h fun x5 h => ?_;cbv;refine C2 hE eYm h fun x6 h => ?_;cbv;refine A6 hE h (fun _ h => ?_) fun _ h => ?_
    ·cbv;cases h;exact ⟨_, _, rfl, ⟨rfl, rfl, hO⟩, .e rfl .z, rfl⟩
    cbv;cases h;exact ⟨_, rfl, .e2 .z, rfl, hO⟩
   cbv;cases h;exact ⟨_, rfl, .e2 .z, rfl, hO⟩
  cbv;cases h;exact ⟨_, _, rfl, ⟨rfl, rfl, hO⟩, .z, rfl⟩
 ·exact .e2 .z
 clear hx
 rcases s2 with y7 | y8
 ·rintro e l H ⟨rfl, rfl, hO⟩;cbv;cases h;exact hK hO (.refl _)
 rintro e l H ⟨rfl, rfl, hO⟩;cbv;cases h;exact hK hO (.refl _)
theorem c47 (N aJ aB r) (h : Cl N aJ aB = some r) : B5 prog 47 [vi aJ, (E5 aB)] (vi r) := by
 unfold Cl at h
 refine K2 cf0 func47 call47 ntmps47 ?_;intro E H0 K hE hK hO;cbv;refine A6 hE h (fun _ h => ?_) fun _ h => ?_
 ·cbv;cases h;exact hK hO (.refl _)
 cbv;refine D4 hE ?_;cbv;refine A6 hE h (fun _ h => ?_) fun _ h => ?_
 ·cbv;cases h;exact hK hO (.refl _)
 cbv;obtain ⟨s2, hx, h⟩ := bind_some h;refine F6 cf0 hE H6 (fun s1 => [fi 0 aJ, (3, .v (.eref (T8 aB) 0)), fi 5 s1]) (fun s1 H1 => B3 Eq H0 [] H1) (fun x e l H1 => match (generalizing := false) x with | .inl y => e = .exit 0 ∧ l = [] ∧ B3 Eq H0 [] H1 | .inr y => e = .ret ∧ l = [fi 4 y] ∧ B3 Eq H0 [] H1) (by kernel_rfl) ?_ hx ?_ hO ?_
 ·intro s1 H o hO h;clear hx;cbv;refine A6 hE h (fun _ h => ?_) fun _ h => ?_
  ·cbv;refine C2 hE eYj h fun x3 h => ?_;cbv;refine A7 hE h (c95 N x3) (.refl _) fun r4 h => ?_;cbv;refine A6 hE h (fun _ h => ?_) fun _ h => ?_
   ·cbv;cases h;exact ⟨_, _, rfl, ⟨rfl, rfl, hO⟩, .e rfl .z, rfl⟩
   cbv;cases h;exact ⟨_, rfl, .e rfl (.e2 .z), rfl, hO⟩
  cbv;cases h;exact ⟨_, _, rfl, ⟨rfl, rfl, hO⟩, .z, rfl⟩
 ·exact .e rfl (.e2 .z)
 clear hx
 rcases s2 with y5 | y6
 ·rintro e l H ⟨rfl, rfl, hO⟩;cbv;cases h;exact hK hO (.refl _)
 rintro e l H ⟨rfl, rfl, hO⟩;cbv;cases h;exact hK hO (.refl _)
theorem c14 (N aA r) (h : Ck N aA = some r) : B5 prog 14 [(F2 aA)] (vi r) := by
 unfold Ck at h
 refine K2 cf0 func14 call14 ntmps14 ?_;intro E H0 K hE hK hO;cbv;refine A6 hE h (fun _ h => ?_) fun _ h => ?_
 ·cbv;cases h;exact hK hO (.refl _)
 cbv;refine D4 hE ?_;cbv;refine D4 hE ?_;cbv;refine A6 hE h (fun _ h => ?_) fun _ h => ?_
 ·cbv;cases h;exact hK hO (.refl _)
 cbv;obtain ⟨s2, hx, h⟩ := bind_some h;refine F6 cf0 hE H6 (fun s1 => [(1, .v (.eref (B9 aA) 0)), fi 3 (Ar.len aA.cM), fi 4 s1]) (fun s1 H1 => B3 Eq H0 [] H1) (fun x e l H1 => match (generalizing := false) x with | .inl y => e = .exit 0 ∧ l = [] ∧ B3 Eq H0 [] H1 | .inr y => e = .ret ∧ l = [fi 2 y] ∧ B3 Eq H0 [] H1) (by kernel_rfl) ?_ hx ?_ hO ?_
 ·intro s1 H o hO h;clear hx;cbv;refine D4 hE ?_;cbv;refine A6 hE h (fun _ h => ?_) fun _ h => ?_
  ·cbv;refine C2 hE eYl h fun x3 h => ?_;cbv;refine A6 hE h (fun _ h => ?_) fun _ h => ?_
   ·cbv;cases h;exact ⟨_, _, rfl, ⟨rfl, rfl, hO⟩, .e rfl .z, rfl⟩
   cbv;refine A7 hE h (c47 N aA.cS x3.On) (.refl _) fun r4 h => ?_;cbv;refine A6 hE h (fun _ h => ?_) fun _ h => ?_
   ·cbv;cases h;exact ⟨_, _, rfl, ⟨rfl, rfl, hO⟩, .e rfl .z, rfl⟩
   cbv;cases h;exact ⟨_, rfl, .e rfl (.e2 .z), rfl, hO⟩
  cbv;cases h;exact ⟨_, _, rfl, ⟨rfl, rfl, hO⟩, .z, rfl⟩
 ·exact .e rfl (.e2 .z)
 clear hx
 rcases s2 with y5 | y6
 ·rintro e l H ⟨rfl, rfl, hO⟩;cbv;cases h;exact hK hO (.refl _)
 rintro e l H ⟨rfl, rfl, hO⟩;cbv;cases h;exact hK hO (.refl _)
theorem c43 (N aJ aA r) (h : T3 N aJ aA = some r) : B5 prog 43 [vi aJ, (Ch aA)] (vi r) := by
 unfold T3 at h
 refine K2 cf0 func43 call43 ntmps43 ?_;intro E H0 K hE hK hO;cbv;refine A6 hE h (fun _ h => ?_) fun _ h => ?_
 ·cbv;cases h;exact hK hO (.refl _)
 cbv;refine A6 hE h (fun _ h => ?_) fun _ h => ?_
 ·cbv;cases h;exact hK hO (.refl _)
 cbv;cases h;exact hK hO (.refl _)
theorem c165 (N aG aI r) (h : Ee N aG aI = some r) : B5 prog 165 [sr eYc aG, vi aI] (.bool r) := by
 unfold Ee at h
 refine K2 cf0 func165 call165 ntmps165 ?_;intro E H0 K hE hK hO;cbv;obtain ⟨s2, hx, h⟩ := bind_some h;refine F6 cf0 hE H6 (fun s1 => [(0, .v (sr eYc aG)), fi 1 aI, fi 5 s1]) (fun s1 H1 => B3 Eq H0 [] H1) (fun x e l H1 => match (generalizing := false) x with | .inl y => e = .exit 0 ∧ l = [] ∧ B3 Eq H0 [] H1 | .inr y => e = .ret ∧ l = [(4, .b true)] ∧ B3 Eq H0 [] H1) (by kernel_rfl) ?_ hx ?_ hO ?_
 ·intro s1 H o hO h;clear hx;cbv;refine D4 hE ?_;cbv;refine A6 hE h (fun _ h => ?_) fun _ h => ?_
  ·cbv;refine C2 hE eYm h fun x3 h => ?_;cbv;refine A6 hE h (fun _ h => ?_) fun _ h => ?_
   ·cbv;refine C2 hE eYm h fun x4 h => ?_;cbv;refine A6 hE h (fun _ h => ?_) fun _ h => ?_
    ·cbv;cases h;exact ⟨_, _, rfl, ⟨rfl, rfl, hO⟩, .b rfl (.z), rfl⟩
    cbv;cases h;exact ⟨_, rfl, .e rfl (.e2 .z), rfl, hO⟩
   cbv;cases h;exact ⟨_, rfl, .e rfl (.e2 .z), rfl, hO⟩
  cbv;cases h;exact ⟨_, _, rfl, ⟨rfl, rfl, hO⟩, .z, rfl⟩
 ·exact .e rfl (.e2 .z)
 clear hx
 rcases s2 with y5 | y6
 ·rintro e l H ⟨rfl, rfl, hO⟩;cbv;cases h;exact hK hO (.refl _)
 rintro e l H ⟨rfl, rfl, hO⟩;cbv;cases h;exact hK hO (.refl _)
def cf125 : Cf := ⟨[], [(1, 20)], [], [], [], []⟩
theorem c125 (N aB aA r) (h : BL N aB aA = some r) : B5 prog 125 [(E5 aB), (Ch aA)] (.bool r) := by
 unfold BL at h
 refine K2 cf125 func125 call125 ntmps125 ?_;intro E H0 K hE hK hO;cbv;refine D4 hE ?_;cbv;refine A6 hE h (fun _ h => ?_) fun _ h => ?_
 ·cbv;refine C2 hE eYj h fun x1 h => ?_;cbv;refine A7 hE h (c165 N x1 aA.Num) (.refl _) fun r2 h => ?_;cbv;cases h;exact hK hO (.refl _)
 cbv;cases h;exact hK hO (.refl _)
theorem c93 (N aA bG aH r) (h : Q4 N aA bG aH = some r) : B5 prog 93 [(F2 aA), sr V.bool bG, (Ch aH)] (sr V.bool r) := by
 unfold Q4 at h
 refine S4 (T := TT) cf0 H6 func93 (by rfl) (by kernel_rfl) call93 ntmps93 (by rfl) (by rfl) ?_;intro E H0 K hE hK hF;have hO : B3 Eq H0 [] H0 := .start B7 rfl;cbv;refine D4 hE ?_;cbv;refine Ki hE (f := V.bool) (by decide) (z0 := (false : Bool)) ((.refl _)) hO h fun l2 q1 H hq1 h hO => ?_;cbv;obtain ⟨s5, hx, h⟩ := bind_some h;refine K1 cf0 hE H6 (γ := OG) (fun s3 g => [(1, .v (sr V.bool bG)), (3, .v (.eref (B9 aA) 0)), (5, .v (.eref (N3 aH) 0)), (7, .v (.own g.id g.lo g.n)), fi 8 s3.1]) (fun s3 g H1 => X6 g (Ar.len s3.2) ∧ B3 Eq H0 [ob g 1 V.bool s3.2] H1) (fun x e l H1 => ∃ u1 : OG, X6 u1 (Ar.len x) ∧ e = .exit 0 ∧ l = [(7, .v (.own u1.id u1.lo u1.n))] ∧ B3 Eq H0 [ob u1 1 V.bool x] H1) (by kernel_rfl) ?_ q1 hx ?_ ?_ ?_
 ·rintro s3 q4 H o ⟨hq4, hO⟩ h;clear hx;cbv;refine D4 hE ?_;cbv;refine A6 hE h (fun _ h => ?_) fun _ h => ?_
  ·cbv;refine C2 hE eYl h fun x6 h => ?_;cbv;refine C2 hE (fun _ => rfl) h fun x7 h => ?_;cbv;refine A6 hE h (fun _ h => ?_) fun _ h => ?_
   ·cbv;refine A7 hE h (c125 N x6.On aH) (.refl _) fun r8 h => ?_;cbv;refine A6 hE h (fun _ h => ?_) fun _ h => ?_
    ·cbv;refine Af hE hO hq4 0 rfl h fun h => ?_;cbv;refine Ae hE (f := V.bool) (esz := 1) (tz := 1) (off := 0) (u := (fun x9 : Bool => true)) (fun _ => ⟨.bool true, .refl _, rfl, rfl, rfl⟩) (by decide) hO hq4 0 rfl h fun l10 H hq4 h hO => ?_;cbv;cases h;exact ⟨_, q4, rfl, .e rfl (.e4 .z), rfl, hq4, hO⟩
    cbv;cases h;exact ⟨_, q4, rfl, .e rfl (.e4 .z), rfl, hq4, hO⟩
   cbv;cases h;exact ⟨_, q4, rfl, .e rfl (.e4 .z), rfl, hq4, hO⟩
  cbv;cases h;exact ⟨_, _, rfl, ⟨q4, hq4, rfl, rfl, hO⟩, .e rfl .z, rfl⟩
 ·exact .e rfl (.e4 .z)
 ·exact ⟨hq1, hO⟩
 clear hx;rintro e l H ⟨q11, hq11, rfl, rfl, hO⟩;cbv;cases h;exact hF q11 _ _ 0 _ _ hO rfl (W9 hE hq11) (.refl _)
def cf44 : Cf := ⟨[], [(6, 6)], [], [], [(6, 5)], []⟩
theorem c44 (N aA aR r) (h : Cj N aA aR = some r) : B5 prog 44 [(F2 aA), sr eYf aR] (.bool r) := by
 unfold Cj at h
 refine K2 cf44 func44 call44 ntmps44 ?_;intro E H0 K hE hK hO;cbv;refine D4 hE ?_;cbv;refine Ki hE (f := V.bool) (by decide) (z0 := (false : Bool)) ((.refl _)) hO h fun l2 q1 H hq1 h hO => ?_;cbv;refine Af hE hO hq1 0 rfl h fun h => ?_;cbv;refine Ae hE (f := V.bool) (esz := 1) (tz := 1) (off := 0) (u := (fun x3 : Bool => true)) (fun _ => ⟨.bool true, .refl _, rfl, rfl, rfl⟩) (by decide) hO hq1 0 rfl h fun l4 H hq1 h hO => ?_;cbv;refine GJ hE hO hq1 0 rfl fun H hO => ?_;cbv;obtain ⟨s6, hx, h⟩ := bind_some h;refine F6 cf44 hE H6 (fun s5 => [(1, .v (sr eYf aR)), (2, .v (.eref (B9 aA) 0)), (5, .v (sr V.bool s5.1)), fi 6 s5.2]) (fun s5 H1 => B3 Eq H0 [] H1) (fun x e l H1 => e = .exit 0 ∧ l = [(2, .v (.eref (B9 aA) 0)), (5, .v (sr V.bool x))] ∧ B3 Eq H0 [] H1) (by kernel_rfl) ?_ hx ?_ hO ?_
 ·intro s5 H o hO h;clear hx;cbv;refine D4 hE ?_;cbv;refine A6 hE h (fun _ h => ?_) fun _ h => ?_
  ·cbv;refine C2 hE eYu h fun x7 h => ?_;cbv;refine A7 hE h (c93 N aA s5.1 x7) (.refl _) fun r8 h => ?_;cbv;cases h;exact ⟨_, rfl, .e4 .z, rfl, hO⟩
  cbv;cases h;exact ⟨_, _, rfl, ⟨rfl, rfl, hO⟩, .e2 .z, rfl⟩
 ·exact .e4 .z
 clear hx;rintro e l H ⟨rfl, rfl, hO⟩;cbv;obtain ⟨s10, hx, h⟩ := bind_some h;refine F6 cf44 hE H6 (fun s9 => [(2, .v (.eref (B9 aA) 0)), (5, .v (sr V.bool s6)), fi 7 s9]) (fun s9 H1 => B3 Eq H0 [] H1) (fun x e l H1 => match (generalizing := false) x with | .inl y => e = .exit 2 ∧ l = [] ∧ B3 Eq H0 [] H1 | .inr y => e = .ret ∧ l = [(4, .b true)] ∧ B3 Eq H0 [] H1) (by kernel_rfl) ?_ hx ?_ hO ?_
 ·intro s9 H o hO h;clear hx;cbv;refine D4 hE ?_;cbv;refine A6 hE h (fun _ h => ?_) fun _ h => ?_
  ·cbv;refine C2 hE (fun _ => rfl) h fun x11 h => ?_;cbv;refine A6 hE h (fun _ h => ?_) fun _ h => ?_
   ·cbv;refine C2 hE (fun _ => rfl) h fun x12 h => ?_;cbv;refine A6 hE h (fun _ h => ?_) fun _ h => ?_
    ·cbv;cases h;exact ⟨_, _, rfl, ⟨rfl, rfl, hO⟩, .b rfl (.z), rfl⟩
    cbv;cases h;exact ⟨_, rfl, .e rfl (.e2 .z), rfl, hO⟩
   cbv;cases h;exact ⟨_, rfl, .e rfl (.e2 .z), rfl, hO⟩
  cbv;cases h;exact ⟨_, _, rfl, ⟨rfl, rfl, hO⟩, .z, rfl⟩
 ·exact .e rfl (.e2 .z)
 clear hx
 rcases s10 with y13 | y14
 ·rintro e l H ⟨rfl, rfl, hO⟩;cbv;cases h;exact hK hO (.refl _)
 rintro e l H ⟨rfl, rfl, hO⟩;cbv;cases h;exact hK hO (.refl _)
def cf12 : Cf := ⟨[], [(9, 6)], [], [], [], []⟩
theorem c12 (N aA aR r) (h : AK N aA aR = some r) : B5 prog 12 [(F2 aA), sr eYf aR] (.tup [.bool r.1, vi r.2]) := by
 unfold AK at h
 refine K2 cf12 func12 call12 ntmps12 ?_;intro E H0 K hE hK hO;cbv;refine A7 hE h (c14 N aA) (.refl _) fun r1 h => ?_;cbv;refine A6 hE h (fun _ h => ?_) fun _ h => ?_
 ·cbv;cases h;exact hK hO (.refl _)
 cbv;refine D4 hE ?_;cbv;refine A6 hE h (fun _ h => ?_) fun _ h => ?_
 ·cbv;cases h;exact hK hO (.refl _)
 cbv;obtain ⟨s3, hx, h⟩ := bind_some h;refine F6 cf12 hE H6 (fun s2 => [(1, .v (sr eYf aR)), (2, .v (.eref (B9 aA) 0)), fi 7 s2]) (fun s2 H1 => B3 Eq H0 [] H1) (fun x e l H1 => match (generalizing := false) x with | .inl y => e = .exit 0 ∧ l = [(1, .v (sr eYf aR)), (2, .v (.eref (B9 aA) 0))] ∧ B3 Eq H0 [] H1 | .inr y => e = .ret ∧ l = [(4, .b false), fi 5 y] ∧ B3 Eq H0 [] H1) (by kernel_rfl) ?_ hx ?_ hO ?_
 ·intro s2 H o hO h;clear hx;cbv;refine D4 hE ?_;cbv;refine A6 hE h (fun _ h => ?_) fun _ h => ?_
  ·cbv;refine C2 hE eYu h fun x4 h => ?_;cbv;refine A7 hE h (c43 N aA.cS x4) (.refl _) fun r5 h => ?_;cbv;refine A6 hE h (fun _ h => ?_) fun _ h => ?_
   ·cbv;cases h;exact ⟨_, _, rfl, ⟨rfl, rfl, hO⟩, .b rfl (.e rfl .z), rfl⟩
   cbv;cases h;exact ⟨_, rfl, .e rfl (.e2 .z), rfl, hO⟩
  cbv;cases h;exact ⟨_, _, rfl, ⟨rfl, rfl, hO⟩, .e2 .z, rfl⟩
 ·exact .e rfl (.e2 .z)
 clear hx
 rcases s3 with y6 | y8
 ·rintro e l H ⟨rfl, rfl, hO⟩;cbv;refine A7 hE h (c44 N aA aR) (.refl _) fun r7 h => ?_;cbv;cases h;exact hK hO (.refl _)
 rintro e l H ⟨rfl, rfl, hO⟩;cbv;cases h;exact hK hO (.refl _)
end Go.Ab
