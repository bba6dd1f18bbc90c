/- GYCo5 -/
import Derived.Test.YtildiiggamckaaaGreatDoorT37
set_option linter.all false
namespace Go.Ab
open Go.RowKit Go.Proofs Go.Proofs.Tryz G1
variable [Ar] [G1]
set_option maxRecDepth 100000
theorem c224 (N bD bE r) (h : W5 N bD bE = some r) : B4 prog 224 [vi bD, vi bE] (.sl (Ar.lst eWm r) .ro) := by
 unfold W5 at h
 refine J7 cf0 func224 call224 ntmps224 ?_;intro E H0 K hE hK hO;cbv;refine A5 hE h (fun hc h => ?_) (fun hc h => ?_)
 ·cbv;cases h;exact hK _ _ _ hO (.lit _ (B1))
 cbv;cases h;exact hK _ _ _ hO (.lit _ (C6 ((eWv (⟨Ar.mx bD (-1099511627776), Ar.mn bE 1099511627776⟩ : A2)).symm) (B1)))
theorem c225 (N aC aE r) (h : AV N aC aE = some r) : B4 prog 225 [vi aC, vi aE] (vi r) := by
 unfold AV at h
 refine J7 cf0 func225 call225 ntmps225 ?_;intro E H0 K hE hK hO;cbv;refine GK hE h fun h => ?_;cbv;refine GK hE h fun h => ?_;cbv;refine A5 hE h (fun hc h => ?_) (fun hc h => ?_)
 ·cbv;cases h;exact hK _ _ _ hO (.refl _)
 cbv;cases h;exact hK _ _ _ hO (.refl _)
theorem c185 (N aC r) (h : T4 N aC = some r) : B4 prog 185 [(Z0 aC)] (.sl (Ar.lst eWm r) .ro) := by
 unfold T4 at h
 refine J7 cf0 func185 call185 ntmps185 ?_;intro E H0 K hE hK hO;cbv;refine A5 hE h (fun hc h => ?_) (fun hc h => ?_)
 ·cbv;refine A6 hE h (c225 N (Ar.neg .i64 aC.plus) aC.times) (.refl _) fun r1 h => ?_;cbv;refine A6 hE h (c224 N (-1099511627776) r1) (.refl _) fun r2 h => ?_;cbv;cases h;exact hK _ _ _ hO (.refl _)
 cbv;refine A5 hE h (fun hc h => ?_) (fun hc h => ?_)
 ·cbv;refine A6 hE h (c225 N (Ar.neg .i64 aC.plus) (Ar.neg .i64 aC.times)) (.refl _) fun r3 h => ?_;cbv;refine A6 hE h (c224 N (Ar.neg .i64 r3) 1099511627776) (.refl _) fun r4 h => ?_;cbv;cases h;exact hK _ _ _ hO (.refl _)
 cbv;refine A5 hE h (fun hc h => ?_) (fun hc h => ?_)
 ·cbv;refine A6 hE h (c89 N ) (.refl _) fun r5 h => ?_;cbv;cases h;exact hK _ _ _ hO (.refl _)
 cbv;cases h;exact hK _ _ _ hO (.lit _ (B1))
def cf139 : Cf := ⟨[8], [(8, 13)], [], [], [], []⟩
theorem c139 (N aL aC aE r) (h : AB N aL aC aE = some r) : B4 prog 139 [vi aL, (Z0 aC), (Z0 aE)] (.tup [.sl (Ar.lst eWm r.1) .ro, vi r.2]) := by
 unfold AB at h
 refine J7 cf139 func139 call139 ntmps139 ?_;intro E H0 K hE hK hO;cbv;refine C8 hE hO fun b1 H hO => ?_;cbv;refine A7 hE hO 0 rfl rfl fun H hO => ?_;cbv;refine A5 hE h (fun hc h => ?_) (fun hc h => ?_)
 ·cbv;refine B0 hE hO 0 rfl ?_;cbv;refine A7 hE hO 0 rfl rfl fun H hO => ?_;cbv;refine B0 hE hO 0 rfl ?_;cbv;refine A6 hE h (c185 N (⟨Ar.ar .sub .i64 aC.times aE.times, Ar.ar .add .i64 (Ar.ar .sub .i64 aC.plus aE.plus) 1⟩ : C9)) (.refl _) fun r2 h => ?_;cbv;cases h;exact hK _ _ _ hO (.refl _)
 cbv;refine A5 hE h (fun hc h => ?_) (fun hc h => ?_)
 ·cbv;refine B0 hE hO 0 rfl ?_;cbv;refine A6 hE h (c185 N (⟨Ar.ar .sub .i64 aC.times aE.times, Ar.ar .sub .i64 aC.plus aE.plus⟩ : C9)) (.refl _) fun r3 h => ?_;cbv;cases h;exact hK _ _ _ hO (.refl _)
 cbv;refine B0 hE hO 0 rfl ?_;cbv;refine M1 hE (g := fun r4 => .sl (Ar.lst eWm r4) .ro) h (c185 N (⟨Ar.ar .sub .i64 aC.times aE.times, Ar.ar .sub .i64 aC.plus aE.plus⟩ : C9)) (.refl _) fun r4 h => ?_;cbv;refine B0 hE hO 0 rfl ?_;cbv;refine B0 hE hO 0 rfl ?_;cbv;refine M1 hE (g := fun r5 => .sl (Ar.lst eWm r5) .ro) h (c185 N (⟨Ar.neg .i64 (Ar.ar .sub .i64 aC.times aE.times), Ar.neg .i64 (Ar.ar .sub .i64 aC.plus aE.plus)⟩ : C9)) (.refl _) fun r5 h => ?_;cbv;refine M1 hE (g := fun r6 => .tup [.sl (Ar.lst eWm r6.1) .ro, vi r6.2]) h (c120 N r4 r5) (.refl _) fun r6 h => ?_;cbv;cases h;exact hK _ _ _ hO (.refl _)
theorem c186 (N aH aM r) (h : Z5 N aH aM = some r) : B4 prog 186 [.bool aH, .bool aM] (.bool r) := by
 unfold Z5 at h
 refine J7 cf0 func186 call186 ntmps186 ?_;intro E H0 K hE hK hO;cbv;cases h;exact hK _ _ _ hO (.refl _)
theorem c140 (N aC aE r) (h : AY N aC aE = some r) : B4 prog 140 [.sl (Ar.lst eWm aC) .ro, .sl (Ar.lst eWm aE) .ro] (.tup [.sl (Ar.lst eWm r.1) .ro, vi r.2]) := by
 unfold AY at h
 refine J7 cf0 func140 call140 ntmps140 ?_;intro E H0 K hE hK hO;cbv;refine A6 hE (g := fun r1 => .tup [.sl (Ar.lst eWm r1.1) .ro, vi r1.2]) h (fun r1 hx => c160 N aC aE (.func (.func 186) [] []) (fun y1 y2 => Z5 N y1 y2) (fun y1 y2 r hx => B4.value (F := []) (C := []) (c186 N y1 y2 r hx)) r1 hx) (.refl _) fun r1 h => ?_;cbv;cases h;exact hK _ _ _ hO (.refl _)
theorem c226 (N aF r) (h : Ca N aF = some r) : DQ prog 226 (fun yv => [yv, .eref [.sl (Ar.lst eWm aF) .ro] 0]) (List.map (fun (x : A2) => [(M5 x)]) r) Tw := by
 unfold Ca at h
 obtain ⟨⟨w0, u0⟩, h1, hr⟩ := bind_some h;clear h;have hr := N8 hr;subst hr;have h := h1;clear h1;refine K4 cf0 G8 func226 (by rfl) (by kernel_rfl) call226 ntmps226 (by rfl) (fun _ => rfl) ?_;intro yv I D hI hD hy tl F E H K hE hO hK hKD
 have hO : B2 (I (List.map (fun (x : A2) => [(M5 x)]) (w0 ++ []) ++ tl)) F [] H := by rw [List.append_nil]; exact hO
 cbv;refine D3 hE ?_;cbv;obtain ⟨w2, w3, s6, hx, h1, he⟩ := J9 h;clear h;have h := h1;clear h1
 rw [he, List.append_assoc] at hO
 clear he;refine Fx cf0 hE G8 (γ := Unit) (fun s1 g => [(0, .v (yv)), (3, .v (vi s1.1)), (6, .v (.sl (Ar.lst eWm aF) .ro)), (7, .v (vi (Ar.len aF))), (8, .v (vi s1.2))]) (fun s1 g w H1 => B2 (I (List.map (fun (x : A2) => [(M5 x)]) w ++ tl)) F [] H1) (fun x e l w H1 => e = .exit 0 ∧ l = [(0, .v (yv)), (3, .v (vi x))] ∧ B2 (I (List.map (fun (x : A2) => [(M5 x)]) w ++ tl)) F [] H1) (fun e l H1 => (e = .ret ∧ l = [] ∧ B2 D F [] H1)) (by kernel_rfl) ?_ (w' := w3 ++ []) () hx ?_ ?_ ?_ ?_
 ·rintro s1 _ w4 w5 H o hO h;clear hx
  skip
  cbv;refine A5 hE h (fun hc h => ?_) (fun hc h => ?_)
  ·cbv;refine C2 hE eWv h fun x7 h => ?_;cbv;refine A5 hE h (fun hc h => ?_) (fun hc h => ?_)
   ·cbv;obtain ⟨w8, h1, he⟩ := O7 h;clear h;have h := h1;clear h1
    rw [he, List.append_assoc] at hO
    clear he;have hO : B2 (I ([.agg [vi s1.1, vi (Ar.ar .sub .i64 x7.Low 1)]] :: (List.map (fun (x : A2) => [(M5 x)]) (w8 ++ w5) ++ tl))) F [] _ := hO;refine As hE hI hD hy hO (.refl _) (fun H hO => ?_) (fun H hO => ?_)
    ·cbv;refine EV hE (Ar.nt_eq _) ?_;cbv;obtain ⟨hw, rfl⟩ := C4 h
     rw [← hw] at hO
     exact ⟨_, (), rfl, .e rfl (.e4 .z), rfl, hO⟩
    clear h;cbv;refine EU hE (Ar.nt_eq _) ?_;cbv;exact .inr ⟨_, ⟨rfl, rfl, hO⟩, .z, rfl⟩
   cbv;obtain ⟨hw, rfl⟩ := C4 h
   rw [← hw] at hO
   exact ⟨_, (), rfl, .e rfl (.e4 .z), rfl, hO⟩
  cbv;obtain ⟨hw, rfl⟩ := C4 h
  rw [← hw] at hO
  exact .inl ⟨_, _, rfl, ⟨rfl, rfl, hO⟩, .e2 .z, rfl⟩
 ·exact .e rfl (.e4 .z)
 ·exact hO
 ·rintro e l H ⟨rfl, rfl, hO⟩;clear hx;cbv;refine A5 hE h (fun hc h => ?_) (fun hc h => ?_)
  ·cbv;obtain ⟨w9, h1, he⟩ := O7 h;clear h;have h := h1;clear h1
   rw [he, List.append_assoc] at hO
   clear he;have hO : B2 (I ([.agg [vi s6, vi 1099511627776]] :: (List.map (fun (x : A2) => [(M5 x)]) (w9 ++ []) ++ tl))) F [] _ := hO;refine As hE hI hD hy hO (.refl _) (fun H hO => ?_) (fun H hO => ?_)
   ·cbv;obtain ⟨hw, _⟩ := C4 h
    rw [← hw] at hO
    exact hK _ _ _ hO trivial
   clear h;cbv;exact hKD _ _ _ hO trivial
  cbv;obtain ⟨hw, _⟩ := C4 h
  rw [← hw] at hO
  exact hK _ _ _ hO trivial
 rintro e l H hX;obtain ⟨rfl, rfl, hO⟩ := hX;clear h;cbv;exact hKD _ _ _ hO trivial
theorem c187 (N aG r) (h : Dt N aG = some r) : Cn prog 187 [.sl (Ar.lst eWm aG) .ro] (fun v => Dg prog v (r.map fun (x : A2) => [(M5 x)])) := by
 unfold Dt at h
 refine N3 cf0 G8 func187 (by rfl) (by kernel_rfl) call187 ntmps187 (by rfl) (by rfl) ?_;intro E H0 K hE hK;have hO : B2 Eq H0 [] H0 := .start B6 rfl;cbv;exact hK _ _ _ hO (N1 call226 (c226 N aG r h))
def cf141 : Cf := ⟨[5], [], [], [], [], []⟩
theorem c141 (N aG r) (h : S7 N aG = some r) : B4 prog 141 [.sl (Ar.lst eWm aG) .ro] (.tup [.sl (Ar.lst eWm r.1) .ro, vi r.2]) := by
 unfold S7 at h
 refine J7 cf141 func141 call141 ntmps141 ?_;intro E H0 K hE hK hO;cbv;refine A6 hE h (c94 N aG) (.refl _) fun r1 h => ?_;cbv;refine A5 hE h (fun hc h => ?_) (fun hc h => ?_)
 ·cbv;cases h;exact hK _ _ _ hO (.tup (.cons (.lit _ (B1)) (.refl _)))
 cbv;refine C8 hE hO fun b2 H hO => ?_;cbv;refine P6 hE h (c187 N aG) (.refl _) fun r3 v4 hv4 h => ?_;cbv;replace hO := hO.tl0 (t := .nil) rfl;obtain ⟨o10, hx, h⟩ := bind_some h;replace hO := hO.cast (L' := [.tl .nil, .blk b2 (.cells [.sl (Ar.lst eWm ([])) .nil])]) (by first | (simp only [← B1]; done) | (simp only [← B1]; rfl));refine Au cf141 hE G8 (ι := Unit) (enc := fun (x : A2) => [(M5 x)]) (fun (s6 : (List A2)) F H => ∃ g : D4, (O6 g) ∧ B2 Eq F [.tl g, .blk b2 (.cells [.sl (Ar.lst eWm s6) g])] H) (fun (r : Unit) e F H => False) (fun i s6 y5 => [(5, .v (.ref b2 0)), (6, .v (.eref (JV y5) 0))]) (fun i s6 y5 F H => ∃ g : D4, (O6 g) ∧ B2 Eq F [.tl g, .blk b2 (.cells [.sl (Ar.lst eWm s6) g])] H) (fun _ => C5.ex fun _ => B2.stable B6 _) (fun _ _ => ⟨fun h => h.elim, fun _ _ h => h.elim⟩) (fun _ _ _ => C5.ex fun _ => B2.stable B6 _) hv4 hx (⟨.nil, trivial, hO⟩) (by decide) (fun _ => rfl) (by kernel_rfl) (by kernel_rfl) ?_ ?_ ?_ ?_
 ·rintro E i8 y5 s6 F7 H hE ⟨t9, ht9, hO⟩;clear hx h;cbv;exact ⟨(), ⟨t9, ht9, hO⟩, .e2 .z, rfl⟩
 ·rintro E i8 _ y5 s6 F7 H o hE hF h ⟨t9, ht9, hO⟩;clear hx;cbv;refine B0 hE hO 1 rfl ?_;cbv;refine W4 (f := eWm) hE P3 (by decide) hO 0 rfl ht9 (l := s6) (m := [y5]) (.refl _) (.lstc (.eq (eWv y5) (.refl _)) (.lst0)) h fun l12 t11 H hO ht11 h => ?_;cbv;refine A7 hE hO 1 rfl rfl fun H hO => ?_;cbv;cases h;exact ⟨_, rfl, ⟨t11, ht11, hO⟩⟩
 ·rintro d13 s16 H rfl hd ⟨t17, ht17, hO⟩;have hO : B2 Eq H0 [.tl t17, .blk b2 (.cells [.sl (Ar.lst eWm s16) t17]), .blk d13 DB] H := B2.dblk hd hO;clear hd;clear hx;cbv;refine B0 hE hO 1 rfl ?_;cbv;refine A6 hE h (c188 N s16) (.cons (.ro _ _) (.refl _)) fun r18 h => ?_;cbv;refine Ak hE hO 2 rfl fun H hO => ?_;cbv;cases h;exact hK _ _ _ hO (.refl _)
 rintro d r e H rfl hd hO;exact hO.elim
theorem c227 (N aH aM r) (h : Z6 N aH aM = some r) : B4 prog 227 [.bool aH, .bool aM] (.bool r) := by
 unfold Z6 at h
 refine J7 cf0 func227 call227 ntmps227 ?_;intro E H0 K hE hK hO;cbv;cases h;exact hK _ _ _ hO (.refl _)
theorem c189 (N aC aE r) (h : AZ N aC aE = some r) : B4 prog 189 [.sl (Ar.lst eWm aC) .ro, .sl (Ar.lst eWm aE) .ro] (.tup [.sl (Ar.lst eWm r.1) .ro, vi r.2]) := by
 unfold AZ at h
 refine J7 cf0 func189 call189 ntmps189 ?_;intro E H0 K hE hK hO;cbv;refine A6 hE (g := fun r1 => .tup [.sl (Ar.lst eWm r1.1) .ro, vi r1.2]) h (fun r1 hx => c160 N aC aE (.func (.func 227) [] []) (fun y1 y2 => Z6 N y1 y2) (fun y1 y2 r hx => B4.value (F := []) (C := []) (c227 N y1 y2 r hx)) r1 hx) (.refl _) fun r1 h => ?_;cbv;cases h;exact hK _ _ _ hO (.refl _)
theorem c142 (N aC aE r) (h : CG N aC aE = some r) : B4 prog 142 [.sl (Ar.lst eWm aC) .ro, .sl (Ar.lst eWm aE) .ro] (.tup [.sl (Ar.lst eWm r.1) .ro, vi r.2]) := by
 unfold CG at h
 refine J7 cf0 func142 call142 ntmps142 ?_;intro E H0 K hE hK hO;cbv;refine A6 hE h (c189 N aC aE) (.refl _) fun r1 h => ?_;cbv;refine A5 hE h (fun hc h => ?_) (fun hc h => ?_)
 ·cbv;cases h;exact hK _ _ _ hO (.tup (.cons (.lit _ (B1)) (.refl _)))
 cbv;refine A6 hE h (c189 N aE aC) (.refl _) fun r2 h => ?_;cbv;refine A5 hE h (fun hc h => ?_) (fun hc h => ?_)
 ·cbv;cases h;exact hK _ _ _ hO (.tup (.cons (.lit _ (B1)) (.refl _)))
 cbv;refine A6 hE h (c140 N r1.1 r2.1) (.refl _) fun r3 h => ?_;cbv;refine A5 hE h (fun hc h => ?_) (fun hc h => ?_)
 ·cbv;cases h;exact hK _ _ _ hO (.tup (.cons (.lit _ (B1)) (.refl _)))
 cbv;refine A6 hE h (c141 N r3.1) (.refl _) fun r4 h => ?_;cbv;cases h;exact hK _ _ _ hO (.refl _)
def cf102 : Cf := ⟨[], [(32, 9), (34, 9), (37, 9)], [(32, 11)], [0], [], []⟩
theorem c102 (N : Nat) : ∀ n aD aV aR r, Ap N n aD aV aR = some r → B4 prog 102 [(Aa aD), vi aV, vi aR] (.tup [.sl (Ar.lst eWm r.1) .ro, vi r.2]) := by
 intro n
 induction n with
 | zero => intro aD aV aR r h; cases h
 | succ n ih =>
 intro aD aV aR r h
 unfold Ap at h
 refine J7 cf102 func102 call102 ntmps102 ?_;intro E H0 K hE hK hO;cbv;obtain ⟨s1, hx, h⟩ := bind_some h;refine J6 cf102 hE G8 (fun e l H1 => match (generalizing := false) s1 with | .inl y => e = .normal ∧ l = [(1, .v (vi aV)), (2, .v (vi aR)), (3, .v (.eref (BD aD) 0))] ∧ B2 Eq H0 [] H1 | .inr y => e = .ret ∧ l = [(6, .v (.sl (Ar.lst eWm y.1) .ro)), (7, .v (vi y.2))] ∧ B2 Eq H0 [] H1) (by kernel_rfl) ?_ ?_
 ·clear h;have h := hx;clear hx;cbv;refine A5 hE h (fun hc h => ?_) (fun hc h => ?_)
  ·cbv;refine A5 hE h (fun hc h => ?_) (fun hc h => ?_)
   ·cbv;cases h;exact ⟨_, ⟨rfl, rfl, hO⟩, .v (.lit _ (B1)) (.e rfl .z), rfl⟩
   cbv;refine A5 hE h (fun hc h => ?_) (fun hc h => ?_)
   ·cbv;refine A6 hE h (c89 N ) (.refl _) fun r2 h => ?_;cbv;cases h;exact ⟨_, ⟨rfl, rfl, hO⟩, .e2 .z, rfl⟩
   cbv;cases h;exact ⟨_, ⟨rfl, rfl, hO⟩, .v (.lit _ (B1)) (.e rfl .z), rfl⟩
  cbv;obtain ⟨s3, hx, h⟩ := bind_some h;refine J6 cf102 hE G8 (fun e l H1 => e = .normal ∧ l = [(1, .v (vi aV)), (2, .v (vi aR)), (3, .v (.eref (BD aD) 0)), (18, .v (vi aD.Op)), (32, .v (.bool s3))] ∧ B2 Eq H0 [] H1) (by kernel_rfl) ?_ ?_
  ·clear h;have h := hx;clear hx;cbv;refine A5 hE h (fun hc h => ?_) (fun hc h => ?_)
   ·cbv;cases h;exact ⟨_, ⟨rfl, rfl, hO⟩, .e rfl (.e4 .z), rfl⟩
   cbv;refine A5 hE h (fun hc h => ?_) (fun hc h => ?_)
   ·cbv;cases h;exact ⟨_, ⟨rfl, rfl, hO⟩, .e rfl (.e4 .z), rfl⟩
   cbv;cases h;exact ⟨_, ⟨rfl, rfl, hO⟩, .e rfl (.e4 .z), rfl⟩
  clear hx;rintro e l H ⟨rfl, rfl, hO⟩;cbv;refine A5 hE h (fun hc h => ?_) (fun hc h => ?_)
  ·cbv;refine C2 hE eWz h fun x4 h => ?_;cbv;refine A6 hE h (c138 N N x4 aV aR) (.refl _) fun r5 h => ?_;cbv;refine C2 hE eWz h fun x6 h => ?_;cbv;refine A6 hE h (c138 N N x6 aV aR) (.refl _) fun r7 h => ?_;cbv;refine A5 hE h (fun hc h => ?_) (fun hc h => ?_)
   ·cbv;refine A6 hE h (c139 N aD.Op r5.1 r7.1) (.refl _) fun r8 h => ?_;cbv;cases h;exact ⟨_, ⟨rfl, rfl, hO⟩, .e2 .z, rfl⟩
   cbv;refine A5 hE h (fun hc h => ?_) (fun hc h => ?_)
   ·cbv;cases h;exact ⟨_, ⟨rfl, rfl, hO⟩, .v (.lit _ (B1)) (.e rfl .z), rfl⟩
   cbv;cases h;exact ⟨_, ⟨rfl, rfl, hO⟩, .e rfl (.e2 .z), rfl⟩
  cbv;refine A5 hE h (fun hc h => ?_) (fun hc h => ?_)
  ·cbv;cases h;exact ⟨_, ⟨rfl, rfl, hO⟩, .e rfl (.e2 .z), rfl⟩
  cbv;refine A5 hE h (fun hc h => ?_) (fun hc h => ?_)
  ·cbv;cases h;exact ⟨_, ⟨rfl, rfl, hO⟩, .e rfl (.e2 .z), rfl⟩
  cbv;refine A5 hE h (fun hc h => ?_) (fun hc h => ?_)
  ·cbv;cases h;exact ⟨_, ⟨rfl, rfl, hO⟩, .e rfl (.e2 .z), rfl⟩
  cbv;cases h;exact ⟨_, ⟨rfl, rfl, hO⟩, .v (.lit _ (B1)) (.e rfl .z), rfl⟩
 clear hx
 rcases s1 with y9 | y32
 ·rintro e l H ⟨rfl, rfl, hO⟩;cbv;refine D3 hE ?_;cbv;replace hO := hO.tl0 (t := .nil) rfl;obtain ⟨s12, hx, h⟩ := bind_some h;refine K3 cf102 hE G8 (γ := D4) (fun s10 g => [(1, .v (vi aV)), (2, .v (vi aR)), (3, .v (.eref (BD aD) 0)), (12, .v (.sl (Ar.lst eWr s10.1) g)), (75, .v (.sl (Ar.lst eWp aD.Args) .ro)), (76, .v (vi (Ar.len aD.Args))), (77, .v (vi s10.2))]) (fun s10 g H1 => O6 g ∧ B2 Eq H0 [.tl g] H1) (fun x e l H1 => match (generalizing := false) x with | .inl y => ∃ u1 : D4, O6 u1 ∧ e = .exit 2 ∧ l = [(3, .v (.eref (BD aD) 0)), (12, .v (.sl (Ar.lst eWr y) u1))] ∧ B2 Eq H0 [.tl u1] H1 | .inr y => ∃ u1 : D4, O6 u1 ∧ e = .ret ∧ l = [(6, .v (.sl [] .nil)), (7, .v (vi y))] ∧ B2 Eq H0 [.tl u1] H1) (by kernel_rfl) ?_ .nil hx ?_ ?_ ?_
  ·rintro s10 t11 H o ⟨ht11, hO⟩ h;clear hx;cbv;refine A5 hE h (fun hc h => ?_) (fun hc h => ?_)
   ·cbv;refine C2 hE eWz h fun x13 h => ?_;cbv;refine A6 hE h (ih x13 aV aR) (.refl _) fun r14 h => ?_;cbv;refine A5 hE h (fun hc h => ?_) (fun hc h => ?_)
    ·cbv;cases h;exact ⟨_, _, rfl, ⟨t11, ht11, rfl, rfl, hO⟩, .e2 .z, rfl⟩
    cbv;refine W4 (f := eWr) hE Di (by decide) hO 0 rfl ht11 (l := s10.1) (m := [r14.1]) (.refl _) (.lstc (.eq (eWt r14.1) (.refl _)) (.lst0)) h fun l16 t15 H hO ht15 h => ?_;cbv;cases h;exact ⟨_, t15, rfl, .e rfl (.e2 (.e4 .z)), rfl, ht15, hO⟩
   cbv;cases h;exact ⟨_, _, rfl, ⟨t11, ht11, rfl, rfl, hO⟩, .e2 .z, rfl⟩
  ·exact .e rfl (.e2 (.v (.slt _ (.lst0)) (.e rfl (.e rfl (.e rfl (.z))))))
  ·exact ⟨trivial, hO⟩
  clear hx
  rcases s12 with y17 | y30
  ·rintro e l H ⟨t18, ht18, rfl, rfl, hO⟩;cbv;refine A5 hE h (fun hc h => ?_) (fun hc h => ?_)
   ·cbv;refine C2 hE eWt h fun x19 h => ?_;cbv;refine C2 hE eWt h fun x20 h => ?_;cbv;refine M1 hE (g := fun r21 => .tup [.sl (Ar.lst eWm r21.1) .ro, vi r21.2]) h (c120 N x19 x20) (.refl _) fun r21 h => ?_;cbv;cases h;exact hK _ _ _ hO (.refl _)
   cbv;refine A5 hE h (fun hc h => ?_) (fun hc h => ?_)
   ·cbv;refine C2 hE eWt h fun x22 h => ?_;cbv;refine C2 hE eWt h fun x23 h => ?_;cbv;refine M1 hE (g := fun r24 => .tup [.sl (Ar.lst eWm r24.1) .ro, vi r24.2]) h (c140 N x22 x23) (.refl _) fun r24 h => ?_;cbv;cases h;exact hK _ _ _ hO (.refl _)
   cbv;refine A5 hE h (fun hc h => ?_) (fun hc h => ?_)
   ·cbv;refine C2 hE eWt h fun x25 h => ?_;cbv;refine A6 hE h (c141 N x25) (.refl _) fun r26 h => ?_;cbv;cases h;exact hK _ _ _ hO (.refl _)
   cbv;refine C2 hE eWt h fun x27 h => ?_;cbv;refine C2 hE eWt h fun x28 h => ?_;cbv;refine M1 hE (g := fun r29 => .tup [.sl (Ar.lst eWm r29.1) .ro, vi r29.2]) h (c142 N x27 x28) (.refl _) fun r29 h => ?_;cbv;cases h;exact hK _ _ _ hO (.refl _)
  rintro e l H ⟨t31, ht31, rfl, rfl, hO⟩;cbv;cases h;exact hK _ _ _ hO (.tup (.cons (.lit _ (B1)) (.refl _)))
 rintro e l H ⟨rfl, rfl, hO⟩;cbv;cases h;exact hK _ _ _ hO (.refl _)
theorem c143 (N : Nat) (aB : List DC) (aW : V) (aO : DC → Option Bool) (bC : ∀ y1 q, aO y1 = some q → Q6 prog aW [(Pr y1)] (.bool q)) (r : Int) (h : N7 N aB aO = some r) : B4 prog 143 [.sl (Ar.lst eWG aB) .ro, aW] (vi r) := by
 unfold N7 at h
 refine J7 cf0 func143 call143 ntmps143 ?_;intro E H0 K hE hK hO;cbv;refine D3 hE ?_;cbv;obtain ⟨s2, hx, h⟩ := bind_some h;refine F2 cf0 hE G8 (fun s1 => [(0, .v (.sl (Ar.lst eWG aB) .ro)), (1, .v (aW)), (7, .v (vi (Ar.len aB))), (8, .v (vi s1))]) (fun s1 H1 => B2 Eq H0 [] H1) (fun x e l H1 => match (generalizing := false) x with | .inl y => e = .exit 0 ∧ l = [] ∧ B2 Eq H0 [] H1 | .inr y => e = .ret ∧ l = [(4, .v (vi y))] ∧ B2 Eq H0 [] H1) (by kernel_rfl) ?_ hx ?_ hO ?_
 ·intro s1 H o hO h;clear hx;cbv;refine A5 hE h (fun hc h => ?_) (fun hc h => ?_)
  ·cbv;refine C2 hE eWU h fun x3 h => ?_;cbv;refine Av hE (g := fun r4 => .bool r4) h (fun r4 hx => bC x3 r4 hx) (.refl _) fun r4 h => ?_;cbv;refine A5 hE h (fun hc h => ?_) (fun hc h => ?_)
   ·cbv;cases h;exact ⟨_, _, rfl, ⟨rfl, rfl, hO⟩, .e rfl .z, rfl⟩
   cbv;cases h;exact ⟨_, rfl, .e4 .z, rfl, hO⟩
  cbv;cases h;exact ⟨_, _, rfl, ⟨rfl, rfl, hO⟩, .z, rfl⟩
 ·exact .e4 .z
 clear hx
 rcases s2 with y5 | y6
 ·rintro e l H ⟨rfl, rfl, hO⟩;cbv;cases h;exact hK _ _ _ hO (.refl _)
 rintro e l H ⟨rfl, rfl, hO⟩;cbv;cases h;exact hK _ _ _ hO (.refl _)
theorem c144 (N aO r) (h : S6 N aO = some r) : B4 prog 144 [(Pr aO)] (.bool r) := by
 unfold S6 at h
 refine J7 cf0 func144 call144 ntmps144 ?_;intro E H0 K hE hK hO;cbv;cases h;exact hK _ _ _ hO (.refl _)
theorem c103 (N aB r) (h : AU N aB = some r) : B4 prog 103 [(Ms aB)] (vi r) := by
 unfold AU at h
 refine J7 cf0 func103 call103 ntmps103 ?_;intro E H0 K hE hK hO;cbv;refine A6 hE (g := fun r1 => vi r1) h (fun r1 hx => c143 N aB.Fields (.func (.func 144) [] []) (fun y1 => S6 N y1) (fun y1 r hx => B4.value (F := []) (C := []) (c144 N y1 r hx)) r1 hx) (.refl _) fun r1 h => ?_;cbv;cases h;exact hK _ _ _ hO (.refl _)
def cf54 : Cf := ⟨[8], [(8, 13), (13, 12)], [], [], [], []⟩
theorem c54 (N aJ aZ bU aR r) (h : DY N aJ aZ bU aR = some r) : B4 prog 54 [.sl (Ar.lst eWA aJ) .ro, vi aZ, (Aa bU), vi aR] (.tup [(E2 r.1), vi r.2]) := by
 unfold DY at h
 refine JQ cf54 G8 func54 (by rfl) (by kernel_rfl) call54 ntmps54 (by rfl) (by rfl) ?_;intro E H0 K hE hK hG;have hO : B2 Eq H0 [] H0 := .start B6 rfl;cbv;refine C8 hE hO fun b1 H hO => ?_;cbv;refine A6 hE h (c51 N aJ) (.refl _) fun r2 h => ?_;cbv;refine A5 hE h (fun hc h => ?_) (fun hc h => ?_)
 ·cbv;refine A7 hE hO 0 rfl rfl fun H hO => ?_;cbv;refine B0 hE hO 0 rfl ?_;cbv;cases h;exact hK _ _ _ hO (.tup (.cons (.agg (.cons (.lit _ (B1)) (.refl _))) (.refl _)))
 cbv;refine D3 hE ?_;cbv;refine A5 hE h (fun hc h => ?_) (fun hc h => ?_)
 ·cbv;refine A7 hE hO 0 rfl rfl fun H hO => ?_;cbv;refine B0 hE hO 0 rfl ?_;cbv;cases h;exact hK _ _ _ hO (.tup (.cons (.agg (.cons (.lit _ (B1)) (.refl _))) (.refl _)))
 cbv;refine A5 hE h (fun hc h => ?_) (fun hc h => ?_)
 ·cbv;refine A7 hE hO 0 rfl rfl fun H hO => ?_;cbv;refine B0 hE hO 0 rfl ?_;cbv;cases h;exact hK _ _ _ hO (.tup (.cons (.agg (.cons (.lit _ (B1)) (.refl _))) (.refl _)))
 cbv;refine M1 hE (g := fun r3 => .sl (Ar.lst eWy r3) .ro) h (c101 N ([(⟨⟨#[]⟩, aZ⟩ : K2)]) (Ar.ar .add .i64 aR 1)) (.cons (.lit _ (C6 ((eWM (⟨⟨#[]⟩, aZ⟩ : K2)).symm) (B1))) (.refl _)) fun r3 h => ?_;cbv;refine M1 hE (g := fun r4 => .tup [vi r4.1, vi r4.2]) h (c100 N aJ r3 bU) (.refl _) fun r4 h => ?_;cbv;refine A5 hE h (fun hc h => ?_) (fun hc h => ?_)
 ·cbv;refine A7 hE hO 0 rfl rfl fun H hO => ?_;cbv;refine B0 hE hO 0 rfl ?_;cbv;cases h;exact hK _ _ _ hO (.tup (.cons (.agg (.cons (.lit _ (B1)) (.refl _))) (.refl _)))
 cbv;refine A5 hE h (fun hc h => ?_) (fun hc h => ?_)
 ·cbv;refine A7 hE hO 0 rfl rfl fun H hO => ?_;cbv;refine B0 hE hO 0 rfl ?_;cbv;cases h;exact hK _ _ _ hO (.tup (.cons (.agg (.cons (.lit _ (B1)) (.refl _))) (.refl _)))
 cbv;refine C2 hE eWO h fun x5 h => ?_;cbv;refine M1 hE (g := fun r6 => vi r6) h (c103 N x5) (.refl _) fun r6 h => ?_;cbv;refine M1 hE (g := fun r7 => .tup [.sl (Ar.lst eWm r7.1) .ro, vi r7.2]) h (c102 N N bU r6 aR) (.refl _) fun r7 h => ?_;cbv;refine A5 hE h (fun hc h => ?_) (fun hc h => ?_)
 ·cbv;refine A7 hE hO 0 rfl rfl fun H hO => ?_;cbv;refine B0 hE hO 0 rfl ?_;cbv;cases h;exact hK _ _ _ hO (.tup (.cons (.agg (.cons (.lit _ (B1)) (.refl _))) (.refl _)))
 cbv;refine D3 hE ?_;cbv;obtain ⟨l8, hmk, h⟩ := bind_some h;obtain ⟨_, hin, h⟩ := bind_some h;obtain ⟨l9, hup, h⟩ := bind_some h;refine Jo hE (f := eWr) (z0 := ([] : List A2)) (by decide) (.eq (eWt []) (.lit _ (B1))) hO (F := fun l => some l) (r := l8) (show (Rg (Ar.len aJ) (Ar.len aJ) ([] : List A2)).bind (fun l => some l) = some l8 by rw [hmk]; rfl) fun l8' q8 H hq8 e8 hO => ?_;cases e8;cbv
 have hb : 0 ≤ aZ ∧ aZ < (l8.length : Nat) := by
  unfold FF Hz at hin
  split at hin
  ·rename_i hd; exact of_decide_eq_true hd
  cases hin
 have e9 : l9 = l8.set aZ.toNat r7.1 := by
  unfold DF at hup
  cases hx : D0 l8 aZ with
  | none => rw [hx] at hup; cases hup
  | some y => rw [hx] at hup; cases hup; rfl
 refine Vp hE (f := eWr) hO hq8 0 rfl hb ?_;cbv;refine SF hE (f := eWr) (tz := 1) (x' := r7.1) (fun x => ⟨.sl (Ar.lst eWm r7.1) .ro, .refl _, rfl, rfl, by rw [eWt, eWt]; rfl⟩) (by decide) hO hq8 0 rfl hb fun H hO => ?_
 rw [← e9] at hO
 have hq9 : V3 q8 (Ar.len l9) := by rw [e9, Ar.len_eq, List.length_set, ← Ar.len_eq]; exact hq8
 cbv;refine A7 hE hO 1 rfl rfl fun H hO => ?_;cbv;refine B0 hE hO 1 rfl ?_;cbv;cases h;obtain ⟨H2, g1, g2⟩ := hO.frzG (f := eWr) 0 rfl hq9;exact hG _ _ _ _ g1.agg1.tup2 g2 (.refl _)
def cf16 : Cf := ⟨[4, 10], [], [(77, 23)], [], [(90, 2000010)], []⟩
theorem c16 (N aJ aA r) (h : X4 N aJ aA = some r) : B4 prog 16 [.sl (Ar.lst eWA aJ) .ro, (B9 aA)] (.tup [(H6 r.1), vi r.2]) := by
 unfold X4 at h
 refine J7 cf16 func16 call16 ntmps16 ?_;intro E H0 K hE hK hO;cbv;refine C8 hE hO fun b1 H hO => ?_;cbv;refine A6 hE h (c51 N aJ) (.refl _) fun r2 h => ?_;cbv;refine A5 hE h (fun hc h => ?_) (fun hc h => ?_)
 ·cbv;refine A7 hE hO 0 rfl rfl fun H hO => ?_;cbv;refine B0 hE hO 0 rfl ?_;cbv;cases h;exact hK _ _ _ hO (.tup (.cons (.agg (.cons (.refl _) (.cons (.lit _ (B1)) (.cons (.lit _ (B1)) (.refl _))))) (.refl _)))
 cbv;refine A6 hE h (c52 N aA) (.refl _) fun r3 h => ?_;cbv;refine A5 hE h (fun hc h => ?_) (fun hc h => ?_)
 ·cbv;refine A7 hE hO 0 rfl rfl fun H hO => ?_;cbv;refine B0 hE hO 0 rfl ?_;cbv;cases h;exact hK _ _ _ hO (.tup (.cons (.agg (.cons (.refl _) (.cons (.lit _ (B1)) (.cons (.lit _ (B1)) (.refl _))))) (.refl _)))
 cbv;refine A6 hE h (c53 N N aA) (.refl _) fun r4 h => ?_;cbv;refine A5 hE h (fun hc h => ?_) (fun hc h => ?_)
 ·cbv;refine A7 hE hO 0 rfl rfl fun H hO => ?_;cbv;refine B0 hE hO 0 rfl ?_;cbv;cases h;exact hK _ _ _ hO (.tup (.cons (.agg (.cons (.refl _) (.cons (.lit _ (B1)) (.cons (.lit _ (B1)) (.refl _))))) (.refl _)))
 cbv;refine D3 hE ?_;cbv;refine A5 hE h (fun hc h => ?_) (fun hc h => ?_)
 ·cbv;refine A7 hE hO 0 rfl rfl fun H hO => ?_;cbv;refine B0 hE hO 0 rfl ?_;cbv;cases h;exact hK _ _ _ hO (.tup (.cons (.agg (.cons (.refl _) (.cons (.lit _ (B1)) (.cons (.lit _ (B1)) (.refl _))))) (.refl _)))
 cbv;refine D3 hE ?_;cbv;refine Jo hE (f := V.bool) (by decide) (z0 := (false : Bool)) ((.refl _)) hO h fun l6 q5 H hq5 h hO => ?_;cbv;refine C8 hE hO fun b7 H hO => ?_;cbv;refine A7 hE hO 0 rfl rfl fun H hO => ?_;cbv;refine B0 hE hO 0 rfl ?_;cbv;refine Y0 hE hO hq5 1 rfl h fun h => ?_;cbv;refine X9 hE (f := V.bool) (esz := 1) (tz := 1) (off := 0) (u := (fun x8 : Bool => true)) (fun _ => ⟨.bool true, .refl _, rfl, rfl, rfl⟩) (by decide) hO hq5 1 rfl h fun l9 H hq5 h hO => ?_;cbv;refine D3 hE ?_;cbv;replace hO := hO.cast (L' := [.blk b7 (.cells [vi (Ar.len aJ), .own q5.id q5.lo q5.n, .sl (Ar.lst eWw ([])) .nil]), .blk q5.id (.arr 1 (q5.pre ++ Ar.lst V.bool l9 ++ q5.rest)), .blk b1 (.cells [vi 0, .sl [] .nil, .sl [] .nil])]) (by first | (simp only [← B1]; done) | (simp only [← B1]; rfl));replace hO := hO.tl0 (t := .nil) rfl;obtain ⟨s12, hx, h⟩ := bind_some h;refine K3 cf16 hE G8 (γ := D4) (fun s10 g => [(0, .v (.sl (Ar.lst eWA aJ) .ro)), (4, .v (.ref b1 0)), (9, .v (vi (Ar.len r3.1.States))), (10, .v (.ref b7 0)), (53, .v (.sl (Ar.lst eWo r3.1.Edges) .ro)), (54, .v (vi (Ar.len r3.1.Edges))), (55, .v (vi s10.1))]) (fun s10 g H1 => O6 g ∧ B2 Eq H0 [.tl g, .blk b7 (.cells [vi s10.2.Types, .own q5.id q5.lo q5.n, .sl (Ar.lst eWw s10.2.Moves) g]), .blk q5.id (.arr 1 (q5.pre ++ Ar.lst V.bool l9 ++ q5.rest)), .blk b1 (.cells [vi 0, .sl [] .nil, .sl [] .nil])] H1) (fun x e l H1 => match (generalizing := false) x with | .inl y => ∃ u1 : D4, O6 u1 ∧ e = .exit 0 ∧ l = [(4, .v (.ref b1 0)), (10, .v (.ref b7 0))] ∧ B2 Eq H0 [.tl u1, .blk b7 (.cells [vi y.Types, .own q5.id q5.lo q5.n, .sl (Ar.lst eWw y.Moves) u1]), .blk q5.id (.arr 1 (q5.pre ++ Ar.lst V.bool l9 ++ q5.rest)), .blk b1 (.cells [vi 0, .sl [] .nil, .sl [] .nil])] H1 | .inr y => ∃ u1 : D4, O6 u1 ∧ e = .ret ∧ l = [(4, .v (.ref b1 0)), (5, .v (vi y.1))] ∧ B2 Eq H0 [.tl u1, .blk b7 (.cells [vi y.2.Types, .own q5.id q5.lo q5.n, .sl (Ar.lst eWw y.2.Moves) u1]), .blk q5.id (.arr 1 (q5.pre ++ Ar.lst V.bool l9 ++ q5.rest)), .blk b1 (.cells [vi 0, .sl [] .nil, .sl [] .nil])] H1) (by kernel_rfl) ?_ .nil hx ?_ ?_ ?_
 ·rintro s10 t11 H o ⟨ht11, hO⟩ h;clear hx;cbv;refine A5 hE h (fun hc h => ?_) (fun hc h => ?_)
  ·cbv;refine C2 hE eWC h fun x13 h => ?_;cbv;refine A6 hE h (c54 N aJ x13.Typ x13.Cond x13.Var) (.refl _) fun r14 h => ?_;cbv;refine A5 hE h (fun hc h => ?_) (fun hc h => ?_)
   ·cbv;refine A7 hE hO 3 rfl rfl fun H hO => ?_;cbv;cases h;exact ⟨_, _, rfl, ⟨t11, ht11, rfl, rfl, hO⟩, .e2 .z, rfl⟩
   cbv;obtain ⟨s15, hx, h⟩ := bind_some h;refine J6 cf16 hE G8 (fun e l H1 => e = .normal ∧ l = [(0, .v (.sl (Ar.lst eWA aJ) .ro)), (4, .v (.ref b1 0)), (9, .v (vi (Ar.len r3.1.States))), (10, .v (.ref b7 0)), (12, .v (.eref (Q4 x13) 0)), (13, .v (.eref (R7 r14.1) 0)), (15, .v (vi s15)), (53, .v (.sl (Ar.lst eWo r3.1.Edges) .ro)), (54, .v (vi (Ar.len r3.1.Edges))), (55, .v (vi s10.1))] ∧ B2 Eq H0 [.tl t11, .blk b7 (.cells [vi s10.2.Types, .own q5.id q5.lo q5.n, .sl (Ar.lst eWw s10.2.Moves) t11]), .blk q5.id (.arr 1 (q5.pre ++ Ar.lst V.bool l9 ++ q5.rest)), .blk b1 (.cells [vi 0, .sl [] .nil, .sl [] .nil])] H1) (by kernel_rfl) ?_ ?_
   ·clear h;have h := hx;clear hx;cbv;refine A5 hE h (fun hc h => ?_) (fun hc h => ?_)
    ·cbv;cases h;exact ⟨_, ⟨rfl, rfl, hO⟩, .e2 (.e4 (.e4 .z)), rfl⟩
    cbv;cases h;exact ⟨_, ⟨rfl, rfl, hO⟩, .e2 (.e4 (.e4 .z)), rfl⟩
   clear hx;rintro e l H ⟨rfl, rfl, hO⟩;cbv;refine B0 hE hO 1 rfl ?_;cbv;refine W4 (f := eWw) hE IL (by decide) hO 0 rfl ht11 (l := s10.2.Moves) (m := [(⟨x13.From, s15, r14.1⟩ : D5)]) (.refl _) (.lstc (.eq (eWu (⟨x13.From, s15, r14.1⟩ : D5)) (.refl _)) (.lst0)) h fun l17 t16 H hO ht16 h => ?_;cbv;refine A7 hE hO 1 rfl rfl fun H hO => ?_;cbv;cases h;exact ⟨_, t16, rfl, .e rfl (.e2 (.e4 .z)), rfl, ht16, hO⟩
  cbv;cases h;exact ⟨_, _, rfl, ⟨t11, ht11, rfl, rfl, hO⟩, .e2 .z, rfl⟩
 ·exact .e rfl (.e2 (.e4 .z))
 ·exact ⟨trivial, hO⟩
 clear hx
 rcases s12 with y18 | y20
 ·rintro e l H ⟨t19, ht19, rfl, rfl, hO⟩;cbv;refine PF hE hO hq5 1 2 rfl rfl rfl (by decide) fun H hO => ?_;cbv;refine B0 hE hO 1 rfl ?_;cbv;refine A7 hE hO 2 rfl rfl fun H hO => ?_;cbv;refine B0 hE hO 2 rfl ?_;cbv;cases h;exact hK _ _ _ hO (.tup (.cons (.agg (.cons (.refl _) (.cons (.refl _) (.cons (.ro _ _) (.refl _))))) (.refl _)))
 rintro e l H ⟨t21, ht21, rfl, rfl, hO⟩;cbv;refine B0 hE hO 3 rfl ?_;cbv;cases h;exact hK _ _ _ hO (.tup (.cons (.agg (.cons (.refl _) (.cons (.lit _ (B1)) (.cons (.lit _ (B1)) (.refl _))))) (.refl _)))
def cf112 : Cf := ⟨[], [(6, 8)], [], [], [], []⟩
theorem c112 (N aC aE r) (h : Gb N aC aE = some r) : B4 prog 112 [.sl (Ar.lst eWm aC) .ro, .sl (Ar.lst eWm aE) .ro] (.bool r) := by
 unfold Gb at h
 refine J7 cf112 func112 call112 ntmps112 ?_;intro E H0 K hE hK hO;cbv;refine D3 hE ?_;cbv;refine D3 hE ?_;cbv;refine A5 hE h (fun hc h => ?_) (fun hc h => ?_)
 ·cbv;cases h;exact hK _ _ _ hO (.refl _)
 cbv;obtain ⟨s2, hx, h⟩ := bind_some h;refine F2 cf112 hE G8 (fun s1 => [(0, .v (.sl (Ar.lst eWm aC) .ro)), (1, .v (.sl (Ar.lst eWm aE) .ro)), (5, .v (vi s1))]) (fun s1 H1 => B2 Eq H0 [] H1) (fun x e l H1 => match (generalizing := false) x with | .inl y => e = .exit 0 ∧ l = [] ∧ B2 Eq H0 [] H1 | .inr y => e = .ret ∧ l = [(4, .b false)] ∧ B2 Eq H0 [] H1) (by kernel_rfl) ?_ hx ?_ hO ?_
 ·intro s1 H o hO h;clear hx;cbv;refine D3 hE ?_;cbv;refine A5 hE h (fun hc h => ?_) (fun hc h => ?_)
  ·cbv;refine C2 hE eWv h fun x3 h => ?_;cbv;refine C2 hE eWv h fun x4 h => ?_;cbv;refine A5 hE h (fun hc h => ?_) (fun hc h => ?_)
   ·cbv;cases h;exact ⟨_, _, rfl, ⟨rfl, rfl, hO⟩, .b rfl (.z), rfl⟩
   cbv;cases h;exact ⟨_, rfl, .e rfl (.e2 .z), rfl, hO⟩
  cbv;cases h;exact ⟨_, _, rfl, ⟨rfl, rfl, hO⟩, .z, rfl⟩
 ·exact .e rfl (.e2 .z)
 clear hx
 rcases s2 with y5 | y6
 ·rintro e l H ⟨rfl, rfl, hO⟩;cbv;cases h;exact hK _ _ _ hO (.refl _)
 rintro e l H ⟨rfl, rfl, hO⟩;cbv;cases h;exact hK _ _ _ hO (.refl _)
def cf59 : Cf := ⟨[], [(6, 10)], [], [], [], []⟩
theorem c59 (N aA bG r) (h : FZ N aA bG = some r) : B4 prog 59 [(E2 aA), (E2 bG)] (.bool r) := by
 unfold FZ at h
 refine J7 cf59 func59 call59 ntmps59 ?_;intro E H0 K hE hK hO;cbv;refine D3 hE ?_;cbv;refine D3 hE ?_;cbv;refine A5 hE h (fun hc h => ?_) (fun hc h => ?_)
 ·cbv;cases h;exact hK _ _ _ hO (.refl _)
 cbv;obtain ⟨s2, hx, h⟩ := bind_some h;refine F2 cf59 hE G8 (fun s1 => [(2, .v (.eref (R7 aA) 0)), (3, .v (.eref (R7 bG) 0)), (5, .v (vi s1))]) (fun s1 H1 => B2 Eq H0 [] H1) (fun x e l H1 => match (generalizing := false) x with | .inl y => e = .exit 0 ∧ l = [] ∧ B2 Eq H0 [] H1 | .inr y => e = .ret ∧ l = [(4, .b false)] ∧ B2 Eq H0 [] H1) (by kernel_rfl) ?_ hx ?_ hO ?_
 ·intro s1 H o hO h;clear hx;cbv;refine D3 hE ?_;cbv;refine A5 hE h (fun hc h => ?_) (fun hc h => ?_)
  ·cbv;refine C2 hE eWt h fun x3 h => ?_;cbv;refine C2 hE eWt h fun x4 h => ?_;cbv;refine A6 hE h (c112 N x3 x4) (.refl _) fun r5 h => ?_;cbv;refine A5 hE h (fun hc h => ?_) (fun hc h => ?_)
   ·cbv;cases h;exact ⟨_, _, rfl, ⟨rfl, rfl, hO⟩, .b rfl (.z), rfl⟩
   cbv;cases h;exact ⟨_, rfl, .e rfl (.e2 .z), rfl, hO⟩
  cbv;cases h;exact ⟨_, _, rfl, ⟨rfl, rfl, hO⟩, .z, rfl⟩
 ·exact .e rfl (.e2 .z)
 clear hx
 rcases s2 with y6 | y7
 ·rintro e l H ⟨rfl, rfl, hO⟩;cbv;cases h;exact hK _ _ _ hO (.refl _)
 rintro e l H ⟨rfl, rfl, hO⟩;cbv;cases h;exact hK _ _ _ hO (.refl _)
def cf18 : Cf := ⟨[], [(6, 10), (11, 14)], [], [], [], []⟩
theorem c18 (N aC aE r) (h : DX N aC aE = some r) : B4 prog 18 [(H6 aC), (H6 aE)] (.bool r) := by
 unfold DX at h
 refine J7 cf18 func18 call18 ntmps18 ?_;intro E H0 K hE hK hO;cbv;refine D3 hE ?_;cbv;refine D3 hE ?_;cbv;refine D3 hE ?_;cbv;refine D3 hE ?_;cbv;refine A5 hE h (fun hc h => ?_) (fun hc h => ?_)
 ·cbv;cases h;exact hK _ _ _ hO (.refl _)
 cbv;obtain ⟨s2, hx, h⟩ := bind_some h;refine F2 cf18 hE G8 (fun s1 => [(2, .v (.eref (C1 aC) 0)), (3, .v (.eref (C1 aE) 0)), (5, .v (vi s1))]) (fun s1 H1 => B2 Eq H0 [] H1) (fun x e l H1 => match (generalizing := false) x with | .inl y => e = .exit 0 ∧ l = [(2, .v (.eref (C1 aC) 0)), (3, .v (.eref (C1 aE) 0))] ∧ B2 Eq H0 [] H1 | .inr y => e = .ret ∧ l = [(4, .b false)] ∧ B2 Eq H0 [] H1) (by kernel_rfl) ?_ hx ?_ hO ?_
 ·intro s1 H o hO h;clear hx;cbv;refine D3 hE ?_;cbv;refine A5 hE h (fun hc h => ?_) (fun hc h => ?_)
  ·cbv;refine C2 hE (fun _ => rfl) h fun x3 h => ?_;cbv;refine C2 hE (fun _ => rfl) h fun x4 h => ?_;cbv;refine A5 hE h (fun hc h => ?_) (fun hc h => ?_)
   ·cbv;cases h;exact ⟨_, _, rfl, ⟨rfl, rfl, hO⟩, .b rfl (.z), rfl⟩
   cbv;cases h;exact ⟨_, rfl, .e rfl (.e2 .z), rfl, hO⟩
  cbv;cases h;exact ⟨_, _, rfl, ⟨rfl, rfl, hO⟩, .e2 .z, rfl⟩
 ·exact .e rfl (.e2 .z)
 clear hx
 rcases s2 with y5 | y13
 ·rintro e l H ⟨rfl, rfl, hO⟩;cbv;obtain ⟨s7, hx, h⟩ := bind_some h;refine F2 cf18 hE G8 (fun s6 => [(2, .v (.eref (C1 aC) 0)), (3, .v (.eref (C1 aE) 0)), (6, .v (vi s6))]) (fun s6 H1 => B2 Eq H0 [] H1) (fun x e l H1 => match (generalizing := false) x with | .inl y => e = .exit 2 ∧ l = [] ∧ B2 Eq H0 [] H1 | .inr y => e = .ret ∧ l = [(4, .b false)] ∧ B2 Eq H0 [] H1) (by kernel_rfl) ?_ hx ?_ hO ?_
  ·intro s6 H o hO h;clear hx;cbv;refine D3 hE ?_;cbv;refine A5 hE h (fun hc h => ?_) (fun hc h => ?_)
   ·cbv;refine C2 hE eWu h fun x8 h => ?_;cbv;refine C2 hE eWu h fun x9 h => ?_;cbv;refine A5 hE h (fun hc h => ?_) (fun hc h => ?_)
    ·cbv;cases h;exact ⟨_, _, rfl, ⟨rfl, rfl, hO⟩, .b rfl (.z), rfl⟩
    cbv;refine A6 hE h (c59 N x8.On x9.On) (.refl _) fun r10 h => ?_;cbv;refine A5 hE h (fun hc h => ?_) (fun hc h => ?_)
    ·cbv;cases h;exact ⟨_, _, rfl, ⟨rfl, rfl, hO⟩, .b rfl (.z), rfl⟩
    cbv;cases h;exact ⟨_, rfl, .e rfl (.e2 .z), rfl, hO⟩
   cbv;cases h;exact ⟨_, _, rfl, ⟨rfl, rfl, hO⟩, .z, rfl⟩
  ·exact .e rfl (.e2 .z)
  clear hx
  rcases s7 with y11 | y12
  ·rintro e l H ⟨rfl, rfl, hO⟩;cbv;cases h;exact hK _ _ _ hO (.refl _)
  rintro e l H ⟨rfl, rfl, hO⟩;cbv;cases h;exact hK _ _ _ hO (.refl _)
 rintro e l H ⟨rfl, rfl, hO⟩;cbv;cases h;exact hK _ _ _ hO (.refl _)
theorem c158 (N aF r) (h : AA N aF = some r) : DQ prog 158 (fun yv => [yv, .eref (R7 aF) 0]) (List.map (fun (x : (Int × (List A2))) => [vi x.1, .sl (Ar.lst eWm x.2) .ro]) r) Tw := by
 unfold AA at h
 obtain ⟨⟨w0, u0⟩, h1, hr⟩ := bind_some h;clear h;have hr := N8 hr;subst hr;have h := h1;clear h1;refine K4 cf0 G8 func158 (by rfl) (by kernel_rfl) call158 ntmps158 (by rfl) (fun _ => rfl) ?_;intro yv I D hI hD hy tl F E H K hE hO hK hKD
 have hO : B2 (I (List.map (fun (x : (Int × (List A2))) => [vi x.1, .sl (Ar.lst eWm x.2) .ro]) (w0 ++ []) ++ tl)) F [] H := by rw [List.append_nil]; exact hO
 cbv;refine D3 hE ?_;cbv;obtain ⟨w2, w3, s6, hx, h1, he⟩ := J9 h;clear h;have h := h1;clear h1
 rw [he, List.append_assoc] at hO
 clear he;refine Fx cf0 hE G8 (γ := Unit) (fun s1 g => [(0, .v (yv)), (6, .v (.sl (Ar.lst eWr aF.Sets) .ro)), (7, .v (vi (Ar.len aF.Sets))), (8, .v (vi s1))]) (fun s1 g w H1 => B2 (I (List.map (fun (x : (Int × (List A2))) => [vi x.1, .sl (Ar.lst eWm x.2) .ro]) w ++ tl)) F [] H1) (fun x e l w H1 => e = .exit 0 ∧ l = [] ∧ B2 (I (List.map (fun (x : (Int × (List A2))) => [vi x.1, .sl (Ar.lst eWm x.2) .ro]) w ++ tl)) F [] H1) (fun e l H1 => (e = .ret ∧ l = [] ∧ B2 D F [] H1)) (by kernel_rfl) ?_ (w' := w3 ++ []) () hx ?_ ?_ ?_ ?_
 ·rintro s1 _ w4 w5 H o hO h;clear hx
  skip
  cbv;refine A5 hE h (fun hc h => ?_) (fun hc h => ?_)
  ·cbv;refine C2 hE eWt h fun x7 h => ?_;cbv;refine D3 hE ?_;cbv;refine A5 hE h (fun hc h => ?_) (fun hc h => ?_)
   ·cbv;obtain ⟨w8, h1, he⟩ := O7 h;clear h;have h := h1;clear h1
    rw [he, List.append_assoc] at hO
    clear he;have hO : B2 (I ([vi s1, .sl (Ar.lst eWm x7) .ro] :: (List.map (fun (x : (Int × (List A2))) => [vi x.1, .sl (Ar.lst eWm x.2) .ro]) (w8 ++ w5) ++ tl))) F [] _ := hO;refine As hE hI hD hy hO (.refl _) (fun H hO => ?_) (fun H hO => ?_)
    ·cbv;refine EV hE (Ar.nt_eq _) ?_;cbv;obtain ⟨hw, rfl⟩ := C4 h
     rw [← hw] at hO
     exact ⟨_, (), rfl, .e4 .z, rfl, hO⟩
    clear h;cbv;refine EU hE (Ar.nt_eq _) ?_;cbv;exact .inr ⟨_, ⟨rfl, rfl, hO⟩, .z, rfl⟩
   cbv;obtain ⟨hw, rfl⟩ := C4 h
   rw [← hw] at hO
   exact ⟨_, (), rfl, .e4 .z, rfl, hO⟩
  cbv;obtain ⟨hw, rfl⟩ := C4 h
  rw [← hw] at hO
  exact .inl ⟨_, _, rfl, ⟨rfl, rfl, hO⟩, .z, rfl⟩
 ·exact .e4 .z
 ·exact hO
 ·rintro e l H ⟨rfl, rfl, hO⟩;clear hx;cbv;obtain ⟨hw, _⟩ := C4 h
  rw [← hw] at hO
  exact hK _ _ _ hO trivial
 rintro e l H hX;obtain ⟨rfl, rfl, hO⟩ := hX;clear h;cbv;exact hKD _ _ _ hO trivial
theorem c113 (N aA r) (h : Z2 N aA = some r) : Cn prog 113 [(E2 aA)] (fun v => Dg prog v (r.map fun (x : (Int × (List A2))) => [vi x.1, .sl (Ar.lst eWm x.2) .ro])) := by
 unfold Z2 at h
 refine N3 cf0 G8 func113 (by rfl) (by kernel_rfl) call113 ntmps113 (by rfl) (by rfl) ?_;intro E H0 K hE hK;have hO : B2 Eq H0 [] H0 := .start B6 rfl;cbv;exact hK _ _ _ hO (N1 call158 (c158 N aA r h))
def cf117 : Cf := ⟨[2, 3], [], [], [], [], []⟩
theorem c117 (N aA r) (h : BY N aA = some r) : B4 prog 117 [(E2 aA)] (.tup [.bool r.1, vi r.2]) := by
 unfold BY at h
 refine J7 cf117 func117 call117 ntmps117 ?_;intro E H0 K hE hK hO;cbv;refine C8 hE hO fun b1 H hO => ?_;cbv;refine C8 hE hO fun b2 H hO => ?_;cbv;refine A6 hE h (c90 N ([aA])) (.cons (.lit _ (C6 ((eWK aA).symm) (B1))) (.refl _)) fun r3 h => ?_;cbv;refine A5 hE h (fun hc h => ?_) (fun hc h => ?_)
 ·cbv;refine A7 hE hO 1 rfl rfl fun H hO => ?_;cbv;refine A7 hE hO 0 rfl rfl fun H hO => ?_;cbv;refine B0 hE hO 1 rfl ?_;cbv;refine B0 hE hO 0 rfl ?_;cbv;cases h;exact hK _ _ _ hO (.refl _)
 cbv;refine P6 hE h (c113 N aA) (.refl _) fun r4 v5 hv5 h => ?_;cbv;obtain ⟨o10, hx, h⟩ := bind_some h;refine Au cf117 hE G8 (ι := Unit) (enc := fun (x : (Int × (List A2))) => [vi x.1, .sl (Ar.lst eWm x.2) .ro]) (fun (s7 : Unit) F H => B2 Eq F [.blk b2 (.cells [vi 0]), .blk b1 (.cells [.bool false])] H) (fun (r : Unit) e F H => e = .ret ∧ B2 Eq F [.blk b2 (.cells [vi 0]), .blk b1 (.cells [.bool false])] H) (fun i s7 y6 => [(2, .v (.ref b1 0)), (3, .v (.ref b2 0))]) (fun i s7 y6 F H => B2 Eq F [.blk b2 (.cells [vi 0]), .blk b1 (.cells [.bool false])] H) (fun _ => B2.stable B6 _) (fun _ _ => C5.con (B2.stable B6 _)) (fun _ _ _ => B2.stable B6 _) hv5 hx (hO) (by decide) (fun _ => rfl) (by kernel_rfl) (by kernel_rfl) ?_ ?_ ?_ ?_
 ·rintro E i9 y6 s7 F8 H hE hO;clear hx h;cbv;exact ⟨(), hO, .e2 .z, rfl⟩
 ·rintro E i9 _ y6 s7 F8 H o hE hF h hO;clear hx;cbv;refine A7 hE hO 1 rfl rfl fun H hO => ?_;cbv;refine A7 hE hO 0 rfl rfl fun H hO => ?_;cbv;cases h;exact ⟨_, rfl, rfl, ⟨rfl, hO⟩⟩
 ·rintro d11 s13 H rfl hd hO;have hO : B2 Eq H0 [.blk b2 (.cells [vi 0]), .blk b1 (.cells [.bool false]), .blk d11 DB] H := B2.dblk hd hO;clear hd;clear hx;cbv;refine A7 hE hO 1 rfl rfl fun H hO => ?_;cbv;refine A7 hE hO 0 rfl rfl fun H hO => ?_;cbv;refine Ak hE hO 2 rfl fun H hO => ?_;cbv;refine B0 hE hO 1 rfl ?_;cbv;refine B0 hE hO 0 rfl ?_;cbv;cases h;exact hK _ _ _ hO (.refl _)
 rintro d11 y14 e H rfl hd hX;clear hx
 rcases hX with ⟨rfl, hO⟩
 have hO : B2 Eq H0 [.blk b2 (.cells [vi 0]), .blk b1 (.cells [.bool false]), .blk d11 DB] H := B2.dblk hd hO;clear hd;cbv;refine Ak hE hO 2 rfl fun H hO => ?_;cbv;refine B0 hE hO 1 rfl ?_;cbv;refine B0 hE hO 0 rfl ?_;cbv;cases h;exact hK _ _ _ hO (.refl _)
theorem c70 (N aA r) (h : Dj N aA = some r) : B4 prog 70 [(E2 aA)] (.bool r) := by
 unfold Dj at h
 refine J7 cf0 func70 call70 ntmps70 ?_;intro E H0 K hE hK hO;cbv;refine A6 hE h (c117 N aA) (.refl _) fun r1 h => ?_;cbv;cases h;exact hK _ _ _ hO (.refl _)
def cf60 : Cf := ⟨[6000004], [(16, 5), (17, 9)], [], [], [], []⟩
theorem c60 (N aB r) (h : Az N aB = some r) : Po prog 60 [(H6 aB)] (.int .i64) (V.int .i64) (V.int .i64) r := by
 unfold Az at h
 refine Pf (T := TT) cf60 G8 func60 (by rfl) (by kernel_rfl) call60 ntmps60 (by rfl) (by rfl) ?_;intro E H0 K hE hK;have hO : B2 Eq H0 [] H0 := .start B6 rfl;cbv;refine Jp hE (.int .i64) (V.int .i64) (V.int .i64) hO fun m1 o2 H ho2 hO => ?_;cbv;refine Jn hE (f := (V.int .i64)) hO fun q3 H hq3 hO => ?_;cbv;refine D3 hE ?_;cbv;obtain ⟨s7, hx, h⟩ := bind_some h;refine K3 cf60 hE G8 (γ := OG × Obj) (fun s4 g => [(1, .v (.eref (C1 aB) 0)), (3, .v (.map m1)), (4, .v (.own g.1.id g.1.lo g.1.n)), (13, .v (.sl (Ar.lst V.bool aB.Finals) .ro)), (14, .v (vi (Ar.len aB.Finals))), (15, .v (vi s4.1))]) (fun s4 g H1 => V3 g.1 (Ar.len s4.2.1) ∧ DD (.int .i64) (V.int .i64) (V.int .i64) g.2 s4.2.2 ∧ B2 Eq H0 [.blk g.1.id (.arr 1 (g.1.pre ++ Ar.lst (V.int .i64) s4.2.1 ++ g.1.rest)), .blk m1 (.obj g.2)] H1) (fun x e l H1 => ∃ u1 : OG, V3 u1 (Ar.len x.1) ∧ ∃ u2 : Obj, DD (.int .i64) (V.int .i64) (V.int .i64) u2 x.2 ∧ e = .exit 0 ∧ l = [(1, .v (.eref (C1 aB) 0)), (3, .v (.map m1)), (4, .v (.own u1.id u1.lo u1.n))] ∧ B2 Eq H0 [.blk u1.id (.arr 1 (u1.pre ++ Ar.lst (V.int .i64) x.1 ++ u1.rest)), .blk m1 (.obj u2)] H1) (by kernel_rfl) ?_ (⟨q3, o2⟩) hx ?_ ?_ ?_
 ·rintro s4 ⟨q5, q6⟩ H o ⟨hq5, hq6, hO⟩ h;clear hx;cbv;refine A5 hE h (fun hc h => ?_) (fun hc h => ?_)
  ·cbv;refine C2 hE (fun _ => rfl) h fun x8 h => ?_;cbv;refine A5 hE h (fun hc h => ?_) (fun hc h => ?_)
   ·cbv;refine ET hE (kt := 3) (et := 3) (by kernel_rfl) (by kernel_rfl) (Y1 .i64) (Nh .i64) hO hq6 1 rfl h fun l10 o9 H ho9 h hO => ?_;cbv;refine Dr (f := (V.int .i64)) hE (fun _ => rfl) (by decide) hO hq5 0 rfl (m := [s4.1]) (Bq (f := (V.int .i64)) hE (fun _ => rfl) (.lstc (.refl _) (.lst0))) h fun l12 q11 H hq11 hO h => ?_;cbv;cases h;exact ⟨_, ⟨q11, o9⟩, rfl, .e2 (.e4 .z), rfl, hq11, ho9, hO⟩
   cbv;cases h;exact ⟨_, ⟨q5, q6⟩, rfl, .e2 (.e4 .z), rfl, hq5, hq6, hO⟩
  cbv;cases h;exact ⟨_, _, rfl, ⟨q5, hq5, q6, hq6, rfl, rfl, hO⟩, .e rfl (.e2 .z), rfl⟩
 ·exact .e2 (.e4 .z)
 ·exact ⟨hq3, ho2, hO⟩
 clear hx;rintro e l H ⟨q13, hq13, q14, hq14, rfl, rfl, hO⟩;cbv;obtain ⟨s18, hx, h⟩ := bind_some h;refine K3 cf60 hE G8 (γ := OG × Obj) (fun s15 g => [(1, .v (.eref (C1 aB) 0)), (3, .v (.map m1)), (4, .v (.own g.1.id g.1.lo g.1.n))]) (fun s15 g H1 => V3 g.1 (Ar.len s15.1) ∧ DD (.int .i64) (V.int .i64) (V.int .i64) g.2 s15.2 ∧ B2 Eq H0 [.blk g.1.id (.arr 1 (g.1.pre ++ Ar.lst (V.int .i64) s15.1 ++ g.1.rest)), .blk m1 (.obj g.2)] H1) (fun x e l H1 => ∃ u1 : OG, V3 u1 (Ar.len x.1) ∧ ∃ u2 : Obj, DD (.int .i64) (V.int .i64) (V.int .i64) u2 x.2 ∧ e = .exit 2 ∧ l = [(3, .v (.map m1))] ∧ B2 Eq H0 [.blk u1.id (.arr 1 (u1.pre ++ Ar.lst (V.int .i64) x.1 ++ u1.rest)), .blk m1 (.obj u2)] H1) (by kernel_rfl) ?_ (⟨q13, q14⟩) hx ?_ ?_ ?_
 ·rintro s15 ⟨q16, q17⟩ H o ⟨hq16, hq17, hO⟩ h;clear hx;cbv;refine Gi hE hq16 ?_;cbv;refine A5 hE h (fun hc h => ?_) (fun hc h => ?_)
  ·cbv;refine D3 hE ?_;cbv;obtain ⟨s22, hx, h⟩ := bind_some h;refine K3 cf60 hE G8 (γ := OG × Obj) (fun s19 g => [(1, .v (.eref (C1 aB) 0)), (3, .v (.map m1)), (4, .v (.own g.1.id g.1.lo g.1.n)), (34, .v (.sl (Ar.lst eWw aB.Moves) .ro)), (35, .v (vi (Ar.len aB.Moves))), (36, .v (vi s19.1))]) (fun s19 g H1 => V3 g.1 (Ar.len s19.2.1) ∧ DD (.int .i64) (V.int .i64) (V.int .i64) g.2 s19.2.2 ∧ B2 Eq H0 [.blk g.1.id (.arr 1 (g.1.pre ++ Ar.lst (V.int .i64) s19.2.1 ++ g.1.rest)), .blk m1 (.obj g.2)] H1) (fun x e l H1 => ∃ u1 : OG, V3 u1 (Ar.len x.1) ∧ ∃ u2 : Obj, DD (.int .i64) (V.int .i64) (V.int .i64) u2 x.2 ∧ e = .exit 4 ∧ l = [(1, .v (.eref (C1 aB) 0)), (3, .v (.map m1)), (4, .v (.own u1.id u1.lo u1.n))] ∧ B2 Eq H0 [.blk u1.id (.arr 1 (u1.pre ++ Ar.lst (V.int .i64) x.1 ++ u1.rest)), .blk m1 (.obj u2)] H1) (by kernel_rfl) ?_ (⟨q16, q17⟩) hx ?_ ?_ ?_
   ·rintro s19 ⟨q20, q21⟩ H o ⟨hq20, hq21, hO⟩ h;clear hx;cbv;refine A5 hE h (fun hc h => ?_) (fun hc h => ?_)
    ·cbv;refine C2 hE eWu h fun x23 h => ?_;cbv;refine LP hE (kt := 3) (et := 3) (by kernel_rfl) (by kernel_rfl) (Y1 .i64) (0 : Int) (by kernel_rfl) rfl hO hq21 1 rfl h fun r24 h => ?_;cbv;refine Y0 hE hO hq20 0 rfl h fun h => ?_;cbv;refine BI hE (fun _ => rfl) hO hq20 0 rfl h fun x25 h => ?_;cbv;refine A5 hE h (fun hc h => ?_) (fun hc h => ?_)
     ·cbv;refine A6 hE h (c70 N x23.On) (.refl _) fun r26 h => ?_;cbv;refine A5 hE h (fun hc h => ?_) (fun hc h => ?_)
      ·cbv;refine Y0 hE hO hq20 0 rfl h fun h => ?_;cbv;refine BI hE (fun _ => rfl) hO hq20 0 rfl h fun x27 h => ?_;cbv;refine LQ hE (kt := 3) (et := 3) (by kernel_rfl) (by kernel_rfl) (Y1 .i64) (0 : Int) (by kernel_rfl) rfl hO hq21 1 rfl h fun r28 h => ?_;cbv;refine ET hE (kt := 3) (et := 3) (by kernel_rfl) (by kernel_rfl) (Y1 .i64) (Nh .i64) hO hq21 1 rfl h fun l30 o29 H ho29 h hO => ?_;cbv;refine Dr (f := (V.int .i64)) hE (fun _ => rfl) (by decide) hO hq20 0 rfl (m := [x23.From]) (Bq (f := (V.int .i64)) hE (fun _ => rfl) (.lstc (.refl _) (.lst0))) h fun l32 q31 H hq31 hO h => ?_;cbv;cases h;exact ⟨_, ⟨q31, o29⟩, rfl, .e2 (.e4 .z), rfl, hq31, ho29, hO⟩
      cbv;cases h;exact ⟨_, ⟨q20, q21⟩, rfl, .e2 (.e4 .z), rfl, hq20, hq21, hO⟩
     cbv;cases h;exact ⟨_, ⟨q20, q21⟩, rfl, .e2 (.e4 .z), rfl, hq20, hq21, hO⟩
    cbv;cases h;exact ⟨_, _, rfl, ⟨q20, hq20, q21, hq21, rfl, rfl, hO⟩, .e rfl (.e2 .z), rfl⟩
   ·exact .e2 (.e4 .z)
   ·exact ⟨hq16, hq17, hO⟩
   clear hx;rintro e l H ⟨q33, hq33, q34, hq34, rfl, rfl, hO⟩;cbv;refine Nb hE hO hq33 0 rfl h fun l36 q35 hq35 hO h => ?_;cbv;cases h;exact ⟨_, ⟨q35, q34⟩, rfl, .e rfl (.e2 .z), rfl, hq35, hq34, hO⟩
  cbv;cases h;exact ⟨_, _, rfl, ⟨q16, hq16, q17, hq17, rfl, rfl, hO⟩, .e rfl .z, rfl⟩
 ·exact .e rfl (.e2 .z)
 ·exact ⟨hq13, hq14, hO⟩
 clear hx;rintro e l H ⟨q37, hq37, q38, hq38, rfl, rfl, hO⟩;cbv;cases h;exact hK _ _ _ 1 _ hq38 rfl hO
theorem c61 (N cE aF aS r) (h : Z1 N cE aF aS = some r) (mx1 : Nat) (ox1 : Obj) (hox1 : DD (.int .i64) (V.int .i64) (V.int .i64) ox1 aF) (bx2 : Nat) : Pn prog 61 [(Bn cE), .eref [.map mx1] 0, .ref bx2 0] [(mx1, .obj ox1), (bx2, .cells [vi aS])] (.bool r) := by
 unfold Z1 at h
 refine Pc (T := TT) cf0 G8 func61 (by rfl) (by kernel_rfl) call61 ntmps61 (by rfl) (by rfl) ?_;intro E H0 K hE hO hK;have hO : B2 Eq (Dx H0 [(mx1, .obj ox1), (bx2, .cells [vi aS])]) [.blk mx1 (.obj ox1), .blk bx2 (.cells [vi aS])] H0 := hO;cbv;refine LP hE (kt := 3) (et := 3) (by kernel_rfl) (by kernel_rfl) (Y1 .i64) (0 : Int) (by kernel_rfl) rfl hO hox1 0 rfl h fun r1 h => ?_;cbv;refine B0 hE hO 1 rfl ?_;cbv;cases h;exact hK _ _ (hO) (.refl _)
def cf62 : Cf := ⟨[2, 3], [], [], [], [], []⟩
theorem c62 (N aA r) (h : AW N aA = some r) : B4 prog 62 [(E2 aA)] (.tup [(BN r.1), vi r.2]) := by
 unfold AW at h
 refine J7 cf62 func62 call62 ntmps62 ?_;intro E H0 K hE hK hO;cbv;refine C8 hE hO fun b1 H hO => ?_;cbv;refine C8 hE hO fun b2 H hO => ?_;cbv;refine A6 hE h (c90 N ([aA])) (.cons (.lit _ (C6 ((eWK aA).symm) (B1))) (.refl _)) fun r3 h => ?_;cbv;refine A5 hE h (fun hc h => ?_) (fun hc h => ?_)
 ·cbv;refine A7 hE hO 1 rfl rfl fun H hO => ?_;cbv;refine A7 hE hO 0 rfl rfl fun H hO => ?_;cbv;refine B0 hE hO 1 rfl ?_;cbv;refine B0 hE hO 0 rfl ?_;cbv;cases h;exact hK _ _ _ hO (.refl _)
 cbv;refine P6 hE h (c113 N aA) (.refl _) fun r4 v5 hv5 h => ?_;cbv;obtain ⟨o10, hx, h⟩ := bind_some h;refine Au cf62 hE G8 (ι := Unit) (enc := fun (x : (Int × (List A2))) => [vi x.1, .sl (Ar.lst eWm x.2) .ro]) (fun (s7 : Unit) F H => B2 Eq F [.blk b2 (.cells [vi 0]), .blk b1 (.cells [vi 0, vi 0])] H) (fun (r : B8) e F H => e = .ret ∧ B2 Eq F [.blk b2 (.cells [vi 0]), .blk b1 (.cells (M3 r))] H) (fun i s7 y6 => [(2, .v (.ref b1 0)), (3, .v (.ref b2 0)), (5, .v (vi y6.1)), (6, .v (.sl (Ar.lst eWm y6.2) .ro))]) (fun i s7 y6 F H => B2 Eq F [.blk b2 (.cells [vi 0]), .blk b1 (.cells [vi 0, vi 0])] H) (fun _ => B2.stable B6 _) (fun _ _ => C5.con (B2.stable B6 _)) (fun _ _ _ => B2.stable B6 _) hv5 hx (hO) (by decide) (fun _ => rfl) (by kernel_rfl) (by kernel_rfl) ?_ ?_ ?_ ?_
 ·rintro E i9 y6 s7 F8 H hE hO;clear hx h;cbv;exact ⟨(), hO, .e4 .z, rfl⟩
 ·rintro E i9 _ y6 s7 F8 H o hE hF h hO;clear hx;cbv;refine C2 hE eWv h fun x11 h => ?_;cbv;refine A7 hE hO 1 rfl rfl fun H hO => ?_;cbv;refine A7 hE hO 0 rfl rfl fun H hO => ?_;cbv;cases h;exact ⟨_, rfl, rfl, ⟨rfl, hO⟩⟩
 ·rintro d12 s14 H rfl hd hO;have hO : B2 Eq H0 [.blk b2 (.cells [vi 0]), .blk b1 (.cells [vi 0, vi 0]), .blk d12 DB] H := B2.dblk hd hO;clear hd;clear hx;cbv;refine A7 hE hO 1 rfl rfl fun H hO => ?_;cbv;refine A7 hE hO 0 rfl rfl fun H hO => ?_;cbv;refine Ak hE hO 2 rfl fun H hO => ?_;cbv;refine B0 hE hO 1 rfl ?_;cbv;refine B0 hE hO 0 rfl ?_;cbv;cases h;exact hK _ _ _ hO (.refl _)
 rintro d12 y15 e H rfl hd hX;clear hx
 rcases hX with ⟨rfl, hO⟩
 have hO : B2 Eq H0 [.blk b2 (.cells [vi 0]), .blk b1 (.cells (M3 y15)), .blk d12 DB] H := B2.dblk hd hO;clear hd;cbv;refine Ak hE hO 2 rfl fun H hO => ?_;cbv;refine B0 hE hO 1 rfl ?_;cbv;refine B0 hE hO 0 rfl ?_;cbv;cases h;exact hK _ _ _ hO (.refl _)
end Go.Ab
