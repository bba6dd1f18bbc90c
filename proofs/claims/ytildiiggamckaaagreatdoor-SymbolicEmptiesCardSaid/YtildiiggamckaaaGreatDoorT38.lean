/- GYCo5 -/
import Derived.Test.YtildiiggamckaaaGreatDoorT37
set_option linter.all false
namespace Go.Ab
open Go.RowKit Go.Proofs Go.Proofs.Tryz G6
variable [Ar] [G6]
set_option maxRecDepth 100000
theorem c224 (N bD bE r) (h : X7 N bD bE = some r) : B6 prog 224 [vi bD, vi bE] (.sl (Ar.lst eXI r) .ro) := by
 unfold X7 at h
 refine J9 cf0 func224 call224 ntmps224 ?_;intro E H0 K hE hK hO;cbv;refine A6 hE h (fun hc h => ?_) (fun hc h => ?_)
 ·cbv;cases h;exact hK _ _ _ hO (.lit _ (B3))
 cbv;cases h;exact hK _ _ _ hO (.lit _ (C7 ((eXR (⟨Ar.mx bD (-1099511627776), Ar.mn bE 1099511627776⟩ : A2)).symm) (B3)))
theorem c225 (N aC aE r) (h : Bf N aC aE = some r) : B6 prog 225 [vi aC, vi aE] (vi r) := by
 unfold Bf at h
 refine J9 cf0 func225 call225 ntmps225 ?_;intro E H0 K hE hK hO;cbv;refine Hg hE h fun h => ?_;cbv;refine Hg hE h fun h => ?_;cbv;refine A6 hE h (fun hc h => ?_) (fun hc h => ?_)
 ·cbv;cases h;exact hK _ _ _ hO (.refl _)
 cbv;cases h;exact hK _ _ _ hO (.refl _)
theorem c185 (N aC r) (h : U5 N aC = some r) : B6 prog 185 [(Ag aC)] (.sl (Ar.lst eXI r) .ro) := by
 unfold U5 at h
 refine J9 cf0 func185 call185 ntmps185 ?_;intro E H0 K hE hK hO;cbv;refine A6 hE h (fun hc h => ?_) (fun hc h => ?_)
 ·cbv;refine A7 hE h (c225 N (Ar.neg .i64 aC.plus) aC.times) (.refl _) fun r1 h => ?_;cbv;refine A7 hE h (c224 N (-1099511627776) r1) (.refl _) fun r2 h => ?_;cbv;cases h;exact hK _ _ _ hO (.refl _)
 cbv;refine A6 hE h (fun hc h => ?_) (fun hc h => ?_)
 ·cbv;refine A7 hE h (c225 N (Ar.neg .i64 aC.plus) (Ar.neg .i64 aC.times)) (.refl _) fun r3 h => ?_;cbv;refine A7 hE h (c224 N (Ar.neg .i64 r3) 1099511627776) (.refl _) fun r4 h => ?_;cbv;cases h;exact hK _ _ _ hO (.refl _)
 cbv;refine A6 hE h (fun hc h => ?_) (fun hc h => ?_)
 ·cbv;refine A7 hE h (c89 N ) (.refl _) fun r5 h => ?_;cbv;cases h;exact hK _ _ _ hO (.refl _)
 cbv;cases h;exact hK _ _ _ hO (.lit _ (B3))
def cf139 : Cf := ⟨[8], [(8, 13)], [], [], [], []⟩
theorem c139 (N aL aC aE r) (h : AK N aL aC aE = some r) : B6 prog 139 [vi aL, (Ag aC), (Ag aE)] (.tup [.sl (Ar.lst eXI r.1) .ro, vi r.2]) := by
 unfold AK at h
 refine J9 cf139 func139 call139 ntmps139 ?_;intro E H0 K hE hK hO;cbv;refine C8 hE hO fun b1 H hO => ?_;cbv;refine A8 hE hO 0 rfl rfl fun H hO => ?_;cbv;refine A6 hE h (fun hc h => ?_) (fun hc h => ?_)
 ·cbv;refine B1 hE hO 0 rfl ?_;cbv;refine A8 hE hO 0 rfl rfl fun H hO => ?_;cbv;refine B1 hE hO 0 rfl ?_;cbv;refine A7 hE h (c185 N (⟨Ar.ar .sub .i64 aC.times aE.times, Ar.ar .add .i64 (Ar.ar .sub .i64 aC.plus aE.plus) 1⟩ : D1)) (.refl _) fun r2 h => ?_;cbv;cases h;exact hK _ _ _ hO (.refl _)
 cbv;refine A6 hE h (fun hc h => ?_) (fun hc h => ?_)
 ·cbv;refine B1 hE hO 0 rfl ?_;cbv;refine A7 hE h (c185 N (⟨Ar.ar .sub .i64 aC.times aE.times, Ar.ar .sub .i64 aC.plus aE.plus⟩ : D1)) (.refl _) fun r3 h => ?_;cbv;cases h;exact hK _ _ _ hO (.refl _)
 cbv;refine B1 hE hO 0 rfl ?_;cbv;refine P2 hE (g := fun r4 => .sl (Ar.lst eXI r4) .ro) h (c185 N (⟨Ar.ar .sub .i64 aC.times aE.times, Ar.ar .sub .i64 aC.plus aE.plus⟩ : D1)) (.refl _) fun r4 h => ?_;cbv;refine B1 hE hO 0 rfl ?_;cbv;refine B1 hE hO 0 rfl ?_;cbv;refine P2 hE (g := fun r5 => .sl (Ar.lst eXI r5) .ro) h (c185 N (⟨Ar.neg .i64 (Ar.ar .sub .i64 aC.times aE.times), Ar.neg .i64 (Ar.ar .sub .i64 aC.plus aE.plus)⟩ : D1)) (.refl _) fun r5 h => ?_;cbv;refine P2 hE (g := fun r6 => .tup [.sl (Ar.lst eXI r6.1) .ro, vi r6.2]) h (c120 N r4 r5) (.refl _) fun r6 h => ?_;cbv;cases h;exact hK _ _ _ hO (.refl _)
theorem c186 (N aH aM r) (h : Aj N aH aM = some r) : B6 prog 186 [.bool aH, .bool aM] (.bool r) := by
 unfold Aj at h
 refine J9 cf0 func186 call186 ntmps186 ?_;intro E H0 K hE hK hO;cbv;cases h;exact hK _ _ _ hO (.refl _)
theorem c140 (N aC aE r) (h : Bh N aC aE = some r) : B6 prog 140 [.sl (Ar.lst eXI aC) .ro, .sl (Ar.lst eXI aE) .ro] (.tup [.sl (Ar.lst eXI r.1) .ro, vi r.2]) := by
 unfold Bh at h
 refine J9 cf0 func140 call140 ntmps140 ?_;intro E H0 K hE hK hO;cbv;refine A7 hE (g := fun r1 => .tup [.sl (Ar.lst eXI r1.1) .ro, vi r1.2]) h (fun r1 hx => c160 N aC aE (.func (.func 186) [] []) (fun y1 y2 => Aj N y1 y2) (fun y1 y2 r hx => B6.value (F := []) (C := []) (c186 N y1 y2 r hx)) r1 hx) (.refl _) fun r1 h => ?_;cbv;cases h;exact hK _ _ _ hO (.refl _)
theorem c226 (N aF r) (h : Co N aF = some r) : El prog 226 (fun yv => [yv, .eref [.sl (Ar.lst eXI aF) .ro] 0]) (List.map (fun (x : A2) => [(M5 x)]) r) UL := by
 unfold Co at h
 obtain ⟨⟨w0, u0⟩, h1, hr⟩ := bind_some h;clear h;have hr := O2 hr;subst hr;have h := h1;clear h1;refine K7 cf0 G7 func226 (by rfl) (by kernel_rfl) call226 ntmps226 (by rfl) (fun _ => rfl) ?_;intro yv I D hI hD hy tl F E H K hE hO hK hKD
 have hO : B4 (I (List.map (fun (x : A2) => [(M5 x)]) (w0 ++ []) ++ tl)) F [] H := by rw [List.append_nil]; exact hO
 cbv;refine D5 hE ?_;cbv;obtain ⟨w2, w3, s6, hx, h1, he⟩ := K2 h;clear h;have h := h1;clear h1
 rw [he, List.append_assoc] at hO
 clear he;refine FX cf0 hE G7 (γ := Unit) (fun s1 g => [(0, .v (yv)), (3, .v (vi s1.1)), (6, .v (.sl (Ar.lst eXI aF) .ro)), (7, .v (vi (Ar.len aF))), (8, .v (vi s1.2))]) (fun s1 g w H1 => B4 (I (List.map (fun (x : A2) => [(M5 x)]) w ++ tl)) F [] H1) (fun x e l w H1 => e = .exit 0 ∧ l = [(0, .v (yv)), (3, .v (vi x))] ∧ B4 (I (List.map (fun (x : A2) => [(M5 x)]) w ++ tl)) F [] H1) (fun e l H1 => (e = .ret ∧ l = [] ∧ B4 D F [] H1)) (by kernel_rfl) ?_ (w' := w3 ++ []) () hx ?_ ?_ ?_ ?_
 ·rintro s1 _ w4 w5 H o hO h;clear hx
  skip
  cbv;refine A6 hE h (fun hc h => ?_) (fun hc h => ?_)
  ·cbv;refine C2 hE eXR h fun x7 h => ?_;cbv;refine A6 hE h (fun hc h => ?_) (fun hc h => ?_)
   ·cbv;obtain ⟨w8, h1, he⟩ := P0 h;clear h;have h := h1;clear h1
    rw [he, List.append_assoc] at hO
    clear he;have hO : B4 (I ([.agg [vi s1.1, vi (Ar.ar .sub .i64 x7.Low 1)]] :: (List.map (fun (x : A2) => [(M5 x)]) (w8 ++ w5) ++ tl))) F [] _ := hO;refine AF hE hI hD hy hO (.refl _) (fun H hO => ?_) (fun H hO => ?_)
    ·cbv;refine Fv hE (Ar.nt_eq _) ?_;cbv;obtain ⟨hw, rfl⟩ := C5 h
     rw [← hw] at hO
     exact ⟨_, (), rfl, .e rfl (.e4 .z), rfl, hO⟩
    clear h;cbv;refine Fu hE (Ar.nt_eq _) ?_;cbv;exact .inr ⟨_, ⟨rfl, rfl, hO⟩, .z, rfl⟩
   cbv;obtain ⟨hw, rfl⟩ := C5 h
   rw [← hw] at hO
   exact ⟨_, (), rfl, .e rfl (.e4 .z), rfl, hO⟩
  cbv;obtain ⟨hw, rfl⟩ := C5 h
  rw [← hw] at hO
  exact .inl ⟨_, _, rfl, ⟨rfl, rfl, hO⟩, .e2 .z, rfl⟩
 ·exact .e rfl (.e4 .z)
 ·exact hO
 ·rintro e l H ⟨rfl, rfl, hO⟩;clear hx;cbv;refine A6 hE h (fun hc h => ?_) (fun hc h => ?_)
  ·cbv;obtain ⟨w9, h1, he⟩ := P0 h;clear h;have h := h1;clear h1
   rw [he, List.append_assoc] at hO
   clear he;have hO : B4 (I ([.agg [vi s6, vi 1099511627776]] :: (List.map (fun (x : A2) => [(M5 x)]) (w9 ++ []) ++ tl))) F [] _ := hO;refine AF hE hI hD hy hO (.refl _) (fun H hO => ?_) (fun H hO => ?_)
   ·cbv;obtain ⟨hw, _⟩ := C5 h
    rw [← hw] at hO
    exact hK _ _ _ hO trivial
   clear h;cbv;exact hKD _ _ _ hO trivial
  cbv;obtain ⟨hw, _⟩ := C5 h
  rw [← hw] at hO
  exact hK _ _ _ hO trivial
 rintro e l H hX;obtain ⟨rfl, rfl, hO⟩ := hX;clear h;cbv;exact hKD _ _ _ hO trivial
theorem c187 (N aG r) (h : DP N aG = some r) : CA prog 187 [.sl (Ar.lst eXI aG) .ro] (fun v => DD prog v (r.map fun (x : A2) => [(M5 x)])) := by
 unfold DP at h
 refine N7 cf0 G7 func187 (by rfl) (by kernel_rfl) call187 ntmps187 (by rfl) (by rfl) ?_;intro E H0 K hE hK;have hO : B4 Eq H0 [] H0 := .start B7 rfl;cbv;exact hK _ _ _ hO (N5 call226 (c226 N aG r h))
def cf141 : Cf := ⟨[5], [], [], [], [], []⟩
theorem c141 (N aG r) (h : T9 N aG = some r) : B6 prog 141 [.sl (Ar.lst eXI aG) .ro] (.tup [.sl (Ar.lst eXI r.1) .ro, vi r.2]) := by
 unfold T9 at h
 refine J9 cf141 func141 call141 ntmps141 ?_;intro E H0 K hE hK hO;cbv;refine A7 hE h (c94 N aG) (.refl _) fun r1 h => ?_;cbv;refine A6 hE h (fun hc h => ?_) (fun hc h => ?_)
 ·cbv;cases h;exact hK _ _ _ hO (.tup (.cons (.lit _ (B3)) (.refl _)))
 cbv;refine C8 hE hO fun b2 H hO => ?_;cbv;refine Q0 hE h (c187 N aG) (.refl _) fun r3 v4 hv4 h => ?_;cbv;replace hO := hO.tl0 (t := .nil) rfl;obtain ⟨o10, hx, h⟩ := bind_some h;replace hO := hO.cast (L' := [.tl .nil, .blk b2 (.cells [.sl (Ar.lst eXI ([])) .nil])]) (by first | (simp only [← B3]; done) | (simp only [← B3]; rfl));refine AG cf141 hE G7 (ι := Unit) (enc := fun (x : A2) => [(M5 x)]) (fun (s6 : (List A2)) F H => ∃ g : D6, (N2 g) ∧ B4 Eq F [.tl g, .blk b2 (.cells [.sl (Ar.lst eXI s6) g])] H) (fun (r : Unit) e F H => False) (fun i s6 y5 => [(5, .v (.ref b2 0)), (6, .v (.eref (Ky y5) 0))]) (fun i s6 y5 F H => ∃ g : D6, (N2 g) ∧ B4 Eq F [.tl g, .blk b2 (.cells [.sl (Ar.lst eXI s6) g])] H) (fun _ => C6.ex fun _ => B4.stable B7 _) (fun _ _ => ⟨fun h => h.elim, fun _ _ h => h.elim⟩) (fun _ _ _ => C6.ex fun _ => B4.stable B7 _) hv4 hx (⟨.nil, trivial, hO⟩) (by decide) (fun _ => rfl) (by kernel_rfl) (by kernel_rfl) ?_ ?_ ?_ ?_
 ·rintro E i8 y5 s6 F7 H hE ⟨t9, ht9, hO⟩;clear hx h;cbv;exact ⟨(), ⟨t9, ht9, hO⟩, .e2 .z, rfl⟩
 ·rintro E i8 _ y5 s6 F7 H o hE hF h ⟨t9, ht9, hO⟩;clear hx;cbv;refine B1 hE hO 1 rfl ?_;cbv;refine V9 (f := eXI) hE P7 (by decide) hO 0 rfl ht9 (l := s6) (m := [y5]) (.refl _) (.lstc (.eq (eXR y5) (.refl _)) (.lst0)) h fun l12 t11 H hO ht11 h => ?_;cbv;refine A8 hE hO 1 rfl rfl fun H hO => ?_;cbv;cases h;exact ⟨_, rfl, ⟨t11, ht11, hO⟩⟩
 ·rintro d13 s16 H rfl hd ⟨t17, ht17, hO⟩;have hO : B4 Eq H0 [.tl t17, .blk b2 (.cells [.sl (Ar.lst eXI s16) t17]), .blk d13 DB] H := B4.dblk hd hO;clear hd;clear hx;cbv;refine B1 hE hO 1 rfl ?_;cbv;refine A7 hE h (c188 N s16) (.cons (.ro _ _) (.refl _)) fun r18 h => ?_;cbv;refine Ax hE hO 2 rfl fun H hO => ?_;cbv;cases h;exact hK _ _ _ hO (.refl _)
 rintro d r e H rfl hd hO;exact hO.elim
theorem c227 (N aH aM r) (h : Ak N aH aM = some r) : B6 prog 227 [.bool aH, .bool aM] (.bool r) := by
 unfold Ak at h
 refine J9 cf0 func227 call227 ntmps227 ?_;intro E H0 K hE hK hO;cbv;cases h;exact hK _ _ _ hO (.refl _)
theorem c189 (N aC aE r) (h : Bi N aC aE = some r) : B6 prog 189 [.sl (Ar.lst eXI aC) .ro, .sl (Ar.lst eXI aE) .ro] (.tup [.sl (Ar.lst eXI r.1) .ro, vi r.2]) := by
 unfold Bi at h
 refine J9 cf0 func189 call189 ntmps189 ?_;intro E H0 K hE hK hO;cbv;refine A7 hE (g := fun r1 => .tup [.sl (Ar.lst eXI r1.1) .ro, vi r1.2]) h (fun r1 hx => c160 N aC aE (.func (.func 227) [] []) (fun y1 y2 => Ak N y1 y2) (fun y1 y2 r hx => B6.value (F := []) (C := []) (c227 N y1 y2 r hx)) r1 hx) (.refl _) fun r1 h => ?_;cbv;cases h;exact hK _ _ _ hO (.refl _)
theorem c142 (N aC aE r) (h : CT N aC aE = some r) : B6 prog 142 [.sl (Ar.lst eXI aC) .ro, .sl (Ar.lst eXI aE) .ro] (.tup [.sl (Ar.lst eXI r.1) .ro, vi r.2]) := by
 unfold CT at h
 refine J9 cf0 func142 call142 ntmps142 ?_;intro E H0 K hE hK hO;cbv;refine A7 hE h (c189 N aC aE) (.refl _) fun r1 h => ?_;cbv;refine A6 hE h (fun hc h => ?_) (fun hc h => ?_)
 ·cbv;cases h;exact hK _ _ _ hO (.tup (.cons (.lit _ (B3)) (.refl _)))
 cbv;refine A7 hE h (c189 N aE aC) (.refl _) fun r2 h => ?_;cbv;refine A6 hE h (fun hc h => ?_) (fun hc h => ?_)
 ·cbv;cases h;exact hK _ _ _ hO (.tup (.cons (.lit _ (B3)) (.refl _)))
 cbv;refine A7 hE h (c140 N r1.1 r2.1) (.refl _) fun r3 h => ?_;cbv;refine A6 hE h (fun hc h => ?_) (fun hc h => ?_)
 ·cbv;cases h;exact hK _ _ _ hO (.tup (.cons (.lit _ (B3)) (.refl _)))
 cbv;refine A7 hE h (c141 N r3.1) (.refl _) fun r4 h => ?_;cbv;cases h;exact hK _ _ _ hO (.refl _)
def cf102 : Cf := ⟨[], [(32, 9), (34, 9), (37, 9)], [(32, 11)], [0], [], []⟩
theorem c102 (N : Nat) : ∀ n aD aU aQ r, AC N n aD aU aQ = some r → B6 prog 102 [(An aD), vi aU, vi aQ] (.tup [.sl (Ar.lst eXI r.1) .ro, vi r.2]) := by
 intro n
 induction n with
 | zero => intro aD aU aQ r h; cases h
 | succ n ih =>
 intro aD aU aQ r h
 unfold AC at h
 refine J9 cf102 func102 call102 ntmps102 ?_;intro E H0 K hE hK hO;cbv;obtain ⟨s1, hx, h⟩ := bind_some h;refine J8 cf102 hE G7 (fun e l H1 => match (generalizing := false) s1 with | .inl y => e = .normal ∧ l = [(1, .v (vi aU)), (2, .v (vi aQ)), (3, .v (.eref (BR aD) 0))] ∧ B4 Eq H0 [] H1 | .inr y => e = .ret ∧ l = [(6, .v (.sl (Ar.lst eXI y.1) .ro)), (7, .v (vi y.2))] ∧ B4 Eq H0 [] H1) (by kernel_rfl) ?_ ?_
 ·clear h;have h := hx;clear hx;cbv;refine A6 hE h (fun hc h => ?_) (fun hc h => ?_)
  ·cbv;refine A6 hE h (fun hc h => ?_) (fun hc h => ?_)
   ·cbv;cases h;exact ⟨_, ⟨rfl, rfl, hO⟩, .v (.lit _ (B3)) (.e rfl .z), rfl⟩
   cbv;refine A6 hE h (fun hc h => ?_) (fun hc h => ?_)
   ·cbv;refine A7 hE h (c89 N ) (.refl _) fun r2 h => ?_;cbv;cases h;exact ⟨_, ⟨rfl, rfl, hO⟩, .e2 .z, rfl⟩
   cbv;cases h;exact ⟨_, ⟨rfl, rfl, hO⟩, .v (.lit _ (B3)) (.e rfl .z), rfl⟩
  cbv;obtain ⟨s3, hx, h⟩ := bind_some h;refine J8 cf102 hE G7 (fun e l H1 => e = .normal ∧ l = [(1, .v (vi aU)), (2, .v (vi aQ)), (3, .v (.eref (BR aD) 0)), (18, .v (vi aD.Op)), (32, .v (.bool s3))] ∧ B4 Eq H0 [] H1) (by kernel_rfl) ?_ ?_
  ·clear h;have h := hx;clear hx;cbv;refine A6 hE h (fun hc h => ?_) (fun hc h => ?_)
   ·cbv;cases h;exact ⟨_, ⟨rfl, rfl, hO⟩, .e rfl (.e4 .z), rfl⟩
   cbv;refine A6 hE h (fun hc h => ?_) (fun hc h => ?_)
   ·cbv;cases h;exact ⟨_, ⟨rfl, rfl, hO⟩, .e rfl (.e4 .z), rfl⟩
   cbv;cases h;exact ⟨_, ⟨rfl, rfl, hO⟩, .e rfl (.e4 .z), rfl⟩
  clear hx;rintro e l H ⟨rfl, rfl, hO⟩;cbv;refine A6 hE h (fun hc h => ?_) (fun hc h => ?_)
  ·cbv;refine C2 hE eXV h fun x4 h => ?_;cbv;refine A7 hE h (c138 N N x4 aU aQ) (.refl _) fun r5 h => ?_;cbv;refine C2 hE eXV h fun x6 h => ?_;cbv;refine A7 hE h (c138 N N x6 aU aQ) (.refl _) fun r7 h => ?_;cbv;refine A6 hE h (fun hc h => ?_) (fun hc h => ?_)
   ·cbv;refine A7 hE h (c139 N aD.Op r5.1 r7.1) (.refl _) fun r8 h => ?_;cbv;cases h;exact ⟨_, ⟨rfl, rfl, hO⟩, .e2 .z, rfl⟩
   cbv;refine A6 hE h (fun hc h => ?_) (fun hc h => ?_)
   ·cbv;cases h;exact ⟨_, ⟨rfl, rfl, hO⟩, .v (.lit _ (B3)) (.e rfl .z), rfl⟩
   cbv;cases h;exact ⟨_, ⟨rfl, rfl, hO⟩, .e rfl (.e2 .z), rfl⟩
  cbv;refine A6 hE h (fun hc h => ?_) (fun hc h => ?_)
  ·cbv;cases h;exact ⟨_, ⟨rfl, rfl, hO⟩, .e rfl (.e2 .z), rfl⟩
  cbv;refine A6 hE h (fun hc h => ?_) (fun hc h => ?_)
  ·cbv;cases h;exact ⟨_, ⟨rfl, rfl, hO⟩, .e rfl (.e2 .z), rfl⟩
  cbv;refine A6 hE h (fun hc h => ?_) (fun hc h => ?_)
  ·cbv;cases h;exact ⟨_, ⟨rfl, rfl, hO⟩, .e rfl (.e2 .z), rfl⟩
  cbv;cases h;exact ⟨_, ⟨rfl, rfl, hO⟩, .v (.lit _ (B3)) (.e rfl .z), rfl⟩
 clear hx
 rcases s1 with y9 | y32
 ·rintro e l H ⟨rfl, rfl, hO⟩;cbv;refine D5 hE ?_;cbv;replace hO := hO.tl0 (t := .nil) rfl;obtain ⟨s12, hx, h⟩ := bind_some h;refine I6 cf102 hE G7 (γ := D6) (fun s10 g => [(1, .v (vi aU)), (2, .v (vi aQ)), (3, .v (.eref (BR aD) 0)), (12, .v (.sl (Ar.lst eXM s10.1) g)), (75, .v (.sl (Ar.lst eXL aD.Args) .ro)), (76, .v (vi (Ar.len aD.Args))), (77, .v (vi s10.2))]) (fun s10 g H1 => N2 g ∧ B4 Eq H0 [.tl g] H1) (fun x e l H1 => match (generalizing := false) x with | .inl y => ∃ u1 : D6, N2 u1 ∧ e = .exit 2 ∧ l = [(3, .v (.eref (BR aD) 0)), (12, .v (.sl (Ar.lst eXM y) u1))] ∧ B4 Eq H0 [.tl u1] H1 | .inr y => ∃ u1 : D6, N2 u1 ∧ e = .ret ∧ l = [(6, .v (.sl [] .nil)), (7, .v (vi y))] ∧ B4 Eq H0 [.tl u1] H1) (by kernel_rfl) ?_ .nil hx ?_ ?_ ?_
  ·rintro s10 t11 H o ⟨ht11, hO⟩ h;clear hx;cbv;refine A6 hE h (fun hc h => ?_) (fun hc h => ?_)
   ·cbv;refine C2 hE eXV h fun x13 h => ?_;cbv;refine A7 hE h (ih x13 aU aQ) (.refl _) fun r14 h => ?_;cbv;refine A6 hE h (fun hc h => ?_) (fun hc h => ?_)
    ·cbv;cases h;exact ⟨_, _, rfl, ⟨t11, ht11, rfl, rfl, hO⟩, .e2 .z, rfl⟩
    cbv;refine V9 (f := eXM) hE DF (by decide) hO 0 rfl ht11 (l := s10.1) (m := [r14.1]) (.refl _) (.lstc (.eq (eXP r14.1) (.refl _)) (.lst0)) h fun l16 t15 H hO ht15 h => ?_;cbv;cases h;exact ⟨_, t15, rfl, .e rfl (.e2 (.e4 .z)), rfl, ht15, hO⟩
   cbv;cases h;exact ⟨_, _, rfl, ⟨t11, ht11, rfl, rfl, hO⟩, .e2 .z, rfl⟩
  ·exact .e rfl (.e2 (.v (.slt _ (.lst0)) (.e rfl (.e rfl (.e rfl (.z))))))
  ·exact ⟨trivial, hO⟩
  clear hx
  rcases s12 with y17 | y30
  ·rintro e l H ⟨t18, ht18, rfl, rfl, hO⟩;cbv;refine A6 hE h (fun hc h => ?_) (fun hc h => ?_)
   ·cbv;refine C2 hE eXP h fun x19 h => ?_;cbv;refine C2 hE eXP h fun x20 h => ?_;cbv;refine P2 hE (g := fun r21 => .tup [.sl (Ar.lst eXI r21.1) .ro, vi r21.2]) h (c120 N x19 x20) (.refl _) fun r21 h => ?_;cbv;cases h;exact hK _ _ _ hO (.refl _)
   cbv;refine A6 hE h (fun hc h => ?_) (fun hc h => ?_)
   ·cbv;refine C2 hE eXP h fun x22 h => ?_;cbv;refine C2 hE eXP h fun x23 h => ?_;cbv;refine P2 hE (g := fun r24 => .tup [.sl (Ar.lst eXI r24.1) .ro, vi r24.2]) h (c140 N x22 x23) (.refl _) fun r24 h => ?_;cbv;cases h;exact hK _ _ _ hO (.refl _)
   cbv;refine A6 hE h (fun hc h => ?_) (fun hc h => ?_)
   ·cbv;refine C2 hE eXP h fun x25 h => ?_;cbv;refine A7 hE h (c141 N x25) (.refl _) fun r26 h => ?_;cbv;cases h;exact hK _ _ _ hO (.refl _)
   cbv;refine C2 hE eXP h fun x27 h => ?_;cbv;refine C2 hE eXP h fun x28 h => ?_;cbv;refine P2 hE (g := fun r29 => .tup [.sl (Ar.lst eXI r29.1) .ro, vi r29.2]) h (c142 N x27 x28) (.refl _) fun r29 h => ?_;cbv;cases h;exact hK _ _ _ hO (.refl _)
  rintro e l H ⟨t31, ht31, rfl, rfl, hO⟩;cbv;cases h;exact hK _ _ _ hO (.tup (.cons (.lit _ (B3)) (.refl _)))
 rintro e l H ⟨rfl, rfl, hO⟩;cbv;cases h;exact hK _ _ _ hO (.refl _)
theorem c143 (N : Nat) (aB : List DW) (aV : V) (aO : DW → Option Bool) (bC : ∀ y1 q, aO y1 = some q → R4 prog aV [(Qn y1)] (.bool q)) (r : Int) (h : O1 N aB aO = some r) : B6 prog 143 [.sl (Ar.lst eYc aB) .ro, aV] (vi r) := by
 unfold O1 at h
 refine J9 cf0 func143 call143 ntmps143 ?_;intro E H0 K hE hK hO;cbv;refine D5 hE ?_;cbv;obtain ⟨s2, hx, h⟩ := bind_some h;refine F3 cf0 hE G7 (fun s1 => [(0, .v (.sl (Ar.lst eYc aB) .ro)), (1, .v (aV)), (7, .v (vi (Ar.len aB))), (8, .v (vi s1))]) (fun s1 H1 => B4 Eq H0 [] H1) (fun x e l H1 => match (generalizing := false) x with | .inl y => e = .exit 0 ∧ l = [] ∧ B4 Eq H0 [] H1 | .inr y => e = .ret ∧ l = [(4, .v (vi y))] ∧ B4 Eq H0 [] H1) (by kernel_rfl) ?_ hx ?_ hO ?_
 ·intro s1 H o hO h;clear hx;cbv;refine A6 hE h (fun hc h => ?_) (fun hc h => ?_)
  ·cbv;refine C2 hE eYq h fun x3 h => ?_;cbv;refine AI hE (g := fun r4 => .bool r4) h (fun r4 hx => bC x3 r4 hx) (.refl _) fun r4 h => ?_;cbv;refine A6 hE h (fun hc h => ?_) (fun hc h => ?_)
   ·cbv;cases h;exact ⟨_, _, rfl, ⟨rfl, rfl, hO⟩, .e rfl .z, rfl⟩
   cbv;cases h;exact ⟨_, rfl, .e4 .z, rfl, hO⟩
  cbv;cases h;exact ⟨_, _, rfl, ⟨rfl, rfl, hO⟩, .z, rfl⟩
 ·exact .e4 .z
 clear hx
 rcases s2 with y5 | y6
 ·rintro e l H ⟨rfl, rfl, hO⟩;cbv;cases h;exact hK _ _ _ hO (.refl _)
 rintro e l H ⟨rfl, rfl, hO⟩;cbv;cases h;exact hK _ _ _ hO (.refl _)
theorem c144 (N aO r) (h : T7 N aO = some r) : B6 prog 144 [(Qn aO)] (.bool r) := by
 unfold T7 at h
 refine J9 cf0 func144 call144 ntmps144 ?_;intro E H0 K hE hK hO;cbv;cases h;exact hK _ _ _ hO (.refl _)
theorem c103 (N aB r) (h : Be N aB = some r) : B6 prog 103 [(Nj aB)] (vi r) := by
 unfold Be at h
 refine J9 cf0 func103 call103 ntmps103 ?_;intro E H0 K hE hK hO;cbv;refine A7 hE (g := fun r1 => vi r1) h (fun r1 hx => c143 N aB.Fields (.func (.func 144) [] []) (fun y1 => T7 N y1) (fun y1 r hx => B6.value (F := []) (C := []) (c144 N y1 r hx)) r1 hx) (.refl _) fun r1 h => ?_;cbv;cases h;exact hK _ _ _ hO (.refl _)
def cf54 : Cf := ⟨[8], [(8, 13), (13, 12)], [], [], [], []⟩
theorem c54 (N aJ aZ bT aQ r) (h : Ey N aJ aZ bT aQ = some r) : B6 prog 54 [.sl (Ar.lst eXW aJ) .ro, vi aZ, (An bT), vi aQ] (.tup [(E3 r.1), vi r.2]) := by
 unfold Ey at h
 refine Ks cf54 G7 func54 (by rfl) (by kernel_rfl) call54 ntmps54 (by rfl) (by rfl) ?_;intro E H0 K hE hK hG;have hO : B4 Eq H0 [] H0 := .start B7 rfl;cbv;refine C8 hE hO fun b1 H hO => ?_;cbv;refine A7 hE h (c51 N aJ) (.refl _) fun r2 h => ?_;cbv;refine A6 hE h (fun hc h => ?_) (fun hc h => ?_)
 ·cbv;refine A8 hE hO 0 rfl rfl fun H hO => ?_;cbv;refine B1 hE hO 0 rfl ?_;cbv;cases h;exact hK _ _ _ hO (.tup (.cons (.agg (.cons (.lit _ (B3)) (.refl _))) (.refl _)))
 cbv;refine D5 hE ?_;cbv;refine A6 hE h (fun hc h => ?_) (fun hc h => ?_)
 ·cbv;refine A8 hE hO 0 rfl rfl fun H hO => ?_;cbv;refine B1 hE hO 0 rfl ?_;cbv;cases h;exact hK _ _ _ hO (.tup (.cons (.agg (.cons (.lit _ (B3)) (.refl _))) (.refl _)))
 cbv;refine A6 hE h (fun hc h => ?_) (fun hc h => ?_)
 ·cbv;refine A8 hE hO 0 rfl rfl fun H hO => ?_;cbv;refine B1 hE hO 0 rfl ?_;cbv;cases h;exact hK _ _ _ hO (.tup (.cons (.agg (.cons (.lit _ (B3)) (.refl _))) (.refl _)))
 cbv;refine P2 hE (g := fun r3 => .sl (Ar.lst eXU r3) .ro) h (c101 N ([(⟨⟨#[]⟩, aZ⟩ : K6)]) (Ar.ar .add .i64 aQ 1)) (.cons (.lit _ (C7 ((eYi (⟨⟨#[]⟩, aZ⟩ : K6)).symm) (B3))) (.refl _)) fun r3 h => ?_;cbv;refine P2 hE (g := fun r4 => .tup [vi r4.1, vi r4.2]) h (c100 N aJ r3 bT) (.refl _) fun r4 h => ?_;cbv;refine A6 hE h (fun hc h => ?_) (fun hc h => ?_)
 ·cbv;refine A8 hE hO 0 rfl rfl fun H hO => ?_;cbv;refine B1 hE hO 0 rfl ?_;cbv;cases h;exact hK _ _ _ hO (.tup (.cons (.agg (.cons (.lit _ (B3)) (.refl _))) (.refl _)))
 cbv;refine A6 hE h (fun hc h => ?_) (fun hc h => ?_)
 ·cbv;refine A8 hE hO 0 rfl rfl fun H hO => ?_;cbv;refine B1 hE hO 0 rfl ?_;cbv;cases h;exact hK _ _ _ hO (.tup (.cons (.agg (.cons (.lit _ (B3)) (.refl _))) (.refl _)))
 cbv;refine C2 hE eYk h fun x5 h => ?_;cbv;refine P2 hE (g := fun r6 => vi r6) h (c103 N x5) (.refl _) fun r6 h => ?_;cbv;refine P2 hE (g := fun r7 => .tup [.sl (Ar.lst eXI r7.1) .ro, vi r7.2]) h (c102 N N bT r6 aQ) (.refl _) fun r7 h => ?_;cbv;refine A6 hE h (fun hc h => ?_) (fun hc h => ?_)
 ·cbv;refine A8 hE hO 0 rfl rfl fun H hO => ?_;cbv;refine B1 hE hO 0 rfl ?_;cbv;cases h;exact hK _ _ _ hO (.tup (.cons (.agg (.cons (.lit _ (B3)) (.refl _))) (.refl _)))
 cbv;refine D5 hE ?_;cbv;obtain ⟨l8, hmk, h⟩ := bind_some h;obtain ⟨_, hin, h⟩ := bind_some h;obtain ⟨l9, hup, h⟩ := bind_some h;refine Iw hE (f := eXM) (z0 := ([] : List A2)) (by decide) (.eq (eXP []) (.lit _ (B3))) hO (F := fun l => some l) (r := l8) (show (OQ (Ar.len aJ) (Ar.len aJ) ([] : List A2)).bind (fun l => some l) = some l8 by rw [hmk]; rfl) fun l8' q8 H hq8 e8 hO => ?_;cases e8;cbv
 have hb : 0 ≤ aZ ∧ aZ < (l8.length : Nat) := by
  unfold Bx Dw at hin
  split at hin
  ·rename_i hd; exact of_decide_eq_true hd
  cases hin
 have e9 : l9 = l8.set aZ.toNat r7.1 := by
  unfold Ba at hup
  cases hx : C3 l8 aZ with
  | none => rw [hx] at hup; cases hup
  | some y => rw [hx] at hup; cases hup; rfl
 refine WJ hE (f := eXM) hO hq8 0 rfl hb ?_;cbv;refine TR hE (f := eXM) (tz := 1) (x' := r7.1) (fun x => ⟨.sl (Ar.lst eXI r7.1) .ro, .refl _, rfl, rfl, by rw [eXP, eXP]; rfl⟩) (by decide) hO hq8 0 rfl hb fun H hO => ?_
 rw [← e9] at hO
 have hq9 : T6 q8 (Ar.len l9) := by rw [e9, Ar.len_eq, List.length_set, ← Ar.len_eq]; exact hq8
 cbv;refine A8 hE hO 1 rfl rfl fun H hO => ?_;cbv;refine B1 hE hO 1 rfl ?_;cbv;cases h;obtain ⟨H2, g1, g2⟩ := hO.frzG (f := eXM) 0 rfl hq9;exact hG _ _ _ _ g1.agg1.tup2 g2 (.refl _)
def cf16 : Cf := ⟨[4, 10], [], [(77, 23)], [], [(90, 2000010)], []⟩
theorem c16 (N aJ aA r) (h : Y6 N aJ aA = some r) : B6 prog 16 [.sl (Ar.lst eXW aJ) .ro, (B9 aA)] (.tup [(H6 r.1), vi r.2]) := by
 unfold Y6 at h
 refine J9 cf16 func16 call16 ntmps16 ?_;intro E H0 K hE hK hO;cbv;refine C8 hE hO fun b1 H hO => ?_;cbv;refine A7 hE h (c51 N aJ) (.refl _) fun r2 h => ?_;cbv;refine A6 hE h (fun hc h => ?_) (fun hc h => ?_)
 ·cbv;refine A8 hE hO 0 rfl rfl fun H hO => ?_;cbv;refine B1 hE hO 0 rfl ?_;cbv;cases h;exact hK _ _ _ hO (.tup (.cons (.agg (.cons (.refl _) (.cons (.lit _ (B3)) (.cons (.lit _ (B3)) (.refl _))))) (.refl _)))
 cbv;refine A7 hE h (c52 N aA) (.refl _) fun r3 h => ?_;cbv;refine A6 hE h (fun hc h => ?_) (fun hc h => ?_)
 ·cbv;refine A8 hE hO 0 rfl rfl fun H hO => ?_;cbv;refine B1 hE hO 0 rfl ?_;cbv;cases h;exact hK _ _ _ hO (.tup (.cons (.agg (.cons (.refl _) (.cons (.lit _ (B3)) (.cons (.lit _ (B3)) (.refl _))))) (.refl _)))
 cbv;refine A7 hE h (c53 N N aA) (.refl _) fun r4 h => ?_;cbv;refine A6 hE h (fun hc h => ?_) (fun hc h => ?_)
 ·cbv;refine A8 hE hO 0 rfl rfl fun H hO => ?_;cbv;refine B1 hE hO 0 rfl ?_;cbv;cases h;exact hK _ _ _ hO (.tup (.cons (.agg (.cons (.refl _) (.cons (.lit _ (B3)) (.cons (.lit _ (B3)) (.refl _))))) (.refl _)))
 cbv;refine D5 hE ?_;cbv;refine A6 hE h (fun hc h => ?_) (fun hc h => ?_)
 ·cbv;refine A8 hE hO 0 rfl rfl fun H hO => ?_;cbv;refine B1 hE hO 0 rfl ?_;cbv;cases h;exact hK _ _ _ hO (.tup (.cons (.agg (.cons (.refl _) (.cons (.lit _ (B3)) (.cons (.lit _ (B3)) (.refl _))))) (.refl _)))
 cbv;refine D5 hE ?_;cbv;refine Iw hE (f := V.bool) (by decide) (z0 := (false : Bool)) ((.refl _)) hO h fun l6 q5 H hq5 h hO => ?_;cbv;refine C8 hE hO fun b7 H hO => ?_;cbv;refine A8 hE hO 0 rfl rfl fun H hO => ?_;cbv;refine B1 hE hO 0 rfl ?_;cbv;refine S0 hE hO hq5 1 rfl h fun h => ?_;cbv;refine S6 hE (f := V.bool) (esz := 1) (tz := 1) (off := 0) (u := (fun x8 : Bool => true)) (fun _ => ⟨.bool true, .refl _, rfl, rfl, rfl⟩) (by decide) hO hq5 1 rfl h fun l9 H hq5 h hO => ?_;cbv;refine D5 hE ?_;cbv;replace hO := hO.cast (L' := [.blk b7 (.cells [vi (Ar.len aJ), .own q5.id q5.lo q5.n, .sl (Ar.lst eXS ([])) .nil]), .blk q5.id (.arr 1 (q5.pre ++ Ar.lst V.bool l9 ++ q5.rest)), .blk b1 (.cells [vi 0, .sl [] .nil, .sl [] .nil])]) (by first | (simp only [← B3]; done) | (simp only [← B3]; rfl));replace hO := hO.tl0 (t := .nil) rfl;obtain ⟨s12, hx, h⟩ := bind_some h;refine I6 cf16 hE G7 (γ := D6) (fun s10 g => [(0, .v (.sl (Ar.lst eXW aJ) .ro)), (4, .v (.ref b1 0)), (9, .v (vi (Ar.len r3.1.States))), (10, .v (.ref b7 0)), (53, .v (.sl (Ar.lst eXK r3.1.Edges) .ro)), (54, .v (vi (Ar.len r3.1.Edges))), (55, .v (vi s10.1))]) (fun s10 g H1 => N2 g ∧ B4 Eq H0 [.tl g, .blk b7 (.cells [vi s10.2.Types, .own q5.id q5.lo q5.n, .sl (Ar.lst eXS s10.2.Moves) g]), .blk q5.id (.arr 1 (q5.pre ++ Ar.lst V.bool l9 ++ q5.rest)), .blk b1 (.cells [vi 0, .sl [] .nil, .sl [] .nil])] H1) (fun x e l H1 => match (generalizing := false) x with | .inl y => ∃ u1 : D6, N2 u1 ∧ e = .exit 0 ∧ l = [(4, .v (.ref b1 0)), (10, .v (.ref b7 0))] ∧ B4 Eq H0 [.tl u1, .blk b7 (.cells [vi y.Types, .own q5.id q5.lo q5.n, .sl (Ar.lst eXS y.Moves) u1]), .blk q5.id (.arr 1 (q5.pre ++ Ar.lst V.bool l9 ++ q5.rest)), .blk b1 (.cells [vi 0, .sl [] .nil, .sl [] .nil])] H1 | .inr y => ∃ u1 : D6, N2 u1 ∧ e = .ret ∧ l = [(4, .v (.ref b1 0)), (5, .v (vi y.1))] ∧ B4 Eq H0 [.tl u1, .blk b7 (.cells [vi y.2.Types, .own q5.id q5.lo q5.n, .sl (Ar.lst eXS y.2.Moves) u1]), .blk q5.id (.arr 1 (q5.pre ++ Ar.lst V.bool l9 ++ q5.rest)), .blk b1 (.cells [vi 0, .sl [] .nil, .sl [] .nil])] H1) (by kernel_rfl) ?_ .nil hx ?_ ?_ ?_
 ·rintro s10 t11 H o ⟨ht11, hO⟩ h;clear hx;cbv;refine A6 hE h (fun hc h => ?_) (fun hc h => ?_)
  ·cbv;refine C2 hE eXY h fun x13 h => ?_;cbv;refine A7 hE h (c54 N aJ x13.Typ x13.Cond x13.Var) (.refl _) fun r14 h => ?_;cbv;refine A6 hE h (fun hc h => ?_) (fun hc h => ?_)
   ·cbv;refine A8 hE hO 3 rfl rfl fun H hO => ?_;cbv;cases h;exact ⟨_, _, rfl, ⟨t11, ht11, rfl, rfl, hO⟩, .e2 .z, rfl⟩
   cbv;obtain ⟨s15, hx, h⟩ := bind_some h;refine J8 cf16 hE G7 (fun e l H1 => e = .normal ∧ l = [(0, .v (.sl (Ar.lst eXW aJ) .ro)), (4, .v (.ref b1 0)), (9, .v (vi (Ar.len r3.1.States))), (10, .v (.ref b7 0)), (12, .v (.eref (R0 x13) 0)), (13, .v (.eref (O6 r14.1) 0)), (15, .v (vi s15)), (53, .v (.sl (Ar.lst eXK r3.1.Edges) .ro)), (54, .v (vi (Ar.len r3.1.Edges))), (55, .v (vi s10.1))] ∧ B4 Eq H0 [.tl t11, .blk b7 (.cells [vi s10.2.Types, .own q5.id q5.lo q5.n, .sl (Ar.lst eXS s10.2.Moves) t11]), .blk q5.id (.arr 1 (q5.pre ++ Ar.lst V.bool l9 ++ q5.rest)), .blk b1 (.cells [vi 0, .sl [] .nil, .sl [] .nil])] H1) (by kernel_rfl) ?_ ?_
   ·clear h;have h := hx;clear hx;cbv;refine A6 hE h (fun hc h => ?_) (fun hc h => ?_)
    ·cbv;cases h;exact ⟨_, ⟨rfl, rfl, hO⟩, .e2 (.e4 (.e4 .z)), rfl⟩
    cbv;cases h;exact ⟨_, ⟨rfl, rfl, hO⟩, .e2 (.e4 (.e4 .z)), rfl⟩
   clear hx;rintro e l H ⟨rfl, rfl, hO⟩;cbv;refine B1 hE hO 1 rfl ?_;cbv;refine V9 (f := eXS) hE Jj (by decide) hO 0 rfl ht11 (l := s10.2.Moves) (m := [(⟨x13.From, s15, r14.1⟩ : D0)]) (.refl _) (.lstc (.eq (eXQ (⟨x13.From, s15, r14.1⟩ : D0)) (.refl _)) (.lst0)) h fun l17 t16 H hO ht16 h => ?_;cbv;refine A8 hE hO 1 rfl rfl fun H hO => ?_;cbv;cases h;exact ⟨_, t16, rfl, .e rfl (.e2 (.e4 .z)), rfl, ht16, hO⟩
  cbv;cases h;exact ⟨_, _, rfl, ⟨t11, ht11, rfl, rfl, hO⟩, .e2 .z, rfl⟩
 ·exact .e rfl (.e2 (.e4 .z))
 ·exact ⟨trivial, hO⟩
 clear hx
 rcases s12 with y18 | y20
 ·rintro e l H ⟨t19, ht19, rfl, rfl, hO⟩;cbv;refine QC hE hO hq5 1 2 rfl rfl rfl (by decide) fun H hO => ?_;cbv;refine B1 hE hO 1 rfl ?_;cbv;refine A8 hE hO 2 rfl rfl fun H hO => ?_;cbv;refine B1 hE hO 2 rfl ?_;cbv;cases h;exact hK _ _ _ hO (.tup (.cons (.agg (.cons (.refl _) (.cons (.refl _) (.cons (.ro _ _) (.refl _))))) (.refl _)))
 rintro e l H ⟨t21, ht21, rfl, rfl, hO⟩;cbv;refine B1 hE hO 3 rfl ?_;cbv;cases h;exact hK _ _ _ hO (.tup (.cons (.agg (.cons (.refl _) (.cons (.lit _ (B3)) (.cons (.lit _ (B3)) (.refl _))))) (.refl _)))
def cf112 : Cf := ⟨[], [(6, 8)], [], [], [], []⟩
theorem c112 (N aC aE r) (h : GC N aC aE = some r) : B6 prog 112 [.sl (Ar.lst eXI aC) .ro, .sl (Ar.lst eXI aE) .ro] (.bool r) := by
 unfold GC at h
 refine J9 cf112 func112 call112 ntmps112 ?_;intro E H0 K hE hK hO;cbv;refine D5 hE ?_;cbv;refine D5 hE ?_;cbv;refine A6 hE h (fun hc h => ?_) (fun hc h => ?_)
 ·cbv;cases h;exact hK _ _ _ hO (.refl _)
 cbv;obtain ⟨s2, hx, h⟩ := bind_some h;refine F3 cf112 hE G7 (fun s1 => [(0, .v (.sl (Ar.lst eXI aC) .ro)), (1, .v (.sl (Ar.lst eXI aE) .ro)), (5, .v (vi s1))]) (fun s1 H1 => B4 Eq H0 [] H1) (fun x e l H1 => match (generalizing := false) x with | .inl y => e = .exit 0 ∧ l = [] ∧ B4 Eq H0 [] H1 | .inr y => e = .ret ∧ l = [(4, .b false)] ∧ B4 Eq H0 [] H1) (by kernel_rfl) ?_ hx ?_ hO ?_
 ·intro s1 H o hO h;clear hx;cbv;refine D5 hE ?_;cbv;refine A6 hE h (fun hc h => ?_) (fun hc h => ?_)
  ·cbv;refine C2 hE eXR h fun x3 h => ?_;cbv;refine C2 hE eXR h fun x4 h => ?_;cbv;refine A6 hE h (fun hc h => ?_) (fun hc h => ?_)
   ·cbv;cases h;exact ⟨_, _, rfl, ⟨rfl, rfl, hO⟩, .b rfl (.z), rfl⟩
   cbv;cases h;exact ⟨_, rfl, .e rfl (.e2 .z), rfl, hO⟩
  cbv;cases h;exact ⟨_, _, rfl, ⟨rfl, rfl, hO⟩, .z, rfl⟩
 ·exact .e rfl (.e2 .z)
 clear hx
 rcases s2 with y5 | y6
 ·rintro e l H ⟨rfl, rfl, hO⟩;cbv;cases h;exact hK _ _ _ hO (.refl _)
 rintro e l H ⟨rfl, rfl, hO⟩;cbv;cases h;exact hK _ _ _ hO (.refl _)
def cf59 : Cf := ⟨[], [(6, 10)], [], [], [], []⟩
theorem c59 (N aA bG r) (h : GA N aA bG = some r) : B6 prog 59 [(E3 aA), (E3 bG)] (.bool r) := by
 unfold GA at h
 refine J9 cf59 func59 call59 ntmps59 ?_;intro E H0 K hE hK hO;cbv;refine D5 hE ?_;cbv;refine D5 hE ?_;cbv;refine A6 hE h (fun hc h => ?_) (fun hc h => ?_)
 ·cbv;cases h;exact hK _ _ _ hO (.refl _)
 cbv;obtain ⟨s2, hx, h⟩ := bind_some h;refine F3 cf59 hE G7 (fun s1 => [(2, .v (.eref (O6 aA) 0)), (3, .v (.eref (O6 bG) 0)), (5, .v (vi s1))]) (fun s1 H1 => B4 Eq H0 [] H1) (fun x e l H1 => match (generalizing := false) x with | .inl y => e = .exit 0 ∧ l = [] ∧ B4 Eq H0 [] H1 | .inr y => e = .ret ∧ l = [(4, .b false)] ∧ B4 Eq H0 [] H1) (by kernel_rfl) ?_ hx ?_ hO ?_
 ·intro s1 H o hO h;clear hx;cbv;refine D5 hE ?_;cbv;refine A6 hE h (fun hc h => ?_) (fun hc h => ?_)
  ·cbv;refine C2 hE eXP h fun x3 h => ?_;cbv;refine C2 hE eXP h fun x4 h => ?_;cbv;refine A7 hE h (c112 N x3 x4) (.refl _) fun r5 h => ?_;cbv;refine A6 hE h (fun hc h => ?_) (fun hc h => ?_)
   ·cbv;cases h;exact ⟨_, _, rfl, ⟨rfl, rfl, hO⟩, .b rfl (.z), rfl⟩
   cbv;cases h;exact ⟨_, rfl, .e rfl (.e2 .z), rfl, hO⟩
  cbv;cases h;exact ⟨_, _, rfl, ⟨rfl, rfl, hO⟩, .z, rfl⟩
 ·exact .e rfl (.e2 .z)
 clear hx
 rcases s2 with y6 | y7
 ·rintro e l H ⟨rfl, rfl, hO⟩;cbv;cases h;exact hK _ _ _ hO (.refl _)
 rintro e l H ⟨rfl, rfl, hO⟩;cbv;cases h;exact hK _ _ _ hO (.refl _)
def cf18 : Cf := ⟨[], [(6, 10), (11, 14)], [], [], [], []⟩
theorem c18 (N aC aE r) (h : Ex N aC aE = some r) : B6 prog 18 [(H6 aC), (H6 aE)] (.bool r) := by
 unfold Ex at h
 refine J9 cf18 func18 call18 ntmps18 ?_;intro E H0 K hE hK hO;cbv;refine D5 hE ?_;cbv;refine D5 hE ?_;cbv;refine D5 hE ?_;cbv;refine D5 hE ?_;cbv;refine A6 hE h (fun hc h => ?_) (fun hc h => ?_)
 ·cbv;cases h;exact hK _ _ _ hO (.refl _)
 cbv;obtain ⟨s2, hx, h⟩ := bind_some h;refine F3 cf18 hE G7 (fun s1 => [(2, .v (.eref (C1 aC) 0)), (3, .v (.eref (C1 aE) 0)), (5, .v (vi s1))]) (fun s1 H1 => B4 Eq H0 [] H1) (fun x e l H1 => match (generalizing := false) x with | .inl y => e = .exit 0 ∧ l = [(2, .v (.eref (C1 aC) 0)), (3, .v (.eref (C1 aE) 0))] ∧ B4 Eq H0 [] H1 | .inr y => e = .ret ∧ l = [(4, .b false)] ∧ B4 Eq H0 [] H1) (by kernel_rfl) ?_ hx ?_ hO ?_
 ·intro s1 H o hO h;clear hx;cbv;refine D5 hE ?_;cbv;refine A6 hE h (fun hc h => ?_) (fun hc h => ?_)
  ·cbv;refine C2 hE (fun _ => rfl) h fun x3 h => ?_;cbv;refine C2 hE (fun _ => rfl) h fun x4 h => ?_;cbv;refine A6 hE h (fun hc h => ?_) (fun hc h => ?_)
   ·cbv;cases h;exact ⟨_, _, rfl, ⟨rfl, rfl, hO⟩, .b rfl (.z), rfl⟩
   cbv;cases h;exact ⟨_, rfl, .e rfl (.e2 .z), rfl, hO⟩
  cbv;cases h;exact ⟨_, _, rfl, ⟨rfl, rfl, hO⟩, .e2 .z, rfl⟩
 ·exact .e rfl (.e2 .z)
 clear hx
 rcases s2 with y5 | y13
 ·rintro e l H ⟨rfl, rfl, hO⟩;cbv;obtain ⟨s7, hx, h⟩ := bind_some h;refine F3 cf18 hE G7 (fun s6 => [(2, .v (.eref (C1 aC) 0)), (3, .v (.eref (C1 aE) 0)), (6, .v (vi s6))]) (fun s6 H1 => B4 Eq H0 [] H1) (fun x e l H1 => match (generalizing := false) x with | .inl y => e = .exit 2 ∧ l = [] ∧ B4 Eq H0 [] H1 | .inr y => e = .ret ∧ l = [(4, .b false)] ∧ B4 Eq H0 [] H1) (by kernel_rfl) ?_ hx ?_ hO ?_
  ·intro s6 H o hO h;clear hx;cbv;refine D5 hE ?_;cbv;refine A6 hE h (fun hc h => ?_) (fun hc h => ?_)
   ·cbv;refine C2 hE eXQ h fun x8 h => ?_;cbv;refine C2 hE eXQ h fun x9 h => ?_;cbv;refine A6 hE h (fun hc h => ?_) (fun hc h => ?_)
    ·cbv;cases h;exact ⟨_, _, rfl, ⟨rfl, rfl, hO⟩, .b rfl (.z), rfl⟩
    cbv;refine A7 hE h (c59 N x8.On x9.On) (.refl _) fun r10 h => ?_;cbv;refine A6 hE h (fun hc h => ?_) (fun hc h => ?_)
    ·cbv;cases h;exact ⟨_, _, rfl, ⟨rfl, rfl, hO⟩, .b rfl (.z), rfl⟩
    cbv;cases h;exact ⟨_, rfl, .e rfl (.e2 .z), rfl, hO⟩
   cbv;cases h;exact ⟨_, _, rfl, ⟨rfl, rfl, hO⟩, .z, rfl⟩
  ·exact .e rfl (.e2 .z)
  clear hx
  rcases s7 with y11 | y12
  ·rintro e l H ⟨rfl, rfl, hO⟩;cbv;cases h;exact hK _ _ _ hO (.refl _)
  rintro e l H ⟨rfl, rfl, hO⟩;cbv;cases h;exact hK _ _ _ hO (.refl _)
 rintro e l H ⟨rfl, rfl, hO⟩;cbv;cases h;exact hK _ _ _ hO (.refl _)
theorem c158 (N aF r) (h : V8 N aF = some r) : El prog 158 (fun yv => [yv, .eref (O6 aF) 0]) (List.map (fun (x : (Int × (List A2))) => [vi x.1, .sl (Ar.lst eXI x.2) .ro]) r) UL := by
 unfold V8 at h
 obtain ⟨⟨w0, u0⟩, h1, hr⟩ := bind_some h;clear h;have hr := O2 hr;subst hr;have h := h1;clear h1;refine K7 cf0 G7 func158 (by rfl) (by kernel_rfl) call158 ntmps158 (by rfl) (fun _ => rfl) ?_;intro yv I D hI hD hy tl F E H K hE hO hK hKD
 have hO : B4 (I (List.map (fun (x : (Int × (List A2))) => [vi x.1, .sl (Ar.lst eXI x.2) .ro]) (w0 ++ []) ++ tl)) F [] H := by rw [List.append_nil]; exact hO
 cbv;refine D5 hE ?_;cbv;obtain ⟨w2, w3, s6, hx, h1, he⟩ := K2 h;clear h;have h := h1;clear h1
 rw [he, List.append_assoc] at hO
 clear he;refine FX cf0 hE G7 (γ := Unit) (fun s1 g => [(0, .v (yv)), (6, .v (.sl (Ar.lst eXM aF.Sets) .ro)), (7, .v (vi (Ar.len aF.Sets))), (8, .v (vi s1))]) (fun s1 g w H1 => B4 (I (List.map (fun (x : (Int × (List A2))) => [vi x.1, .sl (Ar.lst eXI x.2) .ro]) w ++ tl)) F [] H1) (fun x e l w H1 => e = .exit 0 ∧ l = [] ∧ B4 (I (List.map (fun (x : (Int × (List A2))) => [vi x.1, .sl (Ar.lst eXI x.2) .ro]) w ++ tl)) F [] H1) (fun e l H1 => (e = .ret ∧ l = [] ∧ B4 D F [] H1)) (by kernel_rfl) ?_ (w' := w3 ++ []) () hx ?_ ?_ ?_ ?_
 ·rintro s1 _ w4 w5 H o hO h;clear hx
  skip
  cbv;refine A6 hE h (fun hc h => ?_) (fun hc h => ?_)
  ·cbv;refine C2 hE eXP h fun x7 h => ?_;cbv;refine D5 hE ?_;cbv;refine A6 hE h (fun hc h => ?_) (fun hc h => ?_)
   ·cbv;obtain ⟨w8, h1, he⟩ := P0 h;clear h;have h := h1;clear h1
    rw [he, List.append_assoc] at hO
    clear he;have hO : B4 (I ([vi s1, .sl (Ar.lst eXI x7) .ro] :: (List.map (fun (x : (Int × (List A2))) => [vi x.1, .sl (Ar.lst eXI x.2) .ro]) (w8 ++ w5) ++ tl))) F [] _ := hO;refine AF hE hI hD hy hO (.refl _) (fun H hO => ?_) (fun H hO => ?_)
    ·cbv;refine Fv hE (Ar.nt_eq _) ?_;cbv;obtain ⟨hw, rfl⟩ := C5 h
     rw [← hw] at hO
     exact ⟨_, (), rfl, .e4 .z, rfl, hO⟩
    clear h;cbv;refine Fu hE (Ar.nt_eq _) ?_;cbv;exact .inr ⟨_, ⟨rfl, rfl, hO⟩, .z, rfl⟩
   cbv;obtain ⟨hw, rfl⟩ := C5 h
   rw [← hw] at hO
   exact ⟨_, (), rfl, .e4 .z, rfl, hO⟩
  cbv;obtain ⟨hw, rfl⟩ := C5 h
  rw [← hw] at hO
  exact .inl ⟨_, _, rfl, ⟨rfl, rfl, hO⟩, .z, rfl⟩
 ·exact .e4 .z
 ·exact hO
 ·rintro e l H ⟨rfl, rfl, hO⟩;clear hx;cbv;obtain ⟨hw, _⟩ := C5 h
  rw [← hw] at hO
  exact hK _ _ _ hO trivial
 rintro e l H hX;obtain ⟨rfl, rfl, hO⟩ := hX;clear h;cbv;exact hKD _ _ _ hO trivial
theorem c113 (N aA r) (h : Q5 N aA = some r) : CA prog 113 [(E3 aA)] (fun v => DD prog v (r.map fun (x : (Int × (List A2))) => [vi x.1, .sl (Ar.lst eXI x.2) .ro])) := by
 unfold Q5 at h
 refine N7 cf0 G7 func113 (by rfl) (by kernel_rfl) call113 ntmps113 (by rfl) (by rfl) ?_;intro E H0 K hE hK;have hO : B4 Eq H0 [] H0 := .start B7 rfl;cbv;exact hK _ _ _ hO (N5 call158 (c158 N aA r h))
def cf117 : Cf := ⟨[2, 3], [], [], [], [], []⟩
theorem c117 (N aA r) (h : AD N aA = some r) : B6 prog 117 [(E3 aA)] (.tup [.bool r.1, vi r.2]) := by
 unfold AD at h
 refine J9 cf117 func117 call117 ntmps117 ?_;intro E H0 K hE hK hO;cbv;refine C8 hE hO fun b1 H hO => ?_;cbv;refine C8 hE hO fun b2 H hO => ?_;cbv;refine A7 hE h (c90 N ([aA])) (.cons (.lit _ (C7 ((eYg aA).symm) (B3))) (.refl _)) fun r3 h => ?_;cbv;refine A6 hE h (fun hc h => ?_) (fun hc h => ?_)
 ·cbv;refine A8 hE hO 1 rfl rfl fun H hO => ?_;cbv;refine A8 hE hO 0 rfl rfl fun H hO => ?_;cbv;refine B1 hE hO 1 rfl ?_;cbv;refine B1 hE hO 0 rfl ?_;cbv;cases h;exact hK _ _ _ hO (.refl _)
 cbv;refine Q0 hE h (c113 N aA) (.refl _) fun r4 v5 hv5 h => ?_;cbv;obtain ⟨o10, hx, h⟩ := bind_some h;refine AG cf117 hE G7 (ι := Unit) (enc := fun (x : (Int × (List A2))) => [vi x.1, .sl (Ar.lst eXI x.2) .ro]) (fun (s7 : Unit) F H => B4 Eq F [.blk b2 (.cells [vi 0]), .blk b1 (.cells [.bool false])] H) (fun (r : Unit) e F H => e = .ret ∧ B4 Eq F [.blk b2 (.cells [vi 0]), .blk b1 (.cells [.bool false])] H) (fun i s7 y6 => [(2, .v (.ref b1 0)), (3, .v (.ref b2 0))]) (fun i s7 y6 F H => B4 Eq F [.blk b2 (.cells [vi 0]), .blk b1 (.cells [.bool false])] H) (fun _ => B4.stable B7 _) (fun _ _ => C6.con (B4.stable B7 _)) (fun _ _ _ => B4.stable B7 _) hv5 hx (hO) (by decide) (fun _ => rfl) (by kernel_rfl) (by kernel_rfl) ?_ ?_ ?_ ?_
 ·rintro E i9 y6 s7 F8 H hE hO;clear hx h;cbv;exact ⟨(), hO, .e2 .z, rfl⟩
 ·rintro E i9 _ y6 s7 F8 H o hE hF h hO;clear hx;cbv;refine A8 hE hO 1 rfl rfl fun H hO => ?_;cbv;refine A8 hE hO 0 rfl rfl fun H hO => ?_;cbv;cases h;exact ⟨_, rfl, rfl, ⟨rfl, hO⟩⟩
 ·rintro d11 s13 H rfl hd hO;have hO : B4 Eq H0 [.blk b2 (.cells [vi 0]), .blk b1 (.cells [.bool false]), .blk d11 DB] H := B4.dblk hd hO;clear hd;clear hx;cbv;refine A8 hE hO 1 rfl rfl fun H hO => ?_;cbv;refine A8 hE hO 0 rfl rfl fun H hO => ?_;cbv;refine Ax hE hO 2 rfl fun H hO => ?_;cbv;refine B1 hE hO 1 rfl ?_;cbv;refine B1 hE hO 0 rfl ?_;cbv;cases h;exact hK _ _ _ hO (.refl _)
 rintro d11 y14 e H rfl hd hX;clear hx
 rcases hX with ⟨rfl, hO⟩
 have hO : B4 Eq H0 [.blk b2 (.cells [vi 0]), .blk b1 (.cells [.bool false]), .blk d11 DB] H := B4.dblk hd hO;clear hd;cbv;refine Ax hE hO 2 rfl fun H hO => ?_;cbv;refine B1 hE hO 1 rfl ?_;cbv;refine B1 hE hO 0 rfl ?_;cbv;cases h;exact hK _ _ _ hO (.refl _)
theorem c70 (N aA r) (h : X5 N aA = some r) : B6 prog 70 [(E3 aA)] (.bool r) := by
 unfold X5 at h
 refine J9 cf0 func70 call70 ntmps70 ?_;intro E H0 K hE hK hO;cbv;refine A7 hE h (c117 N aA) (.refl _) fun r1 h => ?_;cbv;cases h;exact hK _ _ _ hO (.refl _)
def cf60 : Cf := ⟨[6000004], [(16, 5), (17, 9)], [], [], [], []⟩
theorem c60 (N aB r) (h : M6 N aB = some r) : Qj prog 60 [(H6 aB)] (.int .i64) (V.int .i64) (V.int .i64) r := by
 unfold M6 at h
 refine Qc (T := TT) cf60 G7 func60 (by rfl) (by kernel_rfl) call60 ntmps60 (by rfl) (by rfl) ?_;intro E H0 K hE hK;have hO : B4 Eq H0 [] H0 := .start B7 rfl;cbv;refine JO hE (.int .i64) (V.int .i64) (V.int .i64) hO fun m1 o2 H ho2 hO => ?_;cbv;refine HT hE (f := (V.int .i64)) hO fun q3 H hq3 hO => ?_;cbv;refine D5 hE ?_;cbv;obtain ⟨s7, hx, h⟩ := bind_some h;refine I6 cf60 hE G7 (γ := OG × Obj) (fun s4 g => [(1, .v (.eref (C1 aB) 0)), (3, .v (.map m1)), (4, .v (.own g.1.id g.1.lo g.1.n)), (13, .v (.sl (Ar.lst V.bool aB.Finals) .ro)), (14, .v (vi (Ar.len aB.Finals))), (15, .v (vi s4.1))]) (fun s4 g H1 => T6 g.1 (Ar.len s4.2.1) ∧ DX (.int .i64) (V.int .i64) (V.int .i64) g.2 s4.2.2 ∧ B4 Eq H0 [.blk g.1.id (.arr 1 (g.1.pre ++ Ar.lst (V.int .i64) s4.2.1 ++ g.1.rest)), .blk m1 (.obj g.2)] H1) (fun x e l H1 => ∃ u1 : OG, T6 u1 (Ar.len x.1) ∧ ∃ u2 : Obj, DX (.int .i64) (V.int .i64) (V.int .i64) u2 x.2 ∧ e = .exit 0 ∧ l = [(1, .v (.eref (C1 aB) 0)), (3, .v (.map m1)), (4, .v (.own u1.id u1.lo u1.n))] ∧ B4 Eq H0 [.blk u1.id (.arr 1 (u1.pre ++ Ar.lst (V.int .i64) x.1 ++ u1.rest)), .blk m1 (.obj u2)] H1) (by kernel_rfl) ?_ (⟨q3, o2⟩) hx ?_ ?_ ?_
 ·rintro s4 ⟨q5, q6⟩ H o ⟨hq5, hq6, hO⟩ h;clear hx;cbv;refine A6 hE h (fun hc h => ?_) (fun hc h => ?_)
  ·cbv;refine C2 hE (fun _ => rfl) h fun x8 h => ?_;cbv;refine A6 hE h (fun hc h => ?_) (fun hc h => ?_)
   ·cbv;refine Ft hE (kt := 3) (et := 3) (by kernel_rfl) (by kernel_rfl) (Z2 .i64) (NX .i64) hO hq6 1 rfl h fun l10 o9 H ho9 h hO => ?_;cbv;refine DN (f := (V.int .i64)) hE (fun _ => rfl) (by decide) hO hq5 0 rfl (m := [s4.1]) (BD (f := (V.int .i64)) hE (fun _ => rfl) (.lstc (.refl _) (.lst0))) h fun l12 q11 H hq11 hO h => ?_;cbv;cases h;exact ⟨_, ⟨q11, o9⟩, rfl, .e2 (.e4 .z), rfl, hq11, ho9, hO⟩
   cbv;cases h;exact ⟨_, ⟨q5, q6⟩, rfl, .e2 (.e4 .z), rfl, hq5, hq6, hO⟩
  cbv;cases h;exact ⟨_, _, rfl, ⟨q5, hq5, q6, hq6, rfl, rfl, hO⟩, .e rfl (.e2 .z), rfl⟩
 ·exact .e2 (.e4 .z)
 ·exact ⟨hq3, ho2, hO⟩
 clear hx;rintro e l H ⟨q13, hq13, q14, hq14, rfl, rfl, hO⟩;cbv;obtain ⟨s18, hx, h⟩ := bind_some h;refine I6 cf60 hE G7 (γ := OG × Obj) (fun s15 g => [(1, .v (.eref (C1 aB) 0)), (3, .v (.map m1)), (4, .v (.own g.1.id g.1.lo g.1.n))]) (fun s15 g H1 => T6 g.1 (Ar.len s15.1) ∧ DX (.int .i64) (V.int .i64) (V.int .i64) g.2 s15.2 ∧ B4 Eq H0 [.blk g.1.id (.arr 1 (g.1.pre ++ Ar.lst (V.int .i64) s15.1 ++ g.1.rest)), .blk m1 (.obj g.2)] H1) (fun x e l H1 => ∃ u1 : OG, T6 u1 (Ar.len x.1) ∧ ∃ u2 : Obj, DX (.int .i64) (V.int .i64) (V.int .i64) u2 x.2 ∧ e = .exit 2 ∧ l = [(3, .v (.map m1))] ∧ B4 Eq H0 [.blk u1.id (.arr 1 (u1.pre ++ Ar.lst (V.int .i64) x.1 ++ u1.rest)), .blk m1 (.obj u2)] H1) (by kernel_rfl) ?_ (⟨q13, q14⟩) hx ?_ ?_ ?_
 ·rintro s15 ⟨q16, q17⟩ H o ⟨hq16, hq17, hO⟩ h;clear hx;cbv;refine EC hE hq16 ?_;cbv;refine A6 hE h (fun hc h => ?_) (fun hc h => ?_)
  ·cbv;refine D5 hE ?_;cbv;obtain ⟨s22, hx, h⟩ := bind_some h;refine I6 cf60 hE G7 (γ := OG × Obj) (fun s19 g => [(1, .v (.eref (C1 aB) 0)), (3, .v (.map m1)), (4, .v (.own g.1.id g.1.lo g.1.n)), (34, .v (.sl (Ar.lst eXS aB.Moves) .ro)), (35, .v (vi (Ar.len aB.Moves))), (36, .v (vi s19.1))]) (fun s19 g H1 => T6 g.1 (Ar.len s19.2.1) ∧ DX (.int .i64) (V.int .i64) (V.int .i64) g.2 s19.2.2 ∧ B4 Eq H0 [.blk g.1.id (.arr 1 (g.1.pre ++ Ar.lst (V.int .i64) s19.2.1 ++ g.1.rest)), .blk m1 (.obj g.2)] H1) (fun x e l H1 => ∃ u1 : OG, T6 u1 (Ar.len x.1) ∧ ∃ u2 : Obj, DX (.int .i64) (V.int .i64) (V.int .i64) u2 x.2 ∧ e = .exit 4 ∧ l = [(1, .v (.eref (C1 aB) 0)), (3, .v (.map m1)), (4, .v (.own u1.id u1.lo u1.n))] ∧ B4 Eq H0 [.blk u1.id (.arr 1 (u1.pre ++ Ar.lst (V.int .i64) x.1 ++ u1.rest)), .blk m1 (.obj u2)] H1) (by kernel_rfl) ?_ (⟨q16, q17⟩) hx ?_ ?_ ?_
   ·rintro s19 ⟨q20, q21⟩ H o ⟨hq20, hq21, hO⟩ h;clear hx;cbv;refine A6 hE h (fun hc h => ?_) (fun hc h => ?_)
    ·cbv;refine C2 hE eXQ h fun x23 h => ?_;cbv;refine Mz hE (kt := 3) (et := 3) (by kernel_rfl) (by kernel_rfl) (Z2 .i64) (0 : Int) (by kernel_rfl) rfl hO hq21 1 rfl h fun r24 h => ?_;cbv;refine S0 hE hO hq20 0 rfl h fun h => ?_;cbv;refine AH hE (fun _ => rfl) hO hq20 0 rfl h fun x25 h => ?_;cbv;refine A6 hE h (fun hc h => ?_) (fun hc h => ?_)
     ·cbv;refine A7 hE h (c70 N x23.On) (.refl _) fun r26 h => ?_;cbv;refine A6 hE h (fun hc h => ?_) (fun hc h => ?_)
      ·cbv;refine S0 hE hO hq20 0 rfl h fun h => ?_;cbv;refine AH hE (fun _ => rfl) hO hq20 0 rfl h fun x27 h => ?_;cbv;refine MA hE (kt := 3) (et := 3) (by kernel_rfl) (by kernel_rfl) (Z2 .i64) (0 : Int) (by kernel_rfl) rfl hO hq21 1 rfl h fun r28 h => ?_;cbv;refine Ft hE (kt := 3) (et := 3) (by kernel_rfl) (by kernel_rfl) (Z2 .i64) (NX .i64) hO hq21 1 rfl h fun l30 o29 H ho29 h hO => ?_;cbv;refine DN (f := (V.int .i64)) hE (fun _ => rfl) (by decide) hO hq20 0 rfl (m := [x23.From]) (BD (f := (V.int .i64)) hE (fun _ => rfl) (.lstc (.refl _) (.lst0))) h fun l32 q31 H hq31 hO h => ?_;cbv;cases h;exact ⟨_, ⟨q31, o29⟩, rfl, .e2 (.e4 .z), rfl, hq31, ho29, hO⟩
      cbv;cases h;exact ⟨_, ⟨q20, q21⟩, rfl, .e2 (.e4 .z), rfl, hq20, hq21, hO⟩
     cbv;cases h;exact ⟨_, ⟨q20, q21⟩, rfl, .e2 (.e4 .z), rfl, hq20, hq21, hO⟩
    cbv;cases h;exact ⟨_, _, rfl, ⟨q20, hq20, q21, hq21, rfl, rfl, hO⟩, .e rfl (.e2 .z), rfl⟩
   ·exact .e2 (.e4 .z)
   ·exact ⟨hq16, hq17, hO⟩
   clear hx;rintro e l H ⟨q33, hq33, q34, hq34, rfl, rfl, hO⟩;cbv;refine NS hE hO hq33 0 rfl h fun l36 q35 hq35 hO h => ?_;cbv;cases h;exact ⟨_, ⟨q35, q34⟩, rfl, .e rfl (.e2 .z), rfl, hq35, hq34, hO⟩
  cbv;cases h;exact ⟨_, _, rfl, ⟨q16, hq16, q17, hq17, rfl, rfl, hO⟩, .e rfl .z, rfl⟩
 ·exact .e rfl (.e2 .z)
 ·exact ⟨hq13, hq14, hO⟩
 clear hx;rintro e l H ⟨q37, hq37, q38, hq38, rfl, rfl, hO⟩;cbv;cases h;exact hK _ _ _ 1 _ hq38 rfl hO
theorem c61 (N cD aF aR r) (h : K4 N cD aF aR = some r) (mx1 : Nat) (ox1 : Obj) (hox1 : DX (.int .i64) (V.int .i64) (V.int .i64) ox1 aF) (bx2 : Nat) : Qi prog 61 [(Bz cD), .eref [.map mx1] 0, .ref bx2 0] [(mx1, .obj ox1), (bx2, .cells [vi aR])] (.bool r) := by
 unfold K4 at h
 refine Qa (T := TT) cf0 G7 func61 (by rfl) (by kernel_rfl) call61 ntmps61 (by rfl) (by rfl) ?_;intro E H0 K hE hO hK;have hO : B4 Eq (DT H0 [(mx1, .obj ox1), (bx2, .cells [vi aR])]) [.blk mx1 (.obj ox1), .blk bx2 (.cells [vi aR])] H0 := hO;cbv;refine Mz hE (kt := 3) (et := 3) (by kernel_rfl) (by kernel_rfl) (Z2 .i64) (0 : Int) (by kernel_rfl) rfl hO hox1 0 rfl h fun r1 h => ?_;cbv;refine B1 hE hO 1 rfl ?_;cbv;cases h;exact hK _ _ (hO) (.refl _)
def cf62 : Cf := ⟨[2, 3], [], [], [], [], []⟩
theorem c62 (N aA r) (h : P1 N aA = some r) : B6 prog 62 [(E3 aA)] (.tup [(Av r.1), vi r.2]) := by
 unfold P1 at h
 refine J9 cf62 func62 call62 ntmps62 ?_;intro E H0 K hE hK hO;cbv;refine C8 hE hO fun b1 H hO => ?_;cbv;refine C8 hE hO fun b2 H hO => ?_;cbv;refine A7 hE h (c90 N ([aA])) (.cons (.lit _ (C7 ((eYg aA).symm) (B3))) (.refl _)) fun r3 h => ?_;cbv;refine A6 hE h (fun hc h => ?_) (fun hc h => ?_)
 ·cbv;refine A8 hE hO 1 rfl rfl fun H hO => ?_;cbv;refine A8 hE hO 0 rfl rfl fun H hO => ?_;cbv;refine B1 hE hO 1 rfl ?_;cbv;refine B1 hE hO 0 rfl ?_;cbv;cases h;exact hK _ _ _ hO (.refl _)
 cbv;refine Q0 hE h (c113 N aA) (.refl _) fun r4 v5 hv5 h => ?_;cbv;obtain ⟨o10, hx, h⟩ := bind_some h;refine AG cf62 hE G7 (ι := Unit) (enc := fun (x : (Int × (List A2))) => [vi x.1, .sl (Ar.lst eXI x.2) .ro]) (fun (s7 : Unit) F H => B4 Eq F [.blk b2 (.cells [vi 0]), .blk b1 (.cells [vi 0, vi 0])] H) (fun (r : B2) e F H => e = .ret ∧ B4 Eq F [.blk b2 (.cells [vi 0]), .blk b1 (.cells (K0 r))] H) (fun i s7 y6 => [(2, .v (.ref b1 0)), (3, .v (.ref b2 0)), (5, .v (vi y6.1)), (6, .v (.sl (Ar.lst eXI y6.2) .ro))]) (fun i s7 y6 F H => B4 Eq F [.blk b2 (.cells [vi 0]), .blk b1 (.cells [vi 0, vi 0])] H) (fun _ => B4.stable B7 _) (fun _ _ => C6.con (B4.stable B7 _)) (fun _ _ _ => B4.stable B7 _) hv5 hx (hO) (by decide) (fun _ => rfl) (by kernel_rfl) (by kernel_rfl) ?_ ?_ ?_ ?_
 ·rintro E i9 y6 s7 F8 H hE hO;clear hx h;cbv;exact ⟨(), hO, .e4 .z, rfl⟩
 ·rintro E i9 _ y6 s7 F8 H o hE hF h hO;clear hx;cbv;refine C2 hE eXR h fun x11 h => ?_;cbv;refine A8 hE hO 1 rfl rfl fun H hO => ?_;cbv;refine A8 hE hO 0 rfl rfl fun H hO => ?_;cbv;cases h;exact ⟨_, rfl, rfl, ⟨rfl, hO⟩⟩
 ·rintro d12 s14 H rfl hd hO;have hO : B4 Eq H0 [.blk b2 (.cells [vi 0]), .blk b1 (.cells [vi 0, vi 0]), .blk d12 DB] H := B4.dblk hd hO;clear hd;clear hx;cbv;refine A8 hE hO 1 rfl rfl fun H hO => ?_;cbv;refine A8 hE hO 0 rfl rfl fun H hO => ?_;cbv;refine Ax hE hO 2 rfl fun H hO => ?_;cbv;refine B1 hE hO 1 rfl ?_;cbv;refine B1 hE hO 0 rfl ?_;cbv;cases h;exact hK _ _ _ hO (.refl _)
 rintro d12 y15 e H rfl hd hX;clear hx
 rcases hX with ⟨rfl, hO⟩
 have hO : B4 Eq H0 [.blk b2 (.cells [vi 0]), .blk b1 (.cells (K0 y15)), .blk d12 DB] H := B4.dblk hd hO;clear hd;cbv;refine Ax hE hO 2 rfl fun H hO => ?_;cbv;refine B1 hE hO 1 rfl ?_;cbv;refine B1 hE hO 0 rfl ?_;cbv;cases h;exact hK _ _ _ hO (.refl _)
end Go.Ab
