/- GYCo2 -/
import Derived.Test.YtildiiggamckaaaGreatDoorT34
set_option linter.all false
namespace Go.Ab
open Go.RowKit Go.Proofs Go.Proofs.Tryz G6
variable [Ar] [G6]
set_option maxRecDepth 100000
theorem c223 (N bY aN r) (h : EH N bY aN = some r) : B6 prog 223 [vi bY, (IT aN)] (.bool r) := by
 unfold EH at h
 refine J9 cf0 func223 call223 ntmps223 ?_;intro E H0 K hE hK hO;cbv;cases h;exact hK _ _ _ hO (.refl _)
theorem c281 (N aN r) (h : Et N aN = some r) : B6 prog 281 [(IT aN)] (vi r) := by
 unfold Et at h
 refine J9 cf0 func281 call281 ntmps281 ?_;intro E H0 K hE hK hO;cbv;refine A6 hE h (fun hc h => ?_) (fun hc h => ?_)
 ·cbv;cases h;exact hK _ _ _ hO (.refl _)
 cbv;refine A6 hE h (fun hc h => ?_) (fun hc h => ?_)
 ·cbv;cases h;exact hK _ _ _ hO (.refl _)
 cbv;refine A6 hE h (fun hc h => ?_) (fun hc h => ?_)
 ·cbv;cases h;exact hK _ _ _ hO (.refl _)
 cbv;cases h;exact hK _ _ _ hO (.refl _)
def cf258 : Cf := ⟨[], [], [(5, 5)], [], [], []⟩
theorem c258 (N aN r) (h : Fc N aN = some r) : B6 prog 258 [(IT aN)] (vi r) := by
 unfold Fc at h
 refine J9 cf258 func258 call258 ntmps258 ?_;intro E H0 K hE hK hO;cbv;obtain ⟨s1, hx, h⟩ := bind_some h;refine J8 cf258 hE G7 (fun e l H1 => e = .normal ∧ l = [(1, .v (.eref (QW aN) 0)), (4, .v (vi aN.Kind)), (5, .v (.bool s1))] ∧ B4 Eq H0 [] H1) (by kernel_rfl) ?_ ?_
 ·clear h;have h := hx;clear hx;cbv;refine A6 hE h (fun hc h => ?_) (fun hc h => ?_)
  ·cbv;cases h;exact ⟨_, ⟨rfl, rfl, hO⟩, .e rfl (.e2 .z), rfl⟩
  cbv;cases h;exact ⟨_, ⟨rfl, rfl, hO⟩, .e rfl (.e2 .z), rfl⟩
 clear hx;rintro e l H ⟨rfl, rfl, hO⟩;cbv;refine A6 hE h (fun hc h => ?_) (fun hc h => ?_)
 ·cbv;refine A6 hE h (fun hc h => ?_) (fun hc h => ?_)
  ·cbv;cases h;exact hK _ _ _ hO (.refl _)
  cbv;refine A7 hE h (c281 N aN) (.refl _) fun r2 h => ?_;cbv;cases h;exact hK _ _ _ hO (.refl _)
 cbv;refine A6 hE h (fun hc h => ?_) (fun hc h => ?_)
 ·cbv;refine A6 hE h (fun hc h => ?_) (fun hc h => ?_)
  ·cbv;cases h;exact hK _ _ _ hO (.refl _)
  cbv;refine A7 hE h (c281 N aN) (.refl _) fun r3 h => ?_;cbv;cases h;exact hK _ _ _ hO (.refl _)
 cbv;cases h;exact hK _ _ _ hO (.refl _)
theorem c222 (N aD r) (h : Dd N aD = some r) : B6 prog 222 [(An aD)] (vi r) := by
 unfold Dd at h
 refine J9 cf0 func222 call222 ntmps222 ?_;intro E H0 K hE hK hO;cbv;refine A7 hE h (c258 N aD.Value) (.refl _) fun r1 h => ?_;cbv;refine A6 hE h (fun hc h => ?_) (fun hc h => ?_)
 ·cbv;cases h;exact hK _ _ _ hO (.refl _)
 cbv;refine A6 hE h (fun hc h => ?_) (fun hc h => ?_)
 ·cbv;refine A7 hE h (c223 N aD.Kind aD.Value) (.refl _) fun r2 h => ?_;cbv;refine A6 hE h (fun hc h => ?_) (fun hc h => ?_)
  ·cbv;cases h;exact hK _ _ _ hO (.refl _)
  cbv;cases h;exact hK _ _ _ hO (.refl _)
 cbv;cases h;exact hK _ _ _ hO (.refl _)
def cf180 : Cf := ⟨[], [], [(73, 15)], [], [], []⟩
theorem c180 (N aD r) (h : Gb N aD = some r) : B6 prog 180 [(An aD)] (vi r) := by
 unfold Gb at h
 refine J9 cf180 func180 call180 ntmps180 ?_;intro E H0 K hE hK hO;cbv;refine A7 hE h (c220 N aD.Op) (.refl _) fun r1 h => ?_;cbv;refine A6 hE h (fun hc h => ?_) (fun hc h => ?_)
 ·cbv;cases h;exact hK _ _ _ hO (.refl _)
 cbv;refine D5 hE ?_;cbv;refine A6 hE h (fun hc h => ?_) (fun hc h => ?_)
 ·cbv;cases h;exact hK _ _ _ hO (.refl _)
 cbv;refine A7 hE h (c221 N aD.Op) (.refl _) fun r2 h => ?_;cbv;refine A6 hE h (fun hc h => ?_) (fun hc h => ?_)
 ·cbv;cases h;exact hK _ _ _ hO (.refl _)
 cbv;refine A6 hE h (fun hc h => ?_) (fun hc h => ?_)
 ·cbv;cases h;exact hK _ _ _ hO (.refl _)
 cbv;obtain ⟨s3, hx, h⟩ := bind_some h;refine J8 cf180 hE G7 (fun e l H1 => match (generalizing := false) s3 with | .inl y => e = .normal ∧ l = [(1, .v (.eref (BR aD) 0)), (5, .v (.bool r2.1)), (6, .v (.bool r2.2)), (7, .v (.bool (Ar.cmp .eql aD.Op 4))), (8, .v (.bool (Ar.or (Ar.cmp .eql aD.Op 4) (Ar.cmp .eql aD.Op 0))))] ∧ B4 Eq H0 [] H1 | .inr y => e = .ret ∧ l = [(2, .v (vi y))] ∧ B4 Eq H0 [] H1) (by kernel_rfl) ?_ ?_
 ·clear h;have h := hx;clear hx;cbv;refine A6 hE h (fun hc h => ?_) (fun hc h => ?_)
  ·cbv;refine A7 hE h (c222 N aD) (.refl _) fun r4 h => ?_;cbv;refine A6 hE h (fun hc h => ?_) (fun hc h => ?_)
   ·cbv;cases h;exact ⟨_, ⟨rfl, rfl, hO⟩, .e rfl .z, rfl⟩
   cbv;cases h;exact ⟨_, ⟨rfl, rfl, hO⟩, .e rfl (.e4 .z), rfl⟩
  cbv;cases h;exact ⟨_, ⟨rfl, rfl, hO⟩, .e rfl (.e4 .z), rfl⟩
 clear hx
 rcases s3 with y5 | y6
 ·rintro e l H ⟨rfl, rfl, hO⟩;cbv;refine A6 hE h (fun hc h => ?_) (fun hc h => ?_)
  ·cbv;cases h;exact hK _ _ _ hO (.refl _)
  cbv;cases h;exact hK _ _ _ hO (.refl _)
 rintro e l H ⟨rfl, rfl, hO⟩;cbv;cases h;exact hK _ _ _ hO (.refl _)
theorem c135 (N aD r) (h : EI N aD = some r) : B6 prog 135 [(An aD)] (vi r) := by
 unfold EI at h
 refine J9 cf0 func135 call135 ntmps135 ?_;intro E H0 K hE hK hO;cbv;refine A7 hE h (c178 N N aD) (.refl _) fun r1 h => ?_;cbv;refine A6 hE h (fun hc h => ?_) (fun hc h => ?_)
 ·cbv;cases h;exact hK _ _ _ hO (.refl _)
 cbv;refine A6 hE h (fun hc h => ?_) (fun hc h => ?_)
 ·cbv;cases h;exact hK _ _ _ hO (.refl _)
 cbv;refine A7 hE (g := fun r2 => vi r2) h (fun r2 hx => c179 N N aD (.func (.func 180) [] []) (fun y1 => Gb N y1) (fun y1 r hx => B6.value (F := []) (C := []) (c180 N y1 r hx)) r2 hx) (.refl _) fun r2 h => ?_;cbv;cases h;exact hK _ _ _ hO (.refl _)
def cf249 : Cf := ⟨[], [(6, 10)], [], [], [], []⟩
theorem c249 (N : Nat) : ∀ n aC aE r, AU N n aC aE = some r → B6 prog 249 [(An aC), (An aE)] (.bool r) := by
 intro n
 induction n with
 | zero => intro aC aE r h; cases h
 | succ n ih =>
 intro aC aE r h
 unfold AU at h
 refine J9 cf249 func249 call249 ntmps249 ?_;intro E H0 K hE hK hO;cbv;refine D5 hE ?_;cbv;refine D5 hE ?_;cbv;refine A6 hE h (fun hc h => ?_) (fun hc h => ?_)
 ·cbv;cases h;exact hK _ _ _ hO (.refl _)
 cbv;refine D5 hE ?_;cbv;obtain ⟨s2, hx, h⟩ := bind_some h;refine F3 cf249 hE G7 (fun s1 => [(2, .v (.eref (BR aC) 0)), (3, .v (.eref (BR aE) 0)), (50, .v (vi (Ar.len aC.Args))), (51, .v (vi s1))]) (fun s1 H1 => B4 Eq H0 [] H1) (fun x e l H1 => match (generalizing := false) x with | .inl y => e = .exit 0 ∧ l = [] ∧ B4 Eq H0 [] H1 | .inr y => e = .ret ∧ l = [(4, .b false)] ∧ B4 Eq H0 [] H1) (by kernel_rfl) ?_ hx ?_ hO ?_
 ·intro s1 H o hO h;clear hx;cbv;refine A6 hE h (fun hc h => ?_) (fun hc h => ?_)
  ·cbv;refine C2 hE eXV h fun x3 h => ?_;cbv;refine C2 hE eXV h fun x4 h => ?_;cbv;refine A7 hE h (ih x3 x4) (.refl _) fun r5 h => ?_;cbv;refine A6 hE h (fun hc h => ?_) (fun hc h => ?_)
   ·cbv;cases h;exact ⟨_, _, rfl, ⟨rfl, rfl, hO⟩, .b rfl (.z), rfl⟩
   cbv;cases h;exact ⟨_, rfl, .e4 .z, rfl, hO⟩
  cbv;cases h;exact ⟨_, _, rfl, ⟨rfl, rfl, hO⟩, .z, rfl⟩
 ·exact .e4 .z
 clear hx
 rcases s2 with y6 | y7
 ·rintro e l H ⟨rfl, rfl, hO⟩;cbv;cases h;exact hK _ _ _ hO (.refl _)
 rintro e l H ⟨rfl, rfl, hO⟩;cbv;cases h;exact hK _ _ _ hO (.refl _)
theorem c256 (N bL aI cB r) (h : U6 N bL aI cB = some r) : B6 prog 256 [.bool bL, vi aI, vi cB] (.bool r) := by
 unfold U6 at h
 refine J9 cf0 func256 call256 ntmps256 ?_;intro E H0 K hE hK hO;cbv;cases h;exact hK _ _ _ hO (.refl _)
theorem c257 (N bL aI r) (h : J7 N bL aI = some r) : B6 prog 257 [.bool bL, vi aI] (.bool r) := by
 unfold J7 at h
 refine J9 cf0 func257 call257 ntmps257 ?_;intro E H0 K hE hK hO;cbv;cases h;exact hK _ _ _ hO (.refl _)
def cf219 : Cf := ⟨[], [], [(64, 10)], [], [], []⟩
theorem c219 (N aA r) (h : DJ N aA = some r) : B6 prog 219 [(B9 aA)] (vi r) := by
 unfold DJ at h
 refine J9 cf219 func219 call219 ntmps219 ?_;intro E H0 K hE hK hO;cbv;refine A6 hE h (fun hc h => ?_) (fun hc h => ?_)
 ·cbv;cases h;exact hK _ _ _ hO (.refl _)
 cbv;refine Ts hE (g := fun x => (EU x)) (l := K3) rfl (fun _ => rfl) rfl rfl h fun x1 h => ?_;cbv;refine D5 hE ?_;cbv;refine D5 hE ?_;cbv;refine A6 hE h (fun hc h => ?_) (fun hc h => ?_)
 ·cbv;cases h;exact hK _ _ _ hO (.refl _)
 cbv;refine A7 hE h (c256 N x1.typed aA.Typ 15) (.refl _) fun r2 h => ?_;cbv;refine A6 hE h (fun hc h => ?_) (fun hc h => ?_)
 ·cbv;cases h;exact hK _ _ _ hO (.refl _)
 cbv;refine A7 hE h (c256 N x1.typed aA.Var 15) (.refl _) fun r3 h => ?_;cbv;refine A6 hE h (fun hc h => ?_) (fun hc h => ?_)
 ·cbv;cases h;exact hK _ _ _ hO (.refl _)
 cbv;refine A7 hE h (c256 N x1.scope aA.Scope 63) (.refl _) fun r4 h => ?_;cbv;refine A6 hE h (fun hc h => ?_) (fun hc h => ?_)
 ·cbv;cases h;exact hK _ _ _ hO (.refl _)
 cbv;refine A7 hE h (c256 N x1.span aA.Span 1099511627776) (.refl _) fun r5 h => ?_;cbv;refine A6 hE h (fun hc h => ?_) (fun hc h => ?_)
 ·cbv;cases h;exact hK _ _ _ hO (.refl _)
 cbv;obtain ⟨s6, hx, h⟩ := bind_some h;refine J8 cf219 hE G7 (fun e l H1 => match (generalizing := false) s6 with | .inl y => e = .normal ∧ l = [(1, .v (.eref (D3 aA) 0)), (3, .v (.eref (Ct x1) 0))] ∧ B4 Eq H0 [] H1 | .inr y => e = .ret ∧ l = [(2, .v (vi y))] ∧ B4 Eq H0 [] H1) (by kernel_rfl) ?_ ?_
 ·clear h;have h := hx;clear hx;cbv;refine A6 hE h (fun hc h => ?_) (fun hc h => ?_)
  ·cbv;refine A7 hE h (c135 N aA.Cond) (.refl _) fun r7 h => ?_;cbv;refine A6 hE h (fun hc h => ?_) (fun hc h => ?_)
   ·cbv;cases h;exact ⟨_, ⟨rfl, rfl, hO⟩, .e rfl .z, rfl⟩
   cbv;cases h;exact ⟨_, ⟨rfl, rfl, hO⟩, .e2 .z, rfl⟩
  cbv;cases h;exact ⟨_, ⟨rfl, rfl, hO⟩, .e2 .z, rfl⟩
 clear hx
 rcases s6 with y8 | y18
 ·rintro e l H ⟨rfl, rfl, hO⟩;cbv;refine A6 hE h (fun hc h => ?_) (fun hc h => ?_)
  ·cbv;refine A7 hE h (c249 N N aA.Cond (⟨0, [], 0, 0, 0, (⟨0, 0, ⟨#[]⟩⟩ : O9)⟩ : G2)) (.cons (.refl _) (.cons (.agg (.cons (.refl _) (.cons (.lit _ (B3)) (.refl _)))) (.refl _))) fun r9 h => ?_;cbv;refine A6 hE h (fun hc h => ?_) (fun hc h => ?_)
   ·cbv;cases h;exact hK _ _ _ hO (.refl _)
   cbv;refine A7 hE h (c257 N x1.typed aA.Typ) (.refl _) fun r10 h => ?_;cbv;refine A6 hE h (fun hc h => ?_) (fun hc h => ?_)
   ·cbv;cases h;exact hK _ _ _ hO (.refl _)
   cbv;refine A7 hE h (c257 N x1.typed aA.Var) (.refl _) fun r11 h => ?_;cbv;refine A6 hE h (fun hc h => ?_) (fun hc h => ?_)
   ·cbv;cases h;exact hK _ _ _ hO (.refl _)
   cbv;refine A7 hE h (c257 N x1.scope aA.Scope) (.refl _) fun r12 h => ?_;cbv;refine A6 hE h (fun hc h => ?_) (fun hc h => ?_)
   ·cbv;cases h;exact hK _ _ _ hO (.refl _)
   cbv;refine A7 hE h (c257 N x1.span aA.Span) (.refl _) fun r13 h => ?_;cbv;refine A6 hE h (fun hc h => ?_) (fun hc h => ?_)
   ·cbv;cases h;exact hK _ _ _ hO (.refl _)
   cbv;cases h;exact hK _ _ _ hO (.refl _)
  cbv;refine A7 hE h (c257 N x1.typed aA.Typ) (.refl _) fun r14 h => ?_;cbv;refine A6 hE h (fun hc h => ?_) (fun hc h => ?_)
  ·cbv;cases h;exact hK _ _ _ hO (.refl _)
  cbv;refine A7 hE h (c257 N x1.typed aA.Var) (.refl _) fun r15 h => ?_;cbv;refine A6 hE h (fun hc h => ?_) (fun hc h => ?_)
  ·cbv;cases h;exact hK _ _ _ hO (.refl _)
  cbv;refine A7 hE h (c257 N x1.scope aA.Scope) (.refl _) fun r16 h => ?_;cbv;refine A6 hE h (fun hc h => ?_) (fun hc h => ?_)
  ·cbv;cases h;exact hK _ _ _ hO (.refl _)
  cbv;refine A7 hE h (c257 N x1.span aA.Span) (.refl _) fun r17 h => ?_;cbv;refine A6 hE h (fun hc h => ?_) (fun hc h => ?_)
  ·cbv;cases h;exact hK _ _ _ hO (.refl _)
  cbv;cases h;exact hK _ _ _ hO (.refl _)
 rintro e l H ⟨rfl, rfl, hO⟩;cbv;cases h;exact hK _ _ _ hO (.refl _)
def cf176 : Cf := ⟨[2], [], [], [], [], []⟩
theorem c176 (N aA r) (h : L6 N aA = some r) : B6 prog 176 [(B9 aA)] (vi r) := by
 unfold L6 at h
 refine J9 cf176 func176 call176 ntmps176 ?_;intro E H0 K hE hK hO;cbv;refine C8 hE hO fun b1 H hO => ?_;cbv;refine A7 hE h (c218 N N aA) (.refl _) fun r2 h => ?_;cbv;refine A6 hE h (fun hc h => ?_) (fun hc h => ?_)
 ·cbv;refine A8 hE hO 0 rfl rfl fun H hO => ?_;cbv;refine B1 hE hO 0 rfl ?_;cbv;cases h;exact hK _ _ _ hO (.refl _)
 cbv;refine A6 hE h (fun hc h => ?_) (fun hc h => ?_)
 ·cbv;refine A8 hE hO 0 rfl rfl fun H hO => ?_;cbv;refine B1 hE hO 0 rfl ?_;cbv;cases h;exact hK _ _ _ hO (.refl _)
 cbv;refine Q0 hE h (c216 N aA) (.refl _) fun r3 v4 hv4 h => ?_;cbv;obtain ⟨o9, hx, h⟩ := bind_some h;refine AG cf176 hE G7 (ι := Unit) (enc := fun (x : A4) => [(B9 x)]) (fun (s6 : Unit) F H => B4 Eq F [.blk b1 (.cells [vi 0])] H) (fun (r : Int) e F H => e = .ret ∧ B4 Eq F [.blk b1 (.cells [vi r])] H) (fun i s6 y5 => [(2, .v (.ref b1 0)), (5, .v (.eref (D3 y5) 0))]) (fun i s6 y5 F H => B4 Eq F [.blk b1 (.cells [vi 0])] H) (fun _ => B4.stable B7 _) (fun _ _ => C6.con (B4.stable B7 _)) (fun _ _ _ => B4.stable B7 _) hv4 hx (hO) (by decide) (fun _ => rfl) (by kernel_rfl) (by kernel_rfl) ?_ ?_ ?_ ?_
 ·rintro E i8 y5 s6 F7 H hE hO;clear hx h;cbv;exact ⟨(), hO, .e2 .z, rfl⟩
 ·rintro E i8 _ y5 s6 F7 H o hE hF h hO;clear hx;cbv;refine A7 hE h (c219 N y5) (.refl _) fun r10 h => ?_;cbv;refine A6 hE h (fun hc h => ?_) (fun hc h => ?_)
  ·cbv;refine A8 hE hO 0 rfl rfl fun H hO => ?_;cbv;cases h;exact ⟨_, rfl, rfl, ⟨rfl, hO⟩⟩
  cbv;cases h;exact ⟨_, rfl, hO⟩
 ·rintro d11 s13 H rfl hd hO;have hO : B4 Eq H0 [.blk b1 (.cells [vi 0]), .blk d11 DB] H := B4.dblk hd hO;clear hd;clear hx;cbv;refine A8 hE hO 0 rfl rfl fun H hO => ?_;cbv;refine Ax hE hO 1 rfl fun H hO => ?_;cbv;refine B1 hE hO 0 rfl ?_;cbv;cases h;exact hK _ _ _ hO (.refl _)
 rintro d11 y14 e H rfl hd hX;clear hx
 rcases hX with ⟨rfl, hO⟩
 have hO : B4 Eq H0 [.blk b1 (.cells [vi y14]), .blk d11 DB] H := B4.dblk hd hO;clear hd;cbv;refine Ax hE hO 1 rfl fun H hO => ?_;cbv;refine B1 hE hO 0 rfl ?_;cbv;cases h;exact hK _ _ _ hO (.refl _)
def cf209 : Cf := ⟨[2], [], [], [], [], []⟩
theorem c209 (N aA r) (h : DI N aA = some r) : B6 prog 209 [(B9 aA)] (vi r) := by
 unfold DI at h
 refine J9 cf209 func209 call209 ntmps209 ?_;intro E H0 K hE hK hO;cbv;refine C8 hE hO fun b1 H hO => ?_;cbv;refine A7 hE h (c176 N aA) (.refl _) fun r2 h => ?_;cbv;refine A6 hE h (fun hc h => ?_) (fun hc h => ?_)
 ·cbv;refine A8 hE hO 0 rfl rfl fun H hO => ?_;cbv;refine B1 hE hO 0 rfl ?_;cbv;cases h;exact hK _ _ _ hO (.refl _)
 cbv;refine Q0 hE h (c216 N aA) (.refl _) fun r3 v4 hv4 h => ?_;cbv;obtain ⟨o9, hx, h⟩ := bind_some h;refine AG cf209 hE G7 (ι := Unit) (enc := fun (x : A4) => [(B9 x)]) (fun (s6 : Unit) F H => B4 Eq F [.blk b1 (.cells [vi 0])] H) (fun (r : Int) e F H => e = .ret ∧ B4 Eq F [.blk b1 (.cells [vi r])] H) (fun i s6 y5 => [(2, .v (.ref b1 0)), (4, .v (.eref (D3 y5) 0))]) (fun i s6 y5 F H => B4 Eq F [.blk b1 (.cells [vi 0])] H) (fun _ => B4.stable B7 _) (fun _ _ => C6.con (B4.stable B7 _)) (fun _ _ _ => B4.stable B7 _) hv4 hx (hO) (by decide) (fun _ => rfl) (by kernel_rfl) (by kernel_rfl) ?_ ?_ ?_ ?_
 ·rintro E i8 y5 s6 F7 H hE hO;clear hx h;cbv;exact ⟨(), hO, .e2 .z, rfl⟩
 ·rintro E i8 _ y5 s6 F7 H o hE hF h hO;clear hx;cbv;refine A6 hE h (fun hc h => ?_) (fun hc h => ?_)
  ·cbv;refine A8 hE hO 0 rfl rfl fun H hO => ?_;cbv;cases h;exact ⟨_, rfl, rfl, ⟨rfl, hO⟩⟩
  cbv;cases h;exact ⟨_, rfl, hO⟩
 ·rintro d10 s12 H rfl hd hO;have hO : B4 Eq H0 [.blk b1 (.cells [vi 0]), .blk d10 DB] H := B4.dblk hd hO;clear hd;clear hx;cbv;refine A8 hE hO 0 rfl rfl fun H hO => ?_;cbv;refine Ax hE hO 1 rfl fun H hO => ?_;cbv;refine B1 hE hO 0 rfl ?_;cbv;cases h;exact hK _ _ _ hO (.refl _)
 rintro d10 y13 e H rfl hd hX;clear hx
 rcases hX with ⟨rfl, hO⟩
 have hO : B4 Eq H0 [.blk b1 (.cells [vi y13]), .blk d10 DB] H := B4.dblk hd hO;clear hd;cbv;refine Ax hE hO 1 rfl fun H hO => ?_;cbv;refine B1 hE hO 0 rfl ?_;cbv;cases h;exact hK _ _ _ hO (.refl _)
theorem c169 (N aA r) (h : BV N aA = some r) : B6 prog 169 [(B9 aA)] (vi r) := by
 unfold BV at h
 refine J9 cf0 func169 call169 ntmps169 ?_;intro E H0 K hE hK hO;cbv;refine A7 hE h (c209 N aA) (.refl _) fun r1 h => ?_;cbv;refine A6 hE h (fun hc h => ?_) (fun hc h => ?_)
 ·cbv;cases h;exact hK _ _ _ hO (.refl _)
 cbv;refine A7 hE h (c172 N aA) (.refl _) fun r2 h => ?_;cbv;refine A6 hE h (fun hc h => ?_) (fun hc h => ?_)
 ·cbv;cases h;exact hK _ _ _ hO (.refl _)
 cbv;cases h;exact hK _ _ _ hO (.refl _)
theorem c134 (N : Nat) (aB : List A4) (aV : V) (aO : A4 → Option Bool) (bC : ∀ y1 q, aO y1 = some q → R4 prog aV [(B9 y1)] (.bool q)) (r : Int) (h : G0 N aB aO = some r) : B6 prog 134 [.sl (Ar.lst eXJ aB) .ro, aV] (vi r) := by
 unfold G0 at h
 refine J9 cf0 func134 call134 ntmps134 ?_;intro E H0 K hE hK hO;cbv;refine D5 hE ?_;cbv;obtain ⟨s2, hx, h⟩ := bind_some h;refine F3 cf0 hE G7 (fun s1 => [(0, .v (.sl (Ar.lst eXJ aB) .ro)), (1, .v (aV)), (7, .v (vi (Ar.len aB))), (8, .v (vi s1))]) (fun s1 H1 => B4 Eq H0 [] H1) (fun x e l H1 => match (generalizing := false) x with | .inl y => e = .exit 0 ∧ l = [] ∧ B4 Eq H0 [] H1 | .inr y => e = .ret ∧ l = [(4, .v (vi y))] ∧ B4 Eq H0 [] H1) (by kernel_rfl) ?_ hx ?_ hO ?_
 ·intro s1 H o hO h;clear hx;cbv;refine A6 hE h (fun hc h => ?_) (fun hc h => ?_)
  ·cbv;refine C2 hE eXO h fun x3 h => ?_;cbv;refine AI hE (g := fun r4 => .bool r4) h (fun r4 hx => bC x3 r4 hx) (.refl _) fun r4 h => ?_;cbv;refine A6 hE h (fun hc h => ?_) (fun hc h => ?_)
   ·cbv;cases h;exact ⟨_, _, rfl, ⟨rfl, rfl, hO⟩, .e rfl .z, rfl⟩
   cbv;cases h;exact ⟨_, rfl, .e4 .z, rfl, hO⟩
  cbv;cases h;exact ⟨_, _, rfl, ⟨rfl, rfl, hO⟩, .z, rfl⟩
 ·exact .e4 .z
 clear hx
 rcases s2 with y5 | y6
 ·rintro e l H ⟨rfl, rfl, hO⟩;cbv;cases h;exact hK _ _ _ hO (.refl _)
 rintro e l H ⟨rfl, rfl, hO⟩;cbv;cases h;exact hK _ _ _ hO (.refl _)
def cf253 : Cf := ⟨[8], [], [], [], [], []⟩
theorem c253 (N : Nat) (aS : List A4) (aT : List A4) (bU : V) (bM : A4 → A4 → Option Bool) (cH : ∀ y1 y2 q, bM y1 y2 = some q → R4 prog bU [(B9 y1), (B9 y2)] (.bool q)) (r : Bool) (h : F9 N aS aT bM = some r) : B6 prog 253 [.sl (Ar.lst eXJ aS) .ro, .sl (Ar.lst eXJ aT) .ro, bU] (.bool r) := by
 unfold F9 at h
 refine J9 cf253 func253 call253 ntmps253 ?_;intro E H0 K hE hK hO;cbv;refine D5 hE ?_;cbv;refine D5 hE ?_;cbv;refine A6 hE h (fun hc h => ?_) (fun hc h => ?_)
 ·cbv;cases h;exact hK _ _ _ hO (.refl _)
 cbv;refine D5 hE ?_;cbv;obtain ⟨s2, hx, h⟩ := bind_some h;refine F3 cf253 hE G7 (fun s1 => [(1, .v (.sl (Ar.lst eXJ aT) .ro)), (2, .v (bU)), (15, .v (.sl (Ar.lst eXJ aS) .ro)), (16, .v (vi (Ar.len aS))), (17, .v (vi s1))]) (fun s1 H1 => B4 Eq H0 [] H1) (fun x e l H1 => match (generalizing := false) x with | .inl y => e = .exit 0 ∧ l = [] ∧ B4 Eq H0 [] H1 | .inr y => e = .ret ∧ l = [(6, .b false)] ∧ B4 Eq H0 [] H1) (by kernel_rfl) ?_ hx ?_ hO ?_
 ·intro s1 H o hO h;clear hx;cbv;refine A6 hE h (fun hc h => ?_) (fun hc h => ?_)
  ·cbv;refine C2 hE eXO h fun x3 h => ?_;cbv;refine C8 hE hO fun b4 H hO => ?_;cbv;refine A8 hE hO 0 rfl rfl fun H hO => ?_;cbv;refine C2 hE eXO h fun x5 h => ?_;cbv;refine B1 hE hO 0 rfl ?_;cbv;refine AI hE (g := fun r6 => .bool r6) h (fun r6 hx => cH x3 x5 r6 hx) (.refl _) fun r6 h => ?_;cbv;refine A6 hE h (fun hc h => ?_) (fun hc h => ?_)
   ·cbv;cases h;exact ⟨_, _, rfl, ⟨rfl, rfl, hO.tail⟩, .b rfl (.z), rfl⟩
   cbv;cases h;exact ⟨_, rfl, .e rfl (.e4 .z), rfl, hO.tail⟩
  cbv;cases h;exact ⟨_, _, rfl, ⟨rfl, rfl, hO⟩, .z, rfl⟩
 ·exact .e rfl (.e4 .z)
 clear hx
 rcases s2 with y7 | y8
 ·rintro e l H ⟨rfl, rfl, hO⟩;cbv;cases h;exact hK _ _ _ hO (.refl _)
 rintro e l H ⟨rfl, rfl, hO⟩;cbv;cases h;exact hK _ _ _ hO (.refl _)
theorem c215 (N : Nat) : ∀ n aC aE r, Ah N n aC aE = some r → B6 prog 215 [(B9 aC), (B9 aE)] (.bool r) := by
 intro n
 induction n with
 | zero => intro aC aE r h; cases h
 | succ n ih =>
 intro aC aE r h
 unfold Ah at h
 refine J9 cf0 func215 call215 ntmps215 ?_;intro E H0 K hE hK hO;cbv;refine A6 hE h (fun hc h => ?_) (fun hc h => ?_)
 ·cbv;cases h;exact hK _ _ _ hO (.refl _)
 cbv;refine A7 hE h (c249 N N aC.Cond aE.Cond) (.refl _) fun r1 h => ?_;cbv;refine A6 hE h (fun hc h => ?_) (fun hc h => ?_)
 ·cbv;cases h;exact hK _ _ _ hO (.refl _)
 cbv;refine A7 hE (g := fun r2 => .bool r2) h (fun r2 hx => c253 N aC.Args aE.Args (.func (.func 215) [] []) (fun y1 y2 => Ah N n y1 y2) (fun y1 y2 r hx => B6.value (F := []) (C := []) (ih y1 y2 r hx)) r2 hx) (.refl _) fun r2 h => ?_;cbv;cases h;exact hK _ _ _ hO (.refl _)
theorem c214 (N bG aF r) (h : W3 N bG aF = some r) : B6 prog 214 [(B9 bG), .eref (D3 aF) 0] (.bool r) := by
 unfold W3 at h
 refine J9 cf0 func214 call214 ntmps214 ?_;intro E H0 K hE hK hO;cbv;refine A7 hE h (c215 N N aF bG) (.refl _) fun r1 h => ?_;cbv;cases h;exact hK _ _ _ hO (.refl _)
theorem c171 (N aG aA r) (h : V0 N aG aA = some r) : B6 prog 171 [.sl (Ar.lst eXJ aG) .ro, (B9 aA)] (vi r) := by
 unfold V0 at h
 refine J9 cf0 func171 call171 ntmps171 ?_;intro E H0 K hE hK hO;cbv;refine A7 hE (g := fun r1 => vi r1) h (fun r1 hx => c134 N aG (.func (.func 214) [] [.eref (D3 aA) 0]) (fun y1 => W3 N y1 aA) (fun y1 r hx => B6.value (F := []) (C := [.eref (D3 aA) 0]) (c214 N y1 aA r hx)) r1 hx) (.refl _) fun r1 h => ?_;cbv;cases h;exact hK _ _ _ hO (.refl _)
theorem c244 (N aF r) (h : AN N aF = some r) : El prog 244 (fun yv => [yv, .eref (D3 aF) 0]) (List.map (fun (x : (B8 × A1)) => [(E8 x.1), (B0 x.2)]) r) UL := by
 unfold AN at h
 obtain ⟨⟨w0, u0⟩, h1, hr⟩ := bind_some h;clear h;have hr := O2 hr;subst hr;have h := h1;clear h1;refine K7 cf0 G7 func244 (by rfl) (by kernel_rfl) call244 ntmps244 (by rfl) (fun _ => rfl) ?_;intro yv I D hI hD hy tl F E H K hE hO hK hKD
 have hO : B4 (I (List.map (fun (x : (B8 × A1)) => [(E8 x.1), (B0 x.2)]) (w0 ++ []) ++ tl)) F [] H := by rw [List.append_nil]; exact hO
 cbv;obtain ⟨w1, h1, he⟩ := P0 h;clear h;have h := h1;clear h1
 rw [he, List.append_assoc] at hO
 clear he;have hO : B4 (I ([.agg [vi 0, vi 0, vi aF.Var, vi aF.Typ, vi aF.Cond.Op, .sl (Ar.lst eXL aF.Cond.Args) .ro, vi aF.Cond.Var, vi aF.Cond.Field, vi aF.Cond.Kind, vi aF.Cond.Value.Kind, vi aF.Cond.Value.Num, .str aF.Cond.Value.Text, .sl (Ar.lst (V.int .i64) ([])) .ro, .sl (Ar.lst (V.int .i64) ([])) .ro, .sl (Ar.lst eXL ([])) .ro, .sl (Ar.lst eXT ([])) .ro, .sl (Ar.lst (V.int .i64) ([])) .ro], .agg [.bool true, vi 0, .sl (Ar.lst eXJ ([])) .ro, vi 0, vi 0, vi 0, vi 0, vi 0, .sl (Ar.lst eXL ([])) .ro, vi 0, vi 0, vi 0, vi 0, vi 0, .str (⟨#[]⟩)]] :: (List.map (fun (x : (B8 × A1)) => [(E8 x.1), (B0 x.2)]) (w1 ++ []) ++ tl))) F [] _ := hO;refine AF hE hI hD hy hO (.cons (.agg (.cons (.refl _) (.cons (.refl _) (.cons (.refl _) (.cons (.refl _) (.cons (.refl _) (.cons (.refl _) (.cons (.refl _) (.cons (.refl _) (.cons (.refl _) (.cons (.refl _) (.cons (.refl _) (.cons (.refl _) (.cons (.lit _ (B3)) (.cons (.lit _ (B3)) (.cons (.lit _ (B3)) (.cons (.lit _ (B3)) (.cons (.lit _ (B3)) (.refl _))))))))))))))))))) (.cons (.agg (.cons (.refl _) (.cons (.refl _) (.cons (.lit _ (B3)) (.cons (.refl _) (.cons (.refl _) (.cons (.refl _) (.cons (.refl _) (.cons (.refl _) (.cons (.lit _ (B3)) (.refl _))))))))))) (.refl _))) (fun H hO => ?_) (fun H hO => ?_)
 ·cbv;obtain ⟨hw, _⟩ := C5 h
  rw [← hw] at hO
  exact hK _ _ _ hO trivial
 clear h;cbv;exact hKD _ _ _ hO trivial
def cf298 : Cf := ⟨[7], [], [], [], [], []⟩
theorem c298 (N aB r) (h : J3 N aB = some r) : IN prog 298 [.sl (Ar.lst eXJ aB) .ro] 14 (Ar.lst eXJ r) := by
 unfold J3 at h
 intro H0;refine AW (T := TT) cf298 G7 func298 (by rfl) (by kernel_rfl) call298 ntmps298 (by rfl) (by rfl) ?_;intro E K hE hK hN;have hO : B4 Eq H0 [] H0 := .start B7 rfl;cbv;refine Tn hE rfl (fun hx => ?_) ?_
 ·cbv;exact hN (OI hx h) [] H0 hO
 cbv;refine Qy (f := eXJ) hE S5 (by decide) hO (.inr rfl) (m := aB) (BD (f := eXJ) hE S5 (.refl _)) h fun l q H hq hO h => ?_;cbv;cases h;exact hK q _ _ (T8 hE hq) hO
theorem Xm (vals : Array Value) (w : World) : (callFunc 311 vals).run prog w = ((Extern.SlicesOverlaps.overlaps #[38, 38] #[4] vals).run prog w).andThen fun v w' => .ok (.value v) w' :=
 run_callFunc_extern func311 (by kernel_rfl) (by kernel_rfl) (by kernel_rfl) (e := Extern.SlicesOverlaps.overlaps #[38, 38] #[4]) (by kernel_rfl) vals w
def cf299 : Cf := ⟨[], [(11, 8), (15, 8)], [], [], [], []⟩
set_option maxHeartbeats 1000000 in
theorem c299 (N aB aP aN r) (h : M7 N aB aP aN = some r) : Ij prog 299 [vi aP, .sl (Ar.lst eXJ aN) .ro] 14 (Ar.lst eXJ aB) (Ar.lst eXJ r) := by
 unfold M7 at h
 obtain ⟨x, h1, h2⟩ := bind_some h;cases O2 h2;obtain ⟨h0, h1, h2, hr⟩ := Vi (f := eXJ) h1;rw [hr];clear hr h;have hvall := JR S5 aN
 generalize Ar.lst eXJ aB = xs at *
 generalize Ar.lst eXJ aN = vs at *
 rintro H ⟨id, lo, n, pre, rest⟩ ⟨e1, e2⟩ hk
 simp only at e1 e2 hk
 refine Kt (T := TT) cf299 G7 func299 (by rfl) (by kernel_rfl) call299 ntmps299 (by rfl) (by rfl) ?_;intro E K hE hK
 simp only at hK ⊢
 generalize hrow : pre ++ xs ++ rest = row at hk
 obtain ⟨RL, hRL⟩ : ∃ RL : Int, RL = (row.length : Nat) := ⟨_, rfl⟩;obtain ⟨M, hM⟩ : ∃ M : Int, M = (vs.length : Nat) := ⟨_, rfl⟩
 have hlen : lo + n ≤ RL := by rw [hRL, ← hrow, e1, e2]; simp; omega
 have hn0 : 0 ≤ lo ∧ 0 ≤ n ∧ aP ≤ n ∧ 0 ≤ M ∧ n + M ≤ 1073741824 := by omega
 have hwrap : ∀ a b : Int, 0 ≤ a → 0 ≤ b → a + b ≤ 1073741824 → Ar.ar .add .i64 a b = a + b := fun a b ha hb hab => by rw [Ar.ar_eq]; exact wrap_small _ (by omega) (by omega)
 have hwrap2 : ∀ a b : Int, 0 ≤ b → b ≤ a → a ≤ 1073741824 → Ar.ar .sub .i64 a b = a - b := fun a b ha hb hab => by rw [Ar.ar_eq]; exact wrap_small _ (by omega) (by omega)
 have hadd : Ar.ar .add .i64 n M = n + M := hwrap _ _ (by omega) (by omega) (by omega);have haddi : Ar.ar .add .i64 aP M = aP + M := hwrap _ _ (by omega) (by omega) (by omega)
 have hd2 : Ar.ar .sub .i64 (Ar.ar .add .i64 n M) aP = n + M - aP := by rw [hadd]; exact hwrap2 _ aP h0 (by omega) (by omega)
 have hgt : ∀ c b, Ar.cmp .gtr (Ar.ar .add .i64 n M) c = b → (b = true → c < n + M) ∧ (b = false → n + M ≤ c) := fun c b h => by
  rw [Ar.cmp_eq, hadd] at h; subst h; simp [Dk]
 have hbn : (n.toNat + vs.length) * 152 ≤ 140737488355328 := FY (by omega) (by decide);have hbn2 : ∀ a b : Int, 0 ≤ a → 0 ≤ b → a + b ≤ 1073741824 → (a.toNat + b.toNat) * 152 ≤ 140737488355328 := fun a b _ _ _ => FY (by omega) (by decide)
 have hsubl : ∀ l2 n2 : Int, 0 ≤ l2 → 0 ≤ n2 → l2 + n2 ≤ RL → n2 = ((G3 row l2 n2).length : Nat) := fun l2 n2 a b c => by rw [V3 a b (by rw [← hRL]; exact c)]; omega
 have hov : ∀ (r1 r2 ys : List V) (L l YL n : Int), L = (r1.length : Nat) → YL = (ys.length : Nat) → 0 ≤ l → l + YL ≤ L → r2 = T5 r1 l.toNat (ys.take n.toNat) → L = (r2.length : Nat) := fun r1 r2 ys L l YL n a b c d e => by
  rw [e, AR (by simp; omega)]; exact a
 have hov2 : ∀ (r1 : List V) (l l2 n2 n : Int), 0 ≤ l → 0 ≤ n → l + n ≤ RL → 0 ≤ l2 → 0 ≤ n2 → r1 = T5 row l.toNat ((G3 row l2 n2).take n.toNat) → RL = (r1.length : Nat) := fun r1 l l2 n2 n a b c _ _ e => by
  rw [e, AR (by simp; omega)]; exact hRL
 have hnl : ∀ (r2 : List V) (z : V) (j : Nat) (l n d : Int), 0 ≤ l → 0 ≤ n → l + n ≤ RL → 0 ≤ d → r2 = G3 row l n ++ List.replicate d.toNat z ++ List.replicate j z → ∃ L : Int, L = (r2.length : Nat) ∧ n + d ≤ L := fun r2 z j l n d a b c e f => ⟨_, rfl, by rw [f]; simp only [List.length_append, List.length_replicate, V3 a b (by rw [← hRL]; exact c)]; omega⟩
 have hne : ∀ t (b : Option Au), H t = none → upd H t b id = some (.arr 14 row) := fun t b ht => by rw [A3 _ _ (fun e => by subst e; rw [hk] at ht; cases ht)]; exact hk
 have hx0 : vs = [] → xs.take aP.toNat ++ vs ++ xs.drop aP.toNat = xs := fun e => by rw [e, List.append_nil, List.take_append_drop]
 have hx1 : aP = n → xs.take aP.toNat ++ vs ++ xs.drop aP.toNat = xs ++ vs := fun e => by rw [e, e2, Int.toNat_natCast, List.take_of_length_le (Nat.le_refl _), List.drop_of_length_le (Nat.le_refl _), List.append_nil]
 have hv0 : M = 0 → vs = [] := fun e => List.length_eq_zero_iff.1 (by omega)
 have hcmp : ∀ op a b c, Ar.cmp op a b = c → Dk op a b = c := fun op a b c h => by rw [← Ar.cmp_eq]; exact h
 cbv;refine O3 hE hk hRL aP n rfl rfl h0 (by omega) hlen fun _ _ _ _ => ?_;cbv;refine Ms hE hM ?_;cbv;refine HQ hE (fun hc => ?_) (fun hc => ?_)
 ·cbv
  have hm0 : M = 0 := by simpa [Dk] using hcmp _ _ _ _ hc
  rw [hx0 (hv0 hm0)] at hK
  refine hK id lo n row pre rest H hrow.symm e1 e2 (.inl rfl) ?_;rw [P6]; exact Wm hk
 cbv
 have hm0 : ¬ M = 0 := by simpa [Dk] using hcmp _ _ _ _ hc
 refine Mr hE ?_;cbv;refine HQ hE (fun hc2 => ?_) (fun hc2 => ?_)
 ·cbv
  have hin2 : aP = n := by simpa [Dk] using hcmp _ _ _ _ hc2
  rw [hx1 hin2] at hK
  refine Ta hE hk hRL (y := .sl vs .ro) (ys' := vs) ⟨.refl _, hvall⟩ hM (fun hfit m row1 q5 hr1 => ?_) (fun hno => ⟨hbn, fun t m row1 j ht q5 hr1 => ?_⟩)
  ·cbv;have h3 := Vu hrow.symm e1 e2 hM q5 hr1;exact hK id lo m row1 pre _ _ h3.1 e1 h3.2 (.inl rfl) (by rw [P6]; exact .refl _)
  cbv;have h3 := TH hrow.symm e1 e2 hM q5 hr1;exact hK t 0 m row1 [] _ _ h3.1 rfl h3.2 (.inr ht) QN
 cbv;refine Wq hE hk hRL fun c hcap => ?_;cbv;refine HQ hE (fun hc3 => ?_) (fun hc3 => ?_)
 ·have hgr : c < n + M := (hgt c _ hc3).1 rfl;cbv;refine O3 hE hk hRL 0 aP rfl rfl (Int.le_refl _) h0 (by omega) fun l1 n1 q1 q2 => ?_
  have q1' : lo = l1 := by omega
  have q2' : aP = n1 := by omega
  subst q1' q2';cbv;refine UM hE (n + M - aP) hd2 hk hRL (by omega) (hbn2 _ _ (by omega) (by omega) (by omega)) (fun hfit => absurd hfit (by omega)) (fun hno t m row2 j ht qm hr2 => ?_);obtain ⟨L2, hL2, hL2'⟩ := hnl row2 _ j _ _ _ (by omega) (by omega) (by omega) (by omega) hr2;cbv;refine O3 hE (A9 _ _ _) hL2 aP m rfl rfl h0 (by omega) (by omega) fun l1' n1' q1 q2 => ?_;cbv;refine Hb hE (A9 _ _ _) (y := .sl vs .ro) (ys' := vs) ⟨.refl _, hvall⟩ hM fun cm row3 _ hr3 => ?_;have hL3 := hov row2 row3 vs L2 l1' M n1' hL2 hM (by omega) (by omega) hr3;rw [P6];cbv;refine O3 hE (A9 _ _ _) hL3 _ m haddi rfl (by omega) (by omega) (by omega) fun l2' n2' q3 q4 => ?_;cbv;refine O3 hE (hne _ _ ht) hRL aP n rfl rfl h0 (by omega) hlen fun l3' n3' q5 q6 => ?_;cbv;refine Hb hE (A9 _ _ _) (Mc hE (hne _ _ ht)) (hsubl l3' n3' (by omega) (by omega) (by omega)) fun cm2 row4 _ hr4 => ?_;rw [P6];cbv;have h3 := Vt (d := n + M - aP) (m := m) hrow.symm e1 e2 hM h0 h1 rfl qm hr2 (by omega) q2 hr3 (by omega) (by omega) q5 q6 hr4;exact hK t 0 m row4 [] _ _ h3.1 rfl h3.2 (.inr ht) QN
 have hle' : n + M ≤ c := (hgt c _ hc3).2 rfl;cbv;refine O3 hE hk hRL 0 (n + M) rfl hadd (Int.le_refl _) (by omega) (by omega) fun l0 n0 ql qm => ?_;cbv;refine O3 hE hk hRL _ n0 haddi rfl (by omega) (by omega) (by omega) fun l1 n1 q1 q2 => ?_;cbv;refine UN hE (Kw (P := prog) (f := 311) (tS := 38) (tR := 4) (e := 45) (sz := 14) (xs := vs) (t := .ro) Xm (by kernel_rfl) (by kernel_rfl) hk hvall) ?_;cbv;refine HQ hE (fun hc4 => ?_) (fun hc4 => ?_)
 rotate_left
 ·exact absurd (show Ar.nt false = false from hc4) (by rw [Ar.nt_eq]; decide)
 cbv;refine O3 hE hk hRL _ n0 haddi rfl (by omega) (by omega) (by omega) fun l1 n1 q1 q2 => ?_;cbv;refine O3 hE hk hRL aP n0 rfl rfl h0 (by omega) (by omega) fun l2 n2 q3 q4 => ?_;cbv;refine Hb hE hk (Mc hE hk) (hsubl l2 n2 (by omega) (by omega) (by omega)) fun cm row1 _ hr1 => ?_;have hL1 := hov2 row1 l1 l2 n2 n1 (by omega) (by omega) (by omega) (by omega) (by omega) hr1;cbv;refine O3 hE (A9 _ _ _) hL1 aP n0 rfl rfl h0 (by omega) (by omega) fun l3 n3 q5 q6 => ?_;cbv;refine Hb hE (A9 _ _ _) (y := .sl vs .ro) (ys' := vs) ⟨.refl _, hvall⟩ hM fun cm2 row2 _ hr2 => ?_;rw [P6];cbv;have h3 := WE (m := n0) hrow.symm e1 e2 hM h0 h1 hRL (by omega) (by omega) (by omega) q1 q2 q3 q4 hr1 q5 q6 hr2;exact hK id l0 n0 row2 pre _ _ h3.1 (by omega) h3.2 (.inl rfl) (by rw [P6]; exact .refl _)
def cf300 : Cf := ⟨[4], [], [], [], [], []⟩
theorem c300 (N aL bH r) (h : X3 N aL bH = some r) : B6 prog 300 [vi aL, .sl (Ar.lst eXJ bH) .ro] ((B9 r)) := by
 unfold X3 at h
 refine J9 cf300 func300 call300 ntmps300 ?_;intro E H0 K hE hK hO;cbv;refine C8 hE hO fun b1 H hO => ?_;cbv;refine D5 hE ?_;cbv;refine A6 hE h (fun hc h => ?_) (fun hc h => ?_)
 ·cbv;refine C2 hE eXO h fun x2 h => ?_;cbv;refine A8 hE hO 0 rfl rfl fun H hO => ?_;cbv;refine B1 hE hO 0 rfl ?_;cbv;cases h;exact hK _ _ _ hO (.refl _)
 cbv;refine A8 hE hO 0 rfl rfl fun H hO => ?_;cbv;refine B1 hE hO 0 rfl ?_;cbv;cases h;exact hK _ _ _ hO (.agg (.cons (.refl _) (.cons (.refl _) (.cons (.refl _) (.cons (.refl _) (.cons (.refl _) (.cons (.refl _) (.cons (.refl _) (.cons (.lit _ (B3)) (.refl _))))))))))
def cf274 : Cf := ⟨[4], [], [(10, 4)], [], [(20, 5), (20, 16)], []⟩
theorem c274 (N bB bZ r) (h : Z9 N bB bZ = some r) : B6 prog 274 [(B0 bB), .sl (Ar.lst eXJ bZ) .ro] ((B0 r)) := by
 unfold Z9 at h
 refine J9 cf274 func274 call274 ntmps274 ?_;intro E H0 K hE hK hO;cbv;refine C8 hE hO fun b1 H hO => ?_;cbv;refine Dt hE (f := eXJ) h (c298 N bZ) (.refl _) hO fun l2 q3 H hq3 hO h => ?_;cbv;obtain ⟨s4, hx, h⟩ := bind_some h;refine J8 cf274 hE G7 (fun e l H1 => ∃ u1 : OG, T6 u1 (Ar.len s4) ∧ e = .normal ∧ l = [(4, .v (.ref b1 0)), (5, .v (.own u1.id u1.lo u1.n))] ∧ B4 Eq H0 [.blk u1.id (.arr 14 (u1.pre ++ Ar.lst eXJ s4 ++ u1.rest)), .blk b1 (.cells [.bool false, vi 0, .sl [] .nil, vi 0, vi 0, vi 0, vi 0, vi 0, .sl [] .nil, vi 0, vi 0, vi 0, vi 0, vi 0, .str (⟨#[]⟩)])] H1) (by kernel_rfl) ?_ ?_
 ·clear h;have h := hx;clear hx;cbv;refine A6 hE h (fun hc h => ?_) (fun hc h => ?_)
  ·cbv;refine Hh hE (f := eXJ) hO hq3 0 rfl h (c299 N l2 0 ([bB.p])) (.cons (.refl _) (.cons (.lit _ (C7 ((eXO bB.p).symm) (B3))) (.refl _))) fun l5 q6 H hq6 hO h => ?_;cbv;cases h;exact ⟨_, ⟨q6, hq6, rfl, rfl, hO⟩, .e2 .z, rfl⟩
  cbv;cases h;exact ⟨_, ⟨q3, hq3, rfl, rfl, hO⟩, .e2 .z, rfl⟩
 clear hx;rintro e l H ⟨q7, hq7, rfl, rfl, hO⟩;cbv;refine EC hE hq7 ?_;cbv;refine A6 hE h (fun hc h => ?_) (fun hc h => ?_)
 ·cbv;refine A8 hE hO 1 rfl rfl fun H hO => ?_;cbv;refine B1 hE hO 1 rfl ?_;cbv;cases h;exact hK _ _ _ hO (.agg (.cons (.refl _) (.cons (.refl _) (.cons (.lit _ (B3)) (.cons (.refl _) (.cons (.refl _) (.cons (.refl _) (.cons (.refl _) (.cons (.refl _) (.cons (.lit _ (B3)) (.refl _)))))))))))
 cbv;refine Fs hE hO hq7 0 rfl fun H hO => ?_;cbv;refine CX hE (by trivial) ?_;cbv;refine A7 hE h (c300 N 1 s4) (.refl _) fun r8 h => ?_;cbv;refine A8 hE hO 0 rfl rfl fun H hO => ?_;cbv;refine B1 hE hO 0 rfl ?_;cbv;cases h;exact hK _ _ _ hO (.refl _)
def cf301 : Cf := ⟨[], [(5, 6)], [], [], [], []⟩
theorem c301 (N aB aP bP r) (h : M9 N aB aP bP = some r) : Ij prog 301 [vi aP, vi bP] 14 (Ar.lst eXJ aB) (Ar.lst eXJ r) := by
 unfold M9 at h
 obtain ⟨x, h1, h2⟩ := bind_some h;cases O2 h2;obtain ⟨h0, h1, h2, hr⟩ := Vj (f := eXJ) h1;rw [hr];clear hr h
 generalize Ar.lst eXJ aB = xs at *
 rintro H ⟨id, lo, n, pre, rest⟩ ⟨e1, e2⟩ hk
 simp only at e1 e2 hk
 refine Kt (T := TT) cf301 G7 func301 (by rfl) (by kernel_rfl) call301 ntmps301 (by rfl) (by rfl) ?_;intro E K hE hK
 simp only at hK ⊢
 generalize hrow : pre ++ xs ++ rest = row at hk
 obtain ⟨RL, hRL⟩ : ∃ RL : Int, RL = (row.length : Nat) := ⟨_, rfl⟩
 have hlen : lo + n ≤ RL := by rw [hRL, ← hrow, e1, e2]; simp; omega
 have hn0 : 0 ≤ lo ∧ 0 ≤ n ∧ bP ≤ n := by omega
 have hdl : ∀ l2 n2 : Int, 0 ≤ l2 → 0 ≤ n2 → l2 + n2 ≤ RL → n2 = ((G3 row l2 n2).length : Nat) := fun l2 n2 a b c => by rw [V3 a b (by rw [← hRL]; exact c)]; omega
 cbv;refine Mr hE ?_;cbv;refine RF hE hk hRL aP bP rfl rfl h0 h1 (by omega) hlen rfl ?_;cbv;refine HQ hE (fun hc => ?_) (fun hc => ?_)
 ·cbv
  have hij : aP = bP := by rw [Ar.cmp_eq] at hc; simpa [Dk] using hc
  refine hK id lo n row pre rest H ?_ e1 ?_ (.inl rfl) ?_
  ·rw [← hrow, hij, List.take_append_drop]
  ·rw [hij, List.take_append_drop]; exact e2
  rw [P6]; intro y b hy
  by_cases ey : y = id
  ·subst ey; rw [A9] at hy; cases hy; exact hk
  rwa [A3 _ _ ey] at hy
 cbv;refine Mr hE ?_;cbv;refine O3 hE hk hRL 0 aP rfl rfl (Int.le_refl _) h0 (by omega) fun l1 n1 q1 q2 => ?_;cbv;refine O3 hE hk hRL bP n rfl rfl (by omega) (by omega) hlen fun l2 n2 q3 q4 => ?_;cbv;have hsl := hdl l2 n2 (by omega) (by omega) (by omega);refine Ta hE hk hRL (Mc hE hk) hsl (fun hfit m row1 q5 hr1 => ?_) (fun hno => absurd hno (by omega));cbv;refine Mr hE ?_;cbv
 have hR1 : RL = (row1.length : Nat) := by rw [hr1, AR (UC hRL hsl (by omega) (by omega) hfit)]; exact hRL
 refine O3 hE (A9 _ _ _) hR1 m n rfl rfl (by omega) (by omega) (by omega) fun l3 n3 q6 q7 => ?_;cbv;refine SZ hE (A9 _ _ _) fun row2 hr2 => ?_;cbv;have hd := VC hrow.symm e1 e2 h0 h1 h2 (by omega) (by omega) q3 q4 hr1 (q5.trans (congrArg (n1 + ·) hsl)) q6 q7 hr2;rw [P6];exact hK id l1 m row2 pre _ _ hd.1 (by omega) hd.2 (.inl rfl) (by rw [P6]; exact .refl _)
def cf275 : Cf := ⟨[6], [], [], [], [(22, 7)], []⟩
theorem c275 (N bH bN bB r) (h : Bo N bH bN bB = some r) : B6 prog 275 [.sl (Ar.lst eXJ bH) .ro, vi bN, (B0 bB)] ((B0 r)) := by
 unfold Bo at h
 refine J9 cf275 func275 call275 ntmps275 ?_;intro E H0 K hE hK hO;cbv;refine C8 hE hO fun b1 H hO => ?_;cbv;refine Dt hE (f := eXJ) h (c298 N bH) (.refl _) hO fun l2 q3 H hq3 hO h => ?_;cbv;refine A6 hE h (fun hc h => ?_) (fun hc h => ?_)
 ·cbv;refine Hh hE (f := eXJ) hO hq3 0 rfl h (c301 N l2 bN (Ar.ar .add .i64 bN 1)) (.refl _) fun l4 q5 H hq5 hO h => ?_;cbv;refine Fs hE hO hq5 0 rfl fun H hO => ?_;cbv;refine A7 hE h (c300 N 3 l4) (.refl _) fun r6 h => ?_;cbv;refine A8 hE hO 0 rfl rfl fun H hO => ?_;cbv;refine B1 hE hO 0 rfl ?_;cbv;cases h;exact hK _ _ _ hO (.refl _)
 cbv;refine S0 hE hO hq3 0 rfl h fun h => ?_;cbv;refine S6 hE (f := eXJ) (esz := 14) (tz := 14) (off := 0) (u := (fun x7 : A4 => bB.p)) (fun _ => ⟨_, .eq (eXO _) (.refl _), (by rw [eXO]; rfl), S5 _, rfl⟩) (by decide) hO hq3 0 rfl h fun l8 H hq3 h hO => ?_;cbv;refine Fs hE hO hq3 0 rfl fun H hO => ?_;cbv;refine A7 hE h (c300 N 3 l8) (.refl _) fun r9 h => ?_;cbv;refine A8 hE hO 0 rfl rfl fun H hO => ?_;cbv;refine B1 hE hO 0 rfl ?_;cbv;cases h;exact hK _ _ _ hO (.refl _)
def cf302 : Cf := ⟨[22], [], [], [], [], []⟩
theorem c302 (N aB aI r) (h : V5 N aB aI = some r) : IN prog 302 [.sl [] .nil, vi aI] 8 (Ar.lst eXL r) := by
 unfold V5 at h
 obtain ⟨h1, h2, hr⟩ := Hj (f := eXL) h;rw [hr];clear hr h;intro H0
 have hneg : ∀ b, Ar.cmp .lss aI 0 = b → b = false := fun b h => by rw [Ar.cmp_eq] at h; subst h; simp [Dk]; omega
 have hsub : Ar.ar .sub .i64 aI (Ar.ar .sub .i64 0 0) = aI := by rw [Ar.ar_eq, Ar.ar_eq]; simp only [WO]; rw [show (0 : Int) - 0 = 0 from rfl, wrap_small 0 (by omega) (by omega), Int.sub_zero]; exact wrap_small _ (by omega) (by omega)
 have hgt : ∀ b, Ar.cmp .gtr (Ar.ar .sub .i64 aI (Ar.ar .sub .i64 0 0)) 0 = b → (b = false → aI = 0) := fun b h => by rw [hsub, Ar.cmp_eq] at h; subst h; simp [Dk]; omega
 have hbn : aI.toNat * 88 ≤ 140737488355328 := by have := FY (a := aI.toNat) (b := 0) (by_ := 88) (by omega) (by decide); simpa using this
 have hl0 : (0 : Int) = (([] : List V).length : Nat) := rfl;refine AW (T := TT) cf302 G7 func302 (by rfl) (by kernel_rfl) call302 ntmps302 (by rfl) (by rfl) ?_;intro E K hE hK hN;cbv;refine HQ hE (fun hc => absurd (hneg _ hc) (by decide)) (fun hc => ?_);cbv;refine Ms hE hl0 ?_;cbv;refine HQ hE (fun hc2 => ?_) (fun hc2 => ?_)
 ·cbv;refine IX hE ?_;cbv;refine Hc hE aI hsub (.inl rfl) h1 hbn fun t m row j ht hm hrow => ?_;obtain ⟨RL, hRL, hR0⟩ : ∃ RL : Int, RL = (row.length : Nat) ∧ 0 ≤ RL := ⟨_, rfl, by omega⟩;cbv;refine Ms hE hl0 ?_;cbv;refine O3 hE (A9 _ _ _) hRL 0 0 rfl rfl (Int.le_refl _) (Int.le_refl _) hR0 fun l' n' q1 q2 => ?_;cbv
  have e1 : 0 = l' := by omega
  have e2 : 0 = n' := by omega
  subst e1 e2;exact hK ⟨t, 0, 0, [], row⟩ [] _ ⟨rfl, rfl⟩ ((B4.start B7 rfl).push ht rfl)
 cbv;exact hN rfl [] H0 (.start B7 rfl)
theorem c278 (N aK r) (h : T3 N aK = some r) : B6 prog 278 [.sl (Ar.lst eYd aK) .ro] (.sl (Ar.lst eXL r) .ro) := by
 unfold T3 at h
 refine Q9 (T := TT) cf0 G7 func278 (by rfl) (by kernel_rfl) call278 ntmps278 (by rfl) (by rfl) ?_;intro E H0 K hE hK hF;have hO : B4 Eq H0 [] H0 := .start B7 rfl;cbv;refine D5 hE ?_;cbv;obtain ⟨s2, hx, h⟩ := bind_some h;refine F3 cf0 hE G7 (fun s1 => [(0, .v (.sl (Ar.lst eYd aK) .ro)), (3, .v (vi s1.1)), (9, .v (.sl (Ar.lst eYd aK) .ro)), (10, .v (vi (Ar.len aK))), (11, .v (vi s1.2))]) (fun s1 H1 => B4 Eq H0 [] H1) (fun x e l H1 => e = .exit 0 ∧ l = [(0, .v (.sl (Ar.lst eYd aK) .ro)), (3, .v (vi x))] ∧ B4 Eq H0 [] H1) (by kernel_rfl) ?_ hx ?_ hO ?_
 ·intro s1 H o hO h;clear hx;cbv;refine A6 hE h (fun hc h => ?_) (fun hc h => ?_)
  ·cbv;refine C2 hE eYn h fun x3 h => ?_;cbv;refine D5 hE ?_;cbv;refine A6 hE h (fun hc h => ?_) (fun hc h => ?_)
   ·cbv;cases h
   cbv;cases h;exact ⟨_, rfl, .e rfl (.e4 .z), rfl, hO⟩
  cbv;cases h;exact ⟨_, _, rfl, ⟨rfl, rfl, hO⟩, .e2 .z, rfl⟩
 ·exact .e rfl (.e4 .z)
 clear hx;rintro e l H ⟨rfl, rfl, hO⟩;cbv;refine Dt hE (f := eXL) h (c302 N [] s2) (.cons (.refl _) (.cons (.refl _) .nil)) hO fun l4 q5 H hq5 hO h => ?_;cbv;refine D5 hE ?_;cbv;obtain ⟨s8, hx, h⟩ := bind_some h;refine I6 cf0 hE G7 (γ := OG) (fun s6 g => [(6, .v (.own g.id g.lo g.n)), (25, .v (.sl (Ar.lst eYd aK) .ro)), (26, .v (vi (Ar.len aK))), (27, .v (vi s6.1))]) (fun s6 g H1 => T6 g (Ar.len s6.2) ∧ B4 Eq H0 [.blk g.id (.arr 8 (g.pre ++ Ar.lst eXL s6.2 ++ g.rest))] H1) (fun x e l H1 => ∃ u1 : OG, T6 u1 (Ar.len x) ∧ e = .exit 2 ∧ l = [(6, .v (.own u1.id u1.lo u1.n))] ∧ B4 Eq H0 [.blk u1.id (.arr 8 (u1.pre ++ Ar.lst eXL x ++ u1.rest))] H1) (by kernel_rfl) ?_ q5 hx ?_ ?_ ?_
 ·rintro s6 q7 H o ⟨hq7, hO⟩ h;clear hx;cbv;refine A6 hE h (fun hc h => ?_) (fun hc h => ?_)
  ·cbv;refine C2 hE eYn h fun x9 h => ?_;cbv;refine DN (f := eXL) hE Nm (by decide) hO hq7 0 rfl (m := x9) (BD (f := eXL) hE Nm (.refl _)) h fun l11 q10 H hq10 hO h => ?_;cbv;cases h;exact ⟨_, q10, rfl, .e4 .z, rfl, hq10, hO⟩
  cbv;cases h;exact ⟨_, _, rfl, ⟨q7, hq7, rfl, rfl, hO⟩, .e rfl .z, rfl⟩
 ·exact .e4 .z
 ·exact ⟨hq5, hO⟩
 clear hx;rintro e l H ⟨q12, hq12, rfl, rfl, hO⟩;cbv;cases h;exact hF q12 _ _ 0 _ _ hO rfl (T8 hE hq12) (.refl _)
def cf313 : Cf := ⟨[22], [], [], [], [], []⟩
theorem c313 (N aB aI r) (h : Y7 N aB aI = some r) : IN prog 313 [.sl [] .nil, vi aI] 1 (Ar.lst (V.int .i64) r) := by
 unfold Y7 at h
 obtain ⟨h1, h2, hr⟩ := Hj (f := (V.int .i64)) h;rw [hr];clear hr h;intro H0
 have hneg : ∀ b, Ar.cmp .lss aI 0 = b → b = false := fun b h => by rw [Ar.cmp_eq] at h; subst h; simp [Dk]; omega
 have hsub : Ar.ar .sub .i64 aI (Ar.ar .sub .i64 0 0) = aI := by rw [Ar.ar_eq, Ar.ar_eq]; simp only [WO]; rw [show (0 : Int) - 0 = 0 from rfl, wrap_small 0 (by omega) (by omega), Int.sub_zero]; exact wrap_small _ (by omega) (by omega)
 have hgt : ∀ b, Ar.cmp .gtr (Ar.ar .sub .i64 aI (Ar.ar .sub .i64 0 0)) 0 = b → (b = false → aI = 0) := fun b h => by rw [hsub, Ar.cmp_eq] at h; subst h; simp [Dk]; omega
 have hbn : aI.toNat * 8 ≤ 140737488355328 := by have := FY (a := aI.toNat) (b := 0) (by_ := 8) (by omega) (by decide); simpa using this
 have hl0 : (0 : Int) = (([] : List V).length : Nat) := rfl;refine AW (T := TT) cf313 G7 func313 (by rfl) (by kernel_rfl) call313 ntmps313 (by rfl) (by rfl) ?_;intro E K hE hK hN;cbv;refine HQ hE (fun hc => absurd (hneg _ hc) (by decide)) (fun hc => ?_);cbv;refine Ms hE hl0 ?_;cbv;refine HQ hE (fun hc2 => ?_) (fun hc2 => ?_)
 ·cbv;refine IX hE ?_;cbv;refine Hc hE aI hsub (.inl rfl) h1 hbn fun t m row j ht hm hrow => ?_;obtain ⟨RL, hRL, hR0⟩ : ∃ RL : Int, RL = (row.length : Nat) ∧ 0 ≤ RL := ⟨_, rfl, by omega⟩;cbv;refine Ms hE hl0 ?_;cbv;refine O3 hE (A9 _ _ _) hRL 0 0 rfl rfl (Int.le_refl _) (Int.le_refl _) hR0 fun l' n' q1 q2 => ?_;cbv
  have e1 : 0 = l' := by omega
  have e2 : 0 = n' := by omega
  subst e1 e2;exact hK ⟨t, 0, 0, [], row⟩ [] _ ⟨rfl, rfl⟩ ((B4.start B7 rfl).push ht rfl)
 cbv;exact hN rfl [] H0 (.start B7 rfl)
theorem c303 (N aK r) (h : L3 N aK = some r) : B6 prog 303 [.sl (Ar.lst eYe aK) .ro] (.sl (Ar.lst (V.int .i64) r) .ro) := by
 unfold L3 at h
 refine Q9 (T := TT) cf0 G7 func303 (by rfl) (by kernel_rfl) call303 ntmps303 (by rfl) (by rfl) ?_;intro E H0 K hE hK hF;have hO : B4 Eq H0 [] H0 := .start B7 rfl;cbv;refine D5 hE ?_;cbv;obtain ⟨s2, hx, h⟩ := bind_some h;refine F3 cf0 hE G7 (fun s1 => [(0, .v (.sl (Ar.lst eYe aK) .ro)), (3, .v (vi s1.1)), (9, .v (.sl (Ar.lst eYe aK) .ro)), (10, .v (vi (Ar.len aK))), (11, .v (vi s1.2))]) (fun s1 H1 => B4 Eq H0 [] H1) (fun x e l H1 => e = .exit 0 ∧ l = [(0, .v (.sl (Ar.lst eYe aK) .ro)), (3, .v (vi x))] ∧ B4 Eq H0 [] H1) (by kernel_rfl) ?_ hx ?_ hO ?_
 ·intro s1 H o hO h;clear hx;cbv;refine A6 hE h (fun hc h => ?_) (fun hc h => ?_)
  ·cbv;refine C2 hE eYb h fun x3 h => ?_;cbv;refine D5 hE ?_;cbv;refine A6 hE h (fun hc h => ?_) (fun hc h => ?_)
   ·cbv;cases h
   cbv;cases h;exact ⟨_, rfl, .e rfl (.e4 .z), rfl, hO⟩
  cbv;cases h;exact ⟨_, _, rfl, ⟨rfl, rfl, hO⟩, .e2 .z, rfl⟩
 ·exact .e rfl (.e4 .z)
 clear hx;rintro e l H ⟨rfl, rfl, hO⟩;cbv;refine Dt hE (f := (V.int .i64)) h (c313 N [] s2) (.cons (.refl _) (.cons (.refl _) .nil)) hO fun l4 q5 H hq5 hO h => ?_;cbv;refine D5 hE ?_;cbv;obtain ⟨s8, hx, h⟩ := bind_some h;refine I6 cf0 hE G7 (γ := OG) (fun s6 g => [(6, .v (.own g.id g.lo g.n)), (25, .v (.sl (Ar.lst eYe aK) .ro)), (26, .v (vi (Ar.len aK))), (27, .v (vi s6.1))]) (fun s6 g H1 => T6 g (Ar.len s6.2) ∧ B4 Eq H0 [.blk g.id (.arr 1 (g.pre ++ Ar.lst (V.int .i64) s6.2 ++ g.rest))] H1) (fun x e l H1 => ∃ u1 : OG, T6 u1 (Ar.len x) ∧ e = .exit 2 ∧ l = [(6, .v (.own u1.id u1.lo u1.n))] ∧ B4 Eq H0 [.blk u1.id (.arr 1 (u1.pre ++ Ar.lst (V.int .i64) x ++ u1.rest))] H1) (by kernel_rfl) ?_ q5 hx ?_ ?_ ?_
 ·rintro s6 q7 H o ⟨hq7, hO⟩ h;clear hx;cbv;refine A6 hE h (fun hc h => ?_) (fun hc h => ?_)
  ·cbv;refine C2 hE eYb h fun x9 h => ?_;cbv;refine DN (f := (V.int .i64)) hE (fun _ => rfl) (by decide) hO hq7 0 rfl (m := x9) (BD (f := (V.int .i64)) hE (fun _ => rfl) (.refl _)) h fun l11 q10 H hq10 hO h => ?_;cbv;cases h;exact ⟨_, q10, rfl, .e4 .z, rfl, hq10, hO⟩
  cbv;cases h;exact ⟨_, _, rfl, ⟨q7, hq7, rfl, rfl, hO⟩, .e rfl .z, rfl⟩
 ·exact .e4 .z
 ·exact ⟨hq5, hO⟩
 clear hx;rintro e l H ⟨q12, hq12, rfl, rfl, hO⟩;cbv;cases h;exact hF q12 _ _ 0 _ _ hO rfl (T8 hE hq12) (.refl _)
def cf314 : Cf := ⟨[22], [], [], [], [], []⟩
theorem c314 (N aB aI r) (h : S9 N aB aI = some r) : IN prog 314 [.sl [] .nil, vi aI] 2 (Ar.lst eXT r) := by
 unfold S9 at h
 obtain ⟨h1, h2, hr⟩ := Hj (f := eXT) h;rw [hr];clear hr h;intro H0
 have hneg : ∀ b, Ar.cmp .lss aI 0 = b → b = false := fun b h => by rw [Ar.cmp_eq] at h; subst h; simp [Dk]; omega
 have hsub : Ar.ar .sub .i64 aI (Ar.ar .sub .i64 0 0) = aI := by rw [Ar.ar_eq, Ar.ar_eq]; simp only [WO]; rw [show (0 : Int) - 0 = 0 from rfl, wrap_small 0 (by omega) (by omega), Int.sub_zero]; exact wrap_small _ (by omega) (by omega)
 have hgt : ∀ b, Ar.cmp .gtr (Ar.ar .sub .i64 aI (Ar.ar .sub .i64 0 0)) 0 = b → (b = false → aI = 0) := fun b h => by rw [hsub, Ar.cmp_eq] at h; subst h; simp [Dk]; omega
 have hbn : aI.toNat * 16 ≤ 140737488355328 := by have := FY (a := aI.toNat) (b := 0) (by_ := 16) (by omega) (by decide); simpa using this
 have hl0 : (0 : Int) = (([] : List V).length : Nat) := rfl;refine AW (T := TT) cf314 G7 func314 (by rfl) (by kernel_rfl) call314 ntmps314 (by rfl) (by rfl) ?_;intro E K hE hK hN;cbv;refine HQ hE (fun hc => absurd (hneg _ hc) (by decide)) (fun hc => ?_);cbv;refine Ms hE hl0 ?_;cbv;refine HQ hE (fun hc2 => ?_) (fun hc2 => ?_)
 ·cbv;refine IX hE ?_;cbv;refine Hc hE aI hsub (.inl rfl) h1 hbn fun t m row j ht hm hrow => ?_;obtain ⟨RL, hRL, hR0⟩ : ∃ RL : Int, RL = (row.length : Nat) ∧ 0 ≤ RL := ⟨_, rfl, by omega⟩;cbv;refine Ms hE hl0 ?_;cbv;refine O3 hE (A9 _ _ _) hRL 0 0 rfl rfl (Int.le_refl _) (Int.le_refl _) hR0 fun l' n' q1 q2 => ?_;cbv
  have e1 : 0 = l' := by omega
  have e2 : 0 = n' := by omega
  subst e1 e2;exact hK ⟨t, 0, 0, [], row⟩ [] _ ⟨rfl, rfl⟩ ((B4.start B7 rfl).push ht rfl)
 cbv;exact hN rfl [] H0 (.start B7 rfl)
theorem c304 (N aK r) (h : Q6 N aK = some r) : B6 prog 304 [.sl (Ar.lst eYf aK) .ro] (.sl (Ar.lst eXT r) .ro) := by
 unfold Q6 at h
 refine Q9 (T := TT) cf0 G7 func304 (by rfl) (by kernel_rfl) call304 ntmps304 (by rfl) (by rfl) ?_;intro E H0 K hE hK hF;have hO : B4 Eq H0 [] H0 := .start B7 rfl;cbv;refine D5 hE ?_;cbv;obtain ⟨s2, hx, h⟩ := bind_some h;refine F3 cf0 hE G7 (fun s1 => [(0, .v (.sl (Ar.lst eYf aK) .ro)), (3, .v (vi s1.1)), (9, .v (.sl (Ar.lst eYf aK) .ro)), (10, .v (vi (Ar.len aK))), (11, .v (vi s1.2))]) (fun s1 H1 => B4 Eq H0 [] H1) (fun x e l H1 => e = .exit 0 ∧ l = [(0, .v (.sl (Ar.lst eYf aK) .ro)), (3, .v (vi x))] ∧ B4 Eq H0 [] H1) (by kernel_rfl) ?_ hx ?_ hO ?_
 ·intro s1 H o hO h;clear hx;cbv;refine A6 hE h (fun hc h => ?_) (fun hc h => ?_)
  ·cbv;refine C2 hE eYo h fun x3 h => ?_;cbv;refine D5 hE ?_;cbv;refine A6 hE h (fun hc h => ?_) (fun hc h => ?_)
   ·cbv;cases h
   cbv;cases h;exact ⟨_, rfl, .e rfl (.e4 .z), rfl, hO⟩
  cbv;cases h;exact ⟨_, _, rfl, ⟨rfl, rfl, hO⟩, .e2 .z, rfl⟩
 ·exact .e rfl (.e4 .z)
 clear hx;rintro e l H ⟨rfl, rfl, hO⟩;cbv;refine Dt hE (f := eXT) h (c314 N [] s2) (.cons (.refl _) (.cons (.refl _) .nil)) hO fun l4 q5 H hq5 hO h => ?_;cbv;refine D5 hE ?_;cbv;obtain ⟨s8, hx, h⟩ := bind_some h;refine I6 cf0 hE G7 (γ := OG) (fun s6 g => [(6, .v (.own g.id g.lo g.n)), (25, .v (.sl (Ar.lst eYf aK) .ro)), (26, .v (vi (Ar.len aK))), (27, .v (vi s6.1))]) (fun s6 g H1 => T6 g (Ar.len s6.2) ∧ B4 Eq H0 [.blk g.id (.arr 2 (g.pre ++ Ar.lst eXT s6.2 ++ g.rest))] H1) (fun x e l H1 => ∃ u1 : OG, T6 u1 (Ar.len x) ∧ e = .exit 2 ∧ l = [(6, .v (.own u1.id u1.lo u1.n))] ∧ B4 Eq H0 [.blk u1.id (.arr 2 (u1.pre ++ Ar.lst eXT x ++ u1.rest))] H1) (by kernel_rfl) ?_ q5 hx ?_ ?_ ?_
 ·rintro s6 q7 H o ⟨hq7, hO⟩ h;clear hx;cbv;refine A6 hE h (fun hc h => ?_) (fun hc h => ?_)
  ·cbv;refine C2 hE eYo h fun x9 h => ?_;cbv;refine DN (f := eXT) hE Ld (by decide) hO hq7 0 rfl (m := x9) (BD (f := eXT) hE Ld (.refl _)) h fun l11 q10 H hq10 hO h => ?_;cbv;cases h;exact ⟨_, q10, rfl, .e4 .z, rfl, hq10, hO⟩
  cbv;cases h;exact ⟨_, _, rfl, ⟨q7, hq7, rfl, rfl, hO⟩, .e rfl .z, rfl⟩
 ·exact .e4 .z
 ·exact ⟨hq5, hO⟩
 clear hx;rintro e l H ⟨q12, hq12, rfl, rfl, hO⟩;cbv;cases h;exact hF q12 _ _ 0 _ _ hO rfl (T8 hE hq12) (.refl _)
def cf279 : Cf := ⟨[5, 8], [], [(9, 3), (25, 5)], [], [], []⟩
theorem c279 (N aA aH bV cC r) (h : X9 N aA aH bV cC = some r) : B6 prog 279 [(B9 aA), (E8 aH), .bool bV, .bool cC] ((E8 r)) := by
 unfold X9 at h
 refine J9 cf279 func279 call279 ntmps279 ?_;intro E H0 K hE hK hO;cbv;refine C8 hE hO fun b1 H hO => ?_;cbv;refine C8 hE hO fun b2 H hO => ?_;cbv;obtain ⟨s3, hx, h⟩ := bind_some h;refine J8 cf279 hE G7 (fun e l H1 => e = .normal ∧ l = [(2, .v (.bool bV)), (4, .v (.eref (D3 aA) 0)), (5, .v (.ref b1 0)), (8, .v (.ref b2 0))] ∧ B4 Eq H0 [.blk b2 (.cells [vi 0, vi 0, vi 0, vi 0, vi 0, .sl [] .nil, vi 0, vi 0, vi 0, vi 0, vi 0, .str (⟨#[]⟩), .sl [] .nil, .sl [] .nil, .sl [] .nil, .sl [] .nil, .sl [] .nil]), .blk b1 (.cells (R0 s3))] H1) (by kernel_rfl) ?_ ?_
 ·clear h;have h := hx;clear hx;cbv;refine A6 hE h (fun hc h => ?_) (fun hc h => ?_)
  ·cbv;refine B1 hE hO 1 rfl ?_;cbv;refine A7 hE h (c303 N ([[aA.Scope], aH.Opens])) (.cons (.sl _ (.lstc (.eq (eYb ([aA.Scope])) (.lit _ (C7 (rfl) (B3)))) (.lstc (.eq (eYb aH.Opens) (.refl _)) (.lst0)))) (.refl _)) fun r4 h => ?_;cbv;refine A8 hE hO 1 rfl rfl fun H hO => ?_;cbv;cases h;exact ⟨_, ⟨rfl, rfl, hO⟩, .e4 .z, rfl⟩
  cbv;cases h;exact ⟨_, ⟨rfl, rfl, hO⟩, .e4 .z, rfl⟩
 clear hx;rintro e l H ⟨rfl, rfl, hO⟩;cbv;obtain ⟨s5, hx, h⟩ := bind_some h;refine J8 cf279 hE G7 (fun e l H1 => e = .normal ∧ l = [(2, .v (.bool bV)), (4, .v (.eref (D3 aA) 0)), (5, .v (.ref b1 0)), (8, .v (.ref b2 0))] ∧ B4 Eq H0 [.blk b2 (.cells [vi 0, vi 0, vi 0, vi 0, vi 0, .sl [] .nil, vi 0, vi 0, vi 0, vi 0, vi 0, .str (⟨#[]⟩), .sl [] .nil, .sl [] .nil, .sl [] .nil, .sl [] .nil, .sl [] .nil]), .blk b1 (.cells (R0 s5))] H1) (by kernel_rfl) ?_ ?_
 ·clear h;have h := hx;clear hx;cbv;refine A6 hE h (fun hc h => ?_) (fun hc h => ?_)
  ·cbv;refine B1 hE hO 1 rfl ?_;cbv;refine A7 hE h (c303 N ([[aA.Scope], s3.Inside])) (.cons (.sl _ (.lstc (.eq (eYb ([aA.Scope])) (.lit _ (C7 (rfl) (B3)))) (.lstc (.eq (eYb s3.Inside) (.refl _)) (.lst0)))) (.refl _)) fun r6 h => ?_;cbv;refine A8 hE hO 1 rfl rfl fun H hO => ?_;cbv;cases h;exact ⟨_, ⟨rfl, rfl, hO⟩, .e4 .z, rfl⟩
  cbv;refine B1 hE hO 1 rfl ?_;cbv;refine A7 hE h (c304 N ([[(⟨aA.Scope, aA.Span⟩ : W6)], s3.Limits])) (.cons (.sl _ (.lstc (.eq (eYo ([(⟨aA.Scope, aA.Span⟩ : W6)])) (.lit _ (C7 ((eYl (⟨aA.Scope, aA.Span⟩ : W6)).symm) (B3)))) (.lstc (.eq (eYo s3.Limits) (.refl _)) (.lst0)))) (.refl _)) fun r7 h => ?_;cbv;refine A8 hE hO 1 rfl rfl fun H hO => ?_;cbv;cases h;exact ⟨_, ⟨rfl, rfl, hO⟩, .e4 .z, rfl⟩
 clear hx;rintro e l H ⟨rfl, rfl, hO⟩;cbv;refine A6 hE h (fun hc h => ?_) (fun hc h => ?_)
 ·cbv;refine B1 hE hO 1 rfl ?_;cbv;refine A7 hE h (c303 N ([s5.Closes, [aA.Scope]])) (.cons (.sl _ (.lstc (.eq (eYb s5.Closes) (.refl _)) (.lstc (.eq (eYb ([aA.Scope])) (.lit _ (C7 (rfl) (B3)))) (.lst0)))) (.refl _)) fun r8 h => ?_;cbv;refine A8 hE hO 1 rfl rfl fun H hO => ?_;cbv;refine B1 hE hO 1 rfl ?_;cbv;refine A8 hE hO 0 rfl rfl fun H hO => ?_;cbv;refine B1 hE hO 0 rfl ?_;cbv;cases h;exact hK _ _ _ hO (.refl _)
 cbv;refine B1 hE hO 1 rfl ?_;cbv;refine A8 hE hO 0 rfl rfl fun H hO => ?_;cbv;refine B1 hE hO 0 rfl ?_;cbv;cases h;exact hK _ _ _ hO (.refl _)
end Go.Ab
