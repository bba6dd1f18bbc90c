/- GXCo2 -/
import Derived.Test.YtildiiggamckaaaGreatDoorT12
set_option linter.all false
namespace Go.Ab
open Go.RowKit Go.Proofs Go.Proofs.Tryz G4
variable [Ar] [G4]
set_option maxRecDepth 100000
theorem c223 (N bZ aQ r) (h : EK N bZ aQ = some r) : B5 prog 223 [vi bZ, (Jh aQ)] (.bool r) := by
 unfold EK at h
 refine K2 cf0 func223 call223 ntmps223 ?_;intro E H0 K hE hK hO;cbv;cases h;exact hK hO (.refl _)
theorem c281 (N aQ r) (h : Ew N aQ = some r) : B5 prog 281 [(Jh aQ)] (vi r) := by
 unfold Ew at h
 refine K2 cf0 func281 call281 ntmps281 ?_;intro E H0 K hE hK hO;cbv;refine A6 hE h (fun _ h => ?_) fun _ h => ?_
 ·cbv;cases h;exact hK hO (.refl _)
 cbv;refine A6 hE h (fun _ h => ?_) fun _ h => ?_
 ·cbv;cases h;exact hK hO (.refl _)
 cbv;refine A6 hE h (fun _ h => ?_) fun _ h => ?_
 ·cbv;cases h;exact hK hO (.refl _)
 cbv;cases h;exact hK hO (.refl _)
def cf258 : Cf := ⟨[], [], [(5, 5)], [], [], []⟩
theorem c258 (N aQ r) (h : Fd N aQ = some r) : B5 prog 258 [(Jh aQ)] (vi r) := by
 unfold Fd at h
 refine K2 cf258 func258 call258 ntmps258 ?_;intro E H0 K hE hK hO;cbv;obtain ⟨s1, hx, h⟩ := bind_some h;refine K5 cf258 hE H6 (fun e l H1 => e = .normal ∧ l = [(1, .v (.eref (Rr aQ) 0)), fi 4 aQ.Kind, (5, .v (.bool s1))] ∧ B3 Eq H0 [] H1) (by kernel_rfl) ?_ ?_
 ·clear h;have h := hx;clear hx;cbv;refine A6 hE h (fun _ h => ?_) fun _ h => ?_
  ·cbv;cases h;exact ⟨_, ⟨rfl, rfl, hO⟩, .e rfl (.e2 .z), rfl⟩
  cbv;cases h;exact ⟨_, ⟨rfl, rfl, hO⟩, .e rfl (.e2 .z), rfl⟩
 clear hx;rintro e l H ⟨rfl, rfl, hO⟩;cbv;refine A6 hE h (fun _ h => ?_) fun _ h => ?_
 ·cbv;refine A6 hE h (fun _ h => ?_) fun _ h => ?_
  ·cbv;cases h;exact hK hO (.refl _)
  cbv;refine A7 hE h (c281 N aQ) (.refl _) fun r2 h => ?_;cbv;cases h;exact hK hO (.refl _)
 cbv;refine A6 hE h (fun _ h => ?_) fun _ h => ?_
 ·cbv;refine A6 hE h (fun _ h => ?_) fun _ h => ?_
  ·cbv;cases h;exact hK hO (.refl _)
  cbv;refine A7 hE h (c281 N aQ) (.refl _) fun r3 h => ?_;cbv;cases h;exact hK hO (.refl _)
 cbv;cases h;exact hK hO (.refl _)
theorem c222 (N aD r) (h : Dk N aD = some r) : B5 prog 222 [(AE aD)] (vi r) := by
 unfold Dk at h
 refine K2 cf0 func222 call222 ntmps222 ?_;intro E H0 K hE hK hO;cbv;refine A7 hE h (c258 N aD.Value) (.refl _) fun r1 h => ?_;cbv;refine A6 hE h (fun _ h => ?_) fun _ h => ?_
 ·cbv;cases h;exact hK hO (.refl _)
 cbv;refine A6 hE h (fun _ h => ?_) fun _ h => ?_
 ·cbv;refine A7 hE h (c223 N aD.Kind aD.Value) (.refl _) fun r2 h => ?_;cbv;refine A6 hE h (fun _ h => ?_) fun _ h => ?_
  ·cbv;cases h;exact hK hO (.refl _)
  cbv;cases h;exact hK hO (.refl _)
 cbv;cases h;exact hK hO (.refl _)
def cf180 : Cf := ⟨[], [], [(73, 15)], [], [], []⟩
theorem c180 (N aD r) (h : Ge N aD = some r) : B5 prog 180 [(AE aD)] (vi r) := by
 unfold Ge at h
 refine K2 cf180 func180 call180 ntmps180 ?_;intro E H0 K hE hK hO;cbv;refine A7 hE h (c220 N aD.Op) (.refl _) fun r1 h => ?_;cbv;refine A6 hE h (fun _ h => ?_) fun _ h => ?_
 ·cbv;cases h;exact hK hO (.refl _)
 cbv;refine D4 hE ?_;cbv;refine A6 hE h (fun _ h => ?_) fun _ h => ?_
 ·cbv;cases h;exact hK hO (.refl _)
 cbv;refine A7 hE h (c221 N aD.Op) (.refl _) fun r2 h => ?_;cbv;refine A6 hE h (fun _ h => ?_) fun _ h => ?_
 ·cbv;cases h;exact hK hO (.refl _)
 cbv;refine A6 hE h (fun _ h => ?_) fun _ h => ?_
 ·cbv;cases h;exact hK hO (.refl _)
 cbv;obtain ⟨s3, hx, h⟩ := bind_some h;refine K5 cf180 hE H6 (fun e l H1 => match (generalizing := false) s3 with | .inl y => e = .normal ∧ l = [(1, .v (.eref (BW aD) 0)), (5, .v (.bool r2.1)), (6, .v (.bool r2.2)), (7, .v (.bool (Ar.k .eql aD.Op 4))), (8, .v (.bool (Ar.or (Ar.k .eql aD.Op 4) (Ar.k .eql aD.Op 0))))] ∧ B3 Eq H0 [] H1 | .inr y => e = .ret ∧ l = [fi 2 y] ∧ B3 Eq H0 [] H1) (by kernel_rfl) ?_ ?_
 ·clear h;have h := hx;clear hx;cbv;refine A6 hE h (fun _ h => ?_) fun _ h => ?_
  ·cbv;refine A7 hE h (c222 N aD) (.refl _) fun r4 h => ?_;cbv;refine A6 hE h (fun _ h => ?_) fun _ h => ?_
   ·cbv;cases h;exact ⟨_, ⟨rfl, rfl, hO⟩, .e rfl .z, rfl⟩
   cbv;cases h;exact ⟨_, ⟨rfl, rfl, hO⟩, .e rfl (.e4 .z), rfl⟩
  cbv;cases h;exact ⟨_, ⟨rfl, rfl, hO⟩, .e rfl (.e4 .z), rfl⟩
 clear hx
 rcases s3 with y5 | y6
 ·rintro e l H ⟨rfl, rfl, hO⟩;cbv;refine A6 hE h (fun _ h => ?_) fun _ h => ?_
  ·cbv;cases h;exact hK hO (.refl _)
  cbv;cases h;exact hK hO (.refl _)
 rintro e l H ⟨rfl, rfl, hO⟩;cbv;cases h;exact hK hO (.refl _)
theorem c135 (N aD r) (h : EL N aD = some r) : B5 prog 135 [(AE aD)] (vi r) := by
 unfold EL at h
 refine K2 cf0 func135 call135 ntmps135 ?_;intro E H0 K hE hK hO;cbv;refine A7 hE h (c178 N N aD) (.refl _) fun r1 h => ?_;cbv;refine A6 hE h (fun _ h => ?_) fun _ h => ?_
 ·cbv;cases h;exact hK hO (.refl _)
 cbv;refine A6 hE h (fun _ h => ?_) fun _ h => ?_
 ·cbv;cases h;exact hK hO (.refl _)
 cbv;refine A7 hE (g := fun r2 => vi r2) h (fun r2 hx => c179 N N aD (.func (.func 180) [] []) (fun y1 => Ge N y1) (fun y1 r hx => B5.value (F := []) (C := []) (c180 N y1 r hx)) r2 hx) (.refl _) fun r2 h => ?_;cbv;cases h;exact hK hO (.refl _)
def cf249 : Cf := ⟨[], [(6, 10)], [], [], [], []⟩
theorem c249 (N : Nat) : ∀ n aC aE r, Bf N n aC aE = some r → B5 prog 249 [(AE aC), (AE aE)] (.bool r) := by
 intro n
 induction n with
 | zero => intro aC aE r h; cases h
 | succ n ih =>
 intro aC aE r h
 unfold Bf at h
 refine K2 cf249 func249 call249 ntmps249 ?_;intro E H0 K hE hK hO;cbv;refine D4 hE ?_;cbv;refine D4 hE ?_;cbv;refine A6 hE h (fun _ h => ?_) fun _ h => ?_
 ·cbv;cases h;exact hK hO (.refl _)
 cbv;refine D4 hE ?_;cbv;obtain ⟨s2, hx, h⟩ := bind_some h;refine F6 cf249 hE H6 (fun s1 => [(2, .v (.eref (BW aC) 0)), (3, .v (.eref (BW aE) 0)), fi 50 (Ar.len aC.cR), fi 51 s1]) (fun s1 H1 => B3 Eq H0 [] H1) (fun x e l H1 => match (generalizing := false) x with | .inl y => e = .exit 0 ∧ l = [] ∧ B3 Eq H0 [] H1 | .inr y => e = .ret ∧ l = [(4, .b false)] ∧ B3 Eq H0 [] H1) (by kernel_rfl) ?_ hx ?_ hO ?_
 ·intro s1 H o hO h;clear hx;cbv;refine A6 hE h (fun _ h => ?_) fun _ h => ?_
  ·cbv;refine C2 hE eYp h fun x3 h => ?_;cbv;refine C2 hE eYp h fun x4 h => ?_;cbv;refine A7 hE h (ih x3 x4) (.refl _) fun r5 h => ?_;cbv;refine A6 hE h (fun _ h => ?_) fun _ h => ?_
   ·cbv;cases h;exact ⟨_, _, rfl, ⟨rfl, rfl, hO⟩, .b rfl (.z), rfl⟩
   cbv;cases h;exact ⟨_, rfl, .e4 .z, rfl, hO⟩
  cbv;cases h;exact ⟨_, _, rfl, ⟨rfl, rfl, hO⟩, .z, rfl⟩
 ·exact .e4 .z
 clear hx
 rcases s2 with y6 | y7
 ·rintro e l H ⟨rfl, rfl, hO⟩;cbv;cases h;exact hK hO (.refl _)
 rintro e l H ⟨rfl, rfl, hO⟩;cbv;cases h;exact hK hO (.refl _)
theorem c256 (N bM aI cC r) (h : V5 N bM aI cC = some r) : B5 prog 256 [.bool bM, vi aI, vi cC] (.bool r) := by
 unfold V5 at h
 refine K2 cf0 func256 call256 ntmps256 ?_;intro E H0 K hE hK hO;cbv;cases h;exact hK hO (.refl _)
theorem c257 (N bM aI r) (h : K4 N bM aI = some r) : B5 prog 257 [.bool bM, vi aI] (.bool r) := by
 unfold K4 at h
 refine K2 cf0 func257 call257 ntmps257 ?_;intro E H0 K hE hK hO;cbv;cases h;exact hK hO (.refl _)
def cf219 : Cf := ⟨[], [], [(64, 10)], [], [], []⟩
theorem c219 (N aB r) (h : DJ N aB = some r) : B5 prog 219 [(C1 aB)] (vi r) := by
 unfold DJ at h
 refine K2 cf219 func219 call219 ntmps219 ?_;intro E H0 K hE hK hO;cbv;refine A6 hE h (fun _ h => ?_) fun _ h => ?_
 ·cbv;cases h;exact hK hO (.refl _)
 cbv;refine TO hE (g := fun x => (EW x)) (l := K8) rfl (fun _ => rfl) rfl rfl h fun x1 h => ?_;cbv;refine D4 hE ?_;cbv;refine D4 hE ?_;cbv;refine A6 hE h (fun _ h => ?_) fun _ h => ?_
 ·cbv;cases h;exact hK hO (.refl _)
 cbv;refine A7 hE h (c256 N x1.typed aB.Typ 15) (.refl _) fun r2 h => ?_;cbv;refine A6 hE h (fun _ h => ?_) fun _ h => ?_
 ·cbv;cases h;exact hK hO (.refl _)
 cbv;refine A7 hE h (c256 N x1.typed aB.Var 15) (.refl _) fun r3 h => ?_;cbv;refine A6 hE h (fun _ h => ?_) fun _ h => ?_
 ·cbv;cases h;exact hK hO (.refl _)
 cbv;refine A7 hE h (c256 N x1.scope aB.cU 63) (.refl _) fun r4 h => ?_;cbv;refine A6 hE h (fun _ h => ?_) fun _ h => ?_
 ·cbv;cases h;exact hK hO (.refl _)
 cbv;refine A7 hE h (c256 N x1.span aB.Span 1099511627776) (.refl _) fun r5 h => ?_;cbv;refine A6 hE h (fun _ h => ?_) fun _ h => ?_
 ·cbv;cases h;exact hK hO (.refl _)
 cbv;obtain ⟨s6, hx, h⟩ := bind_some h;refine K5 cf219 hE H6 (fun e l H1 => match (generalizing := false) s6 with | .inl y => e = .normal ∧ l = [(1, .v (.eref (D5 aB) 0)), (3, .v (.eref (CA x1) 0))] ∧ B3 Eq H0 [] H1 | .inr y => e = .ret ∧ l = [fi 2 y] ∧ B3 Eq H0 [] H1) (by kernel_rfl) ?_ ?_
 ·clear h;have h := hx;clear hx;cbv;refine A6 hE h (fun _ h => ?_) fun _ h => ?_
  ·cbv;refine A7 hE h (c135 N aB.cN) (.refl _) fun r7 h => ?_;cbv;refine A6 hE h (fun _ h => ?_) fun _ h => ?_
   ·cbv;cases h;exact ⟨_, ⟨rfl, rfl, hO⟩, .e rfl .z, rfl⟩
   cbv;cases h;exact ⟨_, ⟨rfl, rfl, hO⟩, .e2 .z, rfl⟩
  cbv;cases h;exact ⟨_, ⟨rfl, rfl, hO⟩, .e2 .z, rfl⟩
 clear hx
 rcases s6 with y8 | y18
 ·rintro e l H ⟨rfl, rfl, hO⟩;cbv;refine A6 hE h (fun _ h => ?_) fun _ h => ?_
  ·cbv;refine A7 hE h (c249 N N aB.cN (⟨0, [], 0, 0, 0, (⟨0, 0, ⟨#[]⟩⟩ : P7)⟩ : G7)) (.cons (.refl _) (.cons (.agg (.cons (.refl _) (.cons (.lit _ (B4)) (.refl _)))) (.refl _))) fun r9 h => ?_;cbv;refine A6 hE h (fun _ h => ?_) fun _ h => ?_
   ·cbv;cases h;exact hK hO (.refl _)
   cbv;refine A7 hE h (c257 N x1.typed aB.Typ) (.refl _) fun r10 h => ?_;cbv;refine A6 hE h (fun _ h => ?_) fun _ h => ?_
   ·cbv;cases h;exact hK hO (.refl _)
   cbv;refine A7 hE h (c257 N x1.typed aB.Var) (.refl _) fun r11 h => ?_;cbv;refine A6 hE h (fun _ h => ?_) fun _ h => ?_
   ·cbv;cases h;exact hK hO (.refl _)
   cbv;refine A7 hE h (c257 N x1.scope aB.cU) (.refl _) fun r12 h => ?_;cbv;refine A6 hE h (fun _ h => ?_) fun _ h => ?_
   ·cbv;cases h;exact hK hO (.refl _)
   cbv;refine A7 hE h (c257 N x1.span aB.Span) (.refl _) fun r13 h => ?_;cbv;refine A6 hE h (fun _ h => ?_) fun _ h => ?_
   ·cbv;cases h;exact hK hO (.refl _)
   cbv;cases h;exact hK hO (.refl _)
  cbv;refine A7 hE h (c257 N x1.typed aB.Typ) (.refl _) fun r14 h => ?_;cbv;refine A6 hE h (fun _ h => ?_) fun _ h => ?_
  ·cbv;cases h;exact hK hO (.refl _)
  cbv;refine A7 hE h (c257 N x1.typed aB.Var) (.refl _) fun r15 h => ?_;cbv;refine A6 hE h (fun _ h => ?_) fun _ h => ?_
  ·cbv;cases h;exact hK hO (.refl _)
  cbv;refine A7 hE h (c257 N x1.scope aB.cU) (.refl _) fun r16 h => ?_;cbv;refine A6 hE h (fun _ h => ?_) fun _ h => ?_
  ·cbv;cases h;exact hK hO (.refl _)
  cbv;refine A7 hE h (c257 N x1.span aB.Span) (.refl _) fun r17 h => ?_;cbv;refine A6 hE h (fun _ h => ?_) fun _ h => ?_
  ·cbv;cases h;exact hK hO (.refl _)
  cbv;cases h;exact hK hO (.refl _)
 rintro e l H ⟨rfl, rfl, hO⟩;cbv;cases h;exact hK hO (.refl _)
def cf176 : Cf := ⟨[2], [], [], [], [], []⟩
theorem c176 (N aB r) (h : Q0 N aB = some r) : B5 prog 176 [(C1 aB)] (vi r) := by
 unfold Q0 at h
 refine K2 cf176 func176 call176 ntmps176 ?_;intro E H0 K hE hK hO;cbv;refine D1 hE hO fun b1 H hO => ?_;cbv;refine A7 hE h (c218 N N aB) (.refl _) fun r2 h => ?_;cbv;refine A6 hE h (fun _ h => ?_) fun _ h => ?_
 ·cbv;refine A8 hE hO 0 rfl rfl fun H hO => ?_;cbv;refine B1 hE hO 0 rfl ?_;cbv;cases h;exact hK hO (.refl _)
 cbv;refine A6 hE h (fun _ h => ?_) fun _ h => ?_
 ·cbv;refine A8 hE hO 0 rfl rfl fun H hO => ?_;cbv;refine B1 hE hO 0 rfl ?_;cbv;cases h;exact hK hO (.refl _)
 cbv;refine R5 hE h (c216 N aB) (.refl _) fun r3 v4 hv4 h => ?_;cbv;obtain ⟨o9, hx, h⟩ := bind_some h;refine AU cf176 hE H6 (ι := Unit) (enc := fun (x : A5) => [(C1 x)]) (fun (s6 : Unit) F H => B3 Eq F [cb b1 [vi 0]] H) (fun (r : Int) e F H => e = .ret ∧ B3 Eq F [cb b1 [vi r]] H) (fun i s6 y5 => [(2, .v (.ref b1 0)), (5, .v (.eref (D5 y5) 0))]) (fun i s6 y5 F H => B3 Eq F [cb b1 [vi 0]] H) (fun _ => B3.stable B7 _) (fun _ _ => C7.con (B3.stable B7 _)) (fun _ _ _ => B3.stable B7 _) hv4 hx (hO) (by decide) (fun _ => rfl) (by kernel_rfl) (by kernel_rfl) ?_ ?_ ?_ ?_
 ·rintro E i8 y5 s6 F7 H hE hO;clear hx h;cbv;exact ⟨(), hO, .e2 .z, rfl⟩
 ·rintro E i8 _ y5 s6 F7 H o hE hF h hO;clear hx;cbv;refine A7 hE h (c219 N y5) (.refl _) fun r10 h => ?_;cbv;refine A6 hE h (fun _ h => ?_) fun _ h => ?_
  ·cbv;refine A8 hE hO 0 rfl rfl fun H hO => ?_;cbv;cases h;exact ⟨_, rfl, rfl, ⟨rfl, hO⟩⟩
  cbv;cases h;exact ⟨_, rfl, hO⟩
 ·rintro d11 s13 H rfl hd hO;have hO : B3 Eq H0 [cb b1 [vi 0], .blk d11 DB] H := B3.dblk hd hO;clear hd;clear hx;cbv;refine A8 hE hO 0 rfl rfl fun H hO => ?_;cbv;refine Bp hE hO 1 rfl fun H hO => ?_;cbv;refine B1 hE hO 0 rfl ?_;cbv;cases h;exact hK hO (.refl _)
 rintro d11 y14 e H rfl hd hX;clear hx
 rcases hX with ⟨rfl, hO⟩
 have hO : B3 Eq H0 [cb b1 [vi y14], .blk d11 DB] H := B3.dblk hd hO;clear hd;cbv;refine Bp hE hO 1 rfl fun H hO => ?_;cbv;refine B1 hE hO 0 rfl ?_;cbv;cases h;exact hK hO (.refl _)
def cf209 : Cf := ⟨[2], [], [], [], [], []⟩
theorem c209 (N aB r) (h : DI N aB = some r) : B5 prog 209 [(C1 aB)] (vi r) := by
 unfold DI at h
 refine K2 cf209 func209 call209 ntmps209 ?_;intro E H0 K hE hK hO;cbv;refine D1 hE hO fun b1 H hO => ?_;cbv;refine A7 hE h (c176 N aB) (.refl _) fun r2 h => ?_;cbv;refine A6 hE h (fun _ h => ?_) fun _ h => ?_
 ·cbv;refine A8 hE hO 0 rfl rfl fun H hO => ?_;cbv;refine B1 hE hO 0 rfl ?_;cbv;cases h;exact hK hO (.refl _)
 cbv;refine R5 hE h (c216 N aB) (.refl _) fun r3 v4 hv4 h => ?_;cbv;obtain ⟨o9, hx, h⟩ := bind_some h;refine AU cf209 hE H6 (ι := Unit) (enc := fun (x : A5) => [(C1 x)]) (fun (s6 : Unit) F H => B3 Eq F [cb b1 [vi 0]] H) (fun (r : Int) e F H => e = .ret ∧ B3 Eq F [cb b1 [vi r]] H) (fun i s6 y5 => [(2, .v (.ref b1 0)), (4, .v (.eref (D5 y5) 0))]) (fun i s6 y5 F H => B3 Eq F [cb b1 [vi 0]] H) (fun _ => B3.stable B7 _) (fun _ _ => C7.con (B3.stable B7 _)) (fun _ _ _ => B3.stable B7 _) hv4 hx (hO) (by decide) (fun _ => rfl) (by kernel_rfl) (by kernel_rfl) ?_ ?_ ?_ ?_
 ·rintro E i8 y5 s6 F7 H hE hO;clear hx h;cbv;exact ⟨(), hO, .e2 .z, rfl⟩
 ·rintro E i8 _ y5 s6 F7 H o hE hF h hO;clear hx;cbv;refine A6 hE h (fun _ h => ?_) fun _ h => ?_
  ·cbv;refine A8 hE hO 0 rfl rfl fun H hO => ?_;cbv;cases h;exact ⟨_, rfl, rfl, ⟨rfl, hO⟩⟩
  cbv;cases h;exact ⟨_, rfl, hO⟩
 ·rintro d10 s12 H rfl hd hO;have hO : B3 Eq H0 [cb b1 [vi 0], .blk d10 DB] H := B3.dblk hd hO;clear hd;clear hx;cbv;refine A8 hE hO 0 rfl rfl fun H hO => ?_;cbv;refine Bp hE hO 1 rfl fun H hO => ?_;cbv;refine B1 hE hO 0 rfl ?_;cbv;cases h;exact hK hO (.refl _)
 rintro d10 y13 e H rfl hd hX;clear hx
 rcases hX with ⟨rfl, hO⟩
 have hO : B3 Eq H0 [cb b1 [vi y13], .blk d10 DB] H := B3.dblk hd hO;clear hd;cbv;refine Bp hE hO 1 rfl fun H hO => ?_;cbv;refine B1 hE hO 0 rfl ?_;cbv;cases h;exact hK hO (.refl _)
theorem c169 (N aB r) (h : Ca N aB = some r) : B5 prog 169 [(C1 aB)] (vi r) := by
 unfold Ca at h
 refine K2 cf0 func169 call169 ntmps169 ?_;intro E H0 K hE hK hO;cbv;refine A7 hE h (c209 N aB) (.refl _) fun r1 h => ?_;cbv;refine A6 hE h (fun _ h => ?_) fun _ h => ?_
 ·cbv;cases h;exact hK hO (.refl _)
 cbv;refine A7 hE h (c172 N aB) (.refl _) fun r2 h => ?_;cbv;refine A6 hE h (fun _ h => ?_) fun _ h => ?_
 ·cbv;cases h;exact hK hO (.refl _)
 cbv;cases h;exact hK hO (.refl _)
theorem c134 (N : Nat) (aA : List A5) (aU : V) (aL : A5 → Option Bool) (aY : ∀ y1 q, aL y1 = some q → Q6 prog aU [(C1 y1)] (.bool q)) (r : Int) (h : G1 N aA aL = some r) : B5 prog 134 [sr eYd aA, aU] (vi r) := by
 unfold G1 at h
 refine K2 cf0 func134 call134 ntmps134 ?_;intro E H0 K hE hK hO;cbv;refine D4 hE ?_;cbv;obtain ⟨s2, hx, h⟩ := bind_some h;refine F6 cf0 hE H6 (fun s1 => [(0, .v (sr eYd aA)), (1, .v (aU)), fi 7 (Ar.len aA), fi 8 s1]) (fun s1 H1 => B3 Eq H0 [] H1) (fun x e l H1 => match (generalizing := false) x with | .inl y => e = .exit 0 ∧ l = [] ∧ B3 Eq H0 [] H1 | .inr y => e = .ret ∧ l = [fi 4 y] ∧ B3 Eq H0 [] H1) (by kernel_rfl) ?_ hx ?_ hO ?_
 ·intro s1 H o hO h;clear hx;cbv;refine A6 hE h (fun _ h => ?_) fun _ h => ?_
  ·cbv;refine C2 hE eYi h fun x3 h => ?_;cbv;refine As hE (g := fun r4 => .bool r4) h (fun r4 hx => aY x3 r4 hx) (.refl _) fun r4 h => ?_;cbv;refine A6 hE h (fun _ h => ?_) fun _ h => ?_
   ·cbv;cases h;exact ⟨_, _, rfl, ⟨rfl, rfl, hO⟩, .e rfl .z, rfl⟩
   cbv;cases h;exact ⟨_, rfl, .e4 .z, rfl, hO⟩
  cbv;cases h;exact ⟨_, _, rfl, ⟨rfl, rfl, hO⟩, .z, rfl⟩
 ·exact .e4 .z
 clear hx
 rcases s2 with y5 | y6
 ·rintro e l H ⟨rfl, rfl, hO⟩;cbv;cases h;exact hK hO (.refl _)
 rintro e l H ⟨rfl, rfl, hO⟩;cbv;cases h;exact hK hO (.refl _)
def cf253 : Cf := ⟨[8], [], [], [], [], []⟩
theorem c253 (N : Nat) (aT : List A5) (aV : List A5) (bV : V) (bN : A5 → A5 → Option Bool) (cI : ∀ y1 y2 q, bN y1 y2 = some q → Q6 prog bV [(C1 y1), (C1 y2)] (.bool q)) (r : Bool) (h : G0 N aT aV bN = some r) : B5 prog 253 [sr eYd aT, sr eYd aV, bV] (.bool r) := by
 unfold G0 at h
 refine K2 cf253 func253 call253 ntmps253 ?_;intro E H0 K hE hK hO;cbv;refine D4 hE ?_;cbv;refine D4 hE ?_;cbv;refine A6 hE h (fun _ h => ?_) fun _ h => ?_
 ·cbv;cases h;exact hK hO (.refl _)
 cbv;refine D4 hE ?_;cbv;obtain ⟨s2, hx, h⟩ := bind_some h;refine F6 cf253 hE H6 (fun s1 => [(1, .v (sr eYd aV)), (2, .v (bV)), (15, .v (sr eYd aT)), fi 16 (Ar.len aT), fi 17 s1]) (fun s1 H1 => B3 Eq H0 [] H1) (fun x e l H1 => match (generalizing := false) x with | .inl y => e = .exit 0 ∧ l = [] ∧ B3 Eq H0 [] H1 | .inr y => e = .ret ∧ l = [(6, .b false)] ∧ B3 Eq H0 [] H1) (by kernel_rfl) ?_ hx ?_ hO ?_
 ·intro s1 H o hO h;clear hx;cbv;refine A6 hE h (fun _ h => ?_) fun _ h => ?_
  ·cbv;refine C2 hE eYi h fun x3 h => ?_;cbv;refine D1 hE hO fun b4 H hO => ?_;cbv;refine A8 hE hO 0 rfl rfl fun H hO => ?_;cbv;refine C2 hE eYi h fun x5 h => ?_;cbv;refine B1 hE hO 0 rfl ?_;cbv;refine As hE (g := fun r6 => .bool r6) h (fun r6 hx => cI x3 x5 r6 hx) (.refl _) fun r6 h => ?_;cbv;refine A6 hE h (fun _ h => ?_) fun _ h => ?_
   ·cbv;cases h;exact ⟨_, _, rfl, ⟨rfl, rfl, hO.tail⟩, .b rfl (.z), rfl⟩
   cbv;cases h;exact ⟨_, rfl, .e rfl (.e4 .z), rfl, hO.tail⟩
  cbv;cases h;exact ⟨_, _, rfl, ⟨rfl, rfl, hO⟩, .z, rfl⟩
 ·exact .e rfl (.e4 .z)
 clear hx
 rcases s2 with y7 | y8
 ·rintro e l H ⟨rfl, rfl, hO⟩;cbv;cases h;exact hK hO (.refl _)
 rintro e l H ⟨rfl, rfl, hO⟩;cbv;cases h;exact hK hO (.refl _)
theorem c215 (N : Nat) : ∀ n aC aE r, Aq N n aC aE = some r → B5 prog 215 [(C1 aC), (C1 aE)] (.bool r) := by
 intro n
 induction n with
 | zero => intro aC aE r h; cases h
 | succ n ih =>
 intro aC aE r h
 unfold Aq at h
 refine K2 cf0 func215 call215 ntmps215 ?_;intro E H0 K hE hK hO;cbv;refine A6 hE h (fun _ h => ?_) fun _ h => ?_
 ·cbv;cases h;exact hK hO (.refl _)
 cbv;refine A7 hE h (c249 N N aC.cN aE.cN) (.refl _) fun r1 h => ?_;cbv;refine A6 hE h (fun _ h => ?_) fun _ h => ?_
 ·cbv;cases h;exact hK hO (.refl _)
 cbv;refine A7 hE (g := fun r2 => .bool r2) h (fun r2 hx => c253 N aC.cR aE.cR (.func (.func 215) [] []) (fun y1 y2 => Aq N n y1 y2) (fun y1 y2 r hx => B5.value (F := []) (C := []) (ih y1 y2 r hx)) r2 hx) (.refl _) fun r2 h => ?_;cbv;cases h;exact hK hO (.refl _)
theorem c214 (N bH aF r) (h : X3 N bH aF = some r) : B5 prog 214 [(C1 bH), .eref (D5 aF) 0] (.bool r) := by
 unfold X3 at h
 refine K2 cf0 func214 call214 ntmps214 ?_;intro E H0 K hE hK hO;cbv;refine A7 hE h (c215 N N aF bH) (.refl _) fun r1 h => ?_;cbv;cases h;exact hK hO (.refl _)
theorem c171 (N aG aB r) (h : AA N aG aB = some r) : B5 prog 171 [sr eYd aG, (C1 aB)] (vi r) := by
 unfold AA at h
 refine K2 cf0 func171 call171 ntmps171 ?_;intro E H0 K hE hK hO;cbv;refine A7 hE (g := fun r1 => vi r1) h (fun r1 hx => c134 N aG (.func (.func 214) [] [.eref (D5 aB) 0]) (fun y1 => X3 N y1 aB) (fun y1 r hx => B5.value (F := []) (C := [.eref (D5 aB) 0]) (c214 N y1 aB r hx)) r1 hx) (.refl _) fun r1 h => ?_;cbv;cases h;exact hK hO (.refl _)
theorem c244 (N aF r) (h : AZ N aF = some r) : Et prog 244 (fun yv => [yv, .eref (D5 aF) 0]) (List.map (fun (x : (B8 × A1)) => [(F3 x.1), (B0 x.2)]) r) Vd := by
 unfold AZ at h
 obtain ⟨⟨w0, u0⟩, h1, hr⟩ := bind_some h;clear h;have hr := N2 hr;subst hr;have h := h1;clear h1;refine L7 cf0 H6 func244 (by rfl) (by kernel_rfl) call244 ntmps244 (by rfl) (fun _ => rfl) ?_;intro yv I D hI hD hy tl F E H K hE hO hK hKD
 have hO : B3 (I (List.map (fun (x : (B8 × A1)) => [(F3 x.1), (B0 x.2)]) (w0 ++ []) ++ tl)) F [] H := by rw [List.append_nil]; exact hO
 cbv;obtain ⟨w1, h1, he⟩ := P8 h;clear h;have h := h1;clear h1
 rw [he, List.append_assoc] at hO
 clear he;have hO : B3 (I ([.agg [vi 0, vi 0, vi aF.Var, vi aF.Typ, vi aF.cN.Op, sr eYg aF.cN.cR, vi aF.cN.Var, vi aF.cN.Field, vi aF.cN.Kind, vi aF.cN.Value.Kind, vi aF.cN.Value.Num, .str aF.cN.Value.Text, sr (V.int .i64) ([]), sr (V.int .i64) ([]), sr eYg ([]), sr eYn ([]), sr (V.int .i64) ([])], .agg [.bool true, vi 0, sr eYd ([]), vi 0, vi 0, vi 0, vi 0, vi 0, sr eYg ([]), vi 0, vi 0, vi 0, vi 0, vi 0, .str (⟨#[]⟩)]] :: (List.map (fun (x : (B8 × A1)) => [(F3 x.1), (B0 x.2)]) (w1 ++ []) ++ tl))) F [] _ := hO;refine AT hE hI hD hy hO (.cons (.agg (.cons (.refl _) (.cons (.refl _) (.cons (.refl _) (.cons (.refl _) (.cons (.refl _) (.cons (.refl _) (.cons (.refl _) (.cons (.refl _) (.cons (.refl _) (.cons (.refl _) (.cons (.refl _) (.cons (.refl _) (.cons (.lit _ (B4)) (.cons (.lit _ (B4)) (.cons (.lit _ (B4)) (.cons (.lit _ (B4)) (.cons (.lit _ (B4)) (.refl _))))))))))))))))))) (.cons (.agg (.cons (.refl _) (.cons (.refl _) (.cons (.lit _ (B4)) (.cons (.refl _) (.cons (.refl _) (.cons (.refl _) (.cons (.refl _) (.cons (.refl _) (.cons (.lit _ (B4)) (.refl _))))))))))) (.refl _))) (fun H hO => ?_) (fun H hO => ?_)
 ·cbv;obtain ⟨hw, _⟩ := C4 h
  rw [← hw] at hO
  exact hK _ _ _ hO trivial
 clear h;cbv;exact hKD _ _ _ hO trivial
def cf298 : Cf := ⟨[7], [], [], [], [], []⟩
theorem c298 (N aA r) (h : J7 N aA = some r) : Ld prog 298 [sr eYd aA] 14 (Ar.lst eYd r) := by
 unfold J7 at h
 intro H0;refine BU (T := TT) cf298 H6 func298 (by rfl) (by kernel_rfl) call298 ntmps298 (by rfl) (by rfl) ?_;intro E K hE hK hN;have hO : B3 Eq H0 [] H0 := .start B7 rfl;cbv;refine TK hE rfl (fun hx => ?_) ?_
 ·cbv;exact hN (Pf hx h) [] H0 hO
 cbv;refine QS (f := eYd) hE W3 (by decide) hO (.inr rfl) (m := aA) (BI (f := eYd) hE W3 (.refl _)) h fun l q H hq hO h => ?_;cbv;cases h;exact hK q _ _ (W9 hE hq) hO
theorem XE (vals : Array Value) (w : World) : (callFunc 311 vals).run prog w = ((Extern.SlicesOverlaps.overlaps #[38, 38] #[4] vals).run prog w).andThen fun v w' => .ok (.value v) w' :=
 run_callFunc_extern func311 (by kernel_rfl) (by kernel_rfl) (by kernel_rfl) (e := Extern.SlicesOverlaps.overlaps #[38, 38] #[4]) (by kernel_rfl) vals w
def cf299 : Cf := ⟨[], [(11, 8), (15, 8)], [], [], [], []⟩
set_option maxHeartbeats 1000000 in
theorem c299 (N aA aN aQ r) (h : N8 N aA aN aQ = some r) : IA prog 299 [vi aN, .sl (Ar.lst eYd aQ) .ro] 14 (Ar.lst eYd aA) (Ar.lst eYd r) := by
 unfold N8 at h
 obtain ⟨x, h1, h2⟩ := bind_some h;cases N2 h2;obtain ⟨h0, h1, h2, hr⟩ := VD (f := eYd) h1;rw [hr];clear hr h;have hvall := Il W3 aQ
 generalize Ar.lst eYd aA = xs at *
 generalize Ar.lst eYd aQ = vs at *
 rintro H ⟨id, lo, n, pre, rest⟩ ⟨e1, e2⟩ hk
 simp only at e1 e2 hk
 refine KO (T := TT) cf299 H6 func299 (by rfl) (by kernel_rfl) call299 ntmps299 (by rfl) (by rfl) ?_;intro E K hE hK
 simp only at hK ⊢
 generalize hrow : pre ++ xs ++ rest = row at hk
 obtain ⟨RL, hRL⟩ : ∃ RL : Int, RL = (row.length : Nat) := ⟨_, rfl⟩;obtain ⟨M, hM⟩ : ∃ M : Int, M = (vs.length : Nat) := ⟨_, rfl⟩
 have hlen : lo + n ≤ RL := by rw [hRL, ← hrow, e1, e2]; simp; omega
 have hn0 : 0 ≤ lo ∧ 0 ≤ n ∧ aN ≤ n ∧ 0 ≤ M ∧ n + M ≤ 1073741824 := by omega
 have hwrap : ∀ a b : Int, 0 ≤ a → 0 ≤ b → a + b ≤ 1073741824 → Ar.ar .add .i64 a b = a + b := fun a b ha hb hab => by rw [Ar.ar_eq]; exact wrap_small _ (by omega) (by omega)
 have hwrap2 : ∀ a b : Int, 0 ≤ b → b ≤ a → a ≤ 1073741824 → Ar.ar .sub .i64 a b = a - b := fun a b ha hb hab => by rw [Ar.ar_eq]; exact wrap_small _ (by omega) (by omega)
 have hadd : Ar.ar .add .i64 n M = n + M := hwrap _ _ (by omega) (by omega) (by omega);have haddi : Ar.ar .add .i64 aN M = aN + M := hwrap _ _ (by omega) (by omega) (by omega)
 have hd2 : Ar.ar .sub .i64 (Ar.ar .add .i64 n M) aN = n + M - aN := by rw [hadd]; exact hwrap2 _ aN h0 (by omega) (by omega)
 have hgt : ∀ c b, Ar.k .gtr (Ar.ar .add .i64 n M) c = b → (b = true → c < n + M) ∧ (b = false → n + M ≤ c) := fun c b h => by
  rw [Ar.cmp_eq, hadd] at h; subst h; simp [Dn]
 have hbn : (n.toNat + vs.length) * 152 ≤ 140737488355328 := Ga (by omega) (by decide);have hbn2 : ∀ a b : Int, 0 ≤ a → 0 ≤ b → a + b ≤ 1073741824 → (a.toNat + b.toNat) * 152 ≤ 140737488355328 := fun a b _ _ _ => Ga (by omega) (by decide)
 have hsubl : ∀ l2 n2 : Int, 0 ≤ l2 → 0 ≤ n2 → l2 + n2 ≤ RL → n2 = ((G8 row l2 n2).length : Nat) := fun l2 n2 a b c => by rw [W4 a b (by rw [← hRL]; exact c)]; omega
 have hov : ∀ (r1 r2 ys : List V) (L l YL n : Int), L = (r1.length : Nat) → YL = (ys.length : Nat) → 0 ≤ l → l + YL ≤ L → r2 = U4 r1 l.toNat (ys.take n.toNat) → L = (r2.length : Nat) := fun r1 r2 ys L l YL n a b c d e => by
  rw [e, Bc (by simp; omega)]; exact a
 have hov2 : ∀ (r1 : List V) (l l2 n2 n : Int), 0 ≤ l → 0 ≤ n → l + n ≤ RL → 0 ≤ l2 → 0 ≤ n2 → r1 = U4 row l.toNat ((G8 row l2 n2).take n.toNat) → RL = (r1.length : Nat) := fun r1 l l2 n2 n a b c _ _ e => by
  rw [e, Bc (by simp; omega)]; exact hRL
 have hnl : ∀ (r2 : List V) (z : V) (j : Nat) (l n d : Int), 0 ≤ l → 0 ≤ n → l + n ≤ RL → 0 ≤ d → r2 = G8 row l n ++ List.replicate d.toNat z ++ List.replicate j z → ∃ L : Int, L = (r2.length : Nat) ∧ n + d ≤ L := fun r2 z j l n d a b c e f => ⟨_, rfl, by rw [f]; simp only [List.length_append, List.length_replicate, W4 a b (by rw [← hRL]; exact c)]; omega⟩
 have hne : ∀ t (b : Option AI), H t = none → upd H t b id = some (.arr 14 row) := fun t b ht => by rw [A4 _ _ (fun e => by subst e; rw [hk] at ht; cases ht)]; exact hk
 have hx0 : vs = [] → xs.take aN.toNat ++ vs ++ xs.drop aN.toNat = xs := fun e => by rw [e, List.append_nil, List.take_append_drop]
 have hx1 : aN = n → xs.take aN.toNat ++ vs ++ xs.drop aN.toNat = xs ++ vs := fun e => by rw [e, e2, Int.toNat_natCast, List.take_of_length_le (Nat.le_refl _), List.drop_of_length_le (Nat.le_refl _), List.append_nil]
 have hv0 : M = 0 → vs = [] := fun e => List.length_eq_zero_iff.1 (by omega)
 have hcmp : ∀ op a b c, Ar.k op a b = c → Dn op a b = c := fun op a b c h => by rw [← Ar.cmp_eq]; exact h
 cbv;refine P1 hE hk hRL aN n rfl rfl h0 (by omega) hlen fun _ _ _ _ => ?_;cbv;refine MR hE hM ?_;cbv;refine Ij hE (fun hc => ?_) (fun hc => ?_)
 ·cbv
  have hm0 : M = 0 := by simpa [Dn] using hcmp _ _ _ _ hc
  rw [hx0 (hv0 hm0)] at hK
  refine hK id lo n row pre rest H hrow.symm e1 e2 (.inl rfl) ?_;rw [Q9]; exact WG hk
 cbv
 have hm0 : ¬ M = 0 := by simpa [Dn] using hcmp _ _ _ _ hc
 refine MQ hE ?_;cbv;refine Ij hE (fun hc2 => ?_) (fun hc2 => ?_)
 ·cbv
  have hin2 : aN = n := by simpa [Dn] using hcmp _ _ _ _ hc2
  rw [hx1 hin2] at hK
  refine Tx hE hk hRL (y := .sl vs .ro) (ys' := vs) ⟨.refl _, hvall⟩ hM (fun hfit m row1 q5 hr1 => ?_) (fun hno => ⟨hbn, fun t m row1 j ht q5 hr1 => ?_⟩)
  ·cbv;have h3 := VO hrow.symm e1 e2 hM q5 hr1;exact hK id lo m row1 pre _ _ h3.1 e1 h3.2 (.inl rfl) (by rw [Q9]; exact .refl _)
  cbv;have h3 := Ud hrow.symm e1 e2 hM q5 hr1;exact hK t 0 m row1 [] _ _ h3.1 rfl h3.2 (.inr ht) Rh
 cbv;refine WK hE hk hRL fun c hcap => ?_;cbv;refine Ij hE (fun hc3 => ?_) (fun hc3 => ?_)
 ·have hgr : c < n + M := (hgt c _ hc3).1 rfl;cbv;refine P1 hE hk hRL 0 aN rfl rfl (Int.le_refl _) h0 (by omega) fun l1 n1 q1 q2 => ?_
  have q1' : lo = l1 := by omega
  have q2' : aN = n1 := by omega
  subst q1' q2';cbv;refine Ve hE (n + M - aN) hd2 hk hRL (by omega) (hbn2 _ _ (by omega) (by omega) (by omega)) (fun hfit => absurd hfit (by omega)) (fun hno t m row2 j ht qm hr2 => ?_);obtain ⟨L2, hL2, hL2'⟩ := hnl row2 _ j _ _ _ (by omega) (by omega) (by omega) (by omega) hr2;cbv;refine P1 hE (A9 _ _ _) hL2 aN m rfl rfl h0 (by omega) (by omega) fun l1' n1' q1 q2 => ?_;cbv;refine Hk hE (A9 _ _ _) (y := .sl vs .ro) (ys' := vs) ⟨.refl _, hvall⟩ hM fun cm row3 _ hr3 => ?_;have hL3 := hov row2 row3 vs L2 l1' M n1' hL2 hM (by omega) (by omega) hr3;rw [Q9];cbv;refine P1 hE (A9 _ _ _) hL3 _ m haddi rfl (by omega) (by omega) (by omega) fun l2' n2' q3 q4 => ?_;cbv;refine P1 hE (hne _ _ ht) hRL aN n rfl rfl h0 (by omega) hlen fun l3' n3' q5 q6 => ?_;cbv;refine Hk hE (A9 _ _ _) (ME hE (hne _ _ ht)) (hsubl l3' n3' (by omega) (by omega) (by omega)) fun cm2 row4 _ hr4 => ?_;rw [Q9];cbv;have h3 := VN (d := n + M - aN) (m := m) hrow.symm e1 e2 hM h0 h1 rfl qm hr2 (by omega) q2 hr3 (by omega) (by omega) q5 q6 hr4;exact hK t 0 m row4 [] _ _ h3.1 rfl h3.2 (.inr ht) Rh
 have hle' : n + M ≤ c := (hgt c _ hc3).2 rfl;cbv;refine P1 hE hk hRL 0 (n + M) rfl hadd (Int.le_refl _) (by omega) (by omega) fun l0 n0 ql qm => ?_;cbv;refine P1 hE hk hRL _ n0 haddi rfl (by omega) (by omega) (by omega) fun l1 n1 q1 q2 => ?_;cbv;refine Vf hE (KS (P := prog) (f := 311) (tS := 38) (tR := 4) (e := 45) (sz := 14) (xs := vs) (t := .ro) XE (by kernel_rfl) (by kernel_rfl) hk hvall) ?_;cbv;refine Ij hE (fun hc4 => ?_) (fun hc4 => ?_)
 rotate_left
 ·exact absurd (show Ar.nt false = false from hc4) (by rw [Ar.nt_eq]; decide)
 cbv;refine P1 hE hk hRL _ n0 haddi rfl (by omega) (by omega) (by omega) fun l1 n1 q1 q2 => ?_;cbv;refine P1 hE hk hRL aN n0 rfl rfl h0 (by omega) (by omega) fun l2 n2 q3 q4 => ?_;cbv;refine Hk hE hk (ME hE hk) (hsubl l2 n2 (by omega) (by omega) (by omega)) fun cm row1 _ hr1 => ?_;have hL1 := hov2 row1 l1 l2 n2 n1 (by omega) (by omega) (by omega) (by omega) (by omega) hr1;cbv;refine P1 hE (A9 _ _ _) hL1 aN n0 rfl rfl h0 (by omega) (by omega) fun l3 n3 q5 q6 => ?_;cbv;refine Hk hE (A9 _ _ _) (y := .sl vs .ro) (ys' := vs) ⟨.refl _, hvall⟩ hM fun cm2 row2 _ hr2 => ?_;rw [Q9];cbv;have h3 := WT (m := n0) hrow.symm e1 e2 hM h0 h1 hRL (by omega) (by omega) (by omega) q1 q2 q3 q4 hr1 q5 q6 hr2;exact hK id l0 n0 row2 pre _ _ h3.1 (by omega) h3.2 (.inl rfl) (by rw [Q9]; exact .refl _)
def cf300 : Cf := ⟨[4], [], [], [], [], []⟩
theorem c300 (N aM bI r) (h : Y4 N aM bI = some r) : B5 prog 300 [vi aM, sr eYd bI] ((C1 r)) := by
 unfold Y4 at h
 refine K2 cf300 func300 call300 ntmps300 ?_;intro E H0 K hE hK hO;cbv;refine D1 hE hO fun b1 H hO => ?_;cbv;refine D4 hE ?_;cbv;refine A6 hE h (fun _ h => ?_) fun _ h => ?_
 ·cbv;refine C2 hE eYi h fun x2 h => ?_;cbv;refine A8 hE hO 0 rfl rfl fun H hO => ?_;cbv;refine B1 hE hO 0 rfl ?_;cbv;cases h;exact hK hO (.refl _)
 cbv;refine A8 hE hO 0 rfl rfl fun H hO => ?_;cbv;refine B1 hE hO 0 rfl ?_;cbv;cases h;exact hK hO (.agg (.cons (.refl _) (.cons (.refl _) (.cons (.refl _) (.cons (.refl _) (.cons (.refl _) (.cons (.refl _) (.cons (.refl _) (.cons (.lit _ (B4)) (.refl _))))))))))
def cf274 : Cf := ⟨[4], [], [(10, 4)], [], [(20, 5), (20, 16)], []⟩
theorem c274 (N bD cA r) (h : Al N bD cA = some r) : B5 prog 274 [(B0 bD), sr eYd cA] ((B0 r)) := by
 unfold Al at h
 refine K2 cf274 func274 call274 ntmps274 ?_;intro E H0 K hE hK hO;cbv;refine D1 hE hO fun b1 H hO => ?_;cbv;refine EF hE (f := eYd) h (c298 N cA) (.refl _) hO fun l2 q3 H hq3 hO h => ?_;cbv;obtain ⟨s4, hx, h⟩ := bind_some h;refine K5 cf274 hE H6 (fun e l H1 => ∃ u1 : OG, X6 u1 (Ar.len s4) ∧ e = .normal ∧ l = [(4, .v (.ref b1 0)), (5, .v (.own u1.id u1.lo u1.n))] ∧ B3 Eq H0 [ob u1 14 eYd s4, cb b1 [.bool false, vi 0, .sl [] .nil, vi 0, vi 0, vi 0, vi 0, vi 0, .sl [] .nil, vi 0, vi 0, vi 0, vi 0, vi 0, .str (⟨#[]⟩)]] H1) (by kernel_rfl) ?_ ?_
 ·clear h;have h := hx;clear hx;cbv;refine A6 hE h (fun _ h => ?_) fun _ h => ?_
  ·cbv;refine Hs hE (f := eYd) hO hq3 0 rfl h (c299 N l2 0 ([bD.p])) (.cons (.refl _) (.cons (.lit _ (C5 ((eYi bD.p).symm) (B4))) (.refl _))) fun l5 q6 H hq6 hO h => ?_;cbv;cases h;exact ⟨_, ⟨q6, hq6, rfl, rfl, hO⟩, .e2 .z, rfl⟩
  cbv;cases h;exact ⟨_, ⟨q3, hq3, rfl, rfl, hO⟩, .e2 .z, rfl⟩
 clear hx;rintro e l H ⟨q7, hq7, rfl, rfl, hO⟩;cbv;refine GI hE hq7 ?_;cbv;refine A6 hE h (fun _ h => ?_) fun _ h => ?_
 ·cbv;refine A8 hE hO 1 rfl rfl fun H hO => ?_;cbv;refine B1 hE hO 1 rfl ?_;cbv;cases h;exact hK hO (.agg (.cons (.refl _) (.cons (.refl _) (.cons (.lit _ (B4)) (.cons (.refl _) (.cons (.refl _) (.cons (.refl _) (.cons (.refl _) (.cons (.refl _) (.cons (.lit _ (B4)) (.refl _)))))))))))
 cbv;refine GJ hE hO hq7 0 rfl fun H hO => ?_;cbv;refine EE hE (by trivial) ?_;cbv;refine A7 hE h (c300 N 1 s4) (.refl _) fun r8 h => ?_;cbv;refine A8 hE hO 0 rfl rfl fun H hO => ?_;cbv;refine B1 hE hO 0 rfl ?_;cbv;cases h;exact hK hO (.refl _)
def cf301 : Cf := ⟨[], [(5, 6)], [], [], [], []⟩
theorem c301 (N aA aN bQ r) (h : O0 N aA aN bQ = some r) : IA prog 301 [vi aN, vi bQ] 14 (Ar.lst eYd aA) (Ar.lst eYd r) := by
 unfold O0 at h
 obtain ⟨x, h1, h2⟩ := bind_some h;cases N2 h2;obtain ⟨h0, h1, h2, hr⟩ := VE (f := eYd) h1;rw [hr];clear hr h
 generalize Ar.lst eYd aA = xs at *
 rintro H ⟨id, lo, n, pre, rest⟩ ⟨e1, e2⟩ hk
 simp only at e1 e2 hk
 refine KO (T := TT) cf301 H6 func301 (by rfl) (by kernel_rfl) call301 ntmps301 (by rfl) (by rfl) ?_;intro E K hE hK
 simp only at hK ⊢
 generalize hrow : pre ++ xs ++ rest = row at hk
 obtain ⟨RL, hRL⟩ : ∃ RL : Int, RL = (row.length : Nat) := ⟨_, rfl⟩
 have hlen : lo + n ≤ RL := by rw [hRL, ← hrow, e1, e2]; simp; omega
 have hn0 : 0 ≤ lo ∧ 0 ≤ n ∧ bQ ≤ n := by omega
 have hdl : ∀ l2 n2 : Int, 0 ≤ l2 → 0 ≤ n2 → l2 + n2 ≤ RL → n2 = ((G8 row l2 n2).length : Nat) := fun l2 n2 a b c => by rw [W4 a b (by rw [← hRL]; exact c)]; omega
 cbv;refine MQ hE ?_;cbv;refine RY hE hk hRL aN bQ rfl rfl h0 h1 (by omega) hlen rfl ?_;cbv;refine Ij hE (fun hc => ?_) (fun hc => ?_)
 ·cbv
  have hij : aN = bQ := by rw [Ar.cmp_eq] at hc; simpa [Dn] using hc
  refine hK id lo n row pre rest H ?_ e1 ?_ (.inl rfl) ?_
  ·rw [← hrow, hij, List.take_append_drop]
  ·rw [hij, List.take_append_drop]; exact e2
  rw [Q9]; intro y b hy
  by_cases ey : y = id
  ·subst ey; rw [A9] at hy; cases hy; exact hk
  rwa [A4 _ _ ey] at hy
 cbv;refine MQ hE ?_;cbv;refine P1 hE hk hRL 0 aN rfl rfl (Int.le_refl _) h0 (by omega) fun l1 n1 q1 q2 => ?_;cbv;refine P1 hE hk hRL bQ n rfl rfl (by omega) (by omega) hlen fun l2 n2 q3 q4 => ?_;cbv;have hsl := hdl l2 n2 (by omega) (by omega) (by omega);refine Tx hE hk hRL (ME hE hk) hsl (fun hfit m row1 q5 hr1 => ?_) (fun hno => absurd hno (by omega));cbv;refine MQ hE ?_;cbv
 have hR1 : RL = (row1.length : Nat) := by rw [hr1, Bc (UT hRL hsl (by omega) (by omega) hfit)]; exact hRL
 refine P1 hE (A9 _ _ _) hR1 m n rfl rfl (by omega) (by omega) (by omega) fun l3 n3 q6 q7 => ?_;cbv;refine Tw hE (A9 _ _ _) fun row2 hr2 => ?_;cbv;have hd := VW hrow.symm e1 e2 h0 h1 h2 (by omega) (by omega) q3 q4 hr1 (q5.trans (congrArg (n1 + ·) hsl)) q6 q7 hr2;rw [Q9];exact hK id l1 m row2 pre _ _ hd.1 (by omega) hd.2 (.inl rfl) (by rw [Q9]; exact .refl _)
def cf275 : Cf := ⟨[6], [], [], [], [(22, 7)], []⟩
theorem c275 (N bI bO bD r) (h : Bx N bI bO bD = some r) : B5 prog 275 [sr eYd bI, vi bO, (B0 bD)] ((B0 r)) := by
 unfold Bx at h
 refine K2 cf275 func275 call275 ntmps275 ?_;intro E H0 K hE hK hO;cbv;refine D1 hE hO fun b1 H hO => ?_;cbv;refine EF hE (f := eYd) h (c298 N bI) (.refl _) hO fun l2 q3 H hq3 hO h => ?_;cbv;refine A6 hE h (fun _ h => ?_) fun _ h => ?_
 ·cbv;refine Hs hE (f := eYd) hO hq3 0 rfl h (c301 N l2 bO (Ar.ar .add .i64 bO 1)) (.refl _) fun l4 q5 H hq5 hO h => ?_;cbv;refine GJ hE hO hq5 0 rfl fun H hO => ?_;cbv;refine A7 hE h (c300 N 3 l4) (.refl _) fun r6 h => ?_;cbv;refine A8 hE hO 0 rfl rfl fun H hO => ?_;cbv;refine B1 hE hO 0 rfl ?_;cbv;cases h;exact hK hO (.refl _)
 cbv;refine Af hE hO hq3 0 rfl h fun h => ?_;cbv;refine Ae hE (f := eYd) (esz := 14) (tz := 14) (off := 0) (u := (fun x7 : A5 => bD.p)) (fun _ => ⟨_, .eq (eYi _) (.refl _), (by rw [eYi]; rfl), W3 _, rfl⟩) (by decide) hO hq3 0 rfl h fun l8 H hq3 h hO => ?_;cbv;refine GJ hE hO hq3 0 rfl fun H hO => ?_;cbv;refine A7 hE h (c300 N 3 l8) (.refl _) fun r9 h => ?_;cbv;refine A8 hE hO 0 rfl rfl fun H hO => ?_;cbv;refine B1 hE hO 0 rfl ?_;cbv;cases h;exact hK hO (.refl _)
def cf302 : Cf := ⟨[22], [], [], [], [], []⟩
theorem c302 (N aA aI r) (h : W6 N aA aI = some r) : Ld prog 302 [.sl [] .nil, vi aI] 8 (Ar.lst eYg r) := by
 unfold W6 at h
 obtain ⟨h1, h2, hr⟩ := Hv (f := eYg) h;rw [hr];clear hr h;intro H0
 have hneg : ∀ b, Ar.k .lss aI 0 = b → b = false := fun b h => by rw [Ar.cmp_eq] at h; subst h; simp [Dn]; omega
 have hsub : Ar.ar .sub .i64 aI (Ar.ar .sub .i64 0 0) = aI := by rw [Ar.ar_eq, Ar.ar_eq]; simp only [Xf]; rw [show (0 : Int) - 0 = 0 from rfl, wrap_small 0 (by omega) (by omega), Int.sub_zero]; exact wrap_small _ (by omega) (by omega)
 have hgt : ∀ b, Ar.k .gtr (Ar.ar .sub .i64 aI (Ar.ar .sub .i64 0 0)) 0 = b → (b = false → aI = 0) := fun b h => by rw [hsub, Ar.cmp_eq] at h; subst h; simp [Dn]; omega
 have hbn : aI.toNat * 88 ≤ 140737488355328 := by have := Ga (a := aI.toNat) (b := 0) (by_ := 88) (by omega) (by decide); simpa using this
 have hl0 : (0 : Int) = (([] : List V).length : Nat) := rfl;refine BU (T := TT) cf302 H6 func302 (by rfl) (by kernel_rfl) call302 ntmps302 (by rfl) (by rfl) ?_;intro E K hE hK hN;cbv;refine Ij hE (fun hc => absurd (hneg _ hc) (by decide)) (fun hc => ?_);cbv;refine MR hE hl0 ?_;cbv;refine Ij hE (fun hc2 => ?_) (fun hc2 => ?_)
 ·cbv;refine Jn hE ?_;cbv;refine Hl hE aI hsub (.inl rfl) h1 hbn fun t m row j ht hm hrow => ?_;obtain ⟨RL, hRL, hR0⟩ : ∃ RL : Int, RL = (row.length : Nat) ∧ 0 ≤ RL := ⟨_, rfl, by omega⟩;cbv;refine MR hE hl0 ?_;cbv;refine P1 hE (A9 _ _ _) hRL 0 0 rfl rfl (Int.le_refl _) (Int.le_refl _) hR0 fun l' n' q1 q2 => ?_;cbv
  have e1 : 0 = l' := by omega
  have e2 : 0 = n' := by omega
  subst e1 e2;exact hK ⟨t, 0, 0, [], row⟩ [] _ ⟨rfl, rfl⟩ ((B3.start B7 rfl).push ht rfl)
 cbv;exact hN rfl [] H0 (.start B7 rfl)
theorem c278 (N aK r) (h : U1 N aK = some r) : B5 prog 278 [sr eYy aK] (sr eYg r) := by
 unfold U1 at h
 refine S4 (T := TT) cf0 H6 func278 (by rfl) (by kernel_rfl) call278 ntmps278 (by rfl) (by rfl) ?_;intro E H0 K hE hK hF;have hO : B3 Eq H0 [] H0 := .start B7 rfl;cbv;refine D4 hE ?_;cbv;obtain ⟨s2, hx, h⟩ := bind_some h;refine F6 cf0 hE H6 (fun s1 => [(0, .v (sr eYy aK)), fi 3 s1.1, (9, .v (sr eYy aK)), fi 10 (Ar.len aK), fi 11 s1.2]) (fun s1 H1 => B3 Eq H0 [] H1) (fun x e l H1 => e = .exit 0 ∧ l = [(0, .v (sr eYy aK)), fi 3 x] ∧ B3 Eq H0 [] H1) (by kernel_rfl) ?_ hx ?_ hO ?_
 ·intro s1 H o hO h;clear hx;cbv;refine A6 hE h (fun _ h => ?_) fun _ h => ?_
  ·cbv;refine C2 hE eYI h fun x3 h => ?_;cbv;refine D4 hE ?_;cbv;refine A6 hE h (fun _ h => ?_) fun _ h => ?_
   ·cbv;cases h
   cbv;cases h;exact ⟨_, rfl, .e rfl (.e4 .z), rfl, hO⟩
  cbv;cases h;exact ⟨_, _, rfl, ⟨rfl, rfl, hO⟩, .e2 .z, rfl⟩
 ·exact .e rfl (.e4 .z)
 clear hx;rintro e l H ⟨rfl, rfl, hO⟩;cbv;refine EF hE (f := eYg) h (c302 N [] s2) (.cons (.refl _) (.cons (.refl _) .nil)) hO fun l4 q5 H hq5 hO h => ?_;cbv;refine D4 hE ?_;cbv;obtain ⟨s8, hx, h⟩ := bind_some h;refine K1 cf0 hE H6 (γ := OG) (fun s6 g => [(6, .v (.own g.id g.lo g.n)), (25, .v (sr eYy aK)), fi 26 (Ar.len aK), fi 27 s6.1]) (fun s6 g H1 => X6 g (Ar.len s6.2) ∧ B3 Eq H0 [ob g 8 eYg s6.2] H1) (fun x e l H1 => ∃ u1 : OG, X6 u1 (Ar.len x) ∧ e = .exit 2 ∧ l = [(6, .v (.own u1.id u1.lo u1.n))] ∧ B3 Eq H0 [ob u1 8 eYg x] H1) (by kernel_rfl) ?_ q5 hx ?_ ?_ ?_
 ·rintro s6 q7 H o ⟨hq7, hO⟩ h;clear hx;cbv;refine A6 hE h (fun _ h => ?_) fun _ h => ?_
  ·cbv;refine C2 hE eYI h fun x9 h => ?_;cbv;refine DO (f := eYg) hE NN (by decide) hO hq7 0 rfl (m := x9) (BI (f := eYg) hE NN (.refl _)) h fun l11 q10 H hq10 hO h => ?_;cbv;cases h;exact ⟨_, q10, rfl, .e4 .z, rfl, hq10, hO⟩
  cbv;cases h;exact ⟨_, _, rfl, ⟨q7, hq7, rfl, rfl, hO⟩, .e rfl .z, rfl⟩
 ·exact .e4 .z
 ·exact ⟨hq5, hO⟩
 clear hx;rintro e l H ⟨q12, hq12, rfl, rfl, hO⟩;cbv;cases h;exact hF q12 _ _ 0 _ _ hO rfl (W9 hE hq12) (.refl _)
def cf313 : Cf := ⟨[22], [], [], [], [], []⟩
theorem c313 (N aA aI r) (h : Z9 N aA aI = some r) : Ld prog 313 [.sl [] .nil, vi aI] 1 (Ar.lst (V.int .i64) r) := by
 unfold Z9 at h
 obtain ⟨h1, h2, hr⟩ := Hv (f := (V.int .i64)) h;rw [hr];clear hr h;intro H0
 have hneg : ∀ b, Ar.k .lss aI 0 = b → b = false := fun b h => by rw [Ar.cmp_eq] at h; subst h; simp [Dn]; omega
 have hsub : Ar.ar .sub .i64 aI (Ar.ar .sub .i64 0 0) = aI := by rw [Ar.ar_eq, Ar.ar_eq]; simp only [Xf]; rw [show (0 : Int) - 0 = 0 from rfl, wrap_small 0 (by omega) (by omega), Int.sub_zero]; exact wrap_small _ (by omega) (by omega)
 have hgt : ∀ b, Ar.k .gtr (Ar.ar .sub .i64 aI (Ar.ar .sub .i64 0 0)) 0 = b → (b = false → aI = 0) := fun b h => by rw [hsub, Ar.cmp_eq] at h; subst h; simp [Dn]; omega
 have hbn : aI.toNat * 8 ≤ 140737488355328 := by have := Ga (a := aI.toNat) (b := 0) (by_ := 8) (by omega) (by decide); simpa using this
 have hl0 : (0 : Int) = (([] : List V).length : Nat) := rfl;refine BU (T := TT) cf313 H6 func313 (by rfl) (by kernel_rfl) call313 ntmps313 (by rfl) (by rfl) ?_;intro E K hE hK hN;cbv;refine Ij hE (fun hc => absurd (hneg _ hc) (by decide)) (fun hc => ?_);cbv;refine MR hE hl0 ?_;cbv;refine Ij hE (fun hc2 => ?_) (fun hc2 => ?_)
 ·cbv;refine Jn hE ?_;cbv;refine Hl hE aI hsub (.inl rfl) h1 hbn fun t m row j ht hm hrow => ?_;obtain ⟨RL, hRL, hR0⟩ : ∃ RL : Int, RL = (row.length : Nat) ∧ 0 ≤ RL := ⟨_, rfl, by omega⟩;cbv;refine MR hE hl0 ?_;cbv;refine P1 hE (A9 _ _ _) hRL 0 0 rfl rfl (Int.le_refl _) (Int.le_refl _) hR0 fun l' n' q1 q2 => ?_;cbv
  have e1 : 0 = l' := by omega
  have e2 : 0 = n' := by omega
  subst e1 e2;exact hK ⟨t, 0, 0, [], row⟩ [] _ ⟨rfl, rfl⟩ ((B3.start B7 rfl).push ht rfl)
 cbv;exact hN rfl [] H0 (.start B7 rfl)
theorem c303 (N aK r) (h : M0 N aK = some r) : B5 prog 303 [sr eYz aK] (sr (V.int .i64) r) := by
 unfold M0 at h
 refine S4 (T := TT) cf0 H6 func303 (by rfl) (by kernel_rfl) call303 ntmps303 (by rfl) (by rfl) ?_;intro E H0 K hE hK hF;have hO : B3 Eq H0 [] H0 := .start B7 rfl;cbv;refine D4 hE ?_;cbv;obtain ⟨s2, hx, h⟩ := bind_some h;refine F6 cf0 hE H6 (fun s1 => [(0, .v (sr eYz aK)), fi 3 s1.1, (9, .v (sr eYz aK)), fi 10 (Ar.len aK), fi 11 s1.2]) (fun s1 H1 => B3 Eq H0 [] H1) (fun x e l H1 => e = .exit 0 ∧ l = [(0, .v (sr eYz aK)), fi 3 x] ∧ B3 Eq H0 [] H1) (by kernel_rfl) ?_ hx ?_ hO ?_
 ·intro s1 H o hO h;clear hx;cbv;refine A6 hE h (fun _ h => ?_) fun _ h => ?_
  ·cbv;refine C2 hE eYw h fun x3 h => ?_;cbv;refine D4 hE ?_;cbv;refine A6 hE h (fun _ h => ?_) fun _ h => ?_
   ·cbv;cases h
   cbv;cases h;exact ⟨_, rfl, .e rfl (.e4 .z), rfl, hO⟩
  cbv;cases h;exact ⟨_, _, rfl, ⟨rfl, rfl, hO⟩, .e2 .z, rfl⟩
 ·exact .e rfl (.e4 .z)
 clear hx;rintro e l H ⟨rfl, rfl, hO⟩;cbv;refine EF hE (f := (V.int .i64)) h (c313 N [] s2) (.cons (.refl _) (.cons (.refl _) .nil)) hO fun l4 q5 H hq5 hO h => ?_;cbv;refine D4 hE ?_;cbv;obtain ⟨s8, hx, h⟩ := bind_some h;refine K1 cf0 hE H6 (γ := OG) (fun s6 g => [(6, .v (.own g.id g.lo g.n)), (25, .v (sr eYz aK)), fi 26 (Ar.len aK), fi 27 s6.1]) (fun s6 g H1 => X6 g (Ar.len s6.2) ∧ B3 Eq H0 [ob g 1 (V.int .i64) s6.2] H1) (fun x e l H1 => ∃ u1 : OG, X6 u1 (Ar.len x) ∧ e = .exit 2 ∧ l = [(6, .v (.own u1.id u1.lo u1.n))] ∧ B3 Eq H0 [ob u1 1 (V.int .i64) x] H1) (by kernel_rfl) ?_ q5 hx ?_ ?_ ?_
 ·rintro s6 q7 H o ⟨hq7, hO⟩ h;clear hx;cbv;refine A6 hE h (fun _ h => ?_) fun _ h => ?_
  ·cbv;refine C2 hE eYw h fun x9 h => ?_;cbv;refine DO (f := (V.int .i64)) hE (fun _ => rfl) (by decide) hO hq7 0 rfl (m := x9) (BI (f := (V.int .i64)) hE (fun _ => rfl) (.refl _)) h fun l11 q10 H hq10 hO h => ?_;cbv;cases h;exact ⟨_, q10, rfl, .e4 .z, rfl, hq10, hO⟩
  cbv;cases h;exact ⟨_, _, rfl, ⟨q7, hq7, rfl, rfl, hO⟩, .e rfl .z, rfl⟩
 ·exact .e4 .z
 ·exact ⟨hq5, hO⟩
 clear hx;rintro e l H ⟨q12, hq12, rfl, rfl, hO⟩;cbv;cases h;exact hF q12 _ _ 0 _ _ hO rfl (W9 hE hq12) (.refl _)
def cf314 : Cf := ⟨[22], [], [], [], [], []⟩
theorem c314 (N aA aI r) (h : U0 N aA aI = some r) : Ld prog 314 [.sl [] .nil, vi aI] 2 (Ar.lst eYn r) := by
 unfold U0 at h
 obtain ⟨h1, h2, hr⟩ := Hv (f := eYn) h;rw [hr];clear hr h;intro H0
 have hneg : ∀ b, Ar.k .lss aI 0 = b → b = false := fun b h => by rw [Ar.cmp_eq] at h; subst h; simp [Dn]; omega
 have hsub : Ar.ar .sub .i64 aI (Ar.ar .sub .i64 0 0) = aI := by rw [Ar.ar_eq, Ar.ar_eq]; simp only [Xf]; rw [show (0 : Int) - 0 = 0 from rfl, wrap_small 0 (by omega) (by omega), Int.sub_zero]; exact wrap_small _ (by omega) (by omega)
 have hgt : ∀ b, Ar.k .gtr (Ar.ar .sub .i64 aI (Ar.ar .sub .i64 0 0)) 0 = b → (b = false → aI = 0) := fun b h => by rw [hsub, Ar.cmp_eq] at h; subst h; simp [Dn]; omega
 have hbn : aI.toNat * 16 ≤ 140737488355328 := by have := Ga (a := aI.toNat) (b := 0) (by_ := 16) (by omega) (by decide); simpa using this
 have hl0 : (0 : Int) = (([] : List V).length : Nat) := rfl;refine BU (T := TT) cf314 H6 func314 (by rfl) (by kernel_rfl) call314 ntmps314 (by rfl) (by rfl) ?_;intro E K hE hK hN;cbv;refine Ij hE (fun hc => absurd (hneg _ hc) (by decide)) (fun hc => ?_);cbv;refine MR hE hl0 ?_;cbv;refine Ij hE (fun hc2 => ?_) (fun hc2 => ?_)
 ·cbv;refine Jn hE ?_;cbv;refine Hl hE aI hsub (.inl rfl) h1 hbn fun t m row j ht hm hrow => ?_;obtain ⟨RL, hRL, hR0⟩ : ∃ RL : Int, RL = (row.length : Nat) ∧ 0 ≤ RL := ⟨_, rfl, by omega⟩;cbv;refine MR hE hl0 ?_;cbv;refine P1 hE (A9 _ _ _) hRL 0 0 rfl rfl (Int.le_refl _) (Int.le_refl _) hR0 fun l' n' q1 q2 => ?_;cbv
  have e1 : 0 = l' := by omega
  have e2 : 0 = n' := by omega
  subst e1 e2;exact hK ⟨t, 0, 0, [], row⟩ [] _ ⟨rfl, rfl⟩ ((B3.start B7 rfl).push ht rfl)
 cbv;exact hN rfl [] H0 (.start B7 rfl)
theorem c304 (N aK r) (h : S0 N aK = some r) : B5 prog 304 [sr eYA aK] (sr eYn r) := by
 unfold S0 at h
 refine S4 (T := TT) cf0 H6 func304 (by rfl) (by kernel_rfl) call304 ntmps304 (by rfl) (by rfl) ?_;intro E H0 K hE hK hF;have hO : B3 Eq H0 [] H0 := .start B7 rfl;cbv;refine D4 hE ?_;cbv;obtain ⟨s2, hx, h⟩ := bind_some h;refine F6 cf0 hE H6 (fun s1 => [(0, .v (sr eYA aK)), fi 3 s1.1, (9, .v (sr eYA aK)), fi 10 (Ar.len aK), fi 11 s1.2]) (fun s1 H1 => B3 Eq H0 [] H1) (fun x e l H1 => e = .exit 0 ∧ l = [(0, .v (sr eYA aK)), fi 3 x] ∧ B3 Eq H0 [] H1) (by kernel_rfl) ?_ hx ?_ hO ?_
 ·intro s1 H o hO h;clear hx;cbv;refine A6 hE h (fun _ h => ?_) fun _ h => ?_
  ·cbv;refine C2 hE eYJ h fun x3 h => ?_;cbv;refine D4 hE ?_;cbv;refine A6 hE h (fun _ h => ?_) fun _ h => ?_
   ·cbv;cases h
   cbv;cases h;exact ⟨_, rfl, .e rfl (.e4 .z), rfl, hO⟩
  cbv;cases h;exact ⟨_, _, rfl, ⟨rfl, rfl, hO⟩, .e2 .z, rfl⟩
 ·exact .e rfl (.e4 .z)
 clear hx;rintro e l H ⟨rfl, rfl, hO⟩;cbv;refine EF hE (f := eYn) h (c314 N [] s2) (.cons (.refl _) (.cons (.refl _) .nil)) hO fun l4 q5 H hq5 hO h => ?_;cbv;refine D4 hE ?_;cbv;obtain ⟨s8, hx, h⟩ := bind_some h;refine K1 cf0 hE H6 (γ := OG) (fun s6 g => [(6, .v (.own g.id g.lo g.n)), (25, .v (sr eYA aK)), fi 26 (Ar.len aK), fi 27 s6.1]) (fun s6 g H1 => X6 g (Ar.len s6.2) ∧ B3 Eq H0 [ob g 2 eYn s6.2] H1) (fun x e l H1 => ∃ u1 : OG, X6 u1 (Ar.len x) ∧ e = .exit 2 ∧ l = [(6, .v (.own u1.id u1.lo u1.n))] ∧ B3 Eq H0 [ob u1 2 eYn x] H1) (by kernel_rfl) ?_ q5 hx ?_ ?_ ?_
 ·rintro s6 q7 H o ⟨hq7, hO⟩ h;clear hx;cbv;refine A6 hE h (fun _ h => ?_) fun _ h => ?_
  ·cbv;refine C2 hE eYJ h fun x9 h => ?_;cbv;refine DO (f := eYn) hE LF (by decide) hO hq7 0 rfl (m := x9) (BI (f := eYn) hE LF (.refl _)) h fun l11 q10 H hq10 hO h => ?_;cbv;cases h;exact ⟨_, q10, rfl, .e4 .z, rfl, hq10, hO⟩
  cbv;cases h;exact ⟨_, _, rfl, ⟨q7, hq7, rfl, rfl, hO⟩, .e rfl .z, rfl⟩
 ·exact .e4 .z
 ·exact ⟨hq5, hO⟩
 clear hx;rintro e l H ⟨q12, hq12, rfl, rfl, hO⟩;cbv;cases h;exact hF q12 _ _ 0 _ _ hO rfl (W9 hE hq12) (.refl _)
def cf279 : Cf := ⟨[5, 8], [], [(9, 3), (25, 5)], [], [], []⟩
theorem c279 (N aB aH bW cD r) (h : Z1 N aB aH bW cD = some r) : B5 prog 279 [(C1 aB), (F3 aH), .bool bW, .bool cD] ((F3 r)) := by
 unfold Z1 at h
 refine K2 cf279 func279 call279 ntmps279 ?_;intro E H0 K hE hK hO;cbv;refine D1 hE hO fun b1 H hO => ?_;cbv;refine D1 hE hO fun b2 H hO => ?_;cbv;obtain ⟨s3, hx, h⟩ := bind_some h;refine K5 cf279 hE H6 (fun e l H1 => e = .normal ∧ l = [(2, .v (.bool bW)), (4, .v (.eref (D5 aB) 0)), (5, .v (.ref b1 0)), (8, .v (.ref b2 0))] ∧ B3 Eq H0 [cb b2 [vi 0, vi 0, vi 0, vi 0, vi 0, .sl [] .nil, vi 0, vi 0, vi 0, vi 0, vi 0, .str (⟨#[]⟩), .sl [] .nil, .sl [] .nil, .sl [] .nil, .sl [] .nil, .sl [] .nil], cb b1 (Y8 s3)] H1) (by kernel_rfl) ?_ ?_
 ·clear h;have h := hx;clear hx;cbv;refine A6 hE h (fun _ h => ?_) fun _ h => ?_
  ·cbv;refine B1 hE hO 1 rfl ?_;cbv;refine A7 hE h (c303 N ([[aB.cU], aH.cZ])) (.cons (.sl _ (.lstc (.eq (eYw ([aB.cU])) (.lit _ (C5 (rfl) (B4)))) (.lstc (.eq (eYw aH.cZ) (.refl _)) (.lst0)))) (.refl _)) fun r4 h => ?_;cbv;refine A8 hE hO 1 rfl rfl fun H hO => ?_;cbv;cases h;exact ⟨_, ⟨rfl, rfl, hO⟩, .e4 .z, rfl⟩
  cbv;cases h;exact ⟨_, ⟨rfl, rfl, hO⟩, .e4 .z, rfl⟩
 clear hx;rintro e l H ⟨rfl, rfl, hO⟩;cbv;obtain ⟨s5, hx, h⟩ := bind_some h;refine K5 cf279 hE H6 (fun e l H1 => e = .normal ∧ l = [(2, .v (.bool bW)), (4, .v (.eref (D5 aB) 0)), (5, .v (.ref b1 0)), (8, .v (.ref b2 0))] ∧ B3 Eq H0 [cb b2 [vi 0, vi 0, vi 0, vi 0, vi 0, .sl [] .nil, vi 0, vi 0, vi 0, vi 0, vi 0, .str (⟨#[]⟩), .sl [] .nil, .sl [] .nil, .sl [] .nil, .sl [] .nil, .sl [] .nil], cb b1 (Y8 s5)] H1) (by kernel_rfl) ?_ ?_
 ·clear h;have h := hx;clear hx;cbv;refine A6 hE h (fun _ h => ?_) fun _ h => ?_
  ·cbv;refine B1 hE hO 1 rfl ?_;cbv;refine A7 hE h (c303 N ([[aB.cU], s3.dA])) (.cons (.sl _ (.lstc (.eq (eYw ([aB.cU])) (.lit _ (C5 (rfl) (B4)))) (.lstc (.eq (eYw s3.dA) (.refl _)) (.lst0)))) (.refl _)) fun r6 h => ?_;cbv;refine A8 hE hO 1 rfl rfl fun H hO => ?_;cbv;cases h;exact ⟨_, ⟨rfl, rfl, hO⟩, .e4 .z, rfl⟩
  cbv;refine B1 hE hO 1 rfl ?_;cbv;refine A7 hE h (c304 N ([[(⟨aB.cU, aB.Span⟩ : X7)], s3.dC])) (.cons (.sl _ (.lstc (.eq (eYJ ([(⟨aB.cU, aB.Span⟩ : X7)])) (.lit _ (C5 ((eYG (⟨aB.cU, aB.Span⟩ : X7)).symm) (B4)))) (.lstc (.eq (eYJ s3.dC) (.refl _)) (.lst0)))) (.refl _)) fun r7 h => ?_;cbv;refine A8 hE hO 1 rfl rfl fun H hO => ?_;cbv;cases h;exact ⟨_, ⟨rfl, rfl, hO⟩, .e4 .z, rfl⟩
 clear hx;rintro e l H ⟨rfl, rfl, hO⟩;cbv;refine A6 hE h (fun _ h => ?_) fun _ h => ?_
 ·cbv;refine B1 hE hO 1 rfl ?_;cbv;refine A7 hE h (c303 N ([s5.cX, [aB.cU]])) (.cons (.sl _ (.lstc (.eq (eYw s5.cX) (.refl _)) (.lstc (.eq (eYw ([aB.cU])) (.lit _ (C5 (rfl) (B4)))) (.lst0)))) (.refl _)) fun r8 h => ?_;cbv;refine A8 hE hO 1 rfl rfl fun H hO => ?_;cbv;refine B1 hE hO 1 rfl ?_;cbv;refine A8 hE hO 0 rfl rfl fun H hO => ?_;cbv;refine B1 hE hO 0 rfl ?_;cbv;cases h;exact hK hO (.refl _)
 cbv;refine B1 hE hO 1 rfl ?_;cbv;refine A8 hE hO 0 rfl rfl fun H hO => ?_;cbv;refine B1 hE hO 0 rfl ?_;cbv;cases h;exact hK hO (.refl _)
end Go.Ab
