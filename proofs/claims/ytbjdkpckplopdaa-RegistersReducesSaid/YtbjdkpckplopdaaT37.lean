/- GRCo5 AbG1 AbG2 AbI1 -/
import Derived.Test.YtbjdkpckplopdaaT36
import Derived.Test.YtbjdkpckplopdaaT26
import Derived.Deep.Slices
import Derived.Carry
import Derived.Lib.LaidTab
set_option linter.all false

namespace Go.Ab
open Go.RowKit Go.Proofs
variable [Ar] [Encs]
set_option maxRecDepth 100000
def cf72 : Cf := ⟨[], [(6, 8)], [], [], [], []⟩
theorem c72 (N : Nat) (x_s1 : List GValue) (x_s2 : List GValue) (r : Bool) (h : slices_Equal_LValue_Value N x_s1 x_s2 = some r) : CallP Try.prog 72 [.sl (Ar.lst Encs.eGValue x_s1) .ro, .sl (Ar.lst Encs.eGValue x_s2) .ro] (.bool r) := by
 unfold slices_Equal_LValue_Value at h
 refine callP_of_spec cf72 okP Try.func72 (by rfl) (by kernel_rfl) Try.call72 Try.ntmps72 (by rfl) (by rfl) ?_;intro E H0 K hE hK
 have hO : Own Eq H0 [] H0 := .start stable_eq rfl
 cbv;refine n_ln hE ?_;cbv;refine n_ln hE ?_;cbv;refine n_br hE h (fun hc h => ?_) (fun hc h => ?_)
 ·cbv;have h := ret_some h;subst h;exact hK _ _ _ hO (.refl _)
 ·cbv;refine n_ln hE ?_;cbv;obtain ⟨s2, hx, h⟩ := bind_some h;refine n_loopN cf72 hE okP (fun s1 => [(0, .v (.sl (Ar.lst Encs.eGValue x_s1) .ro)), (1, .v (.sl (Ar.lst Encs.eGValue x_s2) .ro)), (12, .v (.int .i64 (Ar.len x_s1))), (13, .v (.int .i64 s1))]) (fun s1 H1 => Own Eq H0 [] H1) (fun x e l H1 => match (generalizing := false) x with | .inl y => e = .exit 0 ∧ l = [] ∧ Own Eq H0 [] H1 | .inr y => e = .ret ∧ l = [(4, .b false)] ∧ Own Eq H0 [] H1) (by kernel_rfl) ?_ hx ?_ hO ?_
  ·intro s1 H o hO h;clear hx;cbv;refine n_br hE h (fun hc h => ?_) (fun hc h => ?_)
   ·cbv;refine n_idx hE Encs.eGValue_eq h fun x3 h => ?_;cbv;refine n_idx hE Encs.eGValue_eq h fun x4 h => ?_;cbv;refine n_br hE h (fun hc h => ?_) (fun hc h => ?_)
    ·cbv;have h := ret_some h;subst h;exact ⟨_, _, rfl, ⟨rfl, rfl, hO⟩, .b rfl (.z), rfl⟩
    ·cbv;have h := ret_some h;subst h;exact ⟨_, rfl, .e rfl (.e rfl (.e rfl (.e rfl (.z)))), rfl, hO⟩
   ·cbv;have h := ret_some h;subst h;exact ⟨_, _, rfl, ⟨rfl, rfl, hO⟩, .z, rfl⟩
  ·exact .e rfl (.e rfl (.e rfl (.e rfl (.z))))
  ·clear hx
   rcases s2 with y5 | y6
   ·rintro e l H ⟨rfl, rfl, hO⟩;cbv;have h := ret_some h;subst h;exact hK _ _ _ hO (.refl _)
   ·rintro e l H ⟨rfl, rfl, hO⟩;cbv;have h := ret_some h;subst h;exact hK _ _ _ hO (.refl _)
def cf50 : Cf := ⟨[], [], [], [], [], []⟩
theorem c50 (N : Nat) (x_a : GEvent) (x_b : GEvent) (r : Bool) (h : registers_same N x_a x_b = some r) : CallP Try.prog 50 [.agg [.int .i64 x_a.Source, .int .i64 x_a.Seq, .int .i64 x_a.Typ, .int .i64 x_a.Time, .sl (Ar.lst Encs.eGValue x_a.Values) .ro], .agg [.int .i64 x_b.Source, .int .i64 x_b.Seq, .int .i64 x_b.Typ, .int .i64 x_b.Time, .sl (Ar.lst Encs.eGValue x_b.Values) .ro]] (.bool r) := by
 unfold registers_same at h
 refine callP_of_spec cf50 okP Try.func50 (by rfl) (by kernel_rfl) Try.call50 Try.ntmps50 (by rfl) (by rfl) ?_;intro E H0 K hE hK
 have hO : Own Eq H0 [] H0 := .start stable_eq rfl
 cbv;refine n_br hE h (fun hc h => ?_) (fun hc h => ?_)
 ·cbv;refine n_call hE (g := fun r1 => .bool r1) h (fun r1 hx => c72 N x_a.Values x_b.Values r1 hx) (.refl _) fun r1 h => ?_;cbv;have h := ret_some h;subst h;exact hK _ _ _ hO (.refl _)
 ·cbv;have h := ret_some h;subst h;exact hK _ _ _ hO (.refl _)
def cf48 : Cf := ⟨[], [], [], [], [], []⟩
theorem c48 (N : Nat) (x_x : List GEvent) (x_y : List GEvent) (r : Bool) (h : registers_Agree_1 N x_x x_y = some r) : CallP Try.prog 48 [.sl (Ar.lst Encs.eGEvent x_x) .ro, .sl (Ar.lst Encs.eGEvent x_y) .ro] (.bool r) := by
 unfold registers_Agree_1 at h
 refine callP_of_spec cf48 okP Try.func48 (by rfl) (by kernel_rfl) Try.call48 Try.ntmps48 (by rfl) (by rfl) ?_;intro E H0 K hE hK
 have hO : Own Eq H0 [] H0 := .start stable_eq rfl
 cbv;refine n_call hE (g := fun r1 => .bool r1) h (fun r1 hx => c49 N x_x x_y (.func (.func 50) [] []) (fun y1 y2 => registers_same N y1 y2) (fun y1 y2 r hx => CallP.value (F := []) (C := []) (c50 N y1 y2 r hx)) r1 hx) (.refl _) fun r1 h => ?_;cbv;have h := ret_some h;subst h;exact hK _ _ _ hO (.refl _)
def cf20 : Cf := ⟨[], [(4, 8)], [], [], [], []⟩
theorem c20 (N : Nat) (x_l : List GNeed) (x_a : GEnv) (x_b : GEnv) (r : (Bool × Int)) (h : registers_Agree N x_l x_a x_b = some r) : CallP Try.prog 20 [.sl (Ar.lst Encs.eGNeed x_l) .ro, .agg [.sl (Ar.lst Encs.eLGEvent x_a.Vars) .ro], .agg [.sl (Ar.lst Encs.eLGEvent x_b.Vars) .ro]] (.tup [.bool r.1, .int .i64 r.2]) := by
 unfold registers_Agree at h
 refine callP_of_spec cf20 okP Try.func20 (by rfl) (by kernel_rfl) Try.call20 Try.ntmps20 (by rfl) (by rfl) ?_;intro E H0 K hE hK
 have hO : Own Eq H0 [] H0 := .start stable_eq rfl
 cbv;refine n_call hE (g := fun r1 => .int .i64 r1) h (fun r1 hx => c27 N x_l r1 hx) (.refl _) fun r1 h => ?_;cbv;refine n_br hE h (fun hc h => ?_) (fun hc h => ?_)
 ·cbv;have h := ret_some h;subst h;exact hK _ _ _ hO (.refl _)
 ·cbv;refine n_pcall hE (g := fun r2 => .agg [.sl (Ar.lst Encs.eLGEvent r2.Vars) .ro]) h (fun r2 hx => c45 N x_l x_a r2 hx) (.refl _) fun r2 h => ?_;cbv;refine n_pcall hE (g := fun r3 => .agg [.sl (Ar.lst Encs.eLGEvent r3.Vars) .ro]) h (fun r3 hx => c45 N x_l x_b r3 hx) (.refl _) fun r3 h => ?_;cbv;refine n_call hE (g := fun r4 => .bool r4) h (fun r4 hx => c47 N r2.Vars r3.Vars (.func (.func 48) [] []) (fun y1 y2 => registers_Agree_1 N y1 y2) (fun y1 y2 r hx => CallP.value (F := []) (C := []) (c48 N y1 y2 r hx)) r4 hx) (.refl _) fun r4 h => ?_;cbv;have h := ret_some h;subst h;exact hK _ _ _ hO (.refl _)
def cf21 : Cf := ⟨[], [(4, 5)], [], [], [], []⟩
theorem c21 (N : Nat) (x_l : List GNeed) (x_a : GEnv) (x_b : GEnv) (r : (Bool × Int)) (h : ref26_Agree N x_l x_a x_b = some r) : CallP Try.prog 21 [.sl (Ar.lst Encs.eGNeed x_l) .ro, .agg [.sl (Ar.lst Encs.eLGEvent x_a.Vars) .ro], .agg [.sl (Ar.lst Encs.eLGEvent x_b.Vars) .ro]] (.tup [.bool r.1, .int .i64 r.2]) := by
 unfold ref26_Agree at h
 refine callP_of_spec cf21 okP Try.func21 (by rfl) (by kernel_rfl) Try.call21 Try.ntmps21 (by rfl) (by rfl) ?_;intro E H0 K hE hK
 have hO : Own Eq H0 [] H0 := .start stable_eq rfl
 cbv;refine n_call hE (g := fun r1 => .int .i64 r1) h (fun r1 hx => c28 N x_l r1 hx) (.refl _) fun r1 h => ?_;cbv;refine n_br hE h (fun hc h => ?_) (fun hc h => ?_)
 ·cbv;have h := ret_some h;subst h;exact hK _ _ _ hO (.refl _)
 ·cbv;refine n_pcall hE (g := fun r2 => .agg [.sl (Ar.lst Encs.eLGEvent r2.Vars) .ro]) h (fun r2 hx => c46 N x_l x_a r2 hx) (.refl _) fun r2 h => ?_;cbv;refine n_call hE (g := fun r3 => .agg [.sl (Ar.lst Encs.eLGEvent r3.Vars) .ro]) h (fun r3 hx => c46 N x_l x_b r3 hx) (.refl _) fun r3 h => ?_;cbv;refine n_call hE (g := fun r4 => .bool r4) h (fun r4 hx => c22 N r2 r3 r4 hx) (.refl _) fun r4 h => ?_;cbv;have h := ret_some h;subst h;exact hK _ _ _ hO (.refl _)
def cf5 : Cf := ⟨[], [], [], [], [], []⟩
theorem c5 (N : Nat) (x_l : List GNeed) (x_a : GEnv) (x_b : GEnv) (r : Bool) (h : law26_RegistersReduces N x_l x_a x_b = some r) : CallP Try.prog 5 [.sl (Ar.lst Encs.eGNeed x_l) .ro, .agg [.sl (Ar.lst Encs.eLGEvent x_a.Vars) .ro], .agg [.sl (Ar.lst Encs.eLGEvent x_b.Vars) .ro]] (.bool r) := by
 unfold law26_RegistersReduces at h
 refine callP_of_spec cf5 okP Try.func5 (by rfl) (by kernel_rfl) Try.call5 Try.ntmps5 (by rfl) (by rfl) ?_;intro E H0 K hE hK
 have hO : Own Eq H0 [] H0 := .start stable_eq rfl
 cbv;refine n_ln hE ?_;cbv;refine n_br hE h (fun hc h => ?_) (fun hc h => ?_)
 ·cbv;refine n_call hE (g := fun r1 => .bool r1) h (fun r1 hx => c9 N  r1 hx) (.refl _) fun r1 h => ?_;cbv;have h := ret_some h;subst h;exact hK _ _ _ hO (.refl _)
 ·cbv;refine n_call hE (g := fun r2 => .bool r2) h (fun r2 hx => c17 N x_a r2 hx) (.refl _) fun r2 h => ?_;cbv;refine n_br hE h (fun hc h => ?_) (fun hc h => ?_)
  ·cbv;refine n_call hE (g := fun r3 => .bool r3) h (fun r3 hx => c9 N  r3 hx) (.refl _) fun r3 h => ?_;cbv;have h := ret_some h;subst h;exact hK _ _ _ hO (.refl _)
  ·cbv;refine n_call hE (g := fun r4 => .bool r4) h (fun r4 hx => c17 N x_b r4 hx) (.refl _) fun r4 h => ?_;cbv;refine n_br hE h (fun hc h => ?_) (fun hc h => ?_)
   ·cbv;refine n_call hE (g := fun r5 => .bool r5) h (fun r5 hx => c9 N  r5 hx) (.refl _) fun r5 h => ?_;cbv;have h := ret_some h;subst h;exact hK _ _ _ hO (.refl _)
   ·cbv;refine n_call hE (g := fun r6 => .tup [.agg [.sl (Ar.lst Encs.eLGEvent r6.1.Vars) .ro], .int .i64 r6.2]) h (fun r6 hx => c18 N x_l x_a r6 hx) (.refl _) fun r6 h => ?_;cbv;refine n_call hE (g := fun r7 => .tup [.agg [.sl (Ar.lst Encs.eLGEvent r7.1.Vars) .ro], .int .i64 r7.2]) h (fun r7 hx => c19 N x_l x_a r7 hx) (.refl _) fun r7 h => ?_;cbv;refine n_call hE (g := fun r8 => .tup [.bool r8.1, .int .i64 r8.2]) h (fun r8 hx => c20 N x_l x_a x_b r8 hx) (.refl _) fun r8 h => ?_;cbv;refine n_call hE (g := fun r9 => .tup [.bool r9.1, .int .i64 r9.2]) h (fun r9 hx => c21 N x_l x_a x_b r9 hx) (.refl _) fun r9 h => ?_;cbv;refine n_call hE (g := fun r10 => .bool r10) h (fun r10 hx => c9 N  r10 hx) (.refl _) fun r10 h => ?_;cbv;refine n_br hE h (fun hc h => ?_) (fun hc h => ?_)
    ·cbv;refine n_call hE (g := fun r11 => .bool r11) h (fun r11 hx => c22 N r6.1 r7.1 r11 hx) (.refl _) fun r11 h => ?_;cbv;have h := ret_some h;subst h;exact hK _ _ _ hO (.refl _)
    ·cbv;have h := ret_some h;subst h;exact hK _ _ _ hO (.refl _)
def cf51 : Cf := ⟨[], [], [], [], [], []⟩
theorem c51 (N : Nat) (x_a : List GNeed) (x_b : List GNeed) (r : Int) (h : registers_both N x_a x_b = some r) : CallP Try.prog 51 [.sl (Ar.lst Encs.eGNeed x_a) .ro, .sl (Ar.lst Encs.eGNeed x_b) .ro] (.int .i64 r) := by
 unfold registers_both at h
 refine callP_of_spec cf51 okP Try.func51 (by rfl) (by kernel_rfl) Try.call51 Try.ntmps51 (by rfl) (by rfl) ?_;intro E H0 K hE hK
 have hO : Own Eq H0 [] H0 := .start stable_eq rfl
 cbv;refine n_call hE (g := fun r1 => .int .i64 r1) h (fun r1 hx => c27 N x_a r1 hx) (.refl _) fun r1 h => ?_;cbv;refine n_br hE h (fun hc h => ?_) (fun hc h => ?_)
 ·cbv;have h := ret_some h;subst h;exact hK _ _ _ hO (.refl _)
 ·cbv;refine n_call hE (g := fun r2 => .int .i64 r2) h (fun r2 hx => c27 N x_b r2 hx) (.refl _) fun r2 h => ?_;cbv;have h := ret_some h;subst h;exact hK _ _ _ hO (.refl _)
def cf23 : Cf := ⟨[], [], [], [], [], []⟩
theorem c23 (N : Nat) (x_a : List GNeed) (x_b : List GNeed) (r : ((List GNeed) × Int)) (h : registers_Join N x_a x_b = some r) : CallP Try.prog 23 [.sl (Ar.lst Encs.eGNeed x_a) .ro, .sl (Ar.lst Encs.eGNeed x_b) .ro] (.tup [.sl (Ar.lst Encs.eGNeed r.1) .ro, .int .i64 r.2]) := by
 unfold registers_Join at h
 refine callP_of_spec cf23 okP Try.func23 (by rfl) (by kernel_rfl) Try.call23 Try.ntmps23 (by rfl) (by rfl) ?_;intro E H0 K hE hK
 have hO : Own Eq H0 [] H0 := .start stable_eq rfl
 cbv;refine n_call hE (g := fun r1 => .int .i64 r1) h (fun r1 hx => c51 N x_a x_b r1 hx) (.refl _) fun r1 h => ?_;cbv;refine n_br hE h (fun hc h => ?_) (fun hc h => ?_)
 ·cbv;have h := ret_some h;subst h;exact hK _ _ _ hO (.tup (.cons (.lit _ (lst_nil)) (.refl _)))
 ·cbv;refine n_callMF hE h (fun l2 hx => c52 N x_a l2 hx) (.refl _) hO fun l2 m3 o4 H ho4 hO h => ?_;cbv;refine n_callMF hE h (fun l5 hx => c52 N x_b l5 hx) (.refl _) hO fun l5 m6 o7 H ho7 hO h => ?_;cbv;refine n_callM2 hE (g := fun l8 => .bool l8) hO ho4 1 rfl (hO.ne 1 0 rfl rfl (by decide)) (hO.get 0 rfl) ho7 h (fun l8 hx => c41 N l2 l5 l8 hx) fun l8 o9 H ho9 hO _ h => ?_;cbv;refine n_callMR hE (g := fun l10 => .sl (Ar.lst Encs.eGNeed l10) .ro) (hO.get 1 rfl) ho9 h (fun l10 hx => c36 N l8.2 l10 hx) fun l10 h => ?_;cbv;have h := ret_some h;subst h;exact hK _ _ _ hO (.refl _)
def cf24 : Cf := ⟨[], [], [], [], [], []⟩
theorem c24 (N : Nat) (x_a : List GNeed) (x_b : List GNeed) (r : ((List GNeed) × Int)) (h : ref26_Join N x_a x_b = some r) : CallP Try.prog 24 [.sl (Ar.lst Encs.eGNeed x_a) .ro, .sl (Ar.lst Encs.eGNeed x_b) .ro] (.tup [.sl (Ar.lst Encs.eGNeed r.1) .ro, .int .i64 r.2]) := by
 unfold ref26_Join at h
 refine callP_of_spec cf24 okP Try.func24 (by rfl) (by kernel_rfl) Try.call24 Try.ntmps24 (by rfl) (by rfl) ?_;intro E H0 K hE hK
 have hO : Own Eq H0 [] H0 := .start stable_eq rfl
 cbv;refine n_call hE (g := fun r1 => .int .i64 r1) h (fun r1 hx => c28 N x_a r1 hx) (.refl _) fun r1 h => ?_;cbv;refine n_br hE h (fun hc h => ?_) (fun hc h => ?_)
 ·cbv;have h := ret_some h;subst h;exact hK _ _ _ hO (.tup (.cons (.lit _ (lst_nil)) (.refl _)))
 ·cbv;refine n_call hE (g := fun r2 => .int .i64 r2) h (fun r2 hx => c28 N x_b r2 hx) (.refl _) fun r2 h => ?_;cbv;refine n_br hE h (fun hc h => ?_) (fun hc h => ?_)
  ·cbv;have h := ret_some h;subst h;exact hK _ _ _ hO (.tup (.cons (.lit _ (lst_nil)) (.refl _)))
  ·cbv;refine n_call hE (g := fun r3 => .sl (Ar.lst Encs.eGNeed r3) .ro) h (fun r3 hx => c53 N x_a x_b r3 hx) (.refl _) fun r3 h => ?_;cbv;have h := ret_some h;subst h;exact hK _ _ _ hO (.refl _)
def cf74 : Cf := ⟨[], [], [], [], [], []⟩
theorem c74 (N : Nat) (x_x : Int) (r : Int) (h : bits_OnesCount64 N x_x = some r) : CallP Try.prog 74 [.int .u64 x_x] (.int .i64 r) := by
 unfold bits_OnesCount64 at h
 refine callP_of_spec cf74 okP Try.func74 (by rfl) (by kernel_rfl) Try.call74 Try.ntmps74 (by rfl) (by rfl) ?_;intro E H0 K hE hK
 have hO : Own Eq H0 [] H0 := .start stable_eq rfl
 cbv;refine n_needT hE (cmp_true hE rfl) ?_;cbv;refine n_needT hE (cmp_true hE rfl) ?_;cbv;refine n_needT hE (cmp_true hE rfl) ?_;cbv;refine n_needT hE (cmp_true hE rfl) ?_;cbv;refine n_needT hE (cmp_true hE rfl) ?_;cbv;refine n_needT hE (cmp_true hE rfl) ?_;cbv;have h := ret_some h;subst h;exact hK _ _ _ hO (.refl _)
def cf54 : Cf := ⟨[], [], [], [], [], []⟩
theorem c54 (N : Nat) (x_x : Int) (r : Int) (h : bits_OnesCount N x_x = some r) : CallP Try.prog 54 [.int .u64 x_x] (.int .i64 r) := by
 unfold bits_OnesCount at h
 refine callP_of_spec cf54 okP Try.func54 (by rfl) (by kernel_rfl) Try.call54 Try.ntmps54 (by rfl) (by rfl) ?_;intro E H0 K hE hK
 have hO : Own Eq H0 [] H0 := .start stable_eq rfl
 cbv;refine n_call hE (g := fun r1 => .int .i64 r1) h (fun r1 hx => c74 N x_x r1 hx) (.refl _) fun r1 h => ?_;cbv;have h := ret_some h;subst h;exact hK _ _ _ hO (.refl _)
def cf25 : Cf := ⟨[], [(8, 10)], [], [], [], []⟩
theorem c25 (N : Nat) (x_l : List GNeed) (r : (Int × Int)) (h : registers_Cells N x_l = some r) : CallP Try.prog 25 [.sl (Ar.lst Encs.eGNeed x_l) .ro] (.tup [.int .i64 r.1, .int .i64 r.2]) := by
 unfold registers_Cells at h
 refine callP_of_spec cf25 okP Try.func25 (by rfl) (by kernel_rfl) Try.call25 Try.ntmps25 (by rfl) (by rfl) ?_;intro E H0 K hE hK
 have hO : Own Eq H0 [] H0 := .start stable_eq rfl
 cbv;refine n_call hE (g := fun r1 => .int .i64 r1) h (fun r1 hx => c27 N x_l r1 hx) (.refl _) fun r1 h => ?_;cbv;refine n_br hE h (fun hc h => ?_) (fun hc h => ?_)
 ·cbv;have h := ret_some h;subst h;exact hK _ _ _ hO (.refl _)
 ·cbv;refine n_ln hE ?_;cbv;obtain ⟨s3, hx, h⟩ := bind_some h;refine n_loopN cf25 hE okP (fun s2 => [(5, .v (.int .i64 s2.1)), (13, .v (.sl (Ar.lst Encs.eGNeed x_l) .ro)), (14, .v (.int .i64 (Ar.len x_l))), (15, .v (.int .i64 s2.2))]) (fun s2 H1 => Own Eq H0 [] H1) (fun x e l H1 => e = .exit 0 ∧ l = [(5, .v (.int .i64 x))] ∧ Own Eq H0 [] H1) (by kernel_rfl) ?_ hx ?_ hO ?_
  ·intro s2 H o hO h;clear hx;cbv;refine n_br hE h (fun hc h => ?_) (fun hc h => ?_)
   ·cbv;refine n_idx hE Encs.eGNeed_eq h fun x4 h => ?_;cbv;refine n_pcall hE (g := fun r5 => .int .i64 r5) h (fun r5 hx => c54 N (Ar.wr .u64 x4.Last) r5 hx) (.refl _) fun r5 h => ?_;cbv;refine n_pcall hE (g := fun r6 => .int .i64 r6) h (fun r6 hx => c54 N (Ar.wr .u64 x4.All) r6 hx) (.refl _) fun r6 h => ?_;cbv;have h := ret_some h;subst h;exact ⟨_, rfl, .e rfl (.e rfl (.e rfl (.e rfl (.z)))), rfl, hO⟩
   ·cbv;have h := ret_some h;subst h;exact ⟨_, _, rfl, ⟨rfl, rfl, hO⟩, .e rfl (.z), rfl⟩
  ·exact .e rfl (.e rfl (.e rfl (.e rfl (.z))))
  ·clear hx;rintro e l H ⟨rfl, rfl, hO⟩;cbv;have h := ret_some h;subst h;exact hK _ _ _ hO (.refl _)
def cf26 : Cf := ⟨[], [(11, 18)], [], [], [], []⟩
theorem c26 (N : Nat) (x_l : List GNeed) (r : (Int × Int)) (h : ref26_Cells N x_l = some r) : CallP Try.prog 26 [.sl (Ar.lst Encs.eGNeed x_l) .ro] (.tup [.int .i64 r.1, .int .i64 r.2]) := by
 unfold ref26_Cells at h
 refine callP_of_spec cf26 okP Try.func26 (by rfl) (by kernel_rfl) Try.call26 Try.ntmps26 (by rfl) (by rfl) ?_;intro E H0 K hE hK
 have hO : Own Eq H0 [] H0 := .start stable_eq rfl
 cbv;refine n_call hE (g := fun r1 => .int .i64 r1) h (fun r1 hx => c28 N x_l r1 hx) (.refl _) fun r1 h => ?_;cbv;refine n_br hE h (fun hc h => ?_) (fun hc h => ?_)
 ·cbv;have h := ret_some h;subst h;exact hK _ _ _ hO (.refl _)
 ·cbv;obtain ⟨s3, hx, h⟩ := bind_some h;refine n_loopN cf26 hE okP (fun s2 => [(0, .v (.sl (Ar.lst Encs.eGNeed x_l) .ro)), (5, .v (.int .i64 s2.1)), (6, .v (.int .i64 s2.2))]) (fun s2 H1 => Own Eq H0 [] H1) (fun x e l H1 => e = .exit 0 ∧ l = [(5, .v (.int .i64 x))] ∧ Own Eq H0 [] H1) (by kernel_rfl) ?_ hx ?_ hO ?_
  ·intro s2 H o hO h;clear hx;cbv;refine n_ln hE ?_;cbv;refine n_br hE h (fun hc h => ?_) (fun hc h => ?_)
   ·cbv;obtain ⟨s5, hx, h⟩ := bind_some h;refine n_loopN cf26 hE okP (fun s4 => [(0, .v (.sl (Ar.lst Encs.eGNeed x_l) .ro)), (5, .v (.int .i64 s4.1)), (6, .v (.int .i64 s2.2)), (7, .v (.int .i64 s4.2))]) (fun s4 H1 => Own Eq H0 [] H1) (fun x e l H1 => e = .exit 2 ∧ l = [(0, .v (.sl (Ar.lst Encs.eGNeed x_l) .ro)), (5, .v (.int .i64 x)), (6, .v (.int .i64 s2.2))] ∧ Own Eq H0 [] H1) (by kernel_rfl) ?_ hx ?_ hO ?_
    ·intro s4 H o hO h;clear hx;cbv;refine n_br hE h (fun hc h => ?_) (fun hc h => ?_)
     ·cbv;refine n_idx hE Encs.eGNeed_eq h fun x6 h => ?_;cbv;refine n_needB hE h fun h => ?_;cbv;refine n_idx hE Encs.eGNeed_eq h fun x7 h => ?_;cbv;refine n_needB hE h fun h => ?_;cbv;have h := ret_some h;subst h;exact ⟨_, rfl, .e rfl (.e rfl (.e rfl (.e rfl (.z)))), rfl, hO⟩
     ·cbv;have h := ret_some h;subst h;exact ⟨_, _, rfl, ⟨rfl, rfl, hO⟩, .e rfl (.e rfl (.e rfl (.z))), rfl⟩
    ·exact .e rfl (.e rfl (.e rfl (.e rfl (.z))))
    ·clear hx;rintro e l H ⟨rfl, rfl, hO⟩;cbv;have h := ret_some h;subst h;exact ⟨_, rfl, .e rfl (.e rfl (.e rfl (.z))), rfl, hO⟩
   ·cbv;have h := ret_some h;subst h;exact ⟨_, _, rfl, ⟨rfl, rfl, hO⟩, .e rfl (.z), rfl⟩
  ·exact .e rfl (.e rfl (.e rfl (.z)))
  ·clear hx;rintro e l H ⟨rfl, rfl, hO⟩;cbv;have h := ret_some h;subst h;exact hK _ _ _ hO (.refl _)
def cf7 : Cf := ⟨[], [], [], [], [], []⟩
theorem c7 (N : Nat) (x_a : List GNeed) (x_b : List GNeed) (r : Bool) (h : law26_RegistersJoins N x_a x_b = some r) : CallP Try.prog 7 [.sl (Ar.lst Encs.eGNeed x_a) .ro, .sl (Ar.lst Encs.eGNeed x_b) .ro] (.bool r) := by
 unfold law26_RegistersJoins at h
 refine callP_of_spec cf7 okP Try.func7 (by rfl) (by kernel_rfl) Try.call7 Try.ntmps7 (by rfl) (by rfl) ?_;intro E H0 K hE hK
 have hO : Own Eq H0 [] H0 := .start stable_eq rfl
 cbv;refine n_ln hE ?_;cbv;refine n_ln hE ?_;cbv;refine n_br hE h (fun hc h => ?_) (fun hc h => ?_)
 ·cbv;refine n_call hE (g := fun r1 => .bool r1) h (fun r1 hx => c9 N  r1 hx) (.refl _) fun r1 h => ?_;cbv;have h := ret_some h;subst h;exact hK _ _ _ hO (.refl _)
 ·cbv;refine n_call hE (g := fun r2 => .tup [.sl (Ar.lst Encs.eGNeed r2.1) .ro, .int .i64 r2.2]) h (fun r2 hx => c23 N x_a x_b r2 hx) (.refl _) fun r2 h => ?_;cbv;refine n_call hE (g := fun r3 => .tup [.sl (Ar.lst Encs.eGNeed r3.1) .ro, .int .i64 r3.2]) h (fun r3 hx => c24 N x_a x_b r3 hx) (.refl _) fun r3 h => ?_;cbv;refine n_call hE (g := fun r4 => .tup [.int .i64 r4.1, .int .i64 r4.2]) h (fun r4 hx => c25 N x_a r4 hx) (.refl _) fun r4 h => ?_;cbv;refine n_call hE (g := fun r5 => .tup [.int .i64 r5.1, .int .i64 r5.2]) h (fun r5 hx => c26 N x_a r5 hx) (.refl _) fun r5 h => ?_;cbv;refine n_call hE (g := fun r6 => .bool r6) h (fun r6 hx => c9 N  r6 hx) (.refl _) fun r6 h => ?_;cbv;refine n_br hE h (fun hc h => ?_) (fun hc h => ?_)
  ·cbv;refine n_call hE (g := fun r7 => .bool r7) h (fun r7 hx => c12 N r2.1 r3.1 r7 hx) (.refl _) fun r7 h => ?_;cbv;refine n_br hE h (fun hc h => ?_) (fun hc h => ?_)
   ·cbv;refine n_call hE (g := fun r8 => .int .i64 r8) h (fun r8 hx => c27 N x_a r8 hx) (.refl _) fun r8 h => ?_;cbv;refine n_call hE (g := fun r9 => .int .i64 r9) h (fun r9 hx => c28 N x_a r9 hx) (.refl _) fun r9 h => ?_;cbv;have h := ret_some h;subst h;exact hK _ _ _ hO (.refl _)
   ·cbv;have h := ret_some h;subst h;exact hK _ _ _ hO (.refl _)
  ·cbv;have h := ret_some h;subst h;exact hK _ _ _ hO (.refl _)
end Go.Ab

namespace Go.Ab
open Go.RowKit Go.ChangeShapes Go.WideShapes
variable [Glob]
def g0 (W : World) : Gh := ⟨fun _ => none, fun _ => ⟨0, 0, 0⟩, fun _ => none, fun b o => ∃ v, W.cell? ⟨b, o, none⟩ = some v, 0, W.heap.size⟩
theorem rl0 {W : World} (hg : ∀ n, VR (g0 W) W (.pointer (some ⟨n, 0, none⟩)) (Glob.gl n)) : Rl (g0 W) (fun _ => none) W :=
 ⟨fun id b h => (by cases h), fun id id' b h => (by simp [Gh.at] at h), fun b o h => h, fun id _ => ⟨rfl, rfl, rfl⟩, Nat.le_refl _, hg⟩
def RowV (g : Gh) (w : World) (cs : List Value) (xs : List V) : Prop :=
 cs.length = xs.length ∧ ∀ i, i < xs.length → (cs.getD i undef).oneCell' = true ∧ VR g w (cs.getD i undef) (xs.getD i .bad)
theorem RowV.nil (g : Gh) (w : World) : RowV g w [] [] := ⟨rfl, fun i hi => by simp at hi⟩
theorem RowV.one {g : Gh} {w : World} {v : Value} {x : V} (h1 : v.oneCell' = true) (h : VR g w v x) : RowV g w [v] [x] := by
 refine ⟨rfl, fun i hi => ?_⟩
 have : i = 0 := by simpa using hi
 subst this
 exact ⟨h1, h⟩
theorem RowV.append {g : Gh} {w : World} {cs ds : List Value} {xs ys : List V} (h : RowV g w cs xs) (k : RowV g w ds ys) : RowV g w (cs ++ ds) (xs ++ ys) := by
 refine ⟨by simp [h.1, k.1], fun i hi => ?_⟩
 have hl := h.1
 simp only [List.length_append] at hi
 by_cases hx : i < xs.length
 ·have e1 : (cs ++ ds).getD i undef = cs.getD i undef := by simp [List.getD, List.getElem?_append_left (show i < cs.length by omega)]
  have e2 : (xs ++ ys).getD i .bad = xs.getD i .bad := by simp [List.getD, List.getElem?_append_left hx]
  rw [e1, e2]; exact h.2 i hx
 ·have e1 : (cs ++ ds).getD i undef = ds.getD (i - xs.length) undef := by simp [List.getD, List.getElem?_append_right (show cs.length ≤ i by omega), hl]
  have e2 : (xs ++ ys).getD i .bad = ys.getD (i - xs.length) .bad := by simp [List.getD, List.getElem?_append_right (show xs.length ≤ i by omega)]
  rw [e1, e2]; exact k.2 _ (by omega)
theorem RowV.join {g : Gh} {w : World} {cs : List Value} {xs ys : List V} {a n m : Nat} (h : RowV g w ((cs.drop a).take n) xs) (k : RowV g w ((cs.drop (a + n)).take m) ys) : RowV g w ((cs.drop a).take (n + m)) (xs ++ ys) := by
 have := h.append k
 rwa [show (cs.drop (a + n)) = (cs.drop a).drop n by rw [List.drop_drop], ← List.take_add] at this
theorem RowV.agg {g : Gh} {w : World} {cs : Array Value} {xs : List V} (h : RowV g w cs.toList xs) : VR g w (.agg cs) (.agg xs) := by
 refine .agg (by simpa using h.1) (fun i hi => ?_) fun i hi => ?_
 ·have := (h.2 i hi).1
  simpa [List.getD, Array.getD_eq_getD_getElem?] using this
 ·have := (h.2 i hi).2
  simpa [List.getD, Array.getD_eq_getD_getElem?] using this
section
variable {H α : Type} {enc : TypeId × Value → H} {P : Program} {W : World} {base : Nat} {spare : Nat → Bool} {held : Bool} {t e : TypeId} {n : Nat}
def Opens (enc : TypeId × Value → H) (P : Program) (W : World) (base : Nat) (spare : Nat → Bool) (held : Bool) (t : TypeId) (f : α → V) (R : α → DataW H → Prop) (n : Nat) : Prop :=
 ∀ cs x, DataW.trod enc P W base spare held n t cs = some x → ∃ a, RowV (g0 W) W cs (f a).cells ∧ R a x.1
theorem opens_int {k : IntKind} (ht : P.underlying t = some (.int k)) : Opens enc P W base spare held t (V.int k) (fun a d => d = .lit (.int k a)) n := by
 intro cs x h
 obtain ⟨a, rfl, rfl, _⟩ := DataW.trod_int ht h
 exact ⟨a, .one rfl (.int _ _), rfl⟩
theorem opens_str (ht : P.underlying t = some .string) : Opens enc P W base spare held t V.str (fun a d => d = .lit (.string a.data.toList) ∧ a.size ≤ maxLen) n := by
 intro cs x h
 obtain ⟨a, rfl, rfl, hl⟩ := DataW.trod_string ht h
 exact ⟨a, .one rfl (.str _), rfl, hl⟩
def RL (R : α → DataW H → Prop) (l : List α) (ds : List (DataW H)) : Prop := l.length = ds.length ∧ ∀ (i : Nat) a d, l[i]? = some a → ds[i]? = some d → R a d
def RS (R : α → DataW H → Prop) (l : List α) (d : DataW H) : Prop := l.length ≤ maxLen ∧ ((d = .nil ∧ l = []) ∨ ∃ es sp, d = .slice es sp ∧ RL R l es)
theorem opens_slice {f : α → V} {R : α → DataW H → Prop} (ht : P.underlying t = some (.slice e)) (hc : 0 < P.cellsOf e) (he : Opens enc P W base spare held e f R n) :
 Opens enc P W base spare held t (fun l : List α => .sl (l.map f) .ro) (RS R) (n + 1) := by
 intro cs x h
 rcases DataW.trod_slice ht h with ⟨rfl, rfl⟩ | ⟨a, len, cap, elems, rest, n', hn, rfl, rfl, hb, hl, hm, hlen, hel, hsp, hns⟩
 ·exact ⟨[], .one rfl (.sl0 rfl), Nat.zero_le _, .inl ⟨rfl, rfl⟩⟩
 have hn' : n' = n := by omega
 subst hn'
 rcases Nat.eq_zero_or_pos len with h0 | h0
 ·subst h0
  have : elems = [] := List.length_eq_zero_iff.1 hlen
  subst this
  exact ⟨[], .one rfl (.sle (.inl rfl)), Nat.zero_le _, .inr ⟨_, _, rfl, rfl, fun i a d hi => by simp at hi⟩⟩
 have one : ∀ i, i < len → ∃ cs' y b, W.cells? base (a.add (i * P.cellsOf e)) (P.cellsOf e) = some cs' ∧ elems[i]? = some y ∧ RowV (g0 W) W cs' (f b).cells ∧ R b y.1 := by
  intro i hi
  have h1 := hel i hi
  have h2 : elems[i]? = some (elems[i]'(by omega)) := by simp [hlen, hi]
  rw [h2] at h1
  obtain ⟨cs', hcs, hy⟩ := Option.bind_eq_some_iff.1 h1
  obtain ⟨b, hr, hR⟩ := he cs' _ hy
  exact ⟨cs', _, b, hcs, h2, hr, hR⟩
 obtain ⟨_, _, b0, _⟩ := one 0 h0
 haveI : Inhabited α := ⟨b0⟩
 obtain ⟨A, hA⟩ := Deep.choose_lt (α := α) (p := fun i b => ∃ cs' y, W.cells? base (a.add (i * P.cellsOf e)) (P.cellsOf e) = some cs' ∧ elems[i]? = some y ∧ RowV (g0 W) W cs' (f b).cells ∧ R b y.1)
  (fun i hi => let ⟨cs', y, b, h1, h2, h3, h4⟩ := one i hi; ⟨b, cs', y, h1, h2, h3, h4⟩)
 have hspot : a.spot = none := by
  obtain ⟨cs', y, h1, _, _, _⟩ := hA 0 h0
  obtain ⟨_, hcl, hcell⟩ := World.cells?_some h1
  have h2 := hcell 0 hc
  have e0 : (a.add (0 * P.cellsOf e)).add 0 = a := by simp [Addr.add]
  rw [e0] at h2
  have h3 : cs'[0]? = some (cs'[0]'(by omega)) := by simp [hcl, hc]
  rw [h3] at h2
  unfold World.cell? at h2
  split at h2
  ·split at h2
   ·cases h2
   ·rename_i hs; simpa using hs
  ·cases h2
 obtain ⟨b, o, s⟩ := a
 simp only at hspot
 subst hspot
 let l := (List.range len).map A
 have hll : l.length = len := by simp [l]
 have hg : ∀ i, i < len → (l.map f).getD i .bad = f (A i) := fun i hi => by simp [l, List.getD, hi]
 have cell : ∀ i j, i < len → j < P.cellsOf e → ∃ v, W.cell? ⟨b, o + i * P.cellsOf e + j, none⟩ = some v ∧ v.oneCell' = true ∧ VR (g0 W) W v ((f (A i)).cells.getD j .bad) := by
  intro i j hi hj
  obtain ⟨cs', y, h1, _, hr, _⟩ := hA i hi
  obtain ⟨_, hcl, hcell⟩ := World.cells?_some h1
  have h2 := hcell j hj
  rw [addr_add, addr_add] at h2
  have h3 : cs'[j]? = some (cs'.getD j undef) := by simp [List.getD, hcl, hj]
  rw [h3] at h2
  have := hr.2 j (by rw [← hr.1, hcl]; exact hj)
  exact ⟨_, h2, this.1, this.2⟩
 refine ⟨l, .one rfl ?_, by omega, .inr ⟨_, _, rfl, by simp [hll, hlen], fun i a' d hi hd => ?_⟩⟩
 ·have hz : ∀ i, i < len → ((l.map f).getD i .bad).cells.length = P.cellsOf e := fun i hi => by
   obtain ⟨cs', y, h1, _, hr, _⟩ := hA i hi
   obtain ⟨_, hcl, _⟩ := World.cells?_some h1
   rw [hg i hi, ← hr.1, hcl]
  refine .sl (sz := P.cellsOf e) (fun i j => (W.cell? ⟨b, o + i * P.cellsOf e + j, none⟩).getD undef) (by simp [hll]) hl hz (fun i j hi hj => ?_) (fun i j hi hj => ?_) (fun i j hi hj => ?_) (fun i j hi hj => ?_) trivial
  ·obtain ⟨v, h1, _⟩ := cell i j hi hj; exact ⟨v, h1⟩
  ·obtain ⟨v, h1, _⟩ := cell i j hi hj; rw [h1]; rfl
  ·obtain ⟨v, h1, h2, _⟩ := cell i j hi hj; rw [h1]; exact h2
  ·obtain ⟨v, h1, h2, h3⟩ := cell i j hi hj; rw [h1, hg i hi]; exact h3
 ·have hi' : i < len := by
   rcases Nat.lt_or_ge i l.length with h | h
   ·omega
   ·rw [List.getElem?_eq_none h] at hi; cases hi
  obtain ⟨cs', y, h1, h2, h3, h4⟩ := hA i hi'
  have e1 : a' = A i := by simp [l, hi'] at hi; exact hi.symm
  have e2 : d = y.1 := by simp [h2] at hd; exact hd.symm
  rw [e1, e2]; exact h4
theorem field_some {fs : Array Field} {xs : List (DataW H × List MemPlace)} {cs : List Value} {n : Nat} (hl : xs.length = fs.size)
 (hf : ∀ (i : Nat) (f : Field), fs[i]? = some f → DataW.trod enc P W base spare held n f.type ((cs.drop f.offset).take (P.cellsOf f.type)) = xs[i]?) (i : Nat) {f : Field} (h : fs[i]? = some f) :
 ∃ y, xs[i]? = some y ∧ DataW.trod enc P W base spare held n f.type ((cs.drop f.offset).take (P.cellsOf f.type)) = some y := by
 have hi : i < fs.size := by
  rcases Nat.lt_or_ge i fs.size with h' | h'
  ·exact h'
  ·rw [Array.getElem?_eq_none h'] at h; cases h
 have h1 : xs[i]? = some (xs[i]'(by omega)) := by simp [hl, hi]
 exact ⟨_, h1, by rw [hf i f h, h1]⟩
end
end Go.Ab

namespace Go.Ab
open Go.RowKit Go.ChangeShapes Go.WideShapes
variable [Glob]
section
variable {H α : Type} {enc : TypeId × Value → H} {P : Program} {W : World} {base : Nat} {spare : Nat → Bool} {held : Bool} {t e : TypeId} {n : Nat}
end
end Go.Ab

namespace Go.Ab
noncomputable instance arInst : Ar where
 cmp := cmpI
 cmp_eq := fun _ _ _ => rfl
 ar := arI
 ar_eq := fun _ _ _ _ => rfl
 sh := shI
 sh_eq := fun _ _ _ _ => rfl
 neg := fun k n => k.wrap (0 - n)
 neg_eq := fun _ _ => rfl
 wr := fun k n => k.wrap n
 wr_eq := fun _ _ => rfl
 scmp := cmpS
 scmp_eq := fun _ _ _ => rfl
 cat := fun a b => a ++ b
 cat_eq := fun _ _ => rfl
 slen := fun s => s.size
 slen_eq := fun _ => rfl
 sat := fun s i => match s[i.toNat]? with | some b => (b.toNat : Int) | none => 0
 sat_eq := fun _ _ => rfl
 beq := fun a b => a == b
 beq_eq := fun _ _ => rfl
 nt := fun a => !a
 nt_eq := fun _ => rfl
 an := fun a b => a && b
 an_eq := fun _ _ => rfl
 or := fun a b => a || b
 or_eq := fun _ _ => rfl
 pk := fun c a b => if c then a else b
 pk_eq := fun _ _ _ => rfl
 mx := fun a b => if a < b then b else a
 mx_eq := fun _ _ => rfl
 mn := fun a b => if b < a then b else a
 mn_eq := fun _ _ => rfl
 ofs := fun a b => a + b
 ofs_eq := fun _ _ => rfl
 ofN := fun n => n
 ofN_eq := fun _ => rfl
 len := fun l => l.length
 len_eq := fun _ => rfl
 lst := fun f l => l.map f
 lst_eq := fun _ _ => rfl
end Go.Ab

