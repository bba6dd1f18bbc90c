/- GSCo1 -/
import Derived.Test.YtbjdkpckplopdaaGreatT30
import Derived.Test.YtbjdkpckplopdaaGreatT31
import Derived.Test.YtbjdkpckplopdaaGreatT26
import Derived.Test.YtbjdkpckplopdaaGreatT29
import Derived.Test.YtbjdkpckplopdaaGreatT28
import Derived.Test.YtbjdkpckplopdaaGreatT32
import Derived.Test.YtbjdkpckplopdaaGreatT27
set_option linter.all false

namespace Go.Ab
open Go.RowKit Go.Proofs
instance globs : Glob := ⟨fun n => match n with
 | _ => .bad⟩
variable [Ar] [Encs]
set_option maxRecDepth 100000
theorem okP : POk Tryz.prog TT := ⟨okT, by rfl⟩
def cf17 : Cf := ⟨[], [], [], [], [], []⟩
theorem c17 (N : Nat) : ∀ (n : Nat) (x_e : GExpr) (x_limit : Int) (r : Int), ref08_Count N n x_e x_limit = some r → CallP Tryz.prog 17 [.agg [.int .i64 x_e.Op, .sl (Ar.lst Encs.eGExpr x_e.Args) .ro, .int .i64 x_e.Var, .int .i64 x_e.Field, .int .i64 x_e.Kind, .int .i64 x_e.Value.Kind, .int .i64 x_e.Value.Num, .str x_e.Value.Text], .int .i64 x_limit] (.int .i64 r) := by
 intro n
 induction n with
 | zero => intro x_e x_limit r h; cases h
 | succ n ih =>
 intro x_e x_limit r h
 unfold ref08_Count at h
 refine callP_of_spec cf17 okP Tryz.func17 (by rfl) (by kernel_rfl) Tryz.call17 Tryz.ntmps17 (by rfl) (by rfl) ?_;intro E H0 K hE hK
 have hO : Own Eq H0 [] H0 := .start stable_eq rfl
 cbv;obtain ⟨s2, hx, h⟩ := bind_some h;refine n_loopN cf17 hE okP (fun s1 => [(1, .v (.int .i64 x_limit)), (2, .v (.eref [.int .i64 x_e.Op, .sl (Ar.lst Encs.eGExpr x_e.Args) .ro, .int .i64 x_e.Var, .int .i64 x_e.Field, .int .i64 x_e.Kind, .int .i64 x_e.Value.Kind, .int .i64 x_e.Value.Num, .str x_e.Value.Text] 0)), (5, .v (.int .i64 s1.1)), (6, .v (.int .i64 s1.2))]) (fun s1 H1 => Own Eq H0 [] H1) (fun x e l H1 => e = .exit 0 ∧ l = [(5, .v (.int .i64 x))] ∧ Own Eq H0 [] H1) (by kernel_rfl) ?_ hx ?_ hO ?_
 ·intro s1 H o hO h;clear hx;cbv;refine n_ln hE ?_;cbv;refine n_br hE h (fun hc h => ?_) (fun hc h => ?_)
  ·cbv;refine n_idx hE Encs.eGExpr_eq h fun x3 h => ?_;cbv;refine n_call hE (g := fun r4 => .int .i64 r4) h (fun r4 hx => ih x3 x_limit r4 hx) (.refl _) fun r4 h => ?_;cbv;have h := ret_some h;subst h;exact ⟨_, rfl, .e rfl (.e rfl (.e rfl (.e rfl (.z)))), rfl, hO⟩
  ·cbv;have h := ret_some h;subst h;exact ⟨_, _, rfl, ⟨rfl, rfl, hO⟩, .e rfl (.z), rfl⟩
 ·exact .e rfl (.e rfl (.e rfl (.e rfl (.z))))
 ·clear hx;rintro e l H ⟨rfl, rfl, hO⟩;cbv;have h := ret_some h;subst h;exact hK _ _ _ hO (.refl _)
def cf18 : Cf := ⟨[], [], [], [], [], []⟩
theorem c18 (N : Nat) : ∀ (n : Nat) (x_e : GExpr) (r : Int), ref08_Depth N n x_e = some r → CallP Tryz.prog 18 [.agg [.int .i64 x_e.Op, .sl (Ar.lst Encs.eGExpr x_e.Args) .ro, .int .i64 x_e.Var, .int .i64 x_e.Field, .int .i64 x_e.Kind, .int .i64 x_e.Value.Kind, .int .i64 x_e.Value.Num, .str x_e.Value.Text]] (.int .i64 r) := by
 intro n
 induction n with
 | zero => intro x_e r h; cases h
 | succ n ih =>
 intro x_e r h
 unfold ref08_Depth at h
 refine callP_of_spec cf18 okP Tryz.func18 (by rfl) (by kernel_rfl) Tryz.call18 Tryz.ntmps18 (by rfl) (by rfl) ?_;intro E H0 K hE hK
 have hO : Own Eq H0 [] H0 := .start stable_eq rfl
 cbv;obtain ⟨s2, hx, h⟩ := bind_some h;refine n_loopN cf18 hE okP (fun s1 => [(1, .v (.eref [.int .i64 x_e.Op, .sl (Ar.lst Encs.eGExpr x_e.Args) .ro, .int .i64 x_e.Var, .int .i64 x_e.Field, .int .i64 x_e.Kind, .int .i64 x_e.Value.Kind, .int .i64 x_e.Value.Num, .str x_e.Value.Text] 0)), (3, .v (.int .i64 s1.1)), (4, .v (.int .i64 s1.2))]) (fun s1 H1 => Own Eq H0 [] H1) (fun x e l H1 => e = .exit 0 ∧ l = [(3, .v (.int .i64 x))] ∧ Own Eq H0 [] H1) (by kernel_rfl) ?_ hx ?_ hO ?_
 ·intro s1 H o hO h;clear hx;cbv;refine n_ln hE ?_;cbv;refine n_br hE h (fun hc h => ?_) (fun hc h => ?_)
  ·cbv;refine n_idx hE Encs.eGExpr_eq h fun x3 h => ?_;cbv;refine n_call hE (g := fun r4 => .int .i64 r4) h (fun r4 hx => ih x3 r4 hx) (.refl _) fun r4 h => ?_;cbv;have h := ret_some h;subst h;exact ⟨_, rfl, .e rfl (.e rfl (.e rfl (.z))), rfl, hO⟩
  ·cbv;have h := ret_some h;subst h;exact ⟨_, _, rfl, ⟨rfl, rfl, hO⟩, .e rfl (.z), rfl⟩
 ·exact .e rfl (.e rfl (.e rfl (.z)))
 ·clear hx;rintro e l H ⟨rfl, rfl, hO⟩;cbv;have h := ret_some h;subst h;exact hK _ _ _ hO (.refl _)
def cf5 : Cf := ⟨[], [], [], [], [], []⟩
theorem c5 (N : Nat) (x_e : GExpr) (r : Bool) (h : ref08_Few N x_e = some r) : CallP Tryz.prog 5 [.agg [.int .i64 x_e.Op, .sl (Ar.lst Encs.eGExpr x_e.Args) .ro, .int .i64 x_e.Var, .int .i64 x_e.Field, .int .i64 x_e.Kind, .int .i64 x_e.Value.Kind, .int .i64 x_e.Value.Num, .str x_e.Value.Text]] (.bool r) := by
 unfold ref08_Few at h
 refine callP_of_spec cf5 okP Tryz.func5 (by rfl) (by kernel_rfl) Tryz.call5 Tryz.ntmps5 (by rfl) (by rfl) ?_;intro E H0 K hE hK
 have hO : Own Eq H0 [] H0 := .start stable_eq rfl
 cbv;refine n_call hE (g := fun r1 => .int .i64 r1) h (fun r1 hx => c17 N N x_e 200 r1 hx) (.refl _) fun r1 h => ?_;cbv;refine n_br hE h (fun hc h => ?_) (fun hc h => ?_)
 ·cbv;refine n_call hE (g := fun r2 => .int .i64 r2) h (fun r2 hx => c18 N N x_e r2 hx) (.refl _) fun r2 h => ?_;cbv;have h := ret_some h;subst h;exact hK _ _ _ hO (.refl _)
 ·cbv;have h := ret_some h;subst h;exact hK _ _ _ hO (.refl _)
def cf6 : Cf := ⟨[], [], [], [], [], []⟩
theorem c6 (N : Nat) (x_env : GEnv) (r : Bool) (h : ref08_FewEnv N x_env = some r) : CallP Tryz.prog 6 [.agg [.sl (Ar.lst Encs.eLGEvent x_env.Vars) .ro]] (.bool r) := by
 unfold ref08_FewEnv at h
 refine callP_of_spec cf6 okP Tryz.func6 (by rfl) (by kernel_rfl) Tryz.call6 Tryz.ntmps6 (by rfl) (by rfl) ?_;intro E H0 K hE hK
 have hO : Own Eq H0 [] H0 := .start stable_eq rfl
 cbv;obtain ⟨s2, hx, h⟩ := bind_some h;refine n_loopN cf6 hE okP (fun s1 => [(1, .v (.eref [.sl (Ar.lst Encs.eLGEvent x_env.Vars) .ro] 0)), (3, .v (.int .i64 s1))]) (fun s1 H1 => Own Eq H0 [] H1) (fun x e l H1 => match (generalizing := false) x with | .inl y => e = .exit 0 ∧ l = [(1, .v (.eref [.sl (Ar.lst Encs.eLGEvent x_env.Vars) .ro] 0))] ∧ Own Eq H0 [] H1 | .inr y => e = .ret ∧ l = [(2, .b false)] ∧ Own Eq H0 [] H1) (by kernel_rfl) ?_ hx ?_ hO ?_
 ·intro s1 H o hO h;clear hx;cbv;refine n_ln hE ?_;cbv;refine n_br hE h (fun hc h => ?_) (fun hc h => ?_)
  ·cbv;refine n_idx hE Encs.eLGEvent_eq h fun x3 h => ?_;cbv;refine n_ln hE ?_;cbv;refine n_br hE h (fun hc h => ?_) (fun hc h => ?_)
   ·cbv;have h := ret_some h;subst h;exact ⟨_, _, rfl, ⟨rfl, rfl, hO⟩, .b rfl (.z), rfl⟩
   ·cbv;obtain ⟨s5, hx, h⟩ := bind_some h;refine n_loopN cf6 hE okP (fun s4 => [(1, .v (.eref [.sl (Ar.lst Encs.eLGEvent x_env.Vars) .ro] 0)), (3, .v (.int .i64 s1)), (4, .v (.int .i64 s4))]) (fun s4 H1 => Own Eq H0 [] H1) (fun x e l H1 => match (generalizing := false) x with | .inl y => e = .exit 2 ∧ l = [(1, .v (.eref [.sl (Ar.lst Encs.eLGEvent x_env.Vars) .ro] 0)), (3, .v (.int .i64 s1))] ∧ Own Eq H0 [] H1 | .inr y => e = .ret ∧ l = [(2, .b false)] ∧ Own Eq H0 [] H1) (by kernel_rfl) ?_ hx ?_ hO ?_
    ·intro s4 H o hO h;clear hx;cbv;refine n_idx hE Encs.eLGEvent_eq h fun x6 h => ?_;cbv;refine n_ln hE ?_;cbv;refine n_br hE h (fun hc h => ?_) (fun hc h => ?_)
     ·cbv;refine n_idx hE Encs.eLGEvent_eq h fun x7 h => ?_;cbv;refine n_idx hE Encs.eGEvent_eq h fun x8 h => ?_;cbv;refine n_ln hE ?_;cbv;refine n_br hE h (fun hc h => ?_) (fun hc h => ?_)
      ·cbv;have h := ret_some h;subst h;exact ⟨_, _, rfl, ⟨rfl, rfl, hO⟩, .b rfl (.z), rfl⟩
      ·cbv;have h := ret_some h;subst h;exact ⟨_, rfl, .e rfl (.e rfl (.e rfl (.z))), rfl, hO⟩
     ·cbv;have h := ret_some h;subst h;exact ⟨_, _, rfl, ⟨rfl, rfl, hO⟩, .e rfl (.e rfl (.z)), rfl⟩
    ·exact .e rfl (.e rfl (.e rfl (.z)))
    ·clear hx
     rcases s5 with y9 | y10
     ·rintro e l H ⟨rfl, rfl, hO⟩;cbv;have h := ret_some h;subst h;exact ⟨_, rfl, .e rfl (.e rfl (.z)), rfl, hO⟩
     ·rintro e l H ⟨rfl, rfl, hO⟩;cbv;have h := ret_some h;subst h;exact ⟨_, _, rfl, ⟨rfl, rfl, hO⟩, .b rfl (.z), rfl⟩
  ·cbv;have h := ret_some h;subst h;exact ⟨_, _, rfl, ⟨rfl, rfl, hO⟩, .e rfl (.z), rfl⟩
 ·exact .e rfl (.e rfl (.z))
 ·clear hx
  rcases s2 with y11 | y12
  ·rintro e l H ⟨rfl, rfl, hO⟩;cbv;refine n_ln hE ?_;cbv;have h := ret_some h;subst h;exact hK _ _ _ hO (.refl _)
  ·rintro e l H ⟨rfl, rfl, hO⟩;cbv;have h := ret_some h;subst h;exact hK _ _ _ hO (.refl _)
def cf27 : Cf := ⟨[], [], [], [], [], []⟩
theorem c27 (N : Nat) : ∀ (n : Nat) (x_e : GExpr) (r : (Int × Int)), expr_Size N n x_e = some r → CallP Tryz.prog 27 [.agg [.int .i64 x_e.Op, .sl (Ar.lst Encs.eGExpr x_e.Args) .ro, .int .i64 x_e.Var, .int .i64 x_e.Field, .int .i64 x_e.Kind, .int .i64 x_e.Value.Kind, .int .i64 x_e.Value.Num, .str x_e.Value.Text]] (.tup [.int .i64 r.1, .int .i64 r.2]) := by
 intro n
 induction n with
 | zero => intro x_e r h; cases h
 | succ n ih =>
 intro x_e r h
 unfold expr_Size at h
 refine callP_of_spec cf27 okP Tryz.func27 (by rfl) (by kernel_rfl) Tryz.call27 Tryz.ntmps27 (by rfl) (by rfl) ?_;intro E H0 K hE hK
 have hO : Own Eq H0 [] H0 := .start stable_eq rfl
 cbv;refine n_ln hE ?_;cbv;obtain ⟨s2, hx, h⟩ := bind_some h;refine n_loopN cf27 hE okP (fun s1 => [(4, .v (.int .i64 s1.1)), (5, .v (.int .i64 s1.2.1)), (11, .v (.sl (Ar.lst Encs.eGExpr x_e.Args) .ro)), (12, .v (.int .i64 (Ar.len x_e.Args))), (13, .v (.int .i64 s1.2.2))]) (fun s1 H1 => Own Eq H0 [] H1) (fun x e l H1 => e = .exit 0 ∧ l = [(4, .v (.int .i64 x.1)), (5, .v (.int .i64 x.2))] ∧ Own Eq H0 [] H1) (by kernel_rfl) ?_ hx ?_ hO ?_
 ·intro s1 H o hO h;clear hx;cbv;refine n_br hE h (fun hc h => ?_) (fun hc h => ?_)
  ·cbv;refine n_idx hE Encs.eGExpr_eq h fun x3 h => ?_;cbv;refine n_call hE (g := fun r4 => .tup [.int .i64 r4.1, .int .i64 r4.2]) h (fun r4 hx => ih x3 r4 hx) (.refl _) fun r4 h => ?_;cbv;have h := ret_some h;subst h;exact ⟨_, rfl, .e rfl (.e rfl (.e rfl (.e rfl (.e rfl (.z))))), rfl, hO⟩
  ·cbv;have h := ret_some h;subst h;exact ⟨_, _, rfl, ⟨rfl, rfl, hO⟩, .e rfl (.e rfl (.z)), rfl⟩
 ·exact .e rfl (.e rfl (.e rfl (.e rfl (.e rfl (.z)))))
 ·clear hx;rintro e l H ⟨rfl, rfl, hO⟩;cbv;have h := ret_some h;subst h;exact hK _ _ _ hO (.refl _)
def cf28 : Cf := ⟨[], [], [], [], [], []⟩
theorem c28 (N : Nat) : ∀ (n : Nat) (x_e : GExpr) (v_f : V) (x_f : GExpr → Option Int) (h_f : ∀ y1 q, x_f y1 = some q → CallVP Tryz.prog v_f [.agg [.int .i64 y1.Op, .sl (Ar.lst Encs.eGExpr y1.Args) .ro, .int .i64 y1.Var, .int .i64 y1.Field, .int .i64 y1.Kind, .int .i64 y1.Value.Kind, .int .i64 y1.Value.Num, .str y1.Value.Text]] (.int .i64 q)) (r : Int), expr_visit N n x_e x_f = some r → CallP Tryz.prog 28 [.agg [.int .i64 x_e.Op, .sl (Ar.lst Encs.eGExpr x_e.Args) .ro, .int .i64 x_e.Var, .int .i64 x_e.Field, .int .i64 x_e.Kind, .int .i64 x_e.Value.Kind, .int .i64 x_e.Value.Num, .str x_e.Value.Text], v_f] (.int .i64 r) := by
 intro n
 induction n with
 | zero => intro x_e v_f x_f h_f r h; cases h
 | succ n ih =>
 intro x_e v_f x_f h_f r h
 unfold expr_visit at h
 refine callP_of_spec cf28 okP Tryz.func28 (by rfl) (by kernel_rfl) Tryz.call28 Tryz.ntmps28 (by rfl) (by rfl) ?_;intro E H0 K hE hK
 have hO : Own Eq H0 [] H0 := .start stable_eq rfl
 cbv;refine n_callF hE (g := fun r1 => .int .i64 r1) h (fun r1 hx => h_f x_e r1 hx) (.refl _) fun r1 h => ?_;cbv;refine n_br hE h (fun hc h => ?_) (fun hc h => ?_)
 ·cbv;have h := ret_some h;subst h;exact hK _ _ _ hO (.refl _)
 ·cbv;refine n_ln hE ?_;cbv;obtain ⟨s3, hx, h⟩ := bind_some h;refine n_loopN cf28 hE okP (fun s2 => [(1, .v (v_f)), (16, .v (.sl (Ar.lst Encs.eGExpr x_e.Args) .ro)), (17, .v (.int .i64 (Ar.len x_e.Args))), (18, .v (.int .i64 s2))]) (fun s2 H1 => Own Eq H0 [] H1) (fun x e l H1 => match (generalizing := false) x with | .inl y => e = .exit 0 ∧ l = [] ∧ Own Eq H0 [] H1 | .inr y => e = .ret ∧ l = [(4, .v (.int .i64 y))] ∧ Own Eq H0 [] H1) (by kernel_rfl) ?_ hx ?_ hO ?_
  ·intro s2 H o hO h;clear hx;cbv;refine n_br hE h (fun hc h => ?_) (fun hc h => ?_)
   ·cbv;refine n_idx hE Encs.eGExpr_eq h fun x4 h => ?_;cbv;refine n_call hE (g := fun r5 => .int .i64 r5) h (fun r5 hx => ih x4 v_f x_f h_f r5 hx) (.refl _) fun r5 h => ?_;cbv;refine n_br hE h (fun hc h => ?_) (fun hc h => ?_)
    ·cbv;have h := ret_some h;subst h;exact ⟨_, _, rfl, ⟨rfl, rfl, hO⟩, .e rfl (.z), rfl⟩
    ·cbv;have h := ret_some h;subst h;exact ⟨_, rfl, .e rfl (.e rfl (.e rfl (.e rfl (.z)))), rfl, hO⟩
   ·cbv;have h := ret_some h;subst h;exact ⟨_, _, rfl, ⟨rfl, rfl, hO⟩, .z, rfl⟩
  ·exact .e rfl (.e rfl (.e rfl (.e rfl (.z))))
  ·clear hx
   rcases s3 with y6 | y7
   ·rintro e l H ⟨rfl, rfl, hO⟩;cbv;have h := ret_some h;subst h;exact hK _ _ _ hO (.refl _)
   ·rintro e l H ⟨rfl, rfl, hO⟩;cbv;have h := ret_some h;subst h;exact hK _ _ _ hO (.refl _)
def cf47 : Cf := ⟨[], [], [], [], [], []⟩
theorem c47 (N : Nat) (x_op : Int) (r : (Int × Bool)) (h : expr_arity N x_op = some r) : CallP Tryz.prog 47 [.int .i64 x_op] (.tup [.int .i64 r.1, .bool r.2]) := by
 unfold expr_arity at h
 refine callP_of_spec cf47 okP Tryz.func47 (by rfl) (by kernel_rfl) Tryz.call47 Tryz.ntmps47 (by rfl) (by rfl) ?_;intro E H0 K hE hK
 have hO : Own Eq H0 [] H0 := .start stable_eq rfl
 cbv;refine n_br hE h (fun hc h => ?_) (fun hc h => ?_)
 ·cbv;have h := ret_some h;subst h;exact hK _ _ _ hO (.refl _)
 ·cbv;refine n_br hE h (fun hc h => ?_) (fun hc h => ?_)
  ·cbv;have h := ret_some h;subst h;exact hK _ _ _ hO (.refl _)
  ·cbv;refine n_br hE h (fun hc h => ?_) (fun hc h => ?_)
   ·cbv;have h := ret_some h;subst h;exact hK _ _ _ hO (.refl _)
   ·cbv;have h := ret_some h;subst h;exact hK _ _ _ hO (.refl _)
def cf48 : Cf := ⟨[], [], [(5, 4)], [], [], []⟩
theorem c48 (N : Nat) (x_op : Int) (r : (Bool × Bool)) (h : expr_uses N x_op = some r) : CallP Tryz.prog 48 [.int .i64 x_op] (.tup [.bool r.1, .bool r.2]) := by
 unfold expr_uses at h
 refine callP_of_spec cf48 okP Tryz.func48 (by rfl) (by kernel_rfl) Tryz.call48 Tryz.ntmps48 (by rfl) (by rfl) ?_;intro E H0 K hE hK
 have hO : Own Eq H0 [] H0 := .start stable_eq rfl
 cbv;obtain ⟨s1, hx, h⟩ := bind_some h;refine n_join cf48 hE okP (fun e l H1 => e = .normal ∧ l = [(4, .v (.int .i64 x_op)), (5, .v (.bool s1))] ∧ Own Eq H0 [] H1) (by kernel_rfl) ?_ ?_
 ·clear h;have h := hx;clear hx;cbv;refine n_br hE h (fun hc h => ?_) (fun hc h => ?_)
  ·cbv;have h := ret_some h;subst h;exact ⟨_, ⟨rfl, rfl, hO⟩, .e rfl (.e rfl (.z)), rfl⟩
  ·cbv;have h := ret_some h;subst h;exact ⟨_, ⟨rfl, rfl, hO⟩, .e rfl (.e rfl (.z)), rfl⟩
 ·clear hx;rintro e l H ⟨rfl, rfl, hO⟩;cbv;refine n_br hE h (fun hc h => ?_) (fun hc h => ?_)
  ·cbv;have h := ret_some h;subst h;exact hK _ _ _ hO (.refl _)
  ·cbv;refine n_br hE h (fun hc h => ?_) (fun hc h => ?_)
   ·cbv;have h := ret_some h;subst h;exact hK _ _ _ hO (.refl _)
   ·cbv;refine n_br hE h (fun hc h => ?_) (fun hc h => ?_)
    ·cbv;have h := ret_some h;subst h;exact hK _ _ _ hO (.refl _)
    ·cbv;have h := ret_some h;subst h;exact hK _ _ _ hO (.refl _)
def cf84 : Cf := ⟨[], [], [], [], [], []⟩
theorem c84 (N : Nat) (x_v : GValue) (r : Int) (h : value_size N x_v = some r) : CallP Tryz.prog 84 [.agg [.int .i64 x_v.Kind, .int .i64 x_v.Num, .str x_v.Text]] (.int .i64 r) := by
 unfold value_size at h
 refine callP_of_spec cf84 okP Tryz.func84 (by rfl) (by kernel_rfl) Tryz.call84 Tryz.ntmps84 (by rfl) (by rfl) ?_;intro E H0 K hE hK
 have hO : Own Eq H0 [] H0 := .start stable_eq rfl
 cbv;refine n_br hE h (fun hc h => ?_) (fun hc h => ?_)
 ·cbv;have h := ret_some h;subst h;exact hK _ _ _ hO (.refl _)
 ·cbv;refine n_br hE h (fun hc h => ?_) (fun hc h => ?_)
  ·cbv;have h := ret_some h;subst h;exact hK _ _ _ hO (.refl _)
  ·cbv;refine n_br hE h (fun hc h => ?_) (fun hc h => ?_)
   ·cbv;have h := ret_some h;subst h;exact hK _ _ _ hO (.refl _)
   ·cbv;have h := ret_some h;subst h;exact hK _ _ _ hO (.refl _)
def cf69 : Cf := ⟨[], [], [(5, 5)], [], [], []⟩
theorem c69 (N : Nat) (x_v : GValue) (r : Int) (h : value_Check N x_v = some r) : CallP Tryz.prog 69 [.agg [.int .i64 x_v.Kind, .int .i64 x_v.Num, .str x_v.Text]] (.int .i64 r) := by
 unfold value_Check at h
 refine callP_of_spec cf69 okP Tryz.func69 (by rfl) (by kernel_rfl) Tryz.call69 Tryz.ntmps69 (by rfl) (by rfl) ?_;intro E H0 K hE hK
 have hO : Own Eq H0 [] H0 := .start stable_eq rfl
 cbv;obtain ⟨s1, hx, h⟩ := bind_some h;refine n_join cf69 hE okP (fun e l H1 => e = .normal ∧ l = [(1, .v (.eref [.int .i64 x_v.Kind, .int .i64 x_v.Num, .str x_v.Text] 0)), (4, .v (.int .i64 x_v.Kind)), (5, .v (.bool s1))] ∧ Own Eq H0 [] H1) (by kernel_rfl) ?_ ?_
 ·clear h;have h := hx;clear hx;cbv;refine n_br hE h (fun hc h => ?_) (fun hc h => ?_)
  ·cbv;have h := ret_some h;subst h;exact ⟨_, ⟨rfl, rfl, hO⟩, .e rfl (.e rfl (.e rfl (.z))), rfl⟩
  ·cbv;have h := ret_some h;subst h;exact ⟨_, ⟨rfl, rfl, hO⟩, .e rfl (.e rfl (.e rfl (.z))), rfl⟩
 ·clear hx;rintro e l H ⟨rfl, rfl, hO⟩;cbv;refine n_br hE h (fun hc h => ?_) (fun hc h => ?_)
  ·cbv;refine n_br hE h (fun hc h => ?_) (fun hc h => ?_)
   ·cbv;have h := ret_some h;subst h;exact hK _ _ _ hO (.refl _)
   ·cbv;refine n_call hE (g := fun r2 => .int .i64 r2) h (fun r2 hx => c84 N x_v r2 hx) (.refl _) fun r2 h => ?_;cbv;have h := ret_some h;subst h;exact hK _ _ _ hO (.refl _)
  ·cbv;refine n_br hE h (fun hc h => ?_) (fun hc h => ?_)
   ·cbv;refine n_br hE h (fun hc h => ?_) (fun hc h => ?_)
    ·cbv;have h := ret_some h;subst h;exact hK _ _ _ hO (.refl _)
    ·cbv;refine n_call hE (g := fun r3 => .int .i64 r3) h (fun r3 hx => c84 N x_v r3 hx) (.refl _) fun r3 h => ?_;cbv;have h := ret_some h;subst h;exact hK _ _ _ hO (.refl _)
   ·cbv;have h := ret_some h;subst h;exact hK _ _ _ hO (.refl _)
def cf70 : Cf := ⟨[], [], [], [], [], []⟩
theorem c70 (N : Nat) (x_kind : Int) (x_v : GValue) (r : Bool) (h : expr_suits N x_kind x_v = some r) : CallP Tryz.prog 70 [.int .i64 x_kind, .agg [.int .i64 x_v.Kind, .int .i64 x_v.Num, .str x_v.Text]] (.bool r) := by
 unfold expr_suits at h
 refine callP_of_spec cf70 okP Tryz.func70 (by rfl) (by kernel_rfl) Tryz.call70 Tryz.ntmps70 (by rfl) (by rfl) ?_;intro E H0 K hE hK
 have hO : Own Eq H0 [] H0 := .start stable_eq rfl
 cbv;have h := ret_some h;subst h;exact hK _ _ _ hO (.refl _)
def cf49 : Cf := ⟨[], [], [], [], [], []⟩
theorem c49 (N : Nat) (x_e : GExpr) (r : Int) (h : expr_constants N x_e = some r) : CallP Tryz.prog 49 [.agg [.int .i64 x_e.Op, .sl (Ar.lst Encs.eGExpr x_e.Args) .ro, .int .i64 x_e.Var, .int .i64 x_e.Field, .int .i64 x_e.Kind, .int .i64 x_e.Value.Kind, .int .i64 x_e.Value.Num, .str x_e.Value.Text]] (.int .i64 r) := by
 unfold expr_constants at h
 refine callP_of_spec cf49 okP Tryz.func49 (by rfl) (by kernel_rfl) Tryz.call49 Tryz.ntmps49 (by rfl) (by rfl) ?_;intro E H0 K hE hK
 have hO : Own Eq H0 [] H0 := .start stable_eq rfl
 cbv;refine n_call hE (g := fun r1 => .int .i64 r1) h (fun r1 hx => c69 N x_e.Value r1 hx) (.refl _) fun r1 h => ?_;cbv;refine n_br hE h (fun hc h => ?_) (fun hc h => ?_)
 ·cbv;have h := ret_some h;subst h;exact hK _ _ _ hO (.refl _)
 ·cbv;refine n_br hE h (fun hc h => ?_) (fun hc h => ?_)
  ·cbv;refine n_call hE (g := fun r2 => .bool r2) h (fun r2 hx => c70 N x_e.Kind x_e.Value r2 hx) (.refl _) fun r2 h => ?_;cbv;refine n_br hE h (fun hc h => ?_) (fun hc h => ?_)
   ·cbv;have h := ret_some h;subst h;exact hK _ _ _ hO (.refl _)
   ·cbv;have h := ret_some h;subst h;exact hK _ _ _ hO (.refl _)
  ·cbv;have h := ret_some h;subst h;exact hK _ _ _ hO (.refl _)
def cf29 : Cf := ⟨[], [], [(73, 15)], [], [], []⟩
theorem c29 (N : Nat) (x_e : GExpr) (r : Int) (h : expr_node N x_e = some r) : CallP Tryz.prog 29 [.agg [.int .i64 x_e.Op, .sl (Ar.lst Encs.eGExpr x_e.Args) .ro, .int .i64 x_e.Var, .int .i64 x_e.Field, .int .i64 x_e.Kind, .int .i64 x_e.Value.Kind, .int .i64 x_e.Value.Num, .str x_e.Value.Text]] (.int .i64 r) := by
 unfold expr_node at h
 refine callP_of_spec cf29 okP Tryz.func29 (by rfl) (by kernel_rfl) Tryz.call29 Tryz.ntmps29 (by rfl) (by rfl) ?_;intro E H0 K hE hK
 have hO : Own Eq H0 [] H0 := .start stable_eq rfl
 cbv;refine n_call hE (g := fun r1 => .tup [.int .i64 r1.1, .bool r1.2]) h (fun r1 hx => c47 N x_e.Op r1 hx) (.refl _) fun r1 h => ?_;cbv;refine n_br hE h (fun hc h => ?_) (fun hc h => ?_)
 ·cbv;have h := ret_some h;subst h;exact hK _ _ _ hO (.refl _)
 ·cbv;refine n_ln hE ?_;cbv;refine n_br hE h (fun hc h => ?_) (fun hc h => ?_)
  ·cbv;have h := ret_some h;subst h;exact hK _ _ _ hO (.refl _)
  ·cbv;refine n_call hE (g := fun r2 => .tup [.bool r2.1, .bool r2.2]) h (fun r2 hx => c48 N x_e.Op r2 hx) (.refl _) fun r2 h => ?_;cbv;refine n_br hE h (fun hc h => ?_) (fun hc h => ?_)
   ·cbv;have h := ret_some h;subst h;exact hK _ _ _ hO (.refl _)
   ·cbv;refine n_br hE h (fun hc h => ?_) (fun hc h => ?_)
    ·cbv;have h := ret_some h;subst h;exact hK _ _ _ hO (.refl _)
    ·cbv;obtain ⟨s3, hx, h⟩ := bind_some h;refine n_join cf29 hE okP (fun e l H1 => match (generalizing := false) s3 with | .inl y => e = .normal ∧ l = [(1, .v (.eref [.int .i64 x_e.Op, .sl (Ar.lst Encs.eGExpr x_e.Args) .ro, .int .i64 x_e.Var, .int .i64 x_e.Field, .int .i64 x_e.Kind, .int .i64 x_e.Value.Kind, .int .i64 x_e.Value.Num, .str x_e.Value.Text] 0)), (5, .v (.bool r2.1)), (6, .v (.bool r2.2)), (7, .v (.bool (Ar.cmp .eql x_e.Op 4))), (8, .v (.bool (Ar.or (Ar.cmp .eql x_e.Op 4) (Ar.cmp .eql x_e.Op 0))))] ∧ Own Eq H0 [] H1 | .inr y => e = .ret ∧ l = [(2, .v (.int .i64 y))] ∧ Own Eq H0 [] H1) (by kernel_rfl) ?_ ?_
     ·clear h;have h := hx;clear hx;cbv;refine n_br hE h (fun hc h => ?_) (fun hc h => ?_)
      ·cbv;refine n_call hE (g := fun r4 => .int .i64 r4) h (fun r4 hx => c49 N x_e r4 hx) (.refl _) fun r4 h => ?_;cbv;refine n_br hE h (fun hc h => ?_) (fun hc h => ?_)
       ·cbv;have h := ret_some h;subst h;exact ⟨_, ⟨rfl, rfl, hO⟩, .e rfl (.z), rfl⟩
       ·cbv;have h := ret_some h;subst h;exact ⟨_, ⟨rfl, rfl, hO⟩, .e rfl (.e rfl (.e rfl (.e rfl (.e rfl (.z))))), rfl⟩
      ·cbv;have h := ret_some h;subst h;exact ⟨_, ⟨rfl, rfl, hO⟩, .e rfl (.e rfl (.e rfl (.e rfl (.e rfl (.z))))), rfl⟩
     ·clear hx
      rcases s3 with y5 | y6
      ·rintro e l H ⟨rfl, rfl, hO⟩;cbv;refine n_br hE h (fun hc h => ?_) (fun hc h => ?_)
       ·cbv;have h := ret_some h;subst h;exact hK _ _ _ hO (.refl _)
       ·cbv;have h := ret_some h;subst h;exact hK _ _ _ hO (.refl _)
      ·rintro e l H ⟨rfl, rfl, hO⟩;cbv;have h := ret_some h;subst h;exact hK _ _ _ hO (.refl _)
def cf9 : Cf := ⟨[], [], [], [], [], []⟩
theorem c9 (N : Nat) (x_e : GExpr) (r : Int) (h : expr_Check N x_e = some r) : CallP Tryz.prog 9 [.agg [.int .i64 x_e.Op, .sl (Ar.lst Encs.eGExpr x_e.Args) .ro, .int .i64 x_e.Var, .int .i64 x_e.Field, .int .i64 x_e.Kind, .int .i64 x_e.Value.Kind, .int .i64 x_e.Value.Num, .str x_e.Value.Text]] (.int .i64 r) := by
 unfold expr_Check at h
 refine callP_of_spec cf9 okP Tryz.func9 (by rfl) (by kernel_rfl) Tryz.call9 Tryz.ntmps9 (by rfl) (by rfl) ?_;intro E H0 K hE hK
 have hO : Own Eq H0 [] H0 := .start stable_eq rfl
 cbv;refine n_call hE (g := fun r1 => .tup [.int .i64 r1.1, .int .i64 r1.2]) h (fun r1 hx => c27 N N x_e r1 hx) (.refl _) fun r1 h => ?_;cbv;refine n_br hE h (fun hc h => ?_) (fun hc h => ?_)
 ·cbv;have h := ret_some h;subst h;exact hK _ _ _ hO (.refl _)
 ·cbv;refine n_br hE h (fun hc h => ?_) (fun hc h => ?_)
  ·cbv;have h := ret_some h;subst h;exact hK _ _ _ hO (.refl _)
  ·cbv;refine n_call hE (g := fun r2 => .int .i64 r2) h (fun r2 hx => c28 N N x_e (.func (.func 29) [] []) (fun y1 => expr_node N y1) (fun y1 r hx => CallP.value (F := []) (C := []) (c29 N y1 r hx)) r2 hx) (.refl _) fun r2 h => ?_;cbv;have h := ret_some h;subst h;exact hK _ _ _ hO (.refl _)
def cf44 : Cf := ⟨[], [], [], [], [], []⟩
theorem c44 (N : Nat) (x_m : List (Int × GNeed)) (x_n : GNeed) (r : (Bool × List (Int × GNeed))) (h : registers_needs_add N x_m x_n = some r) : CallM1 Tryz.prog 44 [.agg [.int .i64 x_n.Var, .int .i64 x_n.Last, .int .i64 x_n.All]] (.int .i64) (V.int .i64) Encs.eGNeed x_m (.bool r.1) r.2 := by
 unfold registers_needs_add at h
 refine callM1_run (T := TT) cf44 okP Tryz.func44 (by rfl) (by kernel_rfl) Tryz.call44 Tryz.ntmps44 (by rfl) (by rfl) ?_;intro E H0 id0 o0 K hE ho0 hO hK;cbv;refine n_mgetG hE Encs.eGNeed_eq (kt := 3) (et := 76) (by kernel_rfl) (by kernel_rfl) (mkOk_int .i64) ((⟨0, 0, 0⟩ : GNeed) : GNeed) (by kernel_rfl) (Encs.eGNeed_eq _).symm hO ho0 0 rfl h fun r1 h => ?_;cbv;refine n_br hE h (fun hc h => ?_) (fun hc h => ?_)
 ·cbv;refine n_msetG hE (Encs.eGNeed_eq _).symm (kt := 3) (et := 76) (by kernel_rfl) (by kernel_rfl) (mkOk_int .i64) (fun x => ⟨_, by rw [Encs.eGNeed_eq]; rfl⟩) hO ho0 0 rfl h fun l3 o2 H ho2 h hO => ?_;cbv;have h := ret_some h;subst h;exact hK _ _ _ 0 _ ho2 rfl hO (.refl _)
 ·cbv;have h := ret_some h;subst h;exact hK _ _ _ 0 _ ho0 rfl hO (.refl _)
section
variable {P : Program} {nt : Nat} {rd : Option Nat} {E : Env} (hE : E = real P nt rd)
include hE
theorem n_loadF {H : Heap} {id : Nat} {cs : List V} {k : List V → Prop} (h : H id = some (.cells cs)) (hk : k cs) : E.load H id k := by
 subst hE; exact ⟨cs, h, hk⟩
end
def CallW (P : Program) (f : FuncId) (args : List V) (own : Int) (m m' : List (Int × GNeed)) : Prop :=
 ∀ H id o b2 b3, H id = some (.obj o) → Mok (.int .i64) (V.int .i64) Encs.eGNeed o m → H b2 = some (.cells [.map id]) → H b3 = some (.cells [.func (.func f) [] [.eref [.int .i64 own] 0, .ref b2 0, .ref b3 0]]) →
  CallA P f (args ++ [.eref [.int .i64 own] 0, .ref b2 0, .ref b3 0]) H fun v H' => ∃ o', Mok (.int .i64) (V.int .i64) Encs.eGNeed o' m' ∧ v = .tup [] ∧ H' = upd H id (some (.obj o'))
section
variable {P : Program} {nt : Nat} {rd : Option Nat} {E : Env} (hE : E = real P nt rd)
include hE
theorem n_callW {R : Type} {r : R} {Φ : Heap → Heap → Prop} {F H : Heap} {L : List En} {fid : FuncId} {args : List V} {own : Int} {m : List (Int × GNeed)} {o : Obj} {id b2 b3 : Nat} {M : Option (List (Int × GNeed))} {Fk : List (Int × GNeed) → Option R} {k : V → Heap → Prop}
 (hO : Own Φ F L H) (ho : Mok (.int .i64) (V.int .i64) Encs.eGNeed o m) (i : Nat) (hi : L[i]? = some (.blk id (.obj o))) (h2 : H b2 = some (.cells [.map id])) (h3 : H b3 = some (.cells [.func (.func fid) [] [.eref [.int .i64 own] 0, .ref b2 0, .ref b3 0]]))
 (h : M.bind Fk = some r) (hc : ∀ x, M = some x → CallW P fid args own m x)
 (hk : ∀ x o' H', Mok (.int .i64) (V.int .i64) Encs.eGNeed o' x → Own Φ F (L.set i (.blk id (.obj o'))) H' → Fk x = some r → k (.tup []) H') : E.call (.func (.func fid) [] [.eref [.int .i64 own] 0, .ref b2 0, .ref b3 0]) args H k := by
 subst hE;obtain ⟨x, h1, h4⟩ := bind_some h;refine CallA.value (F := []) ?_;rw [List.nil_append]
 exact (hc x h1 H id o b2 b3 (hO.get i hi) ho h2 h3).mono fun v H' ⟨o', e2, e3, e4⟩ => by subst e3; subst e4; exact hk x o' _ e2 (hO.set i hi) h4
end
def cf43 : Cf := ⟨[5], [], [(34, 13)], [0], [], []⟩
set_option maxHeartbeats 4000000 in
theorem c43 (N : Nat) : ∀ (n : Nat) (x_e : GExpr) (x_own : Int) (x_m r : List (Int × GNeed)), registers_read_1 N n x_e x_own x_m = some r → CallW Tryz.prog 43 [.agg [.int .i64 x_e.Op, .sl (Ar.lst Encs.eGExpr x_e.Args) .ro, .int .i64 x_e.Var, .int .i64 x_e.Field, .int .i64 x_e.Kind, .int .i64 x_e.Value.Kind, .int .i64 x_e.Value.Num, .str x_e.Value.Text]] x_own x_m r := by
 intro n
 induction n with
 | zero => intro x_e x_own x_m r h; cases h
 | succ n ih =>
 intro x_e x_own x_m r h
 unfold registers_read_1 at h
 intro H0 id o b2 b3 hid ho hb2 hb3
 have n2 : id ≠ b2 := fun e => by rw [← e, hid] at hb2; cases hb2
 have n3 : id ≠ b3 := fun e => by rw [← e, hid] at hb3; cases hb3
 have f2 : upd H0 id none b2 = some (.cells [.map id]) := by rw [upd_other _ _ (Ne.symm n2)]; exact hb2
 have f3 : upd H0 id none b3 = some (.cells [.func (.func 43) [] [.eref [.int .i64 x_own] 0, .ref b2 0, .ref b3 0]]) := by rw [upd_other _ _ (Ne.symm n3)]; exact hb3
 refine CallA.le (callA_of_run (K := fun v H' => ∃ y H2, LeV v y ∧ HLe H2 H' ∧ ∃ o', Mok (.int .i64) (V.int .i64) Encs.eGNeed o' r ∧ y = .tup [] ∧ H2 = upd H0 id (some (.obj o'))) cf43 okP.1 okP.2 Tryz.func43 (by rfl) (by kernel_rfl) Tryz.call43 Tryz.ntmps43 (by rfl) (by rfl) fun E hE => ?_)
 have hO : Own Eq (upd H0 id none) [.blk id (.obj o)] H0 := Own.startO hid
 have hK : ∀ (v : V) (o' : Obj) (L : List En) (i : Nat) (H' : Heap), Mok (.int .i64) (V.int .i64) Encs.eGNeed o' r → L[i]? = some (.blk id (.obj o')) → Own Eq (upd H0 id none) L H' → LeV v (.tup []) → ∃ y H2, LeV v y ∧ HLe H2 H' ∧ ∃ o', Mok (.int .i64) (V.int .i64) Encs.eGNeed o' r ∧ y = .tup [] ∧ H2 = upd H0 id (some (.obj o')) := by
  intro v o' L i H' hq' hi hO hv;obtain ⟨h1, h2⟩ := (hO.only i hi).last
  rw [upd_upd] at h2
  exact ⟨_, _, hv, h2, o', hq', rfl, rfl⟩
 cbv;refine n_alloc hE hO fun b1 H hO => ?_;cbv;refine n_store hE hO 0 rfl rfl fun H hO => ?_;cbv;obtain ⟨s2, hx, h⟩ := bind_some h;refine n_join cf43 hE okP (fun e l H1 => e = .normal ∧ l = [(1, .v (.eref [.int .i64 x_own] 0)), (2, .v (.ref b2 0)), (3, .v (.ref b3 0)), (4, .v (.eref [.int .i64 x_e.Op, .sl (Ar.lst Encs.eGExpr x_e.Args) .ro, .int .i64 x_e.Var, .int .i64 x_e.Field, .int .i64 x_e.Kind, .int .i64 x_e.Value.Kind, .int .i64 x_e.Value.Num, .str x_e.Value.Text] 0)), (5, .v (.ref b1 0))] ∧ Own Eq (upd H0 id none) [.blk b1 (.cells [.int .i64 s2.Var, .int .i64 s2.Last, .int .i64 s2.All]), .blk id (.obj o)] H1) (by kernel_rfl) ?_ ?_
 ·clear h;have h := hx;clear hx;cbv;refine n_br hE h (fun hc h => ?_) (fun hc h => ?_)
  ·cbv;refine n_needB hE h fun h => ?_;cbv;refine n_store hE hO 0 rfl rfl fun H hO => ?_;cbv;have h := ret_some h;subst h;exact ⟨_, ⟨rfl, rfl, hO⟩, .e rfl (.e rfl (.e rfl (.e rfl (.e rfl (.z))))), rfl⟩
  ·cbv;refine n_br hE h (fun hc h => ?_) (fun hc h => ?_)
   ·cbv;refine n_store hE hO 0 rfl rfl fun H hO => ?_;cbv;have h := ret_some h;subst h;exact ⟨_, ⟨rfl, rfl, hO⟩, .e rfl (.e rfl (.e rfl (.e rfl (.e rfl (.z))))), rfl⟩
   ·cbv;refine n_br hE h (fun hc h => ?_) (fun hc h => ?_)
    ·cbv;refine n_needB hE h fun h => ?_;cbv;refine n_store hE hO 0 rfl rfl fun H hO => ?_;cbv;have h := ret_some h;subst h;exact ⟨_, ⟨rfl, rfl, hO⟩, .e rfl (.e rfl (.e rfl (.e rfl (.e rfl (.z))))), rfl⟩
    ·cbv;refine n_br hE h (fun hc h => ?_) (fun hc h => ?_)
     ·cbv;refine n_store hE hO 0 rfl rfl fun H hO => ?_;cbv;have h := ret_some h;subst h;exact ⟨_, ⟨rfl, rfl, hO⟩, .e rfl (.e rfl (.e rfl (.e rfl (.e rfl (.z))))), rfl⟩
     ·cbv;have h := ret_some h;subst h;exact ⟨_, ⟨rfl, rfl, hO⟩, .e rfl (.e rfl (.e rfl (.e rfl (.e rfl (.z))))), rfl⟩
 ·clear hx;rintro e l H ⟨rfl, rfl, hO⟩;cbv;obtain ⟨s3, hx, h⟩ := bind_some h;refine n_join cf43 hE okP (fun e l H1 => e = .normal ∧ l = [(2, .v (.ref b2 0)), (3, .v (.ref b3 0)), (4, .v (.eref [.int .i64 x_e.Op, .sl (Ar.lst Encs.eGExpr x_e.Args) .ro, .int .i64 x_e.Var, .int .i64 x_e.Field, .int .i64 x_e.Kind, .int .i64 x_e.Value.Kind, .int .i64 x_e.Value.Num, .str x_e.Value.Text] 0)), (5, .v (.ref b1 0))] ∧ Own Eq (upd H0 id none) [.blk b1 (.cells [.int .i64 s3.Var, .int .i64 s3.Last, .int .i64 s3.All]), .blk id (.obj o)] H1) (by kernel_rfl) ?_ ?_
  ·clear h;have h := hx;clear hx;cbv;refine n_br hE h (fun hc h => ?_) (fun hc h => ?_)
   ·cbv;refine n_store hE hO 0 rfl rfl fun H hO => ?_;cbv;have h := ret_some h;subst h;exact ⟨_, ⟨rfl, rfl, hO⟩, .e rfl (.e rfl (.e rfl (.e rfl (.z)))), rfl⟩
   ·cbv;have h := ret_some h;subst h;exact ⟨_, ⟨rfl, rfl, hO⟩, .e rfl (.e rfl (.e rfl (.e rfl (.z)))), rfl⟩
  ·clear hx;rintro e l H ⟨rfl, rfl, hO⟩;cbv;refine n_loadF hE (hO.ext _ _ f2) ?_;cbv;refine n_load hE hO 0 rfl ?_;cbv;refine n_callM1 hE (g := fun y => .bool y) hO ho 1 rfl h (fun y hy => c44 N x_m s3 y hy) (.refl _) fun a4 oc H hoc hO h => ?_;cbv;refine n_ln hE ?_;cbv;obtain ⟨s9, hx, h⟩ := bind_some h
   refine n_loopG cf43 hE okP (γ := Obj) (fun s8 g => [(2, .v (.ref b2 0)), (3, .v (.ref b3 0)), (40, .v (.sl (Ar.lst Encs.eGExpr x_e.Args) .ro)), (41, .v (.int .i64 (Ar.len x_e.Args))), (42, .v (.int .i64 s8.2))])
    (fun s8 g H1 => Mok (.int .i64) (V.int .i64) Encs.eGNeed g s8.1 ∧ Own Eq (upd H0 id none) [.blk id (.obj g)] H1)
    (fun x e l H1 => ∃ g, Mok (.int .i64) (V.int .i64) Encs.eGNeed g x ∧ e = .exit 1 ∧ l = [] ∧ Own Eq (upd H0 id none) [.blk id (.obj g)] H1) (by kernel_rfl) ?_ oc hx ?_ ⟨hoc, hO.tail⟩ ?_
   ·rintro s8 g H o' ⟨hg, hO⟩ h;clear hx;cbv;refine n_br hE h (fun hc h => ?_) (fun hc h => ?_)
    ·cbv;refine n_idx hE Encs.eGExpr_eq h fun x10 h => ?_;cbv;refine n_loadF hE (hO.ext _ _ f3) ?_;cbv;refine n_callW hE hO hg 0 rfl (hO.ext _ _ f2) (hO.ext _ _ f3) h (fun y hy => ih x10 x_own s8.1 y hy) fun y g' H hg' hO h => ?_;cbv;have h := ret_some h;subst h;exact ⟨_, g', rfl, .e rfl (.e rfl (.e rfl (.e rfl (.e rfl (.z))))), rfl, hg', hO⟩
    ·cbv;have h := ret_some h;subst h;exact ⟨_, _, rfl, ⟨g, hg, rfl, rfl, hO⟩, .z, rfl⟩
   ·exact .e rfl (.e rfl (.e rfl (.e rfl (.e rfl (.z)))))
   ·clear hx;rintro e l H ⟨g, hg, rfl, rfl, hO⟩;cbv;have h := ret_some h;subst h;exact hK _ _ _ 0 _ hg rfl hO (.refl _)
def cf25 : Cf := ⟨[5, 6], [], [], [], [], []⟩
theorem c25 (N : Nat) (x_e : GExpr) (x_own : Int) (r : List (Int × GNeed)) (h : registers_read N x_e x_own = some r) : CallMF Tryz.prog 25 [.agg [.int .i64 x_e.Op, .sl (Ar.lst Encs.eGExpr x_e.Args) .ro, .int .i64 x_e.Var, .int .i64 x_e.Field, .int .i64 x_e.Kind, .int .i64 x_e.Value.Kind, .int .i64 x_e.Value.Num, .str x_e.Value.Text], .int .i64 x_own] (.int .i64) (V.int .i64) Encs.eGNeed r := by
 unfold registers_read at h
 refine callMF_run (T := TT) cf25 okP Tryz.func25 (by rfl) (by kernel_rfl) Tryz.call25 Tryz.ntmps25 (by rfl) (by rfl) ?_;intro E H0 K hE hK
 have hO : Own Eq H0 [] H0 := .start stable_eq rfl
 cbv;refine n_mmk hE (.int .i64) (V.int .i64) Encs.eGNeed hO fun m1 o2 H ho2 hO => ?_;cbv;refine n_alloc hE hO fun b5 H hO => ?_;cbv;refine n_store hE hO 0 rfl rfl fun H hO => ?_;cbv;refine n_alloc hE hO fun b6 H hO => ?_;cbv;refine n_store hE hO 0 rfl rfl fun H hO => ?_;cbv;refine n_load hE hO 0 rfl ?_;cbv;refine n_callW hE (M := registers_read_1 N N x_e x_own []) (Fk := some) (r := r) hO ho2 2 rfl (hO.get 1 rfl) (hO.get 0 rfl) (by rw [h]; rfl) (fun y hy => c43 N N x_e x_own [] y hy) fun y o' H ho' hO hy => ?_
 cases hy
 cbv;refine n_load hE hO 1 rfl ?_;cbv;exact hK _ _ _ 2 _ ho' rfl hO
section
open Go.Shelf Go.Sort
omit [Ar] [Encs] in
theorem sortedAt : SortedAt Tryz.prog 45 68 3 := by
 intro w bx b nn D0 R hlt hcell hown hmax
 have hsorts : ∀ m, AnyZI.SortsIn Tryz.prog Tryz.laysGgz6_ren Fence.wide m := fun m => ⟨fun blk off cap ss W hH hblk hsz => callsIn_wide.2 (AnyM.slices_Sort_int Tryz.laysSlgm5 blk off cap ss W hH hblk hsz), fun p cap W => callsIn_wide.2 (AnyM.slices_Sort_int_none Tryz.laysSlgm5 p cap W)⟩
 have hseq : SeqGives Fence.wide 2 Tryz.prog 68 #[.pointer (some ⟨bx, 0, none⟩)] encZ (fun ss => ss.Perm (intKeys D0)) (Maps.size D0) w := AnyZI.keys_gives (ρ := Tryz.laysGgz7_ren) { Tryz.laysGgz7 with } Fence.wide _ trivial rfl (by omega) bx b nn D0 w hlt hcell hown
 have hm : maxLen = 2 ^ 63 - 1 := rfl
 have cS := AnyZI.sorted_in Tryz.laysGgz6 Fence.wide 5 trivial trivial trivial trivial rfl (by omega) (hsorts _) (enters_of Tryz.func67 (by kernel_rfl) rfl) 68 #[.pointer (some ⟨bx, 0, none⟩)] trivial (enters_of Tryz.func68 (by kernel_rfl) rfl) _ (Maps.size D0) (by omega) (by omega) w hseq
 exact (callsIn_wide.1 cS).mono fun e w' ⟨v, ss, h1, h2, h3, _, h5⟩ => ⟨v, ss, h1, h2, h3, h5⟩
end
def cf46 : Cf := ⟨[1], [], [], [], [], []⟩
theorem keysOf (H : Heap) (id : Nat) : CallA Tryz.prog 46 [.map id] H fun v H' => ∃ bx, H bx = none ∧ v = .func (.func 68) [] [.ref bx 0] ∧ H' = upd H bx (some (.cells [.map id])) := by
 refine CallA.le (callA_of_run (T := TT) (K := fun v H' => ∃ y H2, LeV v y ∧ HLe H2 H' ∧ ∃ bx, H bx = none ∧ y = .func (.func 68) [] [.ref bx 0] ∧ H2 = upd H bx (some (.cells [.map id]))) cf46 okP.1 okP.2 Tryz.func46 (by rfl) (by kernel_rfl) Tryz.call46 Tryz.ntmps46 (by rfl) (by rfl) fun E hE => ?_)
 have hO : Own Eq H [] H := .start stable_eq rfl
 cbv;refine n_alloc hE hO fun bx H' hO => ?_;cbv;obtain ⟨h1, h2⟩ := (hO.only 0 rfl).last;exact ⟨_, _, .refl _, h2, bx, h1, rfl, rfl⟩
section
variable {P : Program} {nt : Nat} {rd : Option Nat} {E : Env} (hE : E = real P nt rd)
include hE
omit [Encs] in
theorem n_mgetF {K X R : Type} {kf : K → V} {vf : X → V} {d : TypeDesc} {H : Heap} {m : List (K × X)} {o : Obj} {mid : Nat} [DecidableEq K] {r : R} {t kt et : Nat} {g : X → V} (hg : ∀ x, vf x = g x) (hm : P.underlying t = some (.map kt et)) (hd : P.underlying kt = some d) (hK : MkOk d kf) {z : V} (z0 : X) (hz : zeO P et = some z) (hvz : z = vf z0) (h1 : H mid = some (.obj o)) (hq : Mok d kf vf o m)
 {key : K} {k : V → Prop} {F : X × Bool → Option R} (h : (getM m key z0).bind F = some r) (hk : ∀ x, F x = some r → k (g x.1)) : E.mget t H (.map mid) (kf key) false k :=
 n_mget hE hm hd hK z0 hz hvz (Own.startO h1) hq 0 rfl h fun x hx => by rw [hg]; exact hk x hx
end
def cf26 : Cf := ⟨[], [], [], [], [], []⟩
theorem c26 (N : Nat) (x_m : List (Int × GNeed)) (r : List GNeed) (h : registers_needs_list N x_m = some r) : CallMR Tryz.prog 26 (.int .i64) (V.int .i64) Encs.eGNeed x_m (.sl (Ar.lst Encs.eGNeed r) .ro) := by
 unfold registers_needs_list at h
 split at h
 case isFalse => cases h
 rename_i hw
 obtain ⟨hr, hsz⟩ := hw
 have hr : ∀ p ∈ x_m, -9223372036854775808 ≤ p.1 ∧ p.1 < 9223372036854775808 := fun p hp => by simpa using List.all_eq_true.1 hr p hp
 obtain ⟨ks, hks, h⟩ := bind_some h;refine callMR_run (T := TT) cf26 okP Tryz.func26 (by rfl) (by kernel_rfl) Tryz.call26 Tryz.ntmps26 (by rfl) (by rfl) ?_;intro E H0 id0 o0 K hE ho0 hid hK
 have hO : Own Eq H0 [] H0 := .start stable_eq rfl
 cbv;refine n_callX hE (keysOf H0 id0) fun v H ⟨bx, hbx, e1, e2⟩ => ?_;subst e1
 have hO : Own Eq H0 [.blk bx (.cells [.map id0])] H := by rw [e2]; exact hO.push hbx rfl
 clear e2;cbv;refine n_callX hE (callA_sorted sortedAt (by kernel_rfl) Tryz.call45 hks hsz hr (hO.get 0 rfl) (hO.ext _ _ hid) ho0) fun v H' ⟨e1, e2⟩ => ?_;subst e1; subst e2;cbv;refine n_ln hE ?_;cbv;obtain ⟨s2, hx, h⟩ := bind_some h
 refine n_loopG cf26 hE okP (γ := Tail) (fun s1 g => [(0, .v (.map id0)), (3, .v (.sl (Ar.lst Encs.eGNeed s1.2) g)), (8, .v (.sl (Ar.lst (V.int .i64) ks) .ro)), (9, .v (.int .i64 (Ar.len ks))), (10, .v (.int .i64 s1.1))])
  (fun s1 g H1 => Appn g ∧ Own Eq H0 [.tl g, .blk bx (.cells [.map id0])] H1) (fun x e l H1 => ∃ u : Tail, Appn u ∧ e = .exit 0 ∧ l = [(3, .v (.sl (Ar.lst Encs.eGNeed x) u))] ∧ Own Eq H0 [.tl u, .blk bx (.cells [.map id0])] H1) (by kernel_rfl) ?_ .nil hx ?_ ⟨trivial, hO.tl0 rfl⟩ ?_
 ·rintro s1 t6 H1 o ⟨ht6, hO⟩ h;clear hx;cbv;refine n_br hE h (fun hc h => ?_) (fun hc h => ?_)
  ·cbv;refine n_idx hE (fun _ => rfl) h fun k3 h => ?_;cbv;refine n_mgetF hE Encs.eGNeed_eq (kt := 3) (et := 76) (by kernel_rfl) (by kernel_rfl) (mkOk_int .i64) ((⟨0, 0, 0⟩ : GNeed) : GNeed) (by kernel_rfl) (Encs.eGNeed_eq _).symm (hO.ext _ _ hid) ho0 h fun x4 h => ?_;cbv;refine n_appn (f := Encs.eGNeed) hE sz_GNeed (by decide) hO 0 rfl ht6 (l := s1.2) (m := [x4.1]) (.refl _) (.lstc (.eq (Encs.eGNeed_eq x4.1) (.refl _)) (.lst0)) h fun l5 t7 H2 hO ht7 h => ?_;cbv;have h := ret_some h;subst h;exact ⟨_, t7, rfl, .e rfl (.e rfl (.e rfl (.e rfl (.e rfl (.z))))), rfl, ht7, hO⟩
  ·cbv;have h := ret_some h;subst h;exact ⟨_, _, rfl, ⟨t6, ht6, rfl, rfl, hO⟩, .e rfl (.z), rfl⟩
 ·exact .e rfl (.v (.slt _ (.lst0)) (.e rfl (.e rfl (.e rfl (.z)))))
 ·clear hx;rintro e l H ⟨u, hu, rfl, rfl, hO⟩;cbv;have h := ret_some h;subst h;exact hK _ _ _ hO (.ro _ _)
def cf8 : Cf := ⟨[], [], [], [], [], []⟩
theorem c8 (N : Nat) (x_e : GExpr) (x_own : Int) (r : ((List GNeed) × Int)) (h : registers_Read N x_e x_own = some r) : CallP Tryz.prog 8 [.agg [.int .i64 x_e.Op, .sl (Ar.lst Encs.eGExpr x_e.Args) .ro, .int .i64 x_e.Var, .int .i64 x_e.Field, .int .i64 x_e.Kind, .int .i64 x_e.Value.Kind, .int .i64 x_e.Value.Num, .str x_e.Value.Text], .int .i64 x_own] (.tup [.sl (Ar.lst Encs.eGNeed r.1) .ro, .int .i64 r.2]) := by
 unfold registers_Read at h
 refine callP_of_spec cf8 okP Tryz.func8 (by rfl) (by kernel_rfl) Tryz.call8 Tryz.ntmps8 (by rfl) (by rfl) ?_;intro E H0 K hE hK
 have hO : Own Eq H0 [] H0 := .start stable_eq rfl
 cbv;refine n_call hE (g := fun r1 => .int .i64 r1) h (fun r1 hx => c9 N x_e r1 hx) (.refl _) fun r1 h => ?_;cbv;refine n_br hE h (fun hc h => ?_) (fun hc h => ?_)
 ·cbv;have h := ret_some h;subst h;exact hK _ _ _ hO (.tup (.cons (.lit _ (lst_nil)) (.refl _)))
 ·cbv;refine n_callMF hE h (fun l2 hx => c25 N x_e x_own l2 hx) (.refl _) hO fun l2 m3 o4 H ho4 hO h => ?_;cbv;refine n_callMR hE (g := fun l5 => .sl (Ar.lst Encs.eGNeed l5) .ro) (hO.get 0 rfl) ho4 h (fun l5 hx => c26 N l2 l5 hx) fun l5 h => ?_;cbv;have h := ret_some h;subst h;exact hK _ _ _ hO (.refl _)
def cf30 : Cf := ⟨[4], [(8, 11)], [], [], [], []⟩
theorem c30 (N : Nat) (x_l : List GNeed) (r : Int) (h : registers_Check N x_l = some r) : CallP Tryz.prog 30 [.sl (Ar.lst Encs.eGNeed x_l) .ro] (.int .i64 r) := by
 unfold registers_Check at h
 refine callP_of_spec cf30 okP Tryz.func30 (by rfl) (by kernel_rfl) Tryz.call30 Tryz.ntmps30 (by rfl) (by rfl) ?_;intro E H0 K hE hK
 have hO : Own Eq H0 [] H0 := .start stable_eq rfl
 cbv;refine n_ln hE ?_;cbv;refine n_br hE h (fun hc h => ?_) (fun hc h => ?_)
 ·cbv;have h := ret_some h;subst h;exact hK _ _ _ hO (.refl _)
 ·cbv;refine n_ln hE ?_;cbv;obtain ⟨s2, hx, h⟩ := bind_some h;refine n_loopN cf30 hE okP (fun s1 => [(0, .v (.sl (Ar.lst Encs.eGNeed x_l) .ro)), (8, .v (.sl (Ar.lst Encs.eGNeed x_l) .ro)), (9, .v (.int .i64 (Ar.len x_l))), (10, .v (.int .i64 s1))]) (fun s1 H1 => Own Eq H0 [] H1) (fun x e l H1 => match (generalizing := false) x with | .inl y => e = .exit 0 ∧ l = [] ∧ Own Eq H0 [] H1 | .inr y => e = .ret ∧ l = [(2, .v (.int .i64 y))] ∧ Own Eq H0 [] H1) (by kernel_rfl) ?_ hx ?_ hO ?_
  ·intro s1 H o hO h;clear hx;cbv;refine n_br hE h (fun hc h => ?_) (fun hc h => ?_)
   ·cbv;refine n_idx hE Encs.eGNeed_eq h fun x3 h => ?_;cbv;refine n_alloc hE hO fun b4 H hO => ?_;cbv;refine n_store hE hO 0 rfl rfl fun H hO => ?_;cbv;refine n_load hE hO 0 rfl ?_;cbv;refine n_load hE hO 0 rfl ?_;cbv;refine n_load hE hO 0 rfl ?_;cbv;refine n_load hE hO 0 rfl ?_;cbv;refine n_load hE hO 0 rfl ?_;cbv;refine n_load hE hO 0 rfl ?_;cbv;refine n_br hE h (fun hc h => ?_) (fun hc h => ?_)
    ·cbv;have h := ret_some h;subst h;exact ⟨_, _, rfl, ⟨rfl, rfl, hO.tail⟩, .e rfl (.z), rfl⟩
    ·cbv;refine n_load hE hO 0 rfl ?_;cbv;refine n_br hE h (fun hc h => ?_) (fun hc h => ?_)
     ·cbv;refine n_idx hE Encs.eGNeed_eq h fun x5 h => ?_;cbv;refine n_br hE h (fun hc h => ?_) (fun hc h => ?_)
      ·cbv;have h := ret_some h;subst h;exact ⟨_, _, rfl, ⟨rfl, rfl, hO.tail⟩, .e rfl (.z), rfl⟩
      ·cbv;refine n_load hE hO 0 rfl ?_;cbv;refine n_load hE hO 0 rfl ?_;cbv;refine n_br hE h (fun hc h => ?_) (fun hc h => ?_)
       ·cbv;have h := ret_some h;subst h;exact ⟨_, _, rfl, ⟨rfl, rfl, hO.tail⟩, .e rfl (.z), rfl⟩
       ·cbv;have h := ret_some h;subst h;exact ⟨_, rfl, .e rfl (.e rfl (.e rfl (.e rfl (.z)))), rfl, hO.tail⟩
     ·cbv;refine n_load hE hO 0 rfl ?_;cbv;refine n_load hE hO 0 rfl ?_;cbv;refine n_br hE h (fun hc h => ?_) (fun hc h => ?_)
      ·cbv;have h := ret_some h;subst h;exact ⟨_, _, rfl, ⟨rfl, rfl, hO.tail⟩, .e rfl (.z), rfl⟩
      ·cbv;have h := ret_some h;subst h;exact ⟨_, rfl, .e rfl (.e rfl (.e rfl (.e rfl (.z)))), rfl, hO.tail⟩
   ·cbv;have h := ret_some h;subst h;exact ⟨_, _, rfl, ⟨rfl, rfl, hO⟩, .z, rfl⟩
  ·exact .e rfl (.e rfl (.e rfl (.e rfl (.z))))
  ·clear hx
   rcases s2 with y6 | y7
   ·rintro e l H ⟨rfl, rfl, hO⟩;cbv;have h := ret_some h;subst h;exact hK _ _ _ hO (.refl _)
   ·rintro e l H ⟨rfl, rfl, hO⟩;cbv;have h := ret_some h;subst h;exact hK _ _ _ hO (.refl _)
def cf50 : Cf := ⟨[], [], [], [], [], []⟩
theorem c50 (N : Nat) (x_l : List GNeed) (r : (List (Int × GNeed))) (h : registers_table N x_l = some r) : CallMF Tryz.prog 50 [.sl (Ar.lst Encs.eGNeed x_l) .ro] (.int .i64) (V.int .i64) Encs.eGNeed r := by
 unfold registers_table at h
 refine callMF_run (T := TT) cf50 okP Tryz.func50 (by rfl) (by kernel_rfl) Tryz.call50 Tryz.ntmps50 (by rfl) (by rfl) ?_;intro E H0 K hE hK
 have hO : Own Eq H0 [] H0 := .start stable_eq rfl
 cbv;refine n_mmk hE (.int .i64) (V.int .i64) Encs.eGNeed hO fun m1 o2 H ho2 hO => ?_;cbv;refine n_ln hE ?_;cbv;obtain ⟨s5, hx, h⟩ := bind_some h;refine n_loopG cf50 hE okP (γ := Obj) (fun s3 g => [(3, .v (.map m1)), (7, .v (.sl (Ar.lst Encs.eGNeed x_l) .ro)), (8, .v (.int .i64 (Ar.len x_l))), (9, .v (.int .i64 s3.1))]) (fun s3 g H1 => Mok (.int .i64) (V.int .i64) Encs.eGNeed g s3.2 ∧ Own Eq H0 [.blk m1 (.obj g)] H1) (fun x e l H1 => ∃ u1 : Obj, Mok (.int .i64) (V.int .i64) Encs.eGNeed u1 x ∧ e = .exit 0 ∧ l = [(3, .v (.map m1))] ∧ Own Eq H0 [.blk m1 (.obj u1)] H1) (by kernel_rfl) ?_ o2 hx ?_ ?_ ?_
 ·rintro s3 q4 H o ⟨hq4, hO⟩ h;clear hx;cbv;refine n_br hE h (fun hc h => ?_) (fun hc h => ?_)
  ·cbv;refine n_idx hE Encs.eGNeed_eq h fun x6 h => ?_;cbv;refine n_callM1 hE (g := fun l7 => .bool l7) hO hq4 0 rfl h (fun l7 hx => c44 N s3.2 x6 l7 hx) (.refl _) fun l7 o8 H ho8 hO h => ?_;cbv;have h := ret_some h;subst h;exact ⟨_, o8, rfl, .e rfl (.e rfl (.e rfl (.e rfl (.z)))), rfl, ho8, hO⟩
  ·cbv;have h := ret_some h;subst h;exact ⟨_, _, rfl, ⟨q4, hq4, rfl, rfl, hO⟩, .e rfl (.z), rfl⟩
 ·exact .e rfl (.e rfl (.e rfl (.e rfl (.z))))
 ·exact ⟨ho2, hO⟩
 ·clear hx;rintro e l H ⟨q9, hq9, rfl, rfl, hO⟩;cbv;have h := ret_some h;subst h;exact hK _ _ _ 0 _ hq9 rfl hO
def cf51 : Cf := ⟨[6, 7, 9], [], [(11, 4), (31, 9)], [], [], []⟩
theorem c51 (N : Nat) (x_x : GEvent) (x_fields : Int) (x_time : Bool) (r : GEvent) (h : registers_reducedEvent N x_x x_fields x_time = some r) : CallP Tryz.prog 51 [.agg [.int .i64 x_x.Source, .int .i64 x_x.Seq, .int .i64 x_x.Typ, .int .i64 x_x.Time, .sl (Ar.lst Encs.eGValue x_x.Values) .ro], .int .i64 x_fields, .bool x_time] (.agg [.int .i64 r.Source, .int .i64 r.Seq, .int .i64 r.Typ, .int .i64 r.Time, .sl (Ar.lst Encs.eGValue r.Values) .ro]) := by
 unfold registers_reducedEvent at h
 refine callP_of_spec cf51 okP Tryz.func51 (by rfl) (by kernel_rfl) Tryz.call51 Tryz.ntmps51 (by rfl) (by rfl) ?_;intro E H0 K hE hK
 have hO : Own Eq H0 [] H0 := .start stable_eq rfl
 cbv;refine n_alloc hE hO fun b1 H hO => ?_;cbv;refine n_alloc hE hO fun b2 H hO => ?_;cbv;refine n_store hE hO 0 rfl rfl fun H hO => ?_;cbv;obtain ⟨s3, hx, h⟩ := bind_some h;refine n_join cf51 hE okP (fun e l H1 => e = .normal ∧ l = [(1, .v (.int .i64 x_fields)), (3, .v (.eref [.int .i64 x_x.Source, .int .i64 x_x.Seq, .int .i64 x_x.Typ, .int .i64 x_x.Time, .sl (Ar.lst Encs.eGValue x_x.Values) .ro] 0)), (6, .v (.ref b1 0)), (7, .v (.ref b2 0))] ∧ Own Eq H0 [.blk b2 (.cells [.int .i64 s3.Source, .int .i64 s3.Seq, .int .i64 s3.Typ, .int .i64 s3.Time, .sl [] .nil]), .blk b1 (.cells [.int .i64 0, .int .i64 0, .int .i64 0, .int .i64 0, .sl [] .nil])] H1) (by kernel_rfl) ?_ ?_
 ·clear h;have h := hx;clear hx;cbv;refine n_br hE h (fun hc h => ?_) (fun hc h => ?_)
  ·cbv;refine n_store hE hO 0 rfl rfl fun H hO => ?_;cbv;have h := ret_some h;subst h;exact ⟨_, ⟨rfl, rfl, hO⟩, .e rfl (.e rfl (.e rfl (.e rfl (.z)))), rfl⟩
  ·cbv;have h := ret_some h;subst h;exact ⟨_, ⟨rfl, rfl, hO⟩, .e rfl (.e rfl (.e rfl (.e rfl (.z)))), rfl⟩
 ·clear hx;rintro e l H ⟨rfl, rfl, hO⟩;cbv;refine n_ln hE ?_;cbv;replace hO := hO.cast (L' := [.blk b2 (.cells [.int .i64 s3.Source, .int .i64 s3.Seq, .int .i64 s3.Typ, .int .i64 s3.Time, .sl (Ar.lst Encs.eGValue ([])) .nil]), .blk b1 (.cells [.int .i64 0, .int .i64 0, .int .i64 0, .int .i64 0, .sl [] .nil])]) (by first | (simp only [← lst_nil]; done) | (simp only [← lst_nil]; rfl));replace hO := hO.tl0 (t := .nil) rfl;obtain ⟨s6, hx, h⟩ := bind_some h;refine n_loopG cf51 hE okP (γ := Tail) (fun s4 g => [(1, .v (.int .i64 x_fields)), (6, .v (.ref b1 0)), (7, .v (.ref b2 0)), (16, .v (.sl (Ar.lst Encs.eGValue x_x.Values) .ro)), (17, .v (.int .i64 (Ar.len x_x.Values))), (18, .v (.int .i64 s4.1))]) (fun s4 g H1 => Appn g ∧ Own Eq H0 [.tl g, .blk b2 (.cells [.int .i64 s4.2.Source, .int .i64 s4.2.Seq, .int .i64 s4.2.Typ, .int .i64 s4.2.Time, .sl (Ar.lst Encs.eGValue s4.2.Values) g]), .blk b1 (.cells [.int .i64 0, .int .i64 0, .int .i64 0, .int .i64 0, .sl [] .nil])] H1) (fun x e l H1 => ∃ u1 : Tail, Appn u1 ∧ e = .exit 0 ∧ l = [(6, .v (.ref b1 0)), (7, .v (.ref b2 0))] ∧ Own Eq H0 [.tl u1, .blk b2 (.cells [.int .i64 x.Source, .int .i64 x.Seq, .int .i64 x.Typ, .int .i64 x.Time, .sl (Ar.lst Encs.eGValue x.Values) u1]), .blk b1 (.cells [.int .i64 0, .int .i64 0, .int .i64 0, .int .i64 0, .sl [] .nil])] H1) (by kernel_rfl) ?_ .nil hx ?_ ?_ ?_
  ·rintro s4 t5 H o ⟨ht5, hO⟩ h;clear hx;cbv;refine n_br hE h (fun hc h => ?_) (fun hc h => ?_)
   ·cbv;refine n_idx hE Encs.eGValue_eq h fun x7 h => ?_;cbv;refine n_alloc hE hO fun b8 H hO => ?_;cbv;refine n_store hE hO 0 rfl rfl fun H hO => ?_;cbv;refine n_br hE h (fun hc h => ?_) (fun hc h => ?_)
    ·cbv;refine n_thru cf51 hE okP (by kernel_rfl) ?_;cbv;refine n_store hE hO 0 rfl rfl fun H hO => ?_;cbv;refine n_load hE hO 2 rfl ?_;cbv;refine n_load hE hO 0 rfl ?_;cbv;refine n_appn (f := Encs.eGValue) hE sz_GValue (by decide) hO 1 rfl ht5 (l := s4.2.Values) (m := [(⟨0, 0, ⟨#[]⟩⟩ : GValue)]) (.refl _) (.lstc (.eq (Encs.eGValue_eq (⟨0, 0, ⟨#[]⟩⟩ : GValue)) (.refl _)) (.lst0)) h fun l10 t9 H hO ht9 h => ?_;cbv;refine n_store hE hO 2 rfl rfl fun H hO => ?_;cbv;have h := ret_some h;subst h;exact ⟨_, t9, rfl, .e rfl (.e rfl (.e rfl (.e rfl (.e rfl (.e rfl (.z)))))), rfl, ht9, hO.tail⟩
    ·cbv;refine n_needB hE h fun h => ?_;cbv;obtain ⟨s11, hx, h⟩ := bind_some h;refine n_join cf51 hE okP (fun e l H1 => e = .normal ∧ l = [(1, .v (.int .i64 x_fields)), (6, .v (.ref b1 0)), (7, .v (.ref b2 0)), (9, .v (.ref b8 0)), (16, .v (.sl (Ar.lst Encs.eGValue x_x.Values) .ro)), (17, .v (.int .i64 (Ar.len x_x.Values))), (18, .v (.int .i64 s4.1))] ∧ Own Eq H0 [.blk b8 (.cells [.int .i64 s11.Kind, .int .i64 s11.Num, .str s11.Text]), .tl t5, .blk b2 (.cells [.int .i64 s4.2.Source, .int .i64 s4.2.Seq, .int .i64 s4.2.Typ, .int .i64 s4.2.Time, .sl (Ar.lst Encs.eGValue s4.2.Values) t5]), .blk b1 (.cells [.int .i64 0, .int .i64 0, .int .i64 0, .int .i64 0, .sl [] .nil])] H1) (by kernel_rfl) ?_ ?_
     ·clear h;have h := hx;clear hx;cbv;refine n_br hE h (fun hc h => ?_) (fun hc h => ?_)
      ·cbv;refine n_store hE hO 0 rfl rfl fun H hO => ?_;cbv;have h := ret_some h;subst h;exact ⟨_, ⟨rfl, rfl, hO⟩, .e rfl (.e rfl (.e rfl (.e rfl (.e rfl (.e rfl (.e rfl (.z))))))), rfl⟩
      ·cbv;have h := ret_some h;subst h;exact ⟨_, ⟨rfl, rfl, hO⟩, .e rfl (.e rfl (.e rfl (.e rfl (.e rfl (.e rfl (.e rfl (.z))))))), rfl⟩
     ·clear hx;rintro e l H ⟨rfl, rfl, hO⟩;cbv;refine n_load hE hO 2 rfl ?_;cbv;refine n_load hE hO 0 rfl ?_;cbv;refine n_appn (f := Encs.eGValue) hE sz_GValue (by decide) hO 1 rfl ht5 (l := s4.2.Values) (m := [s11]) (.refl _) (.lstc (.eq (Encs.eGValue_eq s11) (.refl _)) (.lst0)) h fun l13 t12 H hO ht12 h => ?_;cbv;refine n_store hE hO 2 rfl rfl fun H hO => ?_;cbv;have h := ret_some h;subst h;exact ⟨_, t12, rfl, .e rfl (.e rfl (.e rfl (.e rfl (.e rfl (.e rfl (.z)))))), rfl, ht12, hO.tail⟩
   ·cbv;have h := ret_some h;subst h;exact ⟨_, _, rfl, ⟨t5, ht5, rfl, rfl, hO⟩, .e rfl (.e rfl (.z)), rfl⟩
  ·exact .e rfl (.e rfl (.e rfl (.e rfl (.e rfl (.e rfl (.z))))))
  ·exact ⟨trivial, hO⟩
  ·clear hx;rintro e l H ⟨t14, ht14, rfl, rfl, hO⟩;cbv;refine n_load hE hO 1 rfl ?_;cbv;refine n_store hE hO 2 rfl rfl fun H hO => ?_;cbv;refine n_load hE hO 2 rfl ?_;cbv;have h := ret_some h;subst h;exact hK _ _ _ hO (.agg (.cons (.refl _) (.cons (.refl _) (.cons (.refl _) (.cons (.refl _) (.cons (.ro _ _) (.refl _)))))))
def cf31 : Cf := ⟨[4, 6, 12, 3000071, 3000090, 8000071, 8000090, 9000071, 9000090], [(13, 21), (15, 14)], [], [], [(94, 1000006)], []⟩
theorem c31 (N : Nat) (x_l : List GNeed) (x_env : GEnv) (r : GEnv) (h : registers_reduced N x_l x_env = some r) : CallP Tryz.prog 31 [.sl (Ar.lst Encs.eGNeed x_l) .ro, .agg [.sl (Ar.lst Encs.eLGEvent x_env.Vars) .ro]] (.agg [.sl (Ar.lst Encs.eLGEvent r.Vars) .ro]) := by
 unfold registers_reduced at h
 refine callP_of_spec cf31 okP Tryz.func31 (by rfl) (by kernel_rfl) Tryz.call31 Tryz.ntmps31 (by rfl) (by rfl) ?_;intro E H0 K hE hK
 have hO : Own Eq H0 [] H0 := .start stable_eq rfl
 cbv;refine n_alloc hE hO fun b1 H hO => ?_;cbv;refine n_callMF hE h (fun l2 hx => c50 N x_l l2 hx) (.refl _) hO fun l2 m3 o4 H ho4 hO h => ?_;cbv;refine n_ln hE ?_;cbv;refine n_rmk hE (f := Encs.eGEvent) (by decide) hO 2 h fun l6 w5 H hw5 h hO => ?_
 have hO : Own Eq H0 (.blk w5.q.id (.arr 1 (w5.q.pre ++ Ar.lst (cellV Encs.eGEvent) w5.row ++ w5.q.rest)) :: .blk m3 (.obj o4) :: .blk b1 (.cells [.sl [] .nil]) :: (rtok w5 ++ [])) H := hO
 cbv;refine n_alloc hE hO fun b7 H hO => ?_;cbv;refine n_store hE hO 0 rfl rfl fun H hO => ?_;cbv;refine n_ln hE ?_;cbv;obtain ⟨s10, hx, h⟩ := bind_some h;refine n_loopG cf31 hE okP (γ := Rw GEvent) (fun s8 g => [(4, .v (.ref b1 0)), (5, .v (.map m3)), (6, .v (.ref b7 0)), (22, .v (.sl (Ar.lst Encs.eLGEvent x_env.Vars) .ro)), (23, .v (.int .i64 (Ar.len x_env.Vars))), (24, .v (.int .i64 s8.1))]) (fun s8 g H1 => RowsOk g s8.2 ∧ Own Eq H0 (.blk b7 (.cells [.own g.q.id g.q.lo g.q.n]) :: .blk g.q.id (.arr 1 (g.q.pre ++ Ar.lst (cellV Encs.eGEvent) g.row ++ g.q.rest)) :: .blk m3 (.obj o4) :: .blk b1 (.cells [.sl [] .nil]) :: (rtok g ++ [])) H1) (fun x e l H1 => ∃ u1 : Rw GEvent, RowsOk u1 x ∧ e = .exit 0 ∧ l = [(4, .v (.ref b1 0)), (6, .v (.ref b7 0))] ∧ Own Eq H0 (.blk b7 (.cells [.own u1.q.id u1.q.lo u1.q.n]) :: .blk u1.q.id (.arr 1 (u1.q.pre ++ Ar.lst (cellV Encs.eGEvent) u1.row ++ u1.q.rest)) :: .blk m3 (.obj o4) :: .blk b1 (.cells [.sl [] .nil]) :: (rtok u1 ++ [])) H1) (by kernel_rfl) ?_ w5 hx ?_ ?_ ?_
 ·rintro s8 w9 H o ⟨hw9, hO⟩ h;clear hx;cbv;refine n_br hE h (fun hc h => ?_) (fun hc h => ?_)
  ·cbv;refine n_idx hE Encs.eLGEvent_eq h fun x11 h => ?_;cbv;refine n_mget2G hE Encs.eGNeed_eq (kt := 3) (et := 76) (by kernel_rfl) (by kernel_rfl) (mkOk_int .i64) ((⟨0, 0, 0⟩ : GNeed) : GNeed) (by kernel_rfl) (Encs.eGNeed_eq _).symm hO ho4 2 rfl h fun r12 h => ?_;cbv;refine n_br hE h (fun hc h => ?_) (fun hc h => ?_)
   ·cbv;have h := ret_some h;subst h;exact ⟨_, w9, rfl, .e rfl (.e rfl (.e rfl (.e rfl (.e rfl (.e rfl (.z)))))), rfl, hw9, hO⟩
   ·cbv;refine n_ln hE ?_;cbv;obtain ⟨s15, hx, h⟩ := bind_some h;refine n_loopG cf31 hE okP (γ := Rw GEvent) (fun s13 g => [(4, .v (.ref b1 0)), (5, .v (.map m3)), (6, .v (.ref b7 0)), (7, .v (.int .i64 s8.1)), (8, .v (.sl (Ar.lst Encs.eGEvent x11) .ro)), (9, .v (.eref [.int .i64 r12.1.Var, .int .i64 r12.1.Last, .int .i64 r12.1.All] 0)), (22, .v (.sl (Ar.lst Encs.eLGEvent x_env.Vars) .ro)), (23, .v (.int .i64 (Ar.len x_env.Vars))), (24, .v (.int .i64 s8.1)), (37, .v (.sl (Ar.lst Encs.eGEvent x11) .ro)), (38, .v (.int .i64 (Ar.len x11))), (39, .v (.int .i64 s13.1))]) (fun s13 g H1 => RowsOk g s13.2 ∧ Own Eq H0 (.blk b7 (.cells [.own g.q.id g.q.lo g.q.n]) :: .blk g.q.id (.arr 1 (g.q.pre ++ Ar.lst (cellV Encs.eGEvent) g.row ++ g.q.rest)) :: .blk m3 (.obj o4) :: .blk b1 (.cells [.sl [] .nil]) :: (rtok g ++ [])) H1) (fun x e l H1 => ∃ u1 : Rw GEvent, RowsOk u1 x ∧ e = .exit 2 ∧ l = [(4, .v (.ref b1 0)), (5, .v (.map m3)), (6, .v (.ref b7 0)), (22, .v (.sl (Ar.lst Encs.eLGEvent x_env.Vars) .ro)), (23, .v (.int .i64 (Ar.len x_env.Vars))), (24, .v (.int .i64 s8.1))] ∧ Own Eq H0 (.blk b7 (.cells [.own u1.q.id u1.q.lo u1.q.n]) :: .blk u1.q.id (.arr 1 (u1.q.pre ++ Ar.lst (cellV Encs.eGEvent) u1.row ++ u1.q.rest)) :: .blk m3 (.obj o4) :: .blk b1 (.cells [.sl [] .nil]) :: (rtok u1 ++ [])) H1) (by kernel_rfl) ?_ w9 hx ?_ ?_ ?_
    ·rintro s13 w14 H o ⟨hw14, hO⟩ h;clear hx;cbv;refine n_br hE h (fun hc h => ?_) (fun hc h => ?_)
     ·cbv;refine n_idx hE Encs.eGEvent_eq h fun x16 h => ?_;cbv;refine n_alloc hE hO fun b17 H hO => ?_;cbv;refine n_store hE hO 0 rfl rfl fun H hO => ?_;cbv;refine n_ln hE ?_;cbv;refine n_br hE h (fun hc h => ?_) (fun hc h => ?_)
      ·cbv;obtain ⟨x18, hxx18, h⟩ := bind_some h
       obtain ⟨hjx18, t19, hrx18, hax18⟩ := hw14.at hxx18
       obtain ⟨Rx18, hO, hbx18⟩ := hO.rtake (w := w14) (T1 := []) (T2 := []) 5 rfl hrx18;refine n_takeT hE hO 0 rfl hax18 fun H hO => ?_;cbv;refine n_load hE hO 2 rfl ?_;cbv;refine n_load hE hO 2 rfl ?_;cbv;refine f_oidx hE (f := cellV Encs.eGEvent) hO hw14.ok 3 rfl hjx18 ?_;cbv;refine f_oload hE (f := cellV Encs.eGEvent) (fun _ => rfl) hO hw14.ok 3 rfl hjx18.1 hrx18 ?_;cbv;refine n_load hE hO 1 rfl ?_;cbv;refine n_pcall hE (g := fun r23 => .agg [.int .i64 r23.Source, .int .i64 r23.Seq, .int .i64 r23.Typ, .int .i64 r23.Time, .sl (Ar.lst Encs.eGValue r23.Values) .ro]) h (fun r23 hx => c51 N x16 (Ar.ar .or .i64 r12.1.All r12.1.Last) (Ar.cmp .neq (Ar.ar .and .i64 r12.1.Last 256) 0) r23 hx) (.refl _) fun r23 h => ?_;cbv;refine n_need hE trivial ?_;cbv;refine n_appq (f := Encs.eGEvent) hE sz_GEvent (by decide) (l := x18) (m := [r23]) (.refl _) (.lstc (.eq (Encs.eGEvent_eq r23) (.refl _)) (.lst0)) h fun l24 h => ?_;cbv;refine n_nameT hE hO 0 rfl fun t20 H hO htt20 => ?_;cbv;refine f_oidx hE (f := cellV Encs.eGEvent) hO hw14.ok 3 rfl hjx18 ?_;cbv;refine f_ostore hE (f := cellV Encs.eGEvent) (tz := 1) (x' := (l24, t20)) (fun _ => ⟨.sl (Ar.lst Encs.eGEvent l24) t20, .refl _, rfl, rfl, rfl⟩) (by decide) hO hw14.ok 3 rfl hjx18 fun H hO => ?_;cbv;obtain ⟨l22, hu, h⟩ := bind_some h;obtain ⟨w21, hqw21, hw21, hO⟩ : ∃ w0 : Rw GEvent, w0.q = w14.q ∧ RowsOk w0 l22 ∧ Own Eq H0 (.blk b17 (.cells [.int .i64 x16.Source, .int .i64 x16.Seq, .int .i64 x16.Typ, .int .i64 x16.Time, .sl (Ar.lst Encs.eGValue x16.Values) .ro]) :: .blk b7 (.cells [.own w0.q.id w0.q.lo w0.q.n]) :: .blk w0.q.id (.arr 1 (w0.q.pre ++ Ar.lst (cellV Encs.eGEvent) w0.row ++ w0.q.rest)) :: .blk m3 (.obj o4) :: .blk b1 (.cells [.sl [] .nil]) :: (rtok w0 ++ [])) H := ⟨(⟨w14.q, w14.row.set (s8.1).toNat (l24, t20)⟩ : Rw GEvent), rfl, by rw [updL_put hu]; exact hw14.put _ htt20, (by have e := hbx18 (l24, t20) H [.blk b17 (.cells [.int .i64 x16.Source, .int .i64 x16.Seq, .int .i64 x16.Typ, .int .i64 x16.Time, .sl (Ar.lst Encs.eGValue x16.Values) .ro]), .blk b7 (.cells [.own w14.q.id w14.q.lo w14.q.n]), .blk w14.q.id (.arr 1 (w14.q.pre ++ Ar.lst (cellV Encs.eGEvent) (w14.row.set (s8.1).toNat (l24, t20)) ++ w14.q.rest)), .blk m3 (.obj o4), .blk b1 (.cells [.sl [] .nil])] hO; simp only [List.cons_append, List.nil_append, List.append_nil] at e ⊢; exact e)⟩
       try rw [← hqw21]
       have h := ret_some h;subst h;exact ⟨_, w21, rfl, .e rfl (.e rfl (.e rfl (.e rfl (.e rfl (.e rfl (.e rfl (.e rfl (.e rfl (.e rfl (.e rfl (.e rfl (.z)))))))))))), rfl, hw21, hO.tail⟩
      ·cbv;refine n_br hE h (fun hc h => ?_) (fun hc h => ?_)
       ·cbv;obtain ⟨x25, hxx25, h⟩ := bind_some h
        obtain ⟨hjx25, t26, hrx25, hax25⟩ := hw14.at hxx25
        obtain ⟨Rx25, hO, hbx25⟩ := hO.rtake (w := w14) (T1 := []) (T2 := []) 5 rfl hrx25;refine n_takeT hE hO 0 rfl hax25 fun H hO => ?_;cbv;refine n_load hE hO 2 rfl ?_;cbv;refine n_load hE hO 2 rfl ?_;cbv;refine f_oidx hE (f := cellV Encs.eGEvent) hO hw14.ok 3 rfl hjx25 ?_;cbv;refine f_oload hE (f := cellV Encs.eGEvent) (fun _ => rfl) hO hw14.ok 3 rfl hjx25.1 hrx25 ?_;cbv;refine n_load hE hO 1 rfl ?_;cbv;refine n_pcall hE (g := fun r30 => .agg [.int .i64 r30.Source, .int .i64 r30.Seq, .int .i64 r30.Typ, .int .i64 r30.Time, .sl (Ar.lst Encs.eGValue r30.Values) .ro]) h (fun r30 hx => c51 N x16 r12.1.All false r30 hx) (.refl _) fun r30 h => ?_;cbv;refine n_need hE trivial ?_;cbv;refine n_appq (f := Encs.eGEvent) hE sz_GEvent (by decide) (l := x25) (m := [r30]) (.refl _) (.lstc (.eq (Encs.eGEvent_eq r30) (.refl _)) (.lst0)) h fun l31 h => ?_;cbv;refine n_nameT hE hO 0 rfl fun t27 H hO htt27 => ?_;cbv;refine f_oidx hE (f := cellV Encs.eGEvent) hO hw14.ok 3 rfl hjx25 ?_;cbv;refine f_ostore hE (f := cellV Encs.eGEvent) (tz := 1) (x' := (l31, t27)) (fun _ => ⟨.sl (Ar.lst Encs.eGEvent l31) t27, .refl _, rfl, rfl, rfl⟩) (by decide) hO hw14.ok 3 rfl hjx25 fun H hO => ?_;cbv;obtain ⟨l29, hu, h⟩ := bind_some h;obtain ⟨w28, hqw28, hw28, hO⟩ : ∃ w0 : Rw GEvent, w0.q = w14.q ∧ RowsOk w0 l29 ∧ Own Eq H0 (.blk b17 (.cells [.int .i64 x16.Source, .int .i64 x16.Seq, .int .i64 x16.Typ, .int .i64 x16.Time, .sl (Ar.lst Encs.eGValue x16.Values) .ro]) :: .blk b7 (.cells [.own w0.q.id w0.q.lo w0.q.n]) :: .blk w0.q.id (.arr 1 (w0.q.pre ++ Ar.lst (cellV Encs.eGEvent) w0.row ++ w0.q.rest)) :: .blk m3 (.obj o4) :: .blk b1 (.cells [.sl [] .nil]) :: (rtok w0 ++ [])) H := ⟨(⟨w14.q, w14.row.set (s8.1).toNat (l31, t27)⟩ : Rw GEvent), rfl, by rw [updL_put hu]; exact hw14.put _ htt27, (by have e := hbx25 (l31, t27) H [.blk b17 (.cells [.int .i64 x16.Source, .int .i64 x16.Seq, .int .i64 x16.Typ, .int .i64 x16.Time, .sl (Ar.lst Encs.eGValue x16.Values) .ro]), .blk b7 (.cells [.own w14.q.id w14.q.lo w14.q.n]), .blk w14.q.id (.arr 1 (w14.q.pre ++ Ar.lst (cellV Encs.eGEvent) (w14.row.set (s8.1).toNat (l31, t27)) ++ w14.q.rest)), .blk m3 (.obj o4), .blk b1 (.cells [.sl [] .nil])] hO; simp only [List.cons_append, List.nil_append, List.append_nil] at e ⊢; exact e)⟩
        try rw [← hqw28]
        have h := ret_some h;subst h;exact ⟨_, w28, rfl, .e rfl (.e rfl (.e rfl (.e rfl (.e rfl (.e rfl (.e rfl (.e rfl (.e rfl (.e rfl (.e rfl (.e rfl (.z)))))))))))), rfl, hw28, hO.tail⟩
       ·cbv;have h := ret_some h;subst h;exact ⟨_, w14, rfl, .e rfl (.e rfl (.e rfl (.e rfl (.e rfl (.e rfl (.e rfl (.e rfl (.e rfl (.e rfl (.e rfl (.e rfl (.z)))))))))))), rfl, hw14, hO.tail⟩
     ·cbv;have h := ret_some h;subst h;exact ⟨_, _, rfl, ⟨w14, hw14, rfl, rfl, hO⟩, .e rfl (.e rfl (.e rfl (.e rfl (.e rfl (.e rfl (.z)))))), rfl⟩
    ·exact .e rfl (.e rfl (.e rfl (.e rfl (.e rfl (.e rfl (.e rfl (.e rfl (.e rfl (.e rfl (.e rfl (.e rfl (.z))))))))))))
    ·exact ⟨hw9, hO⟩
    ·clear hx;rintro e l H ⟨w32, hw32, rfl, rfl, hO⟩;cbv;have h := ret_some h;subst h;exact ⟨_, w32, rfl, .e rfl (.e rfl (.e rfl (.e rfl (.e rfl (.e rfl (.z)))))), rfl, hw32, hO⟩
  ·cbv;have h := ret_some h;subst h;exact ⟨_, _, rfl, ⟨w9, hw9, rfl, rfl, hO⟩, .e rfl (.e rfl (.z)), rfl⟩
 ·exact .e rfl (.e rfl (.e rfl (.e rfl (.e rfl (.e rfl (.z))))))
 ·exact ⟨hw5, hO⟩
 ·clear hx;rintro e l H ⟨w33, hw33, rfl, rfl, hO⟩;cbv;refine n_rfrzIn hE (e := Encs.eLGEvent) Encs.eLGEvent_eq hO hw33 0 1 rfl rfl rfl (by decide) fun H hO => ?_
  have hO : Own Eq H0 [.blk b7 (.cells [.sl (Ar.lst Encs.eLGEvent s10) .ro]), .blk m3 (.obj o4), .blk b1 (.cells [.sl [] .nil])] H := hO.rdrop (w := w33) (T1 := []) (T2 := []) 3 rfl
  cbv;refine n_load hE hO 0 rfl ?_;cbv;refine n_store hE hO 2 rfl rfl fun H hO => ?_;cbv;refine n_load hE hO 2 rfl ?_;cbv;have h := ret_some h;subst h;exact hK _ _ _ hO (.refl _)
def cf10 : Cf := ⟨[4], [], [], [], [], []⟩
theorem c10 (N : Nat) (x_l : List GNeed) (x_env : GEnv) (r : (GEnv × Int)) (h : registers_Reduce N x_l x_env = some r) : CallP Tryz.prog 10 [.sl (Ar.lst Encs.eGNeed x_l) .ro, .agg [.sl (Ar.lst Encs.eLGEvent x_env.Vars) .ro]] (.tup [.agg [.sl (Ar.lst Encs.eLGEvent r.1.Vars) .ro], .int .i64 r.2]) := by
 unfold registers_Reduce at h
 refine callP_of_spec cf10 okP Tryz.func10 (by rfl) (by kernel_rfl) Tryz.call10 Tryz.ntmps10 (by rfl) (by rfl) ?_;intro E H0 K hE hK
 have hO : Own Eq H0 [] H0 := .start stable_eq rfl
 cbv;refine n_alloc hE hO fun b1 H hO => ?_;cbv;refine n_call hE (g := fun r2 => .int .i64 r2) h (fun r2 hx => c30 N x_l r2 hx) (.refl _) fun r2 h => ?_;cbv;refine n_br hE h (fun hc h => ?_) (fun hc h => ?_)
 ·cbv;refine n_store hE hO 0 rfl rfl fun H hO => ?_;cbv;refine n_load hE hO 0 rfl ?_;cbv;have h := ret_some h;subst h;exact hK _ _ _ hO (.tup (.cons (.agg (.cons (.lit _ (lst_nil)) (.refl _))) (.refl _)))
 ·cbv;refine n_call hE (g := fun r3 => .agg [.sl (Ar.lst Encs.eLGEvent r3.Vars) .ro]) h (fun r3 hx => c31 N x_l x_env r3 hx) (.refl _) fun r3 h => ?_;cbv;refine n_store hE hO 0 rfl rfl fun H hO => ?_;cbv;refine n_load hE hO 0 rfl ?_;cbv;have h := ret_some h;subst h;exact hK _ _ _ hO (.refl _)
def cf74 : Cf := ⟨[], [], [], [], [], []⟩
theorem c74 (N : Nat) (x_i : Int) (x_n : Int) (r : Bool) (h : automaton_within N x_i x_n = some r) : CallP Tryz.prog 74 [.int .i64 x_i, .int .i64 x_n] (.bool r) := by
 unfold automaton_within at h
 refine callP_of_spec cf74 okP Tryz.func74 (by rfl) (by kernel_rfl) Tryz.call74 Tryz.ntmps74 (by rfl) (by rfl) ?_;intro E H0 K hE hK
 have hO : Own Eq H0 [] H0 := .start stable_eq rfl
 cbv;have h := ret_some h;subst h;exact hK _ _ _ hO (.refl _)
def cf86 : Cf := ⟨[], [], [], [], [], []⟩
theorem c86 (N : Nat) (x_s : List GGuard) (v_f : V) (x_f : GGuard → Option Bool) (h_f : ∀ y1 q, x_f y1 = some q → CallVP Tryz.prog v_f [.agg [.int .i64 y1.Scope, .int .i64 y1.Typ, .int .i64 y1.Var, .int .i64 y1.Cond.Op, .sl (Ar.lst Encs.eGExpr y1.Cond.Args) .ro, .int .i64 y1.Cond.Var, .int .i64 y1.Cond.Field, .int .i64 y1.Cond.Kind, .int .i64 y1.Cond.Value.Kind, .int .i64 y1.Cond.Value.Num, .str y1.Cond.Value.Text]] (.bool q)) (r : Int) (h : slices_IndexFunc_LGuard_Guard N x_s x_f = some r) : CallP Tryz.prog 86 [.sl (Ar.lst Encs.eGGuard x_s) .ro, v_f] (.int .i64 r) := by
 unfold slices_IndexFunc_LGuard_Guard at h
 refine callP_of_spec cf86 okP Tryz.func86 (by rfl) (by kernel_rfl) Tryz.call86 Tryz.ntmps86 (by rfl) (by rfl) ?_;intro E H0 K hE hK
 have hO : Own Eq H0 [] H0 := .start stable_eq rfl
 cbv;refine n_ln hE ?_;cbv;obtain ⟨s2, hx, h⟩ := bind_some h;refine n_loopN cf86 hE okP (fun s1 => [(0, .v (.sl (Ar.lst Encs.eGGuard x_s) .ro)), (1, .v (v_f)), (7, .v (.int .i64 (Ar.len x_s))), (8, .v (.int .i64 s1))]) (fun s1 H1 => Own Eq H0 [] H1) (fun x e l H1 => match (generalizing := false) x with | .inl y => e = .exit 0 ∧ l = [] ∧ Own Eq H0 [] H1 | .inr y => e = .ret ∧ l = [(4, .v (.int .i64 y))] ∧ Own Eq H0 [] H1) (by kernel_rfl) ?_ hx ?_ hO ?_
 ·intro s1 H o hO h;clear hx;cbv;refine n_br hE h (fun hc h => ?_) (fun hc h => ?_)
  ·cbv;refine n_idx hE Encs.eGGuard_eq h fun x3 h => ?_;cbv;refine n_callF hE (g := fun r4 => .bool r4) h (fun r4 hx => h_f x3 r4 hx) (.refl _) fun r4 h => ?_;cbv;refine n_br hE h (fun hc h => ?_) (fun hc h => ?_)
   ·cbv;have h := ret_some h;subst h;exact ⟨_, _, rfl, ⟨rfl, rfl, hO⟩, .e rfl (.z), rfl⟩
   ·cbv;have h := ret_some h;subst h;exact ⟨_, rfl, .e rfl (.e rfl (.e rfl (.e rfl (.z)))), rfl, hO⟩
  ·cbv;have h := ret_some h;subst h;exact ⟨_, _, rfl, ⟨rfl, rfl, hO⟩, .z, rfl⟩
 ·exact .e rfl (.e rfl (.e rfl (.e rfl (.z))))
 ·clear hx
  rcases s2 with y5 | y6
  ·rintro e l H ⟨rfl, rfl, hO⟩;cbv;have h := ret_some h;subst h;exact hK _ _ _ hO (.refl _)
  ·rintro e l H ⟨rfl, rfl, hO⟩;cbv;have h := ret_some h;subst h;exact hK _ _ _ hO (.refl _)
def cf75 : Cf := ⟨[], [], [], [], [], []⟩
theorem c75 (N : Nat) (x_s : List GGuard) (v_f : V) (x_f : GGuard → Option Bool) (h_f : ∀ y1 q, x_f y1 = some q → CallVP Tryz.prog v_f [.agg [.int .i64 y1.Scope, .int .i64 y1.Typ, .int .i64 y1.Var, .int .i64 y1.Cond.Op, .sl (Ar.lst Encs.eGExpr y1.Cond.Args) .ro, .int .i64 y1.Cond.Var, .int .i64 y1.Cond.Field, .int .i64 y1.Cond.Kind, .int .i64 y1.Cond.Value.Kind, .int .i64 y1.Cond.Value.Num, .str y1.Cond.Value.Text]] (.bool q)) (r : Bool) (h : slices_ContainsFunc_LGuard_Guard N x_s x_f = some r) : CallP Tryz.prog 75 [.sl (Ar.lst Encs.eGGuard x_s) .ro, v_f] (.bool r) := by
 unfold slices_ContainsFunc_LGuard_Guard at h
 refine callP_of_spec cf75 okP Tryz.func75 (by rfl) (by kernel_rfl) Tryz.call75 Tryz.ntmps75 (by rfl) (by rfl) ?_;intro E H0 K hE hK
 have hO : Own Eq H0 [] H0 := .start stable_eq rfl
 cbv;refine n_call hE (g := fun r1 => .int .i64 r1) h (fun r1 hx => c86 N x_s v_f x_f h_f r1 hx) (.refl _) fun r1 h => ?_;cbv;have h := ret_some h;subst h;exact hK _ _ _ hO (.refl _)
def cf76 : Cf := ⟨[], [], [], [], [], []⟩
theorem c76 (N : Nat) (x_h : GGuard) (x_1 : GGuard) (r : Bool) (h : automaton_guards_1 N x_h x_1 = some r) : CallP Tryz.prog 76 [.agg [.int .i64 x_h.Scope, .int .i64 x_h.Typ, .int .i64 x_h.Var, .int .i64 x_h.Cond.Op, .sl (Ar.lst Encs.eGExpr x_h.Cond.Args) .ro, .int .i64 x_h.Cond.Var, .int .i64 x_h.Cond.Field, .int .i64 x_h.Cond.Kind, .int .i64 x_h.Cond.Value.Kind, .int .i64 x_h.Cond.Value.Num, .str x_h.Cond.Value.Text], .eref [.int .i64 x_1.Scope, .int .i64 x_1.Typ, .int .i64 x_1.Var, .int .i64 x_1.Cond.Op, .sl (Ar.lst Encs.eGExpr x_1.Cond.Args) .ro, .int .i64 x_1.Cond.Var, .int .i64 x_1.Cond.Field, .int .i64 x_1.Cond.Kind, .int .i64 x_1.Cond.Value.Kind, .int .i64 x_1.Cond.Value.Num, .str x_1.Cond.Value.Text] 0] (.bool r) := by
 unfold automaton_guards_1 at h
 refine callP_of_spec cf76 okP Tryz.func76 (by rfl) (by kernel_rfl) Tryz.call76 Tryz.ntmps76 (by rfl) (by rfl) ?_;intro E H0 K hE hK
 have hO : Own Eq H0 [] H0 := .start stable_eq rfl
 cbv;have h := ret_some h;subst h;exact hK _ _ _ hO (.refl _)
end Go.Ab

