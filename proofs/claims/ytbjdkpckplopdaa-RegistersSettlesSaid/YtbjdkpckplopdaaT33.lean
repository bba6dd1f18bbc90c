/- GRCo1 -/
import Derived.Test.YtbjdkpckplopdaaT30
import Derived.Test.YtbjdkpckplopdaaT31
import Derived.Test.YtbjdkpckplopdaaT26
import Derived.Test.YtbjdkpckplopdaaT29
import Derived.Test.YtbjdkpckplopdaaT28
import Derived.Test.YtbjdkpckplopdaaT32
import Derived.Test.YtbjdkpckplopdaaT27
set_option linter.all false

namespace Go.Ab
open Go.RowKit Go.Proofs
instance globs : Glob := ⟨fun n => match n with
 | _ => .bad⟩
variable [Ar] [Encs]
set_option maxRecDepth 100000
theorem okP : POk Try.prog TT := ⟨okT, by rfl⟩
def cf29 : Cf := ⟨[], [], [], [], [], []⟩
theorem c29 (N : Nat) : ∀ (n : Nat) (x_e : GExpr) (x_limit : Int) (r : Int), ref08_Count N n x_e x_limit = some r → CallP Try.prog 29 [.agg [.int .i64 x_e.Op, .sl (Ar.lst Encs.eGExpr x_e.Args) .ro, .int .i64 x_e.Var, .int .i64 x_e.Field, .int .i64 x_e.Kind, .int .i64 x_e.Value.Kind, .int .i64 x_e.Value.Num, .str x_e.Value.Text], .int .i64 x_limit] (.int .i64 r) := by
 intro n
 induction n with
 | zero => intro x_e x_limit r h; cases h
 | succ n ih =>
 intro x_e x_limit r h
 unfold ref08_Count at h
 refine callP_of_spec cf29 okP Try.func29 (by rfl) (by kernel_rfl) Try.call29 Try.ntmps29 (by rfl) (by rfl) ?_;intro E H0 K hE hK
 have hO : Own Eq H0 [] H0 := .start stable_eq rfl
 cbv;obtain ⟨s2, hx, h⟩ := bind_some h;refine n_loopN cf29 hE okP (fun s1 => [(1, .v (.int .i64 x_limit)), (2, .v (.eref [.int .i64 x_e.Op, .sl (Ar.lst Encs.eGExpr x_e.Args) .ro, .int .i64 x_e.Var, .int .i64 x_e.Field, .int .i64 x_e.Kind, .int .i64 x_e.Value.Kind, .int .i64 x_e.Value.Num, .str x_e.Value.Text] 0)), (5, .v (.int .i64 s1.1)), (6, .v (.int .i64 s1.2))]) (fun s1 H1 => Own Eq H0 [] H1) (fun x e l H1 => e = .exit 0 ∧ l = [(5, .v (.int .i64 x))] ∧ Own Eq H0 [] H1) (by kernel_rfl) ?_ hx ?_ hO ?_
 ·intro s1 H o hO h;clear hx;cbv;refine n_ln hE ?_;cbv;refine n_br hE h (fun hc h => ?_) (fun hc h => ?_)
  ·cbv;refine n_idx hE Encs.eGExpr_eq h fun x3 h => ?_;cbv;refine n_call hE (g := fun r4 => .int .i64 r4) h (fun r4 hx => ih x3 x_limit r4 hx) (.refl _) fun r4 h => ?_;cbv;have h := ret_some h;subst h;exact ⟨_, rfl, .e rfl (.e rfl (.e rfl (.e rfl (.z)))), rfl, hO⟩
  cbv;have h := ret_some h;subst h;exact ⟨_, _, rfl, ⟨rfl, rfl, hO⟩, .e rfl (.z), rfl⟩
 ·exact .e rfl (.e rfl (.e rfl (.e rfl (.z))))
 clear hx;rintro e l H ⟨rfl, rfl, hO⟩;cbv;have h := ret_some h;subst h;exact hK _ _ _ hO (.refl _)
def cf30 : Cf := ⟨[], [], [], [], [], []⟩
theorem c30 (N : Nat) : ∀ (n : Nat) (x_e : GExpr) (r : Int), ref08_Depth N n x_e = some r → CallP Try.prog 30 [.agg [.int .i64 x_e.Op, .sl (Ar.lst Encs.eGExpr x_e.Args) .ro, .int .i64 x_e.Var, .int .i64 x_e.Field, .int .i64 x_e.Kind, .int .i64 x_e.Value.Kind, .int .i64 x_e.Value.Num, .str x_e.Value.Text]] (.int .i64 r) := by
 intro n
 induction n with
 | zero => intro x_e r h; cases h
 | succ n ih =>
 intro x_e r h
 unfold ref08_Depth at h
 refine callP_of_spec cf30 okP Try.func30 (by rfl) (by kernel_rfl) Try.call30 Try.ntmps30 (by rfl) (by rfl) ?_;intro E H0 K hE hK
 have hO : Own Eq H0 [] H0 := .start stable_eq rfl
 cbv;obtain ⟨s2, hx, h⟩ := bind_some h;refine n_loopN cf30 hE okP (fun s1 => [(1, .v (.eref [.int .i64 x_e.Op, .sl (Ar.lst Encs.eGExpr x_e.Args) .ro, .int .i64 x_e.Var, .int .i64 x_e.Field, .int .i64 x_e.Kind, .int .i64 x_e.Value.Kind, .int .i64 x_e.Value.Num, .str x_e.Value.Text] 0)), (3, .v (.int .i64 s1.1)), (4, .v (.int .i64 s1.2))]) (fun s1 H1 => Own Eq H0 [] H1) (fun x e l H1 => e = .exit 0 ∧ l = [(3, .v (.int .i64 x))] ∧ Own Eq H0 [] H1) (by kernel_rfl) ?_ hx ?_ hO ?_
 ·intro s1 H o hO h;clear hx;cbv;refine n_ln hE ?_;cbv;refine n_br hE h (fun hc h => ?_) (fun hc h => ?_)
  ·cbv;refine n_idx hE Encs.eGExpr_eq h fun x3 h => ?_;cbv;refine n_call hE (g := fun r4 => .int .i64 r4) h (fun r4 hx => ih x3 r4 hx) (.refl _) fun r4 h => ?_;cbv;have h := ret_some h;subst h;exact ⟨_, rfl, .e rfl (.e rfl (.e rfl (.z))), rfl, hO⟩
  cbv;have h := ret_some h;subst h;exact ⟨_, _, rfl, ⟨rfl, rfl, hO⟩, .e rfl (.z), rfl⟩
 ·exact .e rfl (.e rfl (.e rfl (.z)))
 clear hx;rintro e l H ⟨rfl, rfl, hO⟩;cbv;have h := ret_some h;subst h;exact hK _ _ _ hO (.refl _)
def cf8 : Cf := ⟨[], [], [], [], [], []⟩
theorem c8 (N : Nat) (x_e : GExpr) (r : Bool) (h : ref08_Few N x_e = some r) : CallP Try.prog 8 [.agg [.int .i64 x_e.Op, .sl (Ar.lst Encs.eGExpr x_e.Args) .ro, .int .i64 x_e.Var, .int .i64 x_e.Field, .int .i64 x_e.Kind, .int .i64 x_e.Value.Kind, .int .i64 x_e.Value.Num, .str x_e.Value.Text]] (.bool r) := by
 unfold ref08_Few at h
 refine callP_of_spec cf8 okP Try.func8 (by rfl) (by kernel_rfl) Try.call8 Try.ntmps8 (by rfl) (by rfl) ?_;intro E H0 K hE hK
 have hO : Own Eq H0 [] H0 := .start stable_eq rfl
 cbv;refine n_call hE (g := fun r1 => .int .i64 r1) h (fun r1 hx => c29 N N x_e 200 r1 hx) (.refl _) fun r1 h => ?_;cbv;refine n_br hE h (fun hc h => ?_) (fun hc h => ?_)
 ·cbv;refine n_call hE (g := fun r2 => .int .i64 r2) h (fun r2 hx => c30 N N x_e r2 hx) (.refl _) fun r2 h => ?_;cbv;have h := ret_some h;subst h;exact hK _ _ _ hO (.refl _)
 cbv;have h := ret_some h;subst h;exact hK _ _ _ hO (.refl _)
def cf55 : Cf := ⟨[], [], [], [], [], []⟩
theorem c55 (N : Nat) : ∀ (n : Nat) (x_e : GExpr) (r : (Int × Int)), expr_Size N n x_e = some r → CallP Try.prog 55 [.agg [.int .i64 x_e.Op, .sl (Ar.lst Encs.eGExpr x_e.Args) .ro, .int .i64 x_e.Var, .int .i64 x_e.Field, .int .i64 x_e.Kind, .int .i64 x_e.Value.Kind, .int .i64 x_e.Value.Num, .str x_e.Value.Text]] (.tup [.int .i64 r.1, .int .i64 r.2]) := by
 intro n
 induction n with
 | zero => intro x_e r h; cases h
 | succ n ih =>
 intro x_e r h
 unfold expr_Size at h
 refine callP_of_spec cf55 okP Try.func55 (by rfl) (by kernel_rfl) Try.call55 Try.ntmps55 (by rfl) (by rfl) ?_;intro E H0 K hE hK
 have hO : Own Eq H0 [] H0 := .start stable_eq rfl
 cbv;refine n_ln hE ?_;cbv;obtain ⟨s2, hx, h⟩ := bind_some h;refine n_loopN cf55 hE okP (fun s1 => [(4, .v (.int .i64 s1.1)), (5, .v (.int .i64 s1.2.1)), (11, .v (.sl (Ar.lst Encs.eGExpr x_e.Args) .ro)), (12, .v (.int .i64 (Ar.len x_e.Args))), (13, .v (.int .i64 s1.2.2))]) (fun s1 H1 => Own Eq H0 [] H1) (fun x e l H1 => e = .exit 0 ∧ l = [(4, .v (.int .i64 x.1)), (5, .v (.int .i64 x.2))] ∧ Own Eq H0 [] H1) (by kernel_rfl) ?_ hx ?_ hO ?_
 ·intro s1 H o hO h;clear hx;cbv;refine n_br hE h (fun hc h => ?_) (fun hc h => ?_)
  ·cbv;refine n_idx hE Encs.eGExpr_eq h fun x3 h => ?_;cbv;refine n_call hE (g := fun r4 => .tup [.int .i64 r4.1, .int .i64 r4.2]) h (fun r4 hx => ih x3 r4 hx) (.refl _) fun r4 h => ?_;cbv;have h := ret_some h;subst h;exact ⟨_, rfl, .e rfl (.e rfl (.e rfl (.e rfl (.e rfl (.z))))), rfl, hO⟩
  cbv;have h := ret_some h;subst h;exact ⟨_, _, rfl, ⟨rfl, rfl, hO⟩, .e rfl (.e rfl (.z)), rfl⟩
 ·exact .e rfl (.e rfl (.e rfl (.e rfl (.e rfl (.z)))))
 clear hx;rintro e l H ⟨rfl, rfl, hO⟩;cbv;have h := ret_some h;subst h;exact hK _ _ _ hO (.refl _)
def cf56 : Cf := ⟨[], [], [], [], [], []⟩
theorem c56 (N : Nat) : ∀ (n : Nat) (x_e : GExpr) (v_f : V) (x_f : GExpr → Option Int) (h_f : ∀ y1 q, x_f y1 = some q → CallVP Try.prog v_f [.agg [.int .i64 y1.Op, .sl (Ar.lst Encs.eGExpr y1.Args) .ro, .int .i64 y1.Var, .int .i64 y1.Field, .int .i64 y1.Kind, .int .i64 y1.Value.Kind, .int .i64 y1.Value.Num, .str y1.Value.Text]] (.int .i64 q)) (r : Int), expr_visit N n x_e x_f = some r → CallP Try.prog 56 [.agg [.int .i64 x_e.Op, .sl (Ar.lst Encs.eGExpr x_e.Args) .ro, .int .i64 x_e.Var, .int .i64 x_e.Field, .int .i64 x_e.Kind, .int .i64 x_e.Value.Kind, .int .i64 x_e.Value.Num, .str x_e.Value.Text], v_f] (.int .i64 r) := by
 intro n
 induction n with
 | zero => intro x_e v_f x_f h_f r h; cases h
 | succ n ih =>
 intro x_e v_f x_f h_f r h
 unfold expr_visit at h
 refine callP_of_spec cf56 okP Try.func56 (by rfl) (by kernel_rfl) Try.call56 Try.ntmps56 (by rfl) (by rfl) ?_;intro E H0 K hE hK
 have hO : Own Eq H0 [] H0 := .start stable_eq rfl
 cbv;refine n_callF hE (g := fun r1 => .int .i64 r1) h (fun r1 hx => h_f x_e r1 hx) (.refl _) fun r1 h => ?_;cbv;refine n_br hE h (fun hc h => ?_) (fun hc h => ?_)
 ·cbv;have h := ret_some h;subst h;exact hK _ _ _ hO (.refl _)
 cbv;refine n_ln hE ?_;cbv;obtain ⟨s3, hx, h⟩ := bind_some h;refine n_loopN cf56 hE okP (fun s2 => [(1, .v (v_f)), (16, .v (.sl (Ar.lst Encs.eGExpr x_e.Args) .ro)), (17, .v (.int .i64 (Ar.len x_e.Args))), (18, .v (.int .i64 s2))]) (fun s2 H1 => Own Eq H0 [] H1) (fun x e l H1 => match (generalizing := false) x with | .inl y => e = .exit 0 ∧ l = [] ∧ Own Eq H0 [] H1 | .inr y => e = .ret ∧ l = [(4, .v (.int .i64 y))] ∧ Own Eq H0 [] H1) (by kernel_rfl) ?_ hx ?_ hO ?_
 ·intro s2 H o hO h;clear hx;cbv;refine n_br hE h (fun hc h => ?_) (fun hc h => ?_)
  ·cbv;refine n_idx hE Encs.eGExpr_eq h fun x4 h => ?_;cbv;refine n_call hE (g := fun r5 => .int .i64 r5) h (fun r5 hx => ih x4 v_f x_f h_f r5 hx) (.refl _) fun r5 h => ?_;cbv;refine n_br hE h (fun hc h => ?_) (fun hc h => ?_)
   ·cbv;have h := ret_some h;subst h;exact ⟨_, _, rfl, ⟨rfl, rfl, hO⟩, .e rfl (.z), rfl⟩
   cbv;have h := ret_some h;subst h;exact ⟨_, rfl, .e rfl (.e rfl (.e rfl (.e rfl (.z)))), rfl, hO⟩
  cbv;have h := ret_some h;subst h;exact ⟨_, _, rfl, ⟨rfl, rfl, hO⟩, .z, rfl⟩
 ·exact .e rfl (.e rfl (.e rfl (.e rfl (.z))))
 clear hx
 rcases s3 with y6 | y7
 ·rintro e l H ⟨rfl, rfl, hO⟩;cbv;have h := ret_some h;subst h;exact hK _ _ _ hO (.refl _)
 rintro e l H ⟨rfl, rfl, hO⟩;cbv;have h := ret_some h;subst h;exact hK _ _ _ hO (.refl _)
def cf75 : Cf := ⟨[], [], [], [], [], []⟩
theorem c75 (N : Nat) (x_op : Int) (r : (Int × Bool)) (h : expr_arity N x_op = some r) : CallP Try.prog 75 [.int .i64 x_op] (.tup [.int .i64 r.1, .bool r.2]) := by
 unfold expr_arity at h
 refine callP_of_spec cf75 okP Try.func75 (by rfl) (by kernel_rfl) Try.call75 Try.ntmps75 (by rfl) (by rfl) ?_;intro E H0 K hE hK
 have hO : Own Eq H0 [] H0 := .start stable_eq rfl
 cbv;refine n_br hE h (fun hc h => ?_) (fun hc h => ?_)
 ·cbv;have h := ret_some h;subst h;exact hK _ _ _ hO (.refl _)
 cbv;refine n_br hE h (fun hc h => ?_) (fun hc h => ?_)
 ·cbv;have h := ret_some h;subst h;exact hK _ _ _ hO (.refl _)
 cbv;refine n_br hE h (fun hc h => ?_) (fun hc h => ?_)
 ·cbv;have h := ret_some h;subst h;exact hK _ _ _ hO (.refl _)
 cbv;have h := ret_some h;subst h;exact hK _ _ _ hO (.refl _)
def cf76 : Cf := ⟨[], [], [(5, 4)], [], [], []⟩
theorem c76 (N : Nat) (x_op : Int) (r : (Bool × Bool)) (h : expr_uses N x_op = some r) : CallP Try.prog 76 [.int .i64 x_op] (.tup [.bool r.1, .bool r.2]) := by
 unfold expr_uses at h
 refine callP_of_spec cf76 okP Try.func76 (by rfl) (by kernel_rfl) Try.call76 Try.ntmps76 (by rfl) (by rfl) ?_;intro E H0 K hE hK
 have hO : Own Eq H0 [] H0 := .start stable_eq rfl
 cbv;obtain ⟨s1, hx, h⟩ := bind_some h;refine n_join cf76 hE okP (fun e l H1 => e = .normal ∧ l = [(4, .v (.int .i64 x_op)), (5, .v (.bool s1))] ∧ Own Eq H0 [] H1) (by kernel_rfl) ?_ ?_
 ·clear h;have h := hx;clear hx;cbv;refine n_br hE h (fun hc h => ?_) (fun hc h => ?_)
  ·cbv;have h := ret_some h;subst h;exact ⟨_, ⟨rfl, rfl, hO⟩, .e rfl (.e rfl (.z)), rfl⟩
  cbv;have h := ret_some h;subst h;exact ⟨_, ⟨rfl, rfl, hO⟩, .e rfl (.e rfl (.z)), rfl⟩
 clear hx;rintro e l H ⟨rfl, rfl, hO⟩;cbv;refine n_br hE h (fun hc h => ?_) (fun hc h => ?_)
 ·cbv;have h := ret_some h;subst h;exact hK _ _ _ hO (.refl _)
 cbv;refine n_br hE h (fun hc h => ?_) (fun hc h => ?_)
 ·cbv;have h := ret_some h;subst h;exact hK _ _ _ hO (.refl _)
 cbv;refine n_br hE h (fun hc h => ?_) (fun hc h => ?_)
 ·cbv;have h := ret_some h;subst h;exact hK _ _ _ hO (.refl _)
 cbv;have h := ret_some h;subst h;exact hK _ _ _ hO (.refl _)
def cf105 : Cf := ⟨[], [], [], [], [], []⟩
theorem c105 (N : Nat) (x_v : GValue) (r : Int) (h : value_size N x_v = some r) : CallP Try.prog 105 [.agg [.int .i64 x_v.Kind, .int .i64 x_v.Num, .str x_v.Text]] (.int .i64 r) := by
 unfold value_size at h
 refine callP_of_spec cf105 okP Try.func105 (by rfl) (by kernel_rfl) Try.call105 Try.ntmps105 (by rfl) (by rfl) ?_;intro E H0 K hE hK
 have hO : Own Eq H0 [] H0 := .start stable_eq rfl
 cbv;refine n_br hE h (fun hc h => ?_) (fun hc h => ?_)
 ·cbv;have h := ret_some h;subst h;exact hK _ _ _ hO (.refl _)
 cbv;refine n_br hE h (fun hc h => ?_) (fun hc h => ?_)
 ·cbv;have h := ret_some h;subst h;exact hK _ _ _ hO (.refl _)
 cbv;refine n_br hE h (fun hc h => ?_) (fun hc h => ?_)
 ·cbv;have h := ret_some h;subst h;exact hK _ _ _ hO (.refl _)
 cbv;have h := ret_some h;subst h;exact hK _ _ _ hO (.refl _)
def cf92 : Cf := ⟨[], [], [(5, 5)], [], [], []⟩
theorem c92 (N : Nat) (x_v : GValue) (r : Int) (h : value_Check N x_v = some r) : CallP Try.prog 92 [.agg [.int .i64 x_v.Kind, .int .i64 x_v.Num, .str x_v.Text]] (.int .i64 r) := by
 unfold value_Check at h
 refine callP_of_spec cf92 okP Try.func92 (by rfl) (by kernel_rfl) Try.call92 Try.ntmps92 (by rfl) (by rfl) ?_;intro E H0 K hE hK
 have hO : Own Eq H0 [] H0 := .start stable_eq rfl
 cbv;obtain ⟨s1, hx, h⟩ := bind_some h;refine n_join cf92 hE okP (fun e l H1 => e = .normal ∧ l = [(1, .v (.eref [.int .i64 x_v.Kind, .int .i64 x_v.Num, .str x_v.Text] 0)), (4, .v (.int .i64 x_v.Kind)), (5, .v (.bool s1))] ∧ Own Eq H0 [] H1) (by kernel_rfl) ?_ ?_
 ·clear h;have h := hx;clear hx;cbv;refine n_br hE h (fun hc h => ?_) (fun hc h => ?_)
  ·cbv;have h := ret_some h;subst h;exact ⟨_, ⟨rfl, rfl, hO⟩, .e rfl (.e rfl (.e rfl (.z))), rfl⟩
  cbv;have h := ret_some h;subst h;exact ⟨_, ⟨rfl, rfl, hO⟩, .e rfl (.e rfl (.e rfl (.z))), rfl⟩
 clear hx;rintro e l H ⟨rfl, rfl, hO⟩;cbv;refine n_br hE h (fun hc h => ?_) (fun hc h => ?_)
 ·cbv;refine n_br hE h (fun hc h => ?_) (fun hc h => ?_)
  ·cbv;have h := ret_some h;subst h;exact hK _ _ _ hO (.refl _)
  cbv;refine n_call hE (g := fun r2 => .int .i64 r2) h (fun r2 hx => c105 N x_v r2 hx) (.refl _) fun r2 h => ?_;cbv;have h := ret_some h;subst h;exact hK _ _ _ hO (.refl _)
 cbv;refine n_br hE h (fun hc h => ?_) (fun hc h => ?_)
 ·cbv;refine n_br hE h (fun hc h => ?_) (fun hc h => ?_)
  ·cbv;have h := ret_some h;subst h;exact hK _ _ _ hO (.refl _)
  cbv;refine n_call hE (g := fun r3 => .int .i64 r3) h (fun r3 hx => c105 N x_v r3 hx) (.refl _) fun r3 h => ?_;cbv;have h := ret_some h;subst h;exact hK _ _ _ hO (.refl _)
 cbv;have h := ret_some h;subst h;exact hK _ _ _ hO (.refl _)
def cf93 : Cf := ⟨[], [], [], [], [], []⟩
theorem c93 (N : Nat) (x_kind : Int) (x_v : GValue) (r : Bool) (h : expr_suits N x_kind x_v = some r) : CallP Try.prog 93 [.int .i64 x_kind, .agg [.int .i64 x_v.Kind, .int .i64 x_v.Num, .str x_v.Text]] (.bool r) := by
 unfold expr_suits at h
 refine callP_of_spec cf93 okP Try.func93 (by rfl) (by kernel_rfl) Try.call93 Try.ntmps93 (by rfl) (by rfl) ?_;intro E H0 K hE hK
 have hO : Own Eq H0 [] H0 := .start stable_eq rfl
 cbv;have h := ret_some h;subst h;exact hK _ _ _ hO (.refl _)
def cf77 : Cf := ⟨[], [], [], [], [], []⟩
theorem c77 (N : Nat) (x_e : GExpr) (r : Int) (h : expr_constants N x_e = some r) : CallP Try.prog 77 [.agg [.int .i64 x_e.Op, .sl (Ar.lst Encs.eGExpr x_e.Args) .ro, .int .i64 x_e.Var, .int .i64 x_e.Field, .int .i64 x_e.Kind, .int .i64 x_e.Value.Kind, .int .i64 x_e.Value.Num, .str x_e.Value.Text]] (.int .i64 r) := by
 unfold expr_constants at h
 refine callP_of_spec cf77 okP Try.func77 (by rfl) (by kernel_rfl) Try.call77 Try.ntmps77 (by rfl) (by rfl) ?_;intro E H0 K hE hK
 have hO : Own Eq H0 [] H0 := .start stable_eq rfl
 cbv;refine n_call hE (g := fun r1 => .int .i64 r1) h (fun r1 hx => c92 N x_e.Value r1 hx) (.refl _) fun r1 h => ?_;cbv;refine n_br hE h (fun hc h => ?_) (fun hc h => ?_)
 ·cbv;have h := ret_some h;subst h;exact hK _ _ _ hO (.refl _)
 cbv;refine n_br hE h (fun hc h => ?_) (fun hc h => ?_)
 ·cbv;refine n_call hE (g := fun r2 => .bool r2) h (fun r2 hx => c93 N x_e.Kind x_e.Value r2 hx) (.refl _) fun r2 h => ?_;cbv;refine n_br hE h (fun hc h => ?_) (fun hc h => ?_)
  ·cbv;have h := ret_some h;subst h;exact hK _ _ _ hO (.refl _)
  cbv;have h := ret_some h;subst h;exact hK _ _ _ hO (.refl _)
 cbv;have h := ret_some h;subst h;exact hK _ _ _ hO (.refl _)
def cf57 : Cf := ⟨[], [], [(73, 15)], [], [], []⟩
theorem c57 (N : Nat) (x_e : GExpr) (r : Int) (h : expr_node N x_e = some r) : CallP Try.prog 57 [.agg [.int .i64 x_e.Op, .sl (Ar.lst Encs.eGExpr x_e.Args) .ro, .int .i64 x_e.Var, .int .i64 x_e.Field, .int .i64 x_e.Kind, .int .i64 x_e.Value.Kind, .int .i64 x_e.Value.Num, .str x_e.Value.Text]] (.int .i64 r) := by
 unfold expr_node at h
 refine callP_of_spec cf57 okP Try.func57 (by rfl) (by kernel_rfl) Try.call57 Try.ntmps57 (by rfl) (by rfl) ?_;intro E H0 K hE hK
 have hO : Own Eq H0 [] H0 := .start stable_eq rfl
 cbv;refine n_call hE (g := fun r1 => .tup [.int .i64 r1.1, .bool r1.2]) h (fun r1 hx => c75 N x_e.Op r1 hx) (.refl _) fun r1 h => ?_;cbv;refine n_br hE h (fun hc h => ?_) (fun hc h => ?_)
 ·cbv;have h := ret_some h;subst h;exact hK _ _ _ hO (.refl _)
 cbv;refine n_ln hE ?_;cbv;refine n_br hE h (fun hc h => ?_) (fun hc h => ?_)
 ·cbv;have h := ret_some h;subst h;exact hK _ _ _ hO (.refl _)
 cbv;refine n_call hE (g := fun r2 => .tup [.bool r2.1, .bool r2.2]) h (fun r2 hx => c76 N x_e.Op r2 hx) (.refl _) fun r2 h => ?_;cbv;refine n_br hE h (fun hc h => ?_) (fun hc h => ?_)
 ·cbv;have h := ret_some h;subst h;exact hK _ _ _ hO (.refl _)
 cbv;refine n_br hE h (fun hc h => ?_) (fun hc h => ?_)
 ·cbv;have h := ret_some h;subst h;exact hK _ _ _ hO (.refl _)
 cbv;obtain ⟨s3, hx, h⟩ := bind_some h;refine n_join cf57 hE okP (fun e l H1 => match (generalizing := false) s3 with | .inl y => e = .normal ∧ l = [(1, .v (.eref [.int .i64 x_e.Op, .sl (Ar.lst Encs.eGExpr x_e.Args) .ro, .int .i64 x_e.Var, .int .i64 x_e.Field, .int .i64 x_e.Kind, .int .i64 x_e.Value.Kind, .int .i64 x_e.Value.Num, .str x_e.Value.Text] 0)), (5, .v (.bool r2.1)), (6, .v (.bool r2.2)), (7, .v (.bool (Ar.cmp .eql x_e.Op 4))), (8, .v (.bool (Ar.or (Ar.cmp .eql x_e.Op 4) (Ar.cmp .eql x_e.Op 0))))] ∧ Own Eq H0 [] H1 | .inr y => e = .ret ∧ l = [(2, .v (.int .i64 y))] ∧ Own Eq H0 [] H1) (by kernel_rfl) ?_ ?_
 ·clear h;have h := hx;clear hx;cbv;refine n_br hE h (fun hc h => ?_) (fun hc h => ?_)
  ·cbv;refine n_call hE (g := fun r4 => .int .i64 r4) h (fun r4 hx => c77 N x_e r4 hx) (.refl _) fun r4 h => ?_;cbv;refine n_br hE h (fun hc h => ?_) (fun hc h => ?_)
   ·cbv;have h := ret_some h;subst h;exact ⟨_, ⟨rfl, rfl, hO⟩, .e rfl (.z), rfl⟩
   cbv;have h := ret_some h;subst h;exact ⟨_, ⟨rfl, rfl, hO⟩, .e rfl (.e rfl (.e rfl (.e rfl (.e rfl (.z))))), rfl⟩
  cbv;have h := ret_some h;subst h;exact ⟨_, ⟨rfl, rfl, hO⟩, .e rfl (.e rfl (.e rfl (.e rfl (.e rfl (.z))))), rfl⟩
 clear hx
 rcases s3 with y5 | y6
 ·rintro e l H ⟨rfl, rfl, hO⟩;cbv;refine n_br hE h (fun hc h => ?_) (fun hc h => ?_)
  ·cbv;have h := ret_some h;subst h;exact hK _ _ _ hO (.refl _)
  cbv;have h := ret_some h;subst h;exact hK _ _ _ hO (.refl _)
 rintro e l H ⟨rfl, rfl, hO⟩;cbv;have h := ret_some h;subst h;exact hK _ _ _ hO (.refl _)
def cf34 : Cf := ⟨[], [], [], [], [], []⟩
theorem c34 (N : Nat) (x_e : GExpr) (r : Int) (h : expr_Check N x_e = some r) : CallP Try.prog 34 [.agg [.int .i64 x_e.Op, .sl (Ar.lst Encs.eGExpr x_e.Args) .ro, .int .i64 x_e.Var, .int .i64 x_e.Field, .int .i64 x_e.Kind, .int .i64 x_e.Value.Kind, .int .i64 x_e.Value.Num, .str x_e.Value.Text]] (.int .i64 r) := by
 unfold expr_Check at h
 refine callP_of_spec cf34 okP Try.func34 (by rfl) (by kernel_rfl) Try.call34 Try.ntmps34 (by rfl) (by rfl) ?_;intro E H0 K hE hK
 have hO : Own Eq H0 [] H0 := .start stable_eq rfl
 cbv;refine n_call hE (g := fun r1 => .tup [.int .i64 r1.1, .int .i64 r1.2]) h (fun r1 hx => c55 N N x_e r1 hx) (.refl _) fun r1 h => ?_;cbv;refine n_br hE h (fun hc h => ?_) (fun hc h => ?_)
 ·cbv;have h := ret_some h;subst h;exact hK _ _ _ hO (.refl _)
 cbv;refine n_br hE h (fun hc h => ?_) (fun hc h => ?_)
 ·cbv;have h := ret_some h;subst h;exact hK _ _ _ hO (.refl _)
 cbv;refine n_call hE (g := fun r2 => .int .i64 r2) h (fun r2 hx => c56 N N x_e (.func (.func 57) [] []) (fun y1 => expr_node N y1) (fun y1 r hx => CallP.value (F := []) (C := []) (c57 N y1 r hx)) r2 hx) (.refl _) fun r2 h => ?_;cbv;have h := ret_some h;subst h;exact hK _ _ _ hO (.refl _)
def cf59 : Cf := ⟨[], [], [], [], [], []⟩
theorem c59 (N : Nat) (x_m : List (Int × GNeed)) (x_n : GNeed) (r : (Bool × List (Int × GNeed))) (h : registers_needs_add N x_m x_n = some r) : CallM1 Try.prog 59 [.agg [.int .i64 x_n.Var, .int .i64 x_n.Last, .int .i64 x_n.All]] (.int .i64) (V.int .i64) Encs.eGNeed x_m (.bool r.1) r.2 := by
 unfold registers_needs_add at h
 refine callM1_run (T := TT) cf59 okP Try.func59 (by rfl) (by kernel_rfl) Try.call59 Try.ntmps59 (by rfl) (by rfl) ?_;intro E H0 id0 o0 K hE ho0 hO hK;cbv;refine n_mgetG hE Encs.eGNeed_eq (kt := 3) (et := 86) (by kernel_rfl) (by kernel_rfl) (mkOk_int .i64) ((⟨0, 0, 0⟩ : GNeed) : GNeed) (by kernel_rfl) (Encs.eGNeed_eq _).symm hO ho0 0 rfl h fun r1 h => ?_;cbv;refine n_br hE h (fun hc h => ?_) (fun hc h => ?_)
 ·cbv;refine n_msetG hE (Encs.eGNeed_eq _).symm (kt := 3) (et := 86) (by kernel_rfl) (by kernel_rfl) (mkOk_int .i64) (fun x => ⟨_, by rw [Encs.eGNeed_eq]; rfl⟩) hO ho0 0 rfl h fun l3 o2 H ho2 h hO => ?_;cbv;have h := ret_some h;subst h;exact hK _ _ _ 0 _ ho2 rfl hO (.refl _)
 cbv;have h := ret_some h;subst h;exact hK _ _ _ 0 _ ho0 rfl hO (.refl _)
section
variable {P : Program} {nt : Nat} {rd : Option Nat} {E : Env} (hE : E = real P nt rd)
include hE
theorem n_loadF {H : Heap} {id : Nat} {cs : List V} {k : List V → Prop} (h : H id = some (.cells cs)) (hk : k cs) : E.load H id k := by
 subst hE; exact ⟨cs, h, hk⟩
end
def CallW (P : Program) (f : FuncId) (args : List V) (own : Int) (m m' : List (Int × GNeed)) : Prop :=
 ∀ H id o b2 b3, H id = some (.obj o) → Mok (.int .i64) (V.int .i64) Encs.eGNeed o m → H b2 = some (.cells [.map id]) → H b3 = some (.cells [.func (.func f) [] [.eref [.int .i64 own] 0, .ref b2 0, .ref b3 0]]) →
  CallA P f (args ++ [.eref [.int .i64 own] 0, .ref b2 0, .ref b3 0]) H fun v H' => ∃ o', Mok (.int .i64) (V.int .i64) Encs.eGNeed o' m' ∧ v = .tup [] ∧ H' = upd H id (some (.obj o'))
section
variable {P : Program} {nt : Nat} {rd : Option Nat} {E : Env} (hE : E = real P nt rd)
include hE
theorem n_callW {R : Type} {r : R} {Φ : Heap → Heap → Prop} {F H : Heap} {L : List En} {fid : FuncId} {args : List V} {own : Int} {m : List (Int × GNeed)} {o : Obj} {id b2 b3 : Nat} {M : Option (List (Int × GNeed))} {Fk : List (Int × GNeed) → Option R} {k : V → Heap → Prop}
 (hO : Own Φ F L H) (ho : Mok (.int .i64) (V.int .i64) Encs.eGNeed o m) (i : Nat) (hi : L[i]? = some (.blk id (.obj o))) (h2 : H b2 = some (.cells [.map id])) (h3 : H b3 = some (.cells [.func (.func fid) [] [.eref [.int .i64 own] 0, .ref b2 0, .ref b3 0]]))
 (h : M.bind Fk = some r) (hc : ∀ x, M = some x → CallW P fid args own m x)
 (hk : ∀ x o' H', Mok (.int .i64) (V.int .i64) Encs.eGNeed o' x → Own Φ F (L.set i (.blk id (.obj o'))) H' → Fk x = some r → k (.tup []) H') : E.call (.func (.func fid) [] [.eref [.int .i64 own] 0, .ref b2 0, .ref b3 0]) args H k := by
 subst hE;obtain ⟨x, h1, h4⟩ := bind_some h;refine CallA.value (F := []) ?_;rw [List.nil_append]
 exact (hc x h1 H id o b2 b3 (hO.get i hi) ho h2 h3).mono fun v H' ⟨o', e2, e3, e4⟩ => by subst e3; subst e4; exact hk x o' _ e2 (hO.set i hi) h4
end
def cf58 : Cf := ⟨[5], [], [(34, 13)], [0], [], []⟩
set_option maxHeartbeats 4000000 in
theorem c58 (N : Nat) : ∀ (n : Nat) (x_e : GExpr) (x_own : Int) (x_m r : List (Int × GNeed)), registers_read_1 N n x_e x_own x_m = some r → CallW Try.prog 58 [.agg [.int .i64 x_e.Op, .sl (Ar.lst Encs.eGExpr x_e.Args) .ro, .int .i64 x_e.Var, .int .i64 x_e.Field, .int .i64 x_e.Kind, .int .i64 x_e.Value.Kind, .int .i64 x_e.Value.Num, .str x_e.Value.Text]] x_own x_m r := by
 intro n
 induction n with
 | zero => intro x_e x_own x_m r h; cases h
 | succ n ih =>
 intro x_e x_own x_m r h
 unfold registers_read_1 at h
 intro H0 id o b2 b3 hid ho hb2 hb3
 have n2 : id ≠ b2 := fun e => by rw [← e, hid] at hb2; cases hb2
 have n3 : id ≠ b3 := fun e => by rw [← e, hid] at hb3; cases hb3
 have f2 : upd H0 id none b2 = some (.cells [.map id]) := by rw [upd_other _ _ (Ne.symm n2)]; exact hb2
 have f3 : upd H0 id none b3 = some (.cells [.func (.func 58) [] [.eref [.int .i64 x_own] 0, .ref b2 0, .ref b3 0]]) := by rw [upd_other _ _ (Ne.symm n3)]; exact hb3
 refine CallA.le (callA_of_run (K := fun v H' => ∃ y H2, LeV v y ∧ HLe H2 H' ∧ ∃ o', Mok (.int .i64) (V.int .i64) Encs.eGNeed o' r ∧ y = .tup [] ∧ H2 = upd H0 id (some (.obj o'))) cf58 okP.1 okP.2 Try.func58 (by rfl) (by kernel_rfl) Try.call58 Try.ntmps58 (by rfl) (by rfl) fun E hE => ?_)
 have hO : Own Eq (upd H0 id none) [.blk id (.obj o)] H0 := Own.startO hid
 have hK : ∀ (v : V) (o' : Obj) (L : List En) (i : Nat) (H' : Heap), Mok (.int .i64) (V.int .i64) Encs.eGNeed o' r → L[i]? = some (.blk id (.obj o')) → Own Eq (upd H0 id none) L H' → LeV v (.tup []) → ∃ y H2, LeV v y ∧ HLe H2 H' ∧ ∃ o', Mok (.int .i64) (V.int .i64) Encs.eGNeed o' r ∧ y = .tup [] ∧ H2 = upd H0 id (some (.obj o')) := by
  intro v o' L i H' hq' hi hO hv;obtain ⟨h1, h2⟩ := (hO.only i hi).last
  rw [upd_upd] at h2
  exact ⟨_, _, hv, h2, o', hq', rfl, rfl⟩
 cbv;refine n_alloc hE hO fun b1 H hO => ?_;cbv;refine n_store hE hO 0 rfl rfl fun H hO => ?_;cbv;obtain ⟨s2, hx, h⟩ := bind_some h;refine n_join cf58 hE okP (fun e l H1 => e = .normal ∧ l = [(1, .v (.eref [.int .i64 x_own] 0)), (2, .v (.ref b2 0)), (3, .v (.ref b3 0)), (4, .v (.eref [.int .i64 x_e.Op, .sl (Ar.lst Encs.eGExpr x_e.Args) .ro, .int .i64 x_e.Var, .int .i64 x_e.Field, .int .i64 x_e.Kind, .int .i64 x_e.Value.Kind, .int .i64 x_e.Value.Num, .str x_e.Value.Text] 0)), (5, .v (.ref b1 0))] ∧ Own Eq (upd H0 id none) [.blk b1 (.cells [.int .i64 s2.Var, .int .i64 s2.Last, .int .i64 s2.All]), .blk id (.obj o)] H1) (by kernel_rfl) ?_ ?_
 ·clear h;have h := hx;clear hx;cbv;refine n_br hE h (fun hc h => ?_) (fun hc h => ?_)
  ·cbv;refine n_needB hE h fun h => ?_;cbv;refine n_store hE hO 0 rfl rfl fun H hO => ?_;cbv;have h := ret_some h;subst h;exact ⟨_, ⟨rfl, rfl, hO⟩, .e rfl (.e rfl (.e rfl (.e rfl (.e rfl (.z))))), rfl⟩
  cbv;refine n_br hE h (fun hc h => ?_) (fun hc h => ?_)
  ·cbv;refine n_store hE hO 0 rfl rfl fun H hO => ?_;cbv;have h := ret_some h;subst h;exact ⟨_, ⟨rfl, rfl, hO⟩, .e rfl (.e rfl (.e rfl (.e rfl (.e rfl (.z))))), rfl⟩
  cbv;refine n_br hE h (fun hc h => ?_) (fun hc h => ?_)
  ·cbv;refine n_needB hE h fun h => ?_;cbv;refine n_store hE hO 0 rfl rfl fun H hO => ?_;cbv;have h := ret_some h;subst h;exact ⟨_, ⟨rfl, rfl, hO⟩, .e rfl (.e rfl (.e rfl (.e rfl (.e rfl (.z))))), rfl⟩
  cbv;refine n_br hE h (fun hc h => ?_) (fun hc h => ?_)
  ·cbv;refine n_store hE hO 0 rfl rfl fun H hO => ?_;cbv;have h := ret_some h;subst h;exact ⟨_, ⟨rfl, rfl, hO⟩, .e rfl (.e rfl (.e rfl (.e rfl (.e rfl (.z))))), rfl⟩
  cbv;have h := ret_some h;subst h;exact ⟨_, ⟨rfl, rfl, hO⟩, .e rfl (.e rfl (.e rfl (.e rfl (.e rfl (.z))))), rfl⟩
 clear hx;rintro e l H ⟨rfl, rfl, hO⟩;cbv;obtain ⟨s3, hx, h⟩ := bind_some h;refine n_join cf58 hE okP (fun e l H1 => e = .normal ∧ l = [(2, .v (.ref b2 0)), (3, .v (.ref b3 0)), (4, .v (.eref [.int .i64 x_e.Op, .sl (Ar.lst Encs.eGExpr x_e.Args) .ro, .int .i64 x_e.Var, .int .i64 x_e.Field, .int .i64 x_e.Kind, .int .i64 x_e.Value.Kind, .int .i64 x_e.Value.Num, .str x_e.Value.Text] 0)), (5, .v (.ref b1 0))] ∧ Own Eq (upd H0 id none) [.blk b1 (.cells [.int .i64 s3.Var, .int .i64 s3.Last, .int .i64 s3.All]), .blk id (.obj o)] H1) (by kernel_rfl) ?_ ?_
 ·clear h;have h := hx;clear hx;cbv;refine n_br hE h (fun hc h => ?_) (fun hc h => ?_)
  ·cbv;refine n_store hE hO 0 rfl rfl fun H hO => ?_;cbv;have h := ret_some h;subst h;exact ⟨_, ⟨rfl, rfl, hO⟩, .e rfl (.e rfl (.e rfl (.e rfl (.z)))), rfl⟩
  cbv;have h := ret_some h;subst h;exact ⟨_, ⟨rfl, rfl, hO⟩, .e rfl (.e rfl (.e rfl (.e rfl (.z)))), rfl⟩
 clear hx;rintro e l H ⟨rfl, rfl, hO⟩;cbv;refine n_loadF hE (hO.ext _ _ f2) ?_;cbv;refine n_load hE hO 0 rfl ?_;cbv;refine n_callM1 hE (g := fun y => .bool y) hO ho 1 rfl h (fun y hy => c59 N x_m s3 y hy) (.refl _) fun a4 oc H hoc hO h => ?_;cbv;refine n_ln hE ?_;cbv;obtain ⟨s9, hx, h⟩ := bind_some h
 refine n_loopG cf58 hE okP (γ := Obj) (fun s8 g => [(2, .v (.ref b2 0)), (3, .v (.ref b3 0)), (40, .v (.sl (Ar.lst Encs.eGExpr x_e.Args) .ro)), (41, .v (.int .i64 (Ar.len x_e.Args))), (42, .v (.int .i64 s8.2))])
  (fun s8 g H1 => Mok (.int .i64) (V.int .i64) Encs.eGNeed g s8.1 ∧ Own Eq (upd H0 id none) [.blk id (.obj g)] H1)
  (fun x e l H1 => ∃ g, Mok (.int .i64) (V.int .i64) Encs.eGNeed g x ∧ e = .exit 1 ∧ l = [] ∧ Own Eq (upd H0 id none) [.blk id (.obj g)] H1) (by kernel_rfl) ?_ oc hx ?_ ⟨hoc, hO.tail⟩ ?_
 ·rintro s8 g H o' ⟨hg, hO⟩ h;clear hx;cbv;refine n_br hE h (fun hc h => ?_) (fun hc h => ?_)
  ·cbv;refine n_idx hE Encs.eGExpr_eq h fun x10 h => ?_;cbv;refine n_loadF hE (hO.ext _ _ f3) ?_;cbv;refine n_callW hE hO hg 0 rfl (hO.ext _ _ f2) (hO.ext _ _ f3) h (fun y hy => ih x10 x_own s8.1 y hy) fun y g' H hg' hO h => ?_;cbv;have h := ret_some h;subst h;exact ⟨_, g', rfl, .e rfl (.e rfl (.e rfl (.e rfl (.e rfl (.z))))), rfl, hg', hO⟩
  cbv;have h := ret_some h;subst h;exact ⟨_, _, rfl, ⟨g, hg, rfl, rfl, hO⟩, .z, rfl⟩
 ·exact .e rfl (.e rfl (.e rfl (.e rfl (.e rfl (.z)))))
 clear hx;rintro e l H ⟨g, hg, rfl, rfl, hO⟩;cbv;have h := ret_some h;subst h;exact hK _ _ _ 0 _ hg rfl hO (.refl _)
def cf35 : Cf := ⟨[5, 6], [], [], [], [], []⟩
theorem c35 (N : Nat) (x_e : GExpr) (x_own : Int) (r : List (Int × GNeed)) (h : registers_read N x_e x_own = some r) : CallMF Try.prog 35 [.agg [.int .i64 x_e.Op, .sl (Ar.lst Encs.eGExpr x_e.Args) .ro, .int .i64 x_e.Var, .int .i64 x_e.Field, .int .i64 x_e.Kind, .int .i64 x_e.Value.Kind, .int .i64 x_e.Value.Num, .str x_e.Value.Text], .int .i64 x_own] (.int .i64) (V.int .i64) Encs.eGNeed r := by
 unfold registers_read at h
 refine callMF_run (T := TT) cf35 okP Try.func35 (by rfl) (by kernel_rfl) Try.call35 Try.ntmps35 (by rfl) (by rfl) ?_;intro E H0 K hE hK
 have hO : Own Eq H0 [] H0 := .start stable_eq rfl
 cbv;refine n_mmk hE (.int .i64) (V.int .i64) Encs.eGNeed hO fun m1 o2 H ho2 hO => ?_;cbv;refine n_alloc hE hO fun b5 H hO => ?_;cbv;refine n_store hE hO 0 rfl rfl fun H hO => ?_;cbv;refine n_alloc hE hO fun b6 H hO => ?_;cbv;refine n_store hE hO 0 rfl rfl fun H hO => ?_;cbv;refine n_load hE hO 0 rfl ?_;cbv;refine n_callW hE (M := registers_read_1 N N x_e x_own []) (Fk := some) (r := r) hO ho2 2 rfl (hO.get 1 rfl) (hO.get 0 rfl) (by rw [h]; rfl) (fun y hy => c58 N N x_e x_own [] y hy) fun y o' H ho' hO hy => ?_
 cases hy
 cbv;refine n_load hE hO 1 rfl ?_;cbv;exact hK _ _ _ 2 _ ho' rfl hO
section
open Go.Shelf Go.Sort
omit [Ar] [Encs] in
theorem sortedAt : SortedAt Try.prog 60 80 3 := by
 intro w bx b nn D0 R hlt hcell hown hmax
 have hsorts : ∀ m, AnyZI.SortsIn Try.prog Try.laysGgz6_ren Fence.wide m := fun m => ⟨fun blk off cap ss W hH hblk hsz => callsIn_wide.2 (AnyM.slices_Sort_int Try.laysSlgm5 blk off cap ss W hH hblk hsz), fun p cap W => callsIn_wide.2 (AnyM.slices_Sort_int_none Try.laysSlgm5 p cap W)⟩
 have hseq : SeqGives Fence.wide 2 Try.prog 80 #[.pointer (some ⟨bx, 0, none⟩)] encZ (fun ss => ss.Perm (intKeys D0)) (Maps.size D0) w := AnyZI.keys_gives (ρ := Try.laysGgz7_ren) { Try.laysGgz7 with } Fence.wide _ trivial rfl (by omega) bx b nn D0 w hlt hcell hown
 have hm : maxLen = 2 ^ 63 - 1 := rfl
 have cS := AnyZI.sorted_in Try.laysGgz6 Fence.wide 5 trivial trivial trivial trivial rfl (by omega) (hsorts _) (enters_of Try.func79 (by kernel_rfl) rfl) 80 #[.pointer (some ⟨bx, 0, none⟩)] trivial (enters_of Try.func80 (by kernel_rfl) rfl) _ (Maps.size D0) (by omega) (by omega) w hseq
 exact (callsIn_wide.1 cS).mono fun e w' ⟨v, ss, h1, h2, h3, _, h5⟩ => ⟨v, ss, h1, h2, h3, h5⟩
end
def cf61 : Cf := ⟨[1], [], [], [], [], []⟩
theorem keysOf (H : Heap) (id : Nat) : CallA Try.prog 61 [.map id] H fun v H' => ∃ bx, H bx = none ∧ v = .func (.func 80) [] [.ref bx 0] ∧ H' = upd H bx (some (.cells [.map id])) := by
 refine CallA.le (callA_of_run (T := TT) (K := fun v H' => ∃ y H2, LeV v y ∧ HLe H2 H' ∧ ∃ bx, H bx = none ∧ y = .func (.func 80) [] [.ref bx 0] ∧ H2 = upd H bx (some (.cells [.map id]))) cf61 okP.1 okP.2 Try.func61 (by rfl) (by kernel_rfl) Try.call61 Try.ntmps61 (by rfl) (by rfl) fun E hE => ?_)
 have hO : Own Eq H [] H := .start stable_eq rfl
 cbv;refine n_alloc hE hO fun bx H' hO => ?_;cbv;obtain ⟨h1, h2⟩ := (hO.only 0 rfl).last;exact ⟨_, _, .refl _, h2, bx, h1, rfl, rfl⟩
section
variable {P : Program} {nt : Nat} {rd : Option Nat} {E : Env} (hE : E = real P nt rd)
include hE
omit [Encs] in
theorem n_mgetF {K X R : Type} {kf : K → V} {vf : X → V} {d : TypeDesc} {H : Heap} {m : List (K × X)} {o : Obj} {mid : Nat} [DecidableEq K] {r : R} {t kt et : Nat} {g : X → V} (hg : ∀ x, vf x = g x) (hm : P.underlying t = some (.map kt et)) (hd : P.underlying kt = some d) (hK : MkOk d kf) {z : V} (z0 : X) (hz : zeO P et = some z) (hvz : z = vf z0) (h1 : H mid = some (.obj o)) (hq : Mok d kf vf o m)
 {key : K} {k : V → Prop} {F : X × Bool → Option R} (h : (getM m key z0).bind F = some r) (hk : ∀ x, F x = some r → k (g x.1)) : E.mget t H (.map mid) (kf key) false k :=
 n_mget hE hm hd hK z0 hz hvz (Own.startO h1) hq 0 rfl h fun x hx => by rw [hg]; exact hk x hx
end
def cf36 : Cf := ⟨[], [], [], [], [], []⟩
theorem c36 (N : Nat) (x_m : List (Int × GNeed)) (r : List GNeed) (h : registers_needs_list N x_m = some r) : CallMR Try.prog 36 (.int .i64) (V.int .i64) Encs.eGNeed x_m (.sl (Ar.lst Encs.eGNeed r) .ro) := by
 unfold registers_needs_list at h
 split at h
 case isFalse => cases h
 rename_i hw
 obtain ⟨hr, hsz⟩ := hw
 have hr : ∀ p ∈ x_m, -9223372036854775808 ≤ p.1 ∧ p.1 < 9223372036854775808 := fun p hp => by simpa using List.all_eq_true.1 hr p hp
 obtain ⟨ks, hks, h⟩ := bind_some h;refine callMR_run (T := TT) cf36 okP Try.func36 (by rfl) (by kernel_rfl) Try.call36 Try.ntmps36 (by rfl) (by rfl) ?_;intro E H0 id0 o0 K hE ho0 hid hK
 have hO : Own Eq H0 [] H0 := .start stable_eq rfl
 cbv;refine n_callX hE (keysOf H0 id0) fun v H ⟨bx, hbx, e1, e2⟩ => ?_;subst e1
 have hO : Own Eq H0 [.blk bx (.cells [.map id0])] H := by rw [e2]; exact hO.push hbx rfl
 clear e2;cbv;refine n_callX hE (callA_sorted sortedAt (by kernel_rfl) Try.call60 hks hsz hr (hO.get 0 rfl) (hO.ext _ _ hid) ho0) fun v H' ⟨e1, e2⟩ => ?_;subst e1; subst e2;cbv;refine n_ln hE ?_;cbv;obtain ⟨s2, hx, h⟩ := bind_some h
 refine n_loopG cf36 hE okP (γ := Tail) (fun s1 g => [(0, .v (.map id0)), (3, .v (.sl (Ar.lst Encs.eGNeed s1.2) g)), (8, .v (.sl (Ar.lst (V.int .i64) ks) .ro)), (9, .v (.int .i64 (Ar.len ks))), (10, .v (.int .i64 s1.1))])
  (fun s1 g H1 => Appn g ∧ Own Eq H0 [.tl g, .blk bx (.cells [.map id0])] H1) (fun x e l H1 => ∃ u : Tail, Appn u ∧ e = .exit 0 ∧ l = [(3, .v (.sl (Ar.lst Encs.eGNeed x) u))] ∧ Own Eq H0 [.tl u, .blk bx (.cells [.map id0])] H1) (by kernel_rfl) ?_ .nil hx ?_ ⟨trivial, hO.tl0 rfl⟩ ?_
 ·rintro s1 t6 H1 o ⟨ht6, hO⟩ h;clear hx;cbv;refine n_br hE h (fun hc h => ?_) (fun hc h => ?_)
  ·cbv;refine n_idx hE (fun _ => rfl) h fun k3 h => ?_;cbv;refine n_mgetF hE Encs.eGNeed_eq (kt := 3) (et := 86) (by kernel_rfl) (by kernel_rfl) (mkOk_int .i64) ((⟨0, 0, 0⟩ : GNeed) : GNeed) (by kernel_rfl) (Encs.eGNeed_eq _).symm (hO.ext _ _ hid) ho0 h fun x4 h => ?_;cbv;refine n_appn (f := Encs.eGNeed) hE sz_GNeed (by decide) hO 0 rfl ht6 (l := s1.2) (m := [x4.1]) (.refl _) (.lstc (.eq (Encs.eGNeed_eq x4.1) (.refl _)) (.lst0)) h fun l5 t7 H2 hO ht7 h => ?_;cbv;have h := ret_some h;subst h;exact ⟨_, t7, rfl, .e rfl (.e rfl (.e rfl (.e rfl (.e rfl (.z))))), rfl, ht7, hO⟩
  cbv;have h := ret_some h;subst h;exact ⟨_, _, rfl, ⟨t6, ht6, rfl, rfl, hO⟩, .e rfl (.z), rfl⟩
 ·exact .e rfl (.v (.slt _ (.lst0)) (.e rfl (.e rfl (.e rfl (.z)))))
 clear hx;rintro e l H ⟨u, hu, rfl, rfl, hO⟩;cbv;have h := ret_some h;subst h;exact hK _ _ _ hO (.ro _ _)
def cf10 : Cf := ⟨[], [], [], [], [], []⟩
theorem c10 (N : Nat) (x_e : GExpr) (x_own : Int) (r : ((List GNeed) × Int)) (h : registers_Read N x_e x_own = some r) : CallP Try.prog 10 [.agg [.int .i64 x_e.Op, .sl (Ar.lst Encs.eGExpr x_e.Args) .ro, .int .i64 x_e.Var, .int .i64 x_e.Field, .int .i64 x_e.Kind, .int .i64 x_e.Value.Kind, .int .i64 x_e.Value.Num, .str x_e.Value.Text], .int .i64 x_own] (.tup [.sl (Ar.lst Encs.eGNeed r.1) .ro, .int .i64 r.2]) := by
 unfold registers_Read at h
 refine callP_of_spec cf10 okP Try.func10 (by rfl) (by kernel_rfl) Try.call10 Try.ntmps10 (by rfl) (by rfl) ?_;intro E H0 K hE hK
 have hO : Own Eq H0 [] H0 := .start stable_eq rfl
 cbv;refine n_call hE (g := fun r1 => .int .i64 r1) h (fun r1 hx => c34 N x_e r1 hx) (.refl _) fun r1 h => ?_;cbv;refine n_br hE h (fun hc h => ?_) (fun hc h => ?_)
 ·cbv;have h := ret_some h;subst h;exact hK _ _ _ hO (.tup (.cons (.lit _ (lst_nil)) (.refl _)))
 cbv;refine n_callMF hE h (fun l2 hx => c35 N x_e x_own l2 hx) (.refl _) hO fun l2 m3 o4 H ho4 hO h => ?_;cbv;refine n_callMR hE (g := fun l5 => .sl (Ar.lst Encs.eGNeed l5) .ro) (hO.get 0 rfl) ho4 h (fun l5 hx => c36 N l2 l5 hx) fun l5 h => ?_;cbv;have h := ret_some h;subst h;exact hK _ _ _ hO (.refl _)
def cf12 : Cf := ⟨[], [(6, 8)], [], [], [], []⟩
theorem c12 (N : Nat) (x_a : List GNeed) (x_b : List GNeed) (r : Bool) (h : ref26_Same N x_a x_b = some r) : CallP Try.prog 12 [.sl (Ar.lst Encs.eGNeed x_a) .ro, .sl (Ar.lst Encs.eGNeed x_b) .ro] (.bool r) := by
 unfold ref26_Same at h
 refine callP_of_spec cf12 okP Try.func12 (by rfl) (by kernel_rfl) Try.call12 Try.ntmps12 (by rfl) (by rfl) ?_;intro E H0 K hE hK
 have hO : Own Eq H0 [] H0 := .start stable_eq rfl
 cbv;refine n_ln hE ?_;cbv;refine n_ln hE ?_;cbv;refine n_br hE h (fun hc h => ?_) (fun hc h => ?_)
 ·cbv;have h := ret_some h;subst h;exact hK _ _ _ hO (.refl _)
 cbv;obtain ⟨s2, hx, h⟩ := bind_some h;refine n_loopN cf12 hE okP (fun s1 => [(0, .v (.sl (Ar.lst Encs.eGNeed x_a) .ro)), (1, .v (.sl (Ar.lst Encs.eGNeed x_b) .ro)), (5, .v (.int .i64 s1))]) (fun s1 H1 => Own Eq H0 [] H1) (fun x e l H1 => match (generalizing := false) x with | .inl y => e = .exit 0 ∧ l = [] ∧ Own Eq H0 [] H1 | .inr y => e = .ret ∧ l = [(4, .b false)] ∧ Own Eq H0 [] H1) (by kernel_rfl) ?_ hx ?_ hO ?_
 ·intro s1 H o hO h;clear hx;cbv;refine n_ln hE ?_;cbv;refine n_br hE h (fun hc h => ?_) (fun hc h => ?_)
  ·cbv;refine n_idx hE Encs.eGNeed_eq h fun x3 h => ?_;cbv;refine n_idx hE Encs.eGNeed_eq h fun x4 h => ?_;cbv;refine n_br hE h (fun hc h => ?_) (fun hc h => ?_)
   ·cbv;have h := ret_some h;subst h;exact ⟨_, _, rfl, ⟨rfl, rfl, hO⟩, .b rfl (.z), rfl⟩
   cbv;have h := ret_some h;subst h;exact ⟨_, rfl, .e rfl (.e rfl (.e rfl (.z))), rfl, hO⟩
  cbv;have h := ret_some h;subst h;exact ⟨_, _, rfl, ⟨rfl, rfl, hO⟩, .z, rfl⟩
 ·exact .e rfl (.e rfl (.e rfl (.z)))
 clear hx
 rcases s2 with y5 | y6
 ·rintro e l H ⟨rfl, rfl, hO⟩;cbv;have h := ret_some h;subst h;exact hK _ _ _ hO (.refl _)
 rintro e l H ⟨rfl, rfl, hO⟩;cbv;have h := ret_some h;subst h;exact hK _ _ _ hO (.refl _)
def cf82 : Cf := ⟨[], [], [], [], [], []⟩
theorem c82 (N : Nat) (x_i : Int) (x_n : Int) (r : Bool) (h : automaton_within N x_i x_n = some r) : CallP Try.prog 82 [.int .i64 x_i, .int .i64 x_n] (.bool r) := by
 unfold automaton_within at h
 refine callP_of_spec cf82 okP Try.func82 (by rfl) (by kernel_rfl) Try.call82 Try.ntmps82 (by rfl) (by rfl) ?_;intro E H0 K hE hK
 have hO : Own Eq H0 [] H0 := .start stable_eq rfl
 cbv;have h := ret_some h;subst h;exact hK _ _ _ hO (.refl _)
def cf101 : Cf := ⟨[], [], [], [], [], []⟩
theorem c101 (N : Nat) (x_s : List GGuard) (v_f : V) (x_f : GGuard → Option Bool) (h_f : ∀ y1 q, x_f y1 = some q → CallVP Try.prog v_f [.agg [.int .i64 y1.Scope, .int .i64 y1.Typ, .int .i64 y1.Var, .int .i64 y1.Cond.Op, .sl (Ar.lst Encs.eGExpr y1.Cond.Args) .ro, .int .i64 y1.Cond.Var, .int .i64 y1.Cond.Field, .int .i64 y1.Cond.Kind, .int .i64 y1.Cond.Value.Kind, .int .i64 y1.Cond.Value.Num, .str y1.Cond.Value.Text]] (.bool q)) (r : Int) (h : slices_IndexFunc_LGuard_Guard N x_s x_f = some r) : CallP Try.prog 101 [.sl (Ar.lst Encs.eGGuard x_s) .ro, v_f] (.int .i64 r) := by
 unfold slices_IndexFunc_LGuard_Guard at h
 refine callP_of_spec cf101 okP Try.func101 (by rfl) (by kernel_rfl) Try.call101 Try.ntmps101 (by rfl) (by rfl) ?_;intro E H0 K hE hK
 have hO : Own Eq H0 [] H0 := .start stable_eq rfl
 cbv;refine n_ln hE ?_;cbv;obtain ⟨s2, hx, h⟩ := bind_some h;refine n_loopN cf101 hE okP (fun s1 => [(0, .v (.sl (Ar.lst Encs.eGGuard x_s) .ro)), (1, .v (v_f)), (7, .v (.int .i64 (Ar.len x_s))), (8, .v (.int .i64 s1))]) (fun s1 H1 => Own Eq H0 [] H1) (fun x e l H1 => match (generalizing := false) x with | .inl y => e = .exit 0 ∧ l = [] ∧ Own Eq H0 [] H1 | .inr y => e = .ret ∧ l = [(4, .v (.int .i64 y))] ∧ Own Eq H0 [] H1) (by kernel_rfl) ?_ hx ?_ hO ?_
 ·intro s1 H o hO h;clear hx;cbv;refine n_br hE h (fun hc h => ?_) (fun hc h => ?_)
  ·cbv;refine n_idx hE Encs.eGGuard_eq h fun x3 h => ?_;cbv;refine n_callF hE (g := fun r4 => .bool r4) h (fun r4 hx => h_f x3 r4 hx) (.refl _) fun r4 h => ?_;cbv;refine n_br hE h (fun hc h => ?_) (fun hc h => ?_)
   ·cbv;have h := ret_some h;subst h;exact ⟨_, _, rfl, ⟨rfl, rfl, hO⟩, .e rfl (.z), rfl⟩
   cbv;have h := ret_some h;subst h;exact ⟨_, rfl, .e rfl (.e rfl (.e rfl (.e rfl (.z)))), rfl, hO⟩
  cbv;have h := ret_some h;subst h;exact ⟨_, _, rfl, ⟨rfl, rfl, hO⟩, .z, rfl⟩
 ·exact .e rfl (.e rfl (.e rfl (.e rfl (.z))))
 clear hx
 rcases s2 with y5 | y6
 ·rintro e l H ⟨rfl, rfl, hO⟩;cbv;have h := ret_some h;subst h;exact hK _ _ _ hO (.refl _)
 rintro e l H ⟨rfl, rfl, hO⟩;cbv;have h := ret_some h;subst h;exact hK _ _ _ hO (.refl _)
def cf83 : Cf := ⟨[], [], [], [], [], []⟩
theorem c83 (N : Nat) (x_s : List GGuard) (v_f : V) (x_f : GGuard → Option Bool) (h_f : ∀ y1 q, x_f y1 = some q → CallVP Try.prog v_f [.agg [.int .i64 y1.Scope, .int .i64 y1.Typ, .int .i64 y1.Var, .int .i64 y1.Cond.Op, .sl (Ar.lst Encs.eGExpr y1.Cond.Args) .ro, .int .i64 y1.Cond.Var, .int .i64 y1.Cond.Field, .int .i64 y1.Cond.Kind, .int .i64 y1.Cond.Value.Kind, .int .i64 y1.Cond.Value.Num, .str y1.Cond.Value.Text]] (.bool q)) (r : Bool) (h : slices_ContainsFunc_LGuard_Guard N x_s x_f = some r) : CallP Try.prog 83 [.sl (Ar.lst Encs.eGGuard x_s) .ro, v_f] (.bool r) := by
 unfold slices_ContainsFunc_LGuard_Guard at h
 refine callP_of_spec cf83 okP Try.func83 (by rfl) (by kernel_rfl) Try.call83 Try.ntmps83 (by rfl) (by rfl) ?_;intro E H0 K hE hK
 have hO : Own Eq H0 [] H0 := .start stable_eq rfl
 cbv;refine n_call hE (g := fun r1 => .int .i64 r1) h (fun r1 hx => c101 N x_s v_f x_f h_f r1 hx) (.refl _) fun r1 h => ?_;cbv;have h := ret_some h;subst h;exact hK _ _ _ hO (.refl _)
def cf84 : Cf := ⟨[], [], [], [], [], []⟩
theorem c84 (N : Nat) (x_h : GGuard) (x_1 : GGuard) (r : Bool) (h : automaton_guards_1 N x_h x_1 = some r) : CallP Try.prog 84 [.agg [.int .i64 x_h.Scope, .int .i64 x_h.Typ, .int .i64 x_h.Var, .int .i64 x_h.Cond.Op, .sl (Ar.lst Encs.eGExpr x_h.Cond.Args) .ro, .int .i64 x_h.Cond.Var, .int .i64 x_h.Cond.Field, .int .i64 x_h.Cond.Kind, .int .i64 x_h.Cond.Value.Kind, .int .i64 x_h.Cond.Value.Num, .str x_h.Cond.Value.Text], .eref [.int .i64 x_1.Scope, .int .i64 x_1.Typ, .int .i64 x_1.Var, .int .i64 x_1.Cond.Op, .sl (Ar.lst Encs.eGExpr x_1.Cond.Args) .ro, .int .i64 x_1.Cond.Var, .int .i64 x_1.Cond.Field, .int .i64 x_1.Cond.Kind, .int .i64 x_1.Cond.Value.Kind, .int .i64 x_1.Cond.Value.Num, .str x_1.Cond.Value.Text] 0] (.bool r) := by
 unfold automaton_guards_1 at h
 refine callP_of_spec cf84 okP Try.func84 (by rfl) (by kernel_rfl) Try.call84 Try.ntmps84 (by rfl) (by rfl) ?_;intro E H0 K hE hK
 have hO : Own Eq H0 [] H0 := .start stable_eq rfl
 cbv;have h := ret_some h;subst h;exact hK _ _ _ hO (.refl _)
def cf63 : Cf := ⟨[6], [], [], [], [(43, 6)], []⟩
theorem c63 (N : Nat) (x_a : GAutomaton) (x_l : List GGuard) (r : Int) (h : automaton_guards N x_a x_l = some r) : CallP Try.prog 63 [.agg [.int .i64 x_a.Vars, .int .i64 x_a.Scopes, .sl (Ar.lst Encs.eGState x_a.States) .ro, .sl (Ar.lst Encs.eGEdge x_a.Edges) .ro], .sl (Ar.lst Encs.eGGuard x_l) .ro] (.int .i64 r) := by
 unfold automaton_guards at h
 refine callP_of_spec cf63 okP Try.func63 (by rfl) (by kernel_rfl) Try.call63 Try.ntmps63 (by rfl) (by rfl) ?_;intro E H0 K hE hK
 have hO : Own Eq H0 [] H0 := .start stable_eq rfl
 cbv;refine n_ln hE ?_;cbv;refine n_br hE h (fun hc h => ?_) (fun hc h => ?_)
 ·cbv;have h := ret_some h;subst h;exact hK _ _ _ hO (.refl _)
 cbv;refine n_ln hE ?_;cbv;obtain ⟨s2, hx, h⟩ := bind_some h;refine n_loopN cf63 hE okP (fun s1 => [(1, .v (.sl (Ar.lst Encs.eGGuard x_l) .ro)), (2, .v (.eref [.int .i64 x_a.Vars, .int .i64 x_a.Scopes, .sl (Ar.lst Encs.eGState x_a.States) .ro, .sl (Ar.lst Encs.eGEdge x_a.Edges) .ro] 0)), (11, .v (.sl (Ar.lst Encs.eGGuard x_l) .ro)), (12, .v (.int .i64 (Ar.len x_l))), (13, .v (.int .i64 s1))]) (fun s1 H1 => Own Eq H0 [] H1) (fun x e l H1 => match (generalizing := false) x with | .inl y => e = .exit 0 ∧ l = [] ∧ Own Eq H0 [] H1 | .inr y => e = .ret ∧ l = [(4, .v (.int .i64 y))] ∧ Own Eq H0 [] H1) (by kernel_rfl) ?_ hx ?_ hO ?_
 ·intro s1 H o hO h;clear hx;cbv;refine n_br hE h (fun hc h => ?_) (fun hc h => ?_)
  ·cbv;refine n_idx hE Encs.eGGuard_eq h fun x3 h => ?_;cbv;refine n_alloc hE hO fun b4 H hO => ?_;cbv;refine n_store hE hO 0 rfl rfl fun H hO => ?_;cbv;refine n_load hE hO 0 rfl ?_;cbv;refine n_call hE (g := fun r5 => .bool r5) h (fun r5 hx => c82 N x3.Scope x_a.Scopes r5 hx) (.refl _) fun r5 h => ?_;cbv;refine n_load hE hO 0 rfl ?_;cbv;refine n_br hE h (fun hc h => ?_) (fun hc h => ?_)
   ·cbv;have h := ret_some h;subst h;exact ⟨_, _, rfl, ⟨rfl, rfl, hO.tail⟩, .e rfl (.z), rfl⟩
   cbv;refine n_call hE (g := fun r6 => .bool r6) h (fun r6 hx => c82 N x3.Typ 16 r6 hx) (.refl _) fun r6 h => ?_;cbv;refine n_load hE hO 0 rfl ?_;cbv;refine n_br hE h (fun hc h => ?_) (fun hc h => ?_)
   ·cbv;have h := ret_some h;subst h;exact ⟨_, _, rfl, ⟨rfl, rfl, hO.tail⟩, .e rfl (.z), rfl⟩
   cbv;refine n_call hE (g := fun r7 => .bool r7) h (fun r7 hx => c82 N x3.Var x_a.Vars r7 hx) (.refl _) fun r7 h => ?_;cbv;refine n_br hE h (fun hc h => ?_) (fun hc h => ?_)
   ·cbv;have h := ret_some h;subst h;exact ⟨_, _, rfl, ⟨rfl, rfl, hO.tail⟩, .e rfl (.z), rfl⟩
   cbv;refine n_slice hE (f := Encs.eGGuard) sz_GGuard h fun l8 t9 h => ?_;cbv;refine n_frz hE hO 0 rfl fun H hO => ?_;cbv;refine n_call hE (g := fun r10 => .bool r10) h (fun r10 hx => c83 N l8 (.func (.func 84) [] [.eref [.int .i64 x3.Scope, .int .i64 x3.Typ, .int .i64 x3.Var, .int .i64 x3.Cond.Op, .sl (Ar.lst Encs.eGExpr x3.Cond.Args) .ro, .int .i64 x3.Cond.Var, .int .i64 x3.Cond.Field, .int .i64 x3.Cond.Kind, .int .i64 x3.Cond.Value.Kind, .int .i64 x3.Cond.Value.Num, .str x3.Cond.Value.Text] 0]) (fun y1 => automaton_guards_1 N y1 x3) (fun y1 r hx => CallP.value (F := []) (C := [.eref [.int .i64 x3.Scope, .int .i64 x3.Typ, .int .i64 x3.Var, .int .i64 x3.Cond.Op, .sl (Ar.lst Encs.eGExpr x3.Cond.Args) .ro, .int .i64 x3.Cond.Var, .int .i64 x3.Cond.Field, .int .i64 x3.Cond.Kind, .int .i64 x3.Cond.Value.Kind, .int .i64 x3.Cond.Value.Num, .str x3.Cond.Value.Text] 0]) (c84 N y1 x3 r hx)) r10 hx) (.cons (.ro _ _) (.refl _)) fun r10 h => ?_;cbv;refine n_br hE h (fun hc h => ?_) (fun hc h => ?_)
   ·cbv;have h := ret_some h;subst h;exact ⟨_, _, rfl, ⟨rfl, rfl, hO⟩, .e rfl (.z), rfl⟩
   cbv;refine n_call hE (g := fun r11 => .int .i64 r11) h (fun r11 hx => c34 N x3.Cond r11 hx) (.refl _) fun r11 h => ?_;cbv;refine n_br hE h (fun hc h => ?_) (fun hc h => ?_)
   ·cbv;have h := ret_some h;subst h;exact ⟨_, _, rfl, ⟨rfl, rfl, hO⟩, .e rfl (.z), rfl⟩
   cbv;have h := ret_some h;subst h;exact ⟨_, rfl, .e rfl (.e rfl (.e rfl (.e rfl (.e rfl (.z))))), rfl, hO⟩
  cbv;have h := ret_some h;subst h;exact ⟨_, _, rfl, ⟨rfl, rfl, hO⟩, .z, rfl⟩
 ·exact .e rfl (.e rfl (.e rfl (.e rfl (.e rfl (.z)))))
 clear hx
 rcases s2 with y12 | y13
 ·rintro e l H ⟨rfl, rfl, hO⟩;cbv;have h := ret_some h;subst h;exact hK _ _ _ hO (.refl _)
 rintro e l H ⟨rfl, rfl, hO⟩;cbv;have h := ret_some h;subst h;exact hK _ _ _ hO (.refl _)
def cf117 : Cf := ⟨[], [], [], [], [], []⟩
theorem c117 (N : Nat) (x_s : List Int) (x_v : Int) (r : Int) (h : slices_Index_Lint_int N x_s x_v = some r) : CallP Try.prog 117 [.sl (Ar.lst (V.int .i64) x_s) .ro, .int .i64 x_v] (.int .i64 r) := by
 unfold slices_Index_Lint_int at h
 refine callP_of_spec cf117 okP Try.func117 (by rfl) (by kernel_rfl) Try.call117 Try.ntmps117 (by rfl) (by rfl) ?_;intro E H0 K hE hK
 have hO : Own Eq H0 [] H0 := .start stable_eq rfl
 cbv;refine n_ln hE ?_;cbv;obtain ⟨s2, hx, h⟩ := bind_some h;refine n_loopN cf117 hE okP (fun s1 => [(0, .v (.sl (Ar.lst (V.int .i64) x_s) .ro)), (1, .v (.int .i64 x_v)), (7, .v (.int .i64 (Ar.len x_s))), (8, .v (.int .i64 s1))]) (fun s1 H1 => Own Eq H0 [] H1) (fun x e l H1 => match (generalizing := false) x with | .inl y => e = .exit 0 ∧ l = [] ∧ Own Eq H0 [] H1 | .inr y => e = .ret ∧ l = [(4, .v (.int .i64 y))] ∧ Own Eq H0 [] H1) (by kernel_rfl) ?_ hx ?_ hO ?_
 ·intro s1 H o hO h;clear hx;cbv;refine n_br hE h (fun hc h => ?_) (fun hc h => ?_)
  ·cbv;refine n_idx hE (fun _ => rfl) h fun x3 h => ?_;cbv;refine n_br hE h (fun hc h => ?_) (fun hc h => ?_)
   ·cbv;have h := ret_some h;subst h;exact ⟨_, _, rfl, ⟨rfl, rfl, hO⟩, .e rfl (.z), rfl⟩
   cbv;have h := ret_some h;subst h;exact ⟨_, rfl, .e rfl (.e rfl (.e rfl (.e rfl (.z)))), rfl, hO⟩
  cbv;have h := ret_some h;subst h;exact ⟨_, _, rfl, ⟨rfl, rfl, hO⟩, .z, rfl⟩
 ·exact .e rfl (.e rfl (.e rfl (.e rfl (.z))))
 clear hx
 rcases s2 with y4 | y5
 ·rintro e l H ⟨rfl, rfl, hO⟩;cbv;have h := ret_some h;subst h;exact hK _ _ _ hO (.refl _)
 rintro e l H ⟨rfl, rfl, hO⟩;cbv;have h := ret_some h;subst h;exact hK _ _ _ hO (.refl _)
def cf102 : Cf := ⟨[], [], [], [], [], []⟩
theorem c102 (N : Nat) (x_s : List Int) (x_v : Int) (r : Bool) (h : slices_Contains_Lint_int N x_s x_v = some r) : CallP Try.prog 102 [.sl (Ar.lst (V.int .i64) x_s) .ro, .int .i64 x_v] (.bool r) := by
 unfold slices_Contains_Lint_int at h
 refine callP_of_spec cf102 okP Try.func102 (by rfl) (by kernel_rfl) Try.call102 Try.ntmps102 (by rfl) (by rfl) ?_;intro E H0 K hE hK
 have hO : Own Eq H0 [] H0 := .start stable_eq rfl
 cbv;refine n_call hE (g := fun r1 => .int .i64 r1) h (fun r1 hx => c117 N x_s x_v r1 hx) (.refl _) fun r1 h => ?_;cbv;have h := ret_some h;subst h;exact hK _ _ _ hO (.refl _)
def cf85 : Cf := ⟨[], [], [], [], [], []⟩
theorem c85 (N : Nat) (x_a : GAutomaton) (x_lists : List (List Int)) (r : Int) (h : automaton_scopes N x_a x_lists = some r) : CallP Try.prog 85 [.agg [.int .i64 x_a.Vars, .int .i64 x_a.Scopes, .sl (Ar.lst Encs.eGState x_a.States) .ro, .sl (Ar.lst Encs.eGEdge x_a.Edges) .ro], .sl (Ar.lst Encs.eLI x_lists) .ro] (.int .i64 r) := by
 unfold automaton_scopes at h
 refine callP_of_spec cf85 okP Try.func85 (by rfl) (by kernel_rfl) Try.call85 Try.ntmps85 (by rfl) (by rfl) ?_;intro E H0 K hE hK
 have hO : Own Eq H0 [] H0 := .start stable_eq rfl
 cbv;refine n_ln hE ?_;cbv;obtain ⟨s2, hx, h⟩ := bind_some h;refine n_loopN cf85 hE okP (fun s1 => [(2, .v (.eref [.int .i64 x_a.Vars, .int .i64 x_a.Scopes, .sl (Ar.lst Encs.eGState x_a.States) .ro, .sl (Ar.lst Encs.eGEdge x_a.Edges) .ro] 0)), (9, .v (.sl (Ar.lst Encs.eLI x_lists) .ro)), (10, .v (.int .i64 (Ar.len x_lists))), (11, .v (.int .i64 s1))]) (fun s1 H1 => Own Eq H0 [] H1) (fun x e l H1 => match (generalizing := false) x with | .inl y => e = .exit 0 ∧ l = [] ∧ Own Eq H0 [] H1 | .inr y => e = .ret ∧ l = [(4, .v (.int .i64 y))] ∧ Own Eq H0 [] H1) (by kernel_rfl) ?_ hx ?_ hO ?_
 ·intro s1 H o hO h;clear hx;cbv;refine n_br hE h (fun hc h => ?_) (fun hc h => ?_)
  ·cbv;refine n_idx hE Encs.eLI_eq h fun x3 h => ?_;cbv;refine n_ln hE ?_;cbv;obtain ⟨s5, hx, h⟩ := bind_some h;refine n_loopN cf85 hE okP (fun s4 => [(2, .v (.eref [.int .i64 x_a.Vars, .int .i64 x_a.Scopes, .sl (Ar.lst Encs.eGState x_a.States) .ro, .sl (Ar.lst Encs.eGEdge x_a.Edges) .ro] 0)), (6, .v (.sl (Ar.lst (V.int .i64) x3) .ro)), (9, .v (.sl (Ar.lst Encs.eLI x_lists) .ro)), (10, .v (.int .i64 (Ar.len x_lists))), (11, .v (.int .i64 s1)), (15, .v (.sl (Ar.lst (V.int .i64) x3) .ro)), (16, .v (.int .i64 (Ar.len x3))), (17, .v (.int .i64 s4))]) (fun s4 H1 => Own Eq H0 [] H1) (fun x e l H1 => match (generalizing := false) x with | .inl y => e = .exit 2 ∧ l = [(2, .v (.eref [.int .i64 x_a.Vars, .int .i64 x_a.Scopes, .sl (Ar.lst Encs.eGState x_a.States) .ro, .sl (Ar.lst Encs.eGEdge x_a.Edges) .ro] 0)), (9, .v (.sl (Ar.lst Encs.eLI x_lists) .ro)), (10, .v (.int .i64 (Ar.len x_lists))), (11, .v (.int .i64 s1))] ∧ Own Eq H0 [] H1 | .inr y => e = .ret ∧ l = [(4, .v (.int .i64 y))] ∧ Own Eq H0 [] H1) (by kernel_rfl) ?_ hx ?_ hO ?_
   ·intro s4 H o hO h;clear hx;cbv;refine n_br hE h (fun hc h => ?_) (fun hc h => ?_)
    ·cbv;refine n_idx hE (fun _ => rfl) h fun x6 h => ?_;cbv;refine n_call hE (g := fun r7 => .bool r7) h (fun r7 hx => c82 N x6 x_a.Scopes r7 hx) (.refl _) fun r7 h => ?_;cbv;refine n_br hE h (fun hc h => ?_) (fun hc h => ?_)
     ·cbv;have h := ret_some h;subst h;exact ⟨_, _, rfl, ⟨rfl, rfl, hO⟩, .e rfl (.z), rfl⟩
     cbv;refine n_slice hE (f := (V.int .i64)) (fun _ => rfl) h fun l8 t9 h => ?_;cbv;refine n_call hE (g := fun r10 => .bool r10) h (fun r10 hx => c102 N l8 x6 r10 hx) (.cons (.ro _ _) (.refl _)) fun r10 h => ?_;cbv;refine n_br hE h (fun hc h => ?_) (fun hc h => ?_)
     ·cbv;have h := ret_some h;subst h;exact ⟨_, _, rfl, ⟨rfl, rfl, hO⟩, .e rfl (.z), rfl⟩
     cbv;have h := ret_some h;subst h;exact ⟨_, rfl, .e rfl (.e rfl (.e rfl (.e rfl (.e rfl (.e rfl (.e rfl (.e rfl (.z)))))))), rfl, hO⟩
    cbv;have h := ret_some h;subst h;exact ⟨_, _, rfl, ⟨rfl, rfl, hO⟩, .e rfl (.e rfl (.e rfl (.e rfl (.z)))), rfl⟩
   ·exact .e rfl (.e rfl (.e rfl (.e rfl (.e rfl (.e rfl (.e rfl (.e rfl (.z))))))))
   clear hx
   rcases s5 with y11 | y12
   ·rintro e l H ⟨rfl, rfl, hO⟩;cbv;have h := ret_some h;subst h;exact ⟨_, rfl, .e rfl (.e rfl (.e rfl (.e rfl (.z)))), rfl, hO⟩
   rintro e l H ⟨rfl, rfl, hO⟩;cbv;have h := ret_some h;subst h;exact ⟨_, _, rfl, ⟨rfl, rfl, hO⟩, .e rfl (.z), rfl⟩
  cbv;have h := ret_some h;subst h;exact ⟨_, _, rfl, ⟨rfl, rfl, hO⟩, .z, rfl⟩
 ·exact .e rfl (.e rfl (.e rfl (.e rfl (.z))))
 clear hx
 rcases s2 with y13 | y14
 ·rintro e l H ⟨rfl, rfl, hO⟩;cbv;have h := ret_some h;subst h;exact hK _ _ _ hO (.refl _)
 rintro e l H ⟨rfl, rfl, hO⟩;cbv;have h := ret_some h;subst h;exact hK _ _ _ hO (.refl _)
def cf86 : Cf := ⟨[], [], [], [], [], []⟩
theorem c86 (N : Nat) (x_l : List GLimit) (r : (List Int)) (h : automaton_limited N x_l = some r) : CallP Try.prog 86 [.sl (Ar.lst Encs.eGLimit x_l) .ro] (.sl (Ar.lst (V.int .i64) r) .ro) := by
 unfold automaton_limited at h
 refine callP_of_spec cf86 okP Try.func86 (by rfl) (by kernel_rfl) Try.call86 Try.ntmps86 (by rfl) (by rfl) ?_;intro E H0 K hE hK
 have hO : Own Eq H0 [] H0 := .start stable_eq rfl
 cbv;refine n_ln hE ?_;cbv;replace hO := hO.tl0 (t := .nil) rfl;obtain ⟨s3, hx, h⟩ := bind_some h;refine n_loopG cf86 hE okP (γ := Tail) (fun s1 g => [(3, .v (.sl (Ar.lst (V.int .i64) s1.1) g)), (6, .v (.sl (Ar.lst Encs.eGLimit x_l) .ro)), (7, .v (.int .i64 (Ar.len x_l))), (8, .v (.int .i64 s1.2))]) (fun s1 g H1 => Appn g ∧ Own Eq H0 [.tl g] H1) (fun x e l H1 => ∃ u1 : Tail, Appn u1 ∧ e = .exit 0 ∧ l = [(3, .v (.sl (Ar.lst (V.int .i64) x) u1))] ∧ Own Eq H0 [.tl u1] H1) (by kernel_rfl) ?_ .nil hx ?_ ?_ ?_
 ·rintro s1 t2 H o ⟨ht2, hO⟩ h;clear hx;cbv;refine n_br hE h (fun hc h => ?_) (fun hc h => ?_)
  ·cbv;refine n_idx hE Encs.eGLimit_eq h fun x4 h => ?_;cbv;refine n_appn (f := (V.int .i64)) hE (fun _ => rfl) (by decide) hO 0 rfl ht2 (l := s1.1) (m := [x4.Scope]) (.refl _) (.lstc (.refl _) (.lst0)) h fun l6 t5 H hO ht5 h => ?_;cbv;have h := ret_some h;subst h;exact ⟨_, t5, rfl, .e rfl (.e rfl (.e rfl (.e rfl (.z)))), rfl, ht5, hO⟩
  cbv;have h := ret_some h;subst h;exact ⟨_, _, rfl, ⟨t2, ht2, rfl, rfl, hO⟩, .e rfl (.z), rfl⟩
 ·exact .v (.slt _ (.lst0)) (.e rfl (.e rfl (.e rfl (.z))))
 ·exact ⟨trivial, hO⟩
 clear hx;rintro e l H ⟨t7, ht7, rfl, rfl, hO⟩;cbv;have h := ret_some h;subst h;exact hK _ _ _ hO (.ro _ _)
def cf103 : Cf := ⟨[], [], [], [], [], []⟩
theorem c103 (N : Nat) (x_s : List GLimit) (v_f : V) (x_f : GLimit → Option Bool) (h_f : ∀ y1 q, x_f y1 = some q → CallVP Try.prog v_f [.agg [.int .i64 y1.Scope, .int .i64 y1.Span]] (.bool q)) (r : Int) (h : slices_IndexFunc_LLimit_Limit N x_s x_f = some r) : CallP Try.prog 103 [.sl (Ar.lst Encs.eGLimit x_s) .ro, v_f] (.int .i64 r) := by
 unfold slices_IndexFunc_LLimit_Limit at h
 refine callP_of_spec cf103 okP Try.func103 (by rfl) (by kernel_rfl) Try.call103 Try.ntmps103 (by rfl) (by rfl) ?_;intro E H0 K hE hK
 have hO : Own Eq H0 [] H0 := .start stable_eq rfl
 cbv;refine n_ln hE ?_;cbv;obtain ⟨s2, hx, h⟩ := bind_some h;refine n_loopN cf103 hE okP (fun s1 => [(0, .v (.sl (Ar.lst Encs.eGLimit x_s) .ro)), (1, .v (v_f)), (7, .v (.int .i64 (Ar.len x_s))), (8, .v (.int .i64 s1))]) (fun s1 H1 => Own Eq H0 [] H1) (fun x e l H1 => match (generalizing := false) x with | .inl y => e = .exit 0 ∧ l = [] ∧ Own Eq H0 [] H1 | .inr y => e = .ret ∧ l = [(4, .v (.int .i64 y))] ∧ Own Eq H0 [] H1) (by kernel_rfl) ?_ hx ?_ hO ?_
 ·intro s1 H o hO h;clear hx;cbv;refine n_br hE h (fun hc h => ?_) (fun hc h => ?_)
  ·cbv;refine n_idx hE Encs.eGLimit_eq h fun x3 h => ?_;cbv;refine n_callF hE (g := fun r4 => .bool r4) h (fun r4 hx => h_f x3 r4 hx) (.refl _) fun r4 h => ?_;cbv;refine n_br hE h (fun hc h => ?_) (fun hc h => ?_)
   ·cbv;have h := ret_some h;subst h;exact ⟨_, _, rfl, ⟨rfl, rfl, hO⟩, .e rfl (.z), rfl⟩
   cbv;have h := ret_some h;subst h;exact ⟨_, rfl, .e rfl (.e rfl (.e rfl (.e rfl (.z)))), rfl, hO⟩
  cbv;have h := ret_some h;subst h;exact ⟨_, _, rfl, ⟨rfl, rfl, hO⟩, .z, rfl⟩
 ·exact .e rfl (.e rfl (.e rfl (.e rfl (.z))))
 clear hx
 rcases s2 with y5 | y6
 ·rintro e l H ⟨rfl, rfl, hO⟩;cbv;have h := ret_some h;subst h;exact hK _ _ _ hO (.refl _)
 rintro e l H ⟨rfl, rfl, hO⟩;cbv;have h := ret_some h;subst h;exact hK _ _ _ hO (.refl _)
def cf87 : Cf := ⟨[], [], [], [], [], []⟩
theorem c87 (N : Nat) (x_s : List GLimit) (v_f : V) (x_f : GLimit → Option Bool) (h_f : ∀ y1 q, x_f y1 = some q → CallVP Try.prog v_f [.agg [.int .i64 y1.Scope, .int .i64 y1.Span]] (.bool q)) (r : Bool) (h : slices_ContainsFunc_LLimit_Limit N x_s x_f = some r) : CallP Try.prog 87 [.sl (Ar.lst Encs.eGLimit x_s) .ro, v_f] (.bool r) := by
 unfold slices_ContainsFunc_LLimit_Limit at h
 refine callP_of_spec cf87 okP Try.func87 (by rfl) (by kernel_rfl) Try.call87 Try.ntmps87 (by rfl) (by rfl) ?_;intro E H0 K hE hK
 have hO : Own Eq H0 [] H0 := .start stable_eq rfl
 cbv;refine n_call hE (g := fun r1 => .int .i64 r1) h (fun r1 hx => c103 N x_s v_f x_f h_f r1 hx) (.refl _) fun r1 h => ?_;cbv;have h := ret_some h;subst h;exact hK _ _ _ hO (.refl _)
def cf88 : Cf := ⟨[], [], [], [], [], []⟩
theorem c88 (N : Nat) (x_l : GLimit) (r : Bool) (h : automaton_edge_1 N x_l = some r) : CallP Try.prog 88 [.agg [.int .i64 x_l.Scope, .int .i64 x_l.Span]] (.bool r) := by
 unfold automaton_edge_1 at h
 refine callP_of_spec cf88 okP Try.func88 (by rfl) (by kernel_rfl) Try.call88 Try.ntmps88 (by rfl) (by rfl) ?_;intro E H0 K hE hK
 have hO : Own Eq H0 [] H0 := .start stable_eq rfl
 cbv;have h := ret_some h;subst h;exact hK _ _ _ hO (.refl _)
def cf64 : Cf := ⟨[], [(17, 11)], [], [], [], []⟩
theorem c64 (N : Nat) (x_a : GAutomaton) (x_x : GEdge) (x_before : Int) (r : Int) (h : automaton_edge N x_a x_x x_before = some r) : CallP Try.prog 64 [.agg [.int .i64 x_a.Vars, .int .i64 x_a.Scopes, .sl (Ar.lst Encs.eGState x_a.States) .ro, .sl (Ar.lst Encs.eGEdge x_a.Edges) .ro], .agg [.int .i64 x_x.From, .int .i64 x_x.To, .int .i64 x_x.Var, .int .i64 x_x.Typ, .int .i64 x_x.Cond.Op, .sl (Ar.lst Encs.eGExpr x_x.Cond.Args) .ro, .int .i64 x_x.Cond.Var, .int .i64 x_x.Cond.Field, .int .i64 x_x.Cond.Kind, .int .i64 x_x.Cond.Value.Kind, .int .i64 x_x.Cond.Value.Num, .str x_x.Cond.Value.Text, .sl (Ar.lst (V.int .i64) x_x.Opens) .ro, .sl (Ar.lst (V.int .i64) x_x.Closes) .ro, .sl (Ar.lst Encs.eGExpr x_x.Checks) .ro, .sl (Ar.lst Encs.eGLimit x_x.Limits) .ro, .sl (Ar.lst (V.int .i64) x_x.Inside) .ro], .int .i64 x_before] (.int .i64 r) := by
 unfold automaton_edge at h
 refine callP_of_spec cf64 okP Try.func64 (by rfl) (by kernel_rfl) Try.call64 Try.ntmps64 (by rfl) (by rfl) ?_;intro E H0 K hE hK
 have hO : Own Eq H0 [] H0 := .start stable_eq rfl
 cbv;refine n_ln hE ?_;cbv;refine n_call hE (g := fun r1 => .bool r1) h (fun r1 hx => c82 N x_x.From (Ar.len x_a.States) r1 hx) (.refl _) fun r1 h => ?_;cbv;refine n_ln hE ?_;cbv;refine n_br hE h (fun hc h => ?_) (fun hc h => ?_)
 ·cbv;have h := ret_some h;subst h;exact hK _ _ _ hO (.refl _)
 cbv;refine n_call hE (g := fun r2 => .bool r2) h (fun r2 hx => c82 N x_x.Var x_a.Vars r2 hx) (.refl _) fun r2 h => ?_;cbv;refine n_br hE h (fun hc h => ?_) (fun hc h => ?_)
 ·cbv;have h := ret_some h;subst h;exact hK _ _ _ hO (.refl _)
 cbv;refine n_call hE (g := fun r3 => .bool r3) h (fun r3 hx => c82 N x_x.Typ 16 r3 hx) (.refl _) fun r3 h => ?_;cbv;refine n_br hE h (fun hc h => ?_) (fun hc h => ?_)
 ·cbv;have h := ret_some h;subst h;exact hK _ _ _ hO (.refl _)
 cbv;refine n_br hE h (fun hc h => ?_) (fun hc h => ?_)
 ·cbv;have h := ret_some h;subst h;exact hK _ _ _ hO (.refl _)
 cbv;refine n_call hE (g := fun r4 => .int .i64 r4) h (fun r4 hx => c34 N x_x.Cond r4 hx) (.refl _) fun r4 h => ?_;cbv;refine n_br hE h (fun hc h => ?_) (fun hc h => ?_)
 ·cbv;have h := ret_some h;subst h;exact hK _ _ _ hO (.refl _)
 cbv;refine n_ln hE ?_;cbv;refine n_br hE h (fun hc h => ?_) (fun hc h => ?_)
 ·cbv;have h := ret_some h;subst h;exact hK _ _ _ hO (.refl _)
 cbv;refine n_ln hE ?_;cbv;obtain ⟨s6, hx, h⟩ := bind_some h;refine n_loopN cf64 hE okP (fun s5 => [(3, .v (.eref [.int .i64 x_a.Vars, .int .i64 x_a.Scopes, .sl (Ar.lst Encs.eGState x_a.States) .ro, .sl (Ar.lst Encs.eGEdge x_a.Edges) .ro] 0)), (4, .v (.eref [.int .i64 x_x.From, .int .i64 x_x.To, .int .i64 x_x.Var, .int .i64 x_x.Typ, .int .i64 x_x.Cond.Op, .sl (Ar.lst Encs.eGExpr x_x.Cond.Args) .ro, .int .i64 x_x.Cond.Var, .int .i64 x_x.Cond.Field, .int .i64 x_x.Cond.Kind, .int .i64 x_x.Cond.Value.Kind, .int .i64 x_x.Cond.Value.Num, .str x_x.Cond.Value.Text, .sl (Ar.lst (V.int .i64) x_x.Opens) .ro, .sl (Ar.lst (V.int .i64) x_x.Closes) .ro, .sl (Ar.lst Encs.eGExpr x_x.Checks) .ro, .sl (Ar.lst Encs.eGLimit x_x.Limits) .ro, .sl (Ar.lst (V.int .i64) x_x.Inside) .ro] 0)), (63, .v (.sl (Ar.lst Encs.eGExpr x_x.Checks) .ro)), (64, .v (.int .i64 (Ar.len x_x.Checks))), (65, .v (.int .i64 s5))]) (fun s5 H1 => Own Eq H0 [] H1) (fun x e l H1 => match (generalizing := false) x with | .inl y => e = .exit 1 ∧ l = [(3, .v (.eref [.int .i64 x_a.Vars, .int .i64 x_a.Scopes, .sl (Ar.lst Encs.eGState x_a.States) .ro, .sl (Ar.lst Encs.eGEdge x_a.Edges) .ro] 0)), (4, .v (.eref [.int .i64 x_x.From, .int .i64 x_x.To, .int .i64 x_x.Var, .int .i64 x_x.Typ, .int .i64 x_x.Cond.Op, .sl (Ar.lst Encs.eGExpr x_x.Cond.Args) .ro, .int .i64 x_x.Cond.Var, .int .i64 x_x.Cond.Field, .int .i64 x_x.Cond.Kind, .int .i64 x_x.Cond.Value.Kind, .int .i64 x_x.Cond.Value.Num, .str x_x.Cond.Value.Text, .sl (Ar.lst (V.int .i64) x_x.Opens) .ro, .sl (Ar.lst (V.int .i64) x_x.Closes) .ro, .sl (Ar.lst Encs.eGExpr x_x.Checks) .ro, .sl (Ar.lst Encs.eGLimit x_x.Limits) .ro, .sl (Ar.lst (V.int .i64) x_x.Inside) .ro] 0))] ∧ Own Eq H0 [] H1 | .inr y => e = .ret ∧ l = [(6, .v (.int .i64 y))] ∧ Own Eq H0 [] H1) (by kernel_rfl) ?_ hx ?_ hO ?_
 ·intro s5 H o hO h;clear hx;cbv;refine n_br hE h (fun hc h => ?_) (fun hc h => ?_)
  ·cbv;refine n_idx hE Encs.eGExpr_eq h fun x7 h => ?_;cbv;refine n_call hE (g := fun r8 => .int .i64 r8) h (fun r8 hx => c34 N x7 r8 hx) (.refl _) fun r8 h => ?_;cbv;refine n_br hE h (fun hc h => ?_) (fun hc h => ?_)
   ·cbv;have h := ret_some h;subst h;exact ⟨_, _, rfl, ⟨rfl, rfl, hO⟩, .e rfl (.z), rfl⟩
   cbv;have h := ret_some h;subst h;exact ⟨_, rfl, .e rfl (.e rfl (.e rfl (.e rfl (.e rfl (.z))))), rfl, hO⟩
  cbv;have h := ret_some h;subst h;exact ⟨_, _, rfl, ⟨rfl, rfl, hO⟩, .e rfl (.e rfl (.z)), rfl⟩
 ·exact .e rfl (.e rfl (.e rfl (.e rfl (.e rfl (.z)))))
 clear hx
 rcases s6 with y9 | y13
 ·rintro e l H ⟨rfl, rfl, hO⟩;cbv;refine n_pcall hE (g := fun r10 => .sl (Ar.lst (V.int .i64) r10) .ro) h (fun r10 hx => c86 N x_x.Limits r10 hx) (.refl _) fun r10 h => ?_;cbv;refine n_call hE (g := fun r11 => .int .i64 r11) h (fun r11 hx => c85 N x_a ([x_x.Opens, x_x.Closes, x_x.Inside, r10]) r11 hx) (.cons (.refl _) (.cons (.lit _ (lst_cons ((Encs.eLI_eq x_x.Opens).symm) (lst_cons ((Encs.eLI_eq x_x.Closes).symm) (lst_cons ((Encs.eLI_eq x_x.Inside).symm) (lst_cons ((Encs.eLI_eq r10).symm) (lst_nil)))))) (.refl _))) fun r11 h => ?_;cbv;refine n_br hE h (fun hc h => ?_) (fun hc h => ?_)
  ·cbv;have h := ret_some h;subst h;exact hK _ _ _ hO (.refl _)
  cbv;refine n_call hE (g := fun r12 => .bool r12) h (fun r12 hx => c87 N x_x.Limits (.func (.func 88) [] []) (fun y1 => automaton_edge_1 N y1) (fun y1 r hx => CallP.value (F := []) (C := []) (c88 N y1 r hx)) r12 hx) (.refl _) fun r12 h => ?_;cbv;refine n_br hE h (fun hc h => ?_) (fun hc h => ?_)
  ·cbv;have h := ret_some h;subst h;exact hK _ _ _ hO (.refl _)
  cbv;have h := ret_some h;subst h;exact hK _ _ _ hO (.refl _)
 rintro e l H ⟨rfl, rfl, hO⟩;cbv;have h := ret_some h;subst h;exact hK _ _ _ hO (.refl _)
def cf40 : Cf := ⟨[], [], [], [], [], []⟩
theorem c40 (N : Nat) (x_a : GAutomaton) (r : Int) (h : automaton_Check N x_a = some r) : CallP Try.prog 40 [.agg [.int .i64 x_a.Vars, .int .i64 x_a.Scopes, .sl (Ar.lst Encs.eGState x_a.States) .ro, .sl (Ar.lst Encs.eGEdge x_a.Edges) .ro]] (.int .i64 r) := by
 unfold automaton_Check at h
 refine callP_of_spec cf40 okP Try.func40 (by rfl) (by kernel_rfl) Try.call40 Try.ntmps40 (by rfl) (by rfl) ?_;intro E H0 K hE hK
 have hO : Own Eq H0 [] H0 := .start stable_eq rfl
 cbv;refine n_br hE h (fun hc h => ?_) (fun hc h => ?_)
 ·cbv;have h := ret_some h;subst h;exact hK _ _ _ hO (.refl _)
 cbv;refine n_ln hE ?_;cbv;refine n_ln hE ?_;cbv;refine n_ln hE ?_;cbv;refine n_br hE h (fun hc h => ?_) (fun hc h => ?_)
 ·cbv;have h := ret_some h;subst h;exact hK _ _ _ hO (.refl _)
 cbv;refine n_ln hE ?_;cbv;obtain ⟨s2, hx, h⟩ := bind_some h;refine n_loopN cf40 hE okP (fun s1 => [(1, .v (.eref [.int .i64 x_a.Vars, .int .i64 x_a.Scopes, .sl (Ar.lst Encs.eGState x_a.States) .ro, .sl (Ar.lst Encs.eGEdge x_a.Edges) .ro] 0)), (47, .v (.sl (Ar.lst Encs.eGState x_a.States) .ro)), (48, .v (.int .i64 (Ar.len x_a.States))), (49, .v (.int .i64 s1))]) (fun s1 H1 => Own Eq H0 [] H1) (fun x e l H1 => match (generalizing := false) x with | .inl y => e = .exit 1 ∧ l = [(1, .v (.eref [.int .i64 x_a.Vars, .int .i64 x_a.Scopes, .sl (Ar.lst Encs.eGState x_a.States) .ro, .sl (Ar.lst Encs.eGEdge x_a.Edges) .ro] 0))] ∧ Own Eq H0 [] H1 | .inr y => e = .ret ∧ l = [(2, .v (.int .i64 y))] ∧ Own Eq H0 [] H1) (by kernel_rfl) ?_ hx ?_ hO ?_
 ·intro s1 H o hO h;clear hx;cbv;refine n_br hE h (fun hc h => ?_) (fun hc h => ?_)
  ·cbv;refine n_idx hE Encs.eGState_eq h fun x3 h => ?_;cbv;refine n_call hE (g := fun r4 => .int .i64 r4) h (fun r4 hx => c63 N x_a x3.Guards r4 hx) (.refl _) fun r4 h => ?_;cbv;refine n_br hE h (fun hc h => ?_) (fun hc h => ?_)
   ·cbv;have h := ret_some h;subst h;exact ⟨_, _, rfl, ⟨rfl, rfl, hO⟩, .e rfl (.z), rfl⟩
   cbv;have h := ret_some h;subst h;exact ⟨_, rfl, .e rfl (.e rfl (.e rfl (.e rfl (.z)))), rfl, hO⟩
  cbv;have h := ret_some h;subst h;exact ⟨_, _, rfl, ⟨rfl, rfl, hO⟩, .e rfl (.z), rfl⟩
 ·exact .e rfl (.e rfl (.e rfl (.e rfl (.z))))
 clear hx
 rcases s2 with y5 | y12
 ·rintro e l H ⟨rfl, rfl, hO⟩;cbv;refine n_ln hE ?_;cbv;obtain ⟨s7, hx, h⟩ := bind_some h;refine n_loopN cf40 hE okP (fun s6 => [(1, .v (.eref [.int .i64 x_a.Vars, .int .i64 x_a.Scopes, .sl (Ar.lst Encs.eGState x_a.States) .ro, .sl (Ar.lst Encs.eGEdge x_a.Edges) .ro] 0)), (6, .v (.int .i64 s6.1)), (62, .v (.sl (Ar.lst Encs.eGEdge x_a.Edges) .ro)), (63, .v (.int .i64 (Ar.len x_a.Edges))), (64, .v (.int .i64 s6.2))]) (fun s6 H1 => Own Eq H0 [] H1) (fun x e l H1 => match (generalizing := false) x with | .inl y => e = .exit 3 ∧ l = [] ∧ Own Eq H0 [] H1 | .inr y => e = .ret ∧ l = [(2, .v (.int .i64 y))] ∧ Own Eq H0 [] H1) (by kernel_rfl) ?_ hx ?_ hO ?_
  ·intro s6 H o hO h;clear hx;cbv;refine n_br hE h (fun hc h => ?_) (fun hc h => ?_)
   ·cbv;refine n_idx hE Encs.eGEdge_eq h fun x8 h => ?_;cbv;refine n_call hE (g := fun r9 => .int .i64 r9) h (fun r9 hx => c64 N x_a x8 s6.1 r9 hx) (.refl _) fun r9 h => ?_;cbv;refine n_br hE h (fun hc h => ?_) (fun hc h => ?_)
    ·cbv;have h := ret_some h;subst h;exact ⟨_, _, rfl, ⟨rfl, rfl, hO⟩, .e rfl (.z), rfl⟩
    cbv;have h := ret_some h;subst h;exact ⟨_, rfl, .e rfl (.e rfl (.e rfl (.e rfl (.e rfl (.z))))), rfl, hO⟩
   cbv;have h := ret_some h;subst h;exact ⟨_, _, rfl, ⟨rfl, rfl, hO⟩, .z, rfl⟩
  ·exact .e rfl (.e rfl (.e rfl (.e rfl (.e rfl (.z)))))
  clear hx
  rcases s7 with y10 | y11
  ·rintro e l H ⟨rfl, rfl, hO⟩;cbv;have h := ret_some h;subst h;exact hK _ _ _ hO (.refl _)
  rintro e l H ⟨rfl, rfl, hO⟩;cbv;have h := ret_some h;subst h;exact hK _ _ _ hO (.refl _)
 rintro e l H ⟨rfl, rfl, hO⟩;cbv;have h := ret_some h;subst h;exact hK _ _ _ hO (.refl _)
end Go.Ab

