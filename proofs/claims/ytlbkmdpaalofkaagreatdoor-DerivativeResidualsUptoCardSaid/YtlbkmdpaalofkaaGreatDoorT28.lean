/- GZCo4 -/
import Derived.Test.YtlbkmdpaalofkaaGreatDoorT27
set_option linter.all false

namespace Go.Ab
open Go.RowKit Go.Proofs
variable [Ar] [Encs]
set_option maxRecDepth 100000
theorem m67_99_100_101_119_122_123 (N : Nat) : ∀ n, K67 N n ∧ K99 N n ∧ K100 N n ∧ K101 N n ∧ K119 N n ∧ K122 N n ∧ K123 N n := by
 intro n
 induction n with
 | zero => exact ⟨(by intro x_p r h; unfold derivative_pairs at h; cases h), (by intro x_p r h; unfold derivative_branches at h; cases h), (by intro x_first x_again r h; unfold derivative_repeated at h; cases h), (by intro x_p r h; unfold derivative_inner at h; cases h), (by intro x_1 r h; unfold derivative_branches_1 at h; cases h), (by intro x_1 x_2 r h; unfold derivative_repeated_1 at h; cases h), (by intro x_1 r h; unfold derivative_inner_1 at h; cases h)⟩
 | succ n ih =>
  obtain ⟨ih67, ih99, ih100, ih101, ih119, ih122, ih123⟩ := ih;exact ⟨k67 N n ih99 ih100 ih101, k99 N n ih119, k100 N n ih122, k101 N n ih123, k119 N n ih67, k122 N n ih67, k123 N n ih67⟩
theorem c67 (N n : Nat) (x_p : GPattern) (r : (List (GEdge × Gderivative_rest))) (h : derivative_pairs N n x_p = some r) : CallQ Tryz.prog 67 [.agg [.int .i64 x_p.Op, .sl (Ar.lst Encs.eGPattern x_p.Args) .ro, .int .i64 x_p.Typ, .int .i64 x_p.Var, .int .i64 x_p.Scope, .int .i64 x_p.Span, .int .i64 x_p.Cond.Op, .sl (Ar.lst Encs.eGExpr x_p.Cond.Args) .ro, .int .i64 x_p.Cond.Var, .int .i64 x_p.Cond.Field, .int .i64 x_p.Cond.Kind, .int .i64 x_p.Cond.Value.Kind, .int .i64 x_p.Cond.Value.Num, .str x_p.Cond.Value.Text]] (fun v => IterV Tryz.prog v (r.map fun (x : (GEdge × Gderivative_rest)) => [.agg [.int .i64 x.1.From, .int .i64 x.1.To, .int .i64 x.1.Var, .int .i64 x.1.Typ, .int .i64 x.1.Cond.Op, .sl (Ar.lst Encs.eGExpr x.1.Cond.Args) .ro, .int .i64 x.1.Cond.Var, .int .i64 x.1.Cond.Field, .int .i64 x.1.Cond.Kind, .int .i64 x.1.Cond.Value.Kind, .int .i64 x.1.Cond.Value.Num, .str x.1.Cond.Value.Text, .sl (Ar.lst (V.int .i64) x.1.Opens) .ro, .sl (Ar.lst (V.int .i64) x.1.Closes) .ro, .sl (Ar.lst Encs.eGExpr x.1.Checks) .ro, .sl (Ar.lst Encs.eGLimit x.1.Limits) .ro, .sl (Ar.lst (V.int .i64) x.1.Inside) .ro], .agg [.bool x.2.done, .int .i64 x.2.p.Op, .sl (Ar.lst Encs.eGPattern x.2.p.Args) .ro, .int .i64 x.2.p.Typ, .int .i64 x.2.p.Var, .int .i64 x.2.p.Scope, .int .i64 x.2.p.Span, .int .i64 x.2.p.Cond.Op, .sl (Ar.lst Encs.eGExpr x.2.p.Cond.Args) .ro, .int .i64 x.2.p.Cond.Var, .int .i64 x.2.p.Cond.Field, .int .i64 x.2.p.Cond.Kind, .int .i64 x.2.p.Cond.Value.Kind, .int .i64 x.2.p.Cond.Value.Num, .str x.2.p.Cond.Value.Text]])) := (m67_99_100_101_119_122_123 N n).1 x_p r h
def cf102 : Cf := ⟨[], [], [], [], [], []⟩
theorem c102 (N : Nat) (x_s : List GEdge) (v_f : V) (x_f : GEdge → Option Bool) (h_f : ∀ y1 q, x_f y1 = some q → CallVP Tryz.prog v_f [.agg [.int .i64 y1.From, .int .i64 y1.To, .int .i64 y1.Var, .int .i64 y1.Typ, .int .i64 y1.Cond.Op, .sl (Ar.lst Encs.eGExpr y1.Cond.Args) .ro, .int .i64 y1.Cond.Var, .int .i64 y1.Cond.Field, .int .i64 y1.Cond.Kind, .int .i64 y1.Cond.Value.Kind, .int .i64 y1.Cond.Value.Num, .str y1.Cond.Value.Text, .sl (Ar.lst (V.int .i64) y1.Opens) .ro, .sl (Ar.lst (V.int .i64) y1.Closes) .ro, .sl (Ar.lst Encs.eGExpr y1.Checks) .ro, .sl (Ar.lst Encs.eGLimit y1.Limits) .ro, .sl (Ar.lst (V.int .i64) y1.Inside) .ro]] (.bool q)) (r : Int) (h : slices_IndexFunc_LEdge_Edge N x_s x_f = some r) : CallP Tryz.prog 102 [.sl (Ar.lst Encs.eGEdge x_s) .ro, v_f] (.int .i64 r) := by
 unfold slices_IndexFunc_LEdge_Edge at h
 refine callP_of_spec cf102 okP Tryz.func102 (by rfl) (by kernel_rfl) Tryz.call102 Tryz.ntmps102 (by rfl) (by rfl) ?_;intro E H0 K hE hK
 have hO : Own Eq H0 [] H0 := .start stable_eq rfl
 cbv;refine n_ln hE ?_;cbv;obtain ⟨s2, hx, h⟩ := bind_some h;refine n_loopN cf102 hE okP (fun s1 => [(0, .v (.sl (Ar.lst Encs.eGEdge x_s) .ro)), (1, .v (v_f)), (7, .v (.int .i64 (Ar.len x_s))), (8, .v (.int .i64 s1))]) (fun s1 H1 => Own Eq H0 [] H1) (fun x e l H1 => match (generalizing := false) x with | .inl y => e = .exit 0 ∧ l = [] ∧ Own Eq H0 [] H1 | .inr y => e = .ret ∧ l = [(4, .v (.int .i64 y))] ∧ Own Eq H0 [] H1) (by kernel_rfl) ?_ hx ?_ hO ?_
 ·intro s1 H o hO h;clear hx;cbv;refine n_br hE h (fun hc h => ?_) (fun hc h => ?_)
  ·cbv;refine n_idx hE Encs.eGEdge_eq h fun x3 h => ?_;cbv;refine n_callF hE (g := fun r4 => .bool r4) h (fun r4 hx => h_f x3 r4 hx) (.refl _) fun r4 h => ?_;cbv;refine n_br hE h (fun hc h => ?_) (fun hc h => ?_)
   ·cbv;have h := ret_some h;subst h;exact ⟨_, _, rfl, ⟨rfl, rfl, hO⟩, .e rfl (.z), rfl⟩
   ·cbv;have h := ret_some h;subst h;exact ⟨_, rfl, .e rfl (.e rfl (.e rfl (.e rfl (.z)))), rfl, hO⟩
  ·cbv;have h := ret_some h;subst h;exact ⟨_, _, rfl, ⟨rfl, rfl, hO⟩, .z, rfl⟩
 ·exact .e rfl (.e rfl (.e rfl (.e rfl (.z))))
 ·clear hx
  rcases s2 with y5 | y6
  ·rintro e l H ⟨rfl, rfl, hO⟩;cbv;have h := ret_some h;subst h;exact hK _ _ _ hO (.refl _)
  ·rintro e l H ⟨rfl, rfl, hO⟩;cbv;have h := ret_some h;subst h;exact hK _ _ _ hO (.refl _)
def cf68 : Cf := ⟨[], [], [], [], [], []⟩
theorem c68 (N : Nat) (x_s : List GEdge) (v_f : V) (x_f : GEdge → Option Bool) (h_f : ∀ y1 q, x_f y1 = some q → CallVP Tryz.prog v_f [.agg [.int .i64 y1.From, .int .i64 y1.To, .int .i64 y1.Var, .int .i64 y1.Typ, .int .i64 y1.Cond.Op, .sl (Ar.lst Encs.eGExpr y1.Cond.Args) .ro, .int .i64 y1.Cond.Var, .int .i64 y1.Cond.Field, .int .i64 y1.Cond.Kind, .int .i64 y1.Cond.Value.Kind, .int .i64 y1.Cond.Value.Num, .str y1.Cond.Value.Text, .sl (Ar.lst (V.int .i64) y1.Opens) .ro, .sl (Ar.lst (V.int .i64) y1.Closes) .ro, .sl (Ar.lst Encs.eGExpr y1.Checks) .ro, .sl (Ar.lst Encs.eGLimit y1.Limits) .ro, .sl (Ar.lst (V.int .i64) y1.Inside) .ro]] (.bool q)) (r : Bool) (h : slices_ContainsFunc_LEdge_Edge N x_s x_f = some r) : CallP Tryz.prog 68 [.sl (Ar.lst Encs.eGEdge x_s) .ro, v_f] (.bool r) := by
 unfold slices_ContainsFunc_LEdge_Edge at h
 refine callP_of_spec cf68 okP Tryz.func68 (by rfl) (by kernel_rfl) Tryz.call68 Tryz.ntmps68 (by rfl) (by rfl) ?_;intro E H0 K hE hK
 have hO : Own Eq H0 [] H0 := .start stable_eq rfl
 cbv;refine n_call hE (g := fun r1 => .int .i64 r1) h (fun r1 hx => c102 N x_s v_f x_f h_f r1 hx) (.refl _) fun r1 h => ?_;cbv;have h := ret_some h;subst h;exact hK _ _ _ hO (.refl _)
def cf26 : Cf := ⟨[], [(6, 8)], [], [], [], []⟩
theorem c26 (N : Nat) (x_s1 : List Int) (x_s2 : List Int) (r : Bool) (h : slices_Equal_Lint_int N x_s1 x_s2 = some r) : CallP Tryz.prog 26 [.sl (Ar.lst (V.int .i64) x_s1) .ro, .sl (Ar.lst (V.int .i64) x_s2) .ro] (.bool r) := by
 unfold slices_Equal_Lint_int at h
 refine callP_of_spec cf26 okP Tryz.func26 (by rfl) (by kernel_rfl) Tryz.call26 Tryz.ntmps26 (by rfl) (by rfl) ?_;intro E H0 K hE hK
 have hO : Own Eq H0 [] H0 := .start stable_eq rfl
 cbv;refine n_ln hE ?_;cbv;refine n_ln hE ?_;cbv;refine n_br hE h (fun hc h => ?_) (fun hc h => ?_)
 ·cbv;have h := ret_some h;subst h;exact hK _ _ _ hO (.refl _)
 ·cbv;refine n_ln hE ?_;cbv;obtain ⟨s2, hx, h⟩ := bind_some h;refine n_loopN cf26 hE okP (fun s1 => [(0, .v (.sl (Ar.lst (V.int .i64) x_s1) .ro)), (1, .v (.sl (Ar.lst (V.int .i64) x_s2) .ro)), (12, .v (.int .i64 (Ar.len x_s1))), (13, .v (.int .i64 s1))]) (fun s1 H1 => Own Eq H0 [] H1) (fun x e l H1 => match (generalizing := false) x with | .inl y => e = .exit 0 ∧ l = [] ∧ Own Eq H0 [] H1 | .inr y => e = .ret ∧ l = [(4, .b false)] ∧ Own Eq H0 [] H1) (by kernel_rfl) ?_ hx ?_ hO ?_
  ·intro s1 H o hO h;clear hx;cbv;refine n_br hE h (fun hc h => ?_) (fun hc h => ?_)
   ·cbv;refine n_idx hE (fun _ => rfl) h fun x3 h => ?_;cbv;refine n_idx hE (fun _ => rfl) h fun x4 h => ?_;cbv;refine n_br hE h (fun hc h => ?_) (fun hc h => ?_)
    ·cbv;have h := ret_some h;subst h;exact ⟨_, _, rfl, ⟨rfl, rfl, hO⟩, .b rfl (.z), rfl⟩
    ·cbv;have h := ret_some h;subst h;exact ⟨_, rfl, .e rfl (.e rfl (.e rfl (.e rfl (.z)))), rfl, hO⟩
   ·cbv;have h := ret_some h;subst h;exact ⟨_, _, rfl, ⟨rfl, rfl, hO⟩, .z, rfl⟩
  ·exact .e rfl (.e rfl (.e rfl (.e rfl (.z))))
  ·clear hx
   rcases s2 with y5 | y6
   ·rintro e l H ⟨rfl, rfl, hO⟩;cbv;have h := ret_some h;subst h;exact hK _ _ _ hO (.refl _)
   ·rintro e l H ⟨rfl, rfl, hO⟩;cbv;have h := ret_some h;subst h;exact hK _ _ _ hO (.refl _)
def cf38 : Cf := ⟨[], [(6, 8)], [], [], [], []⟩
theorem c38 (N : Nat) (x_s1 : List GLimit) (x_s2 : List GLimit) (r : Bool) (h : slices_Equal_LLimit_Limit N x_s1 x_s2 = some r) : CallP Tryz.prog 38 [.sl (Ar.lst Encs.eGLimit x_s1) .ro, .sl (Ar.lst Encs.eGLimit x_s2) .ro] (.bool r) := by
 unfold slices_Equal_LLimit_Limit at h
 refine callP_of_spec cf38 okP Tryz.func38 (by rfl) (by kernel_rfl) Tryz.call38 Tryz.ntmps38 (by rfl) (by rfl) ?_;intro E H0 K hE hK
 have hO : Own Eq H0 [] H0 := .start stable_eq rfl
 cbv;refine n_ln hE ?_;cbv;refine n_ln hE ?_;cbv;refine n_br hE h (fun hc h => ?_) (fun hc h => ?_)
 ·cbv;have h := ret_some h;subst h;exact hK _ _ _ hO (.refl _)
 ·cbv;refine n_ln hE ?_;cbv;obtain ⟨s2, hx, h⟩ := bind_some h;refine n_loopN cf38 hE okP (fun s1 => [(0, .v (.sl (Ar.lst Encs.eGLimit x_s1) .ro)), (1, .v (.sl (Ar.lst Encs.eGLimit x_s2) .ro)), (12, .v (.int .i64 (Ar.len x_s1))), (13, .v (.int .i64 s1))]) (fun s1 H1 => Own Eq H0 [] H1) (fun x e l H1 => match (generalizing := false) x with | .inl y => e = .exit 0 ∧ l = [] ∧ Own Eq H0 [] H1 | .inr y => e = .ret ∧ l = [(4, .b false)] ∧ Own Eq H0 [] H1) (by kernel_rfl) ?_ hx ?_ hO ?_
  ·intro s1 H o hO h;clear hx;cbv;refine n_br hE h (fun hc h => ?_) (fun hc h => ?_)
   ·cbv;refine n_idx hE Encs.eGLimit_eq h fun x3 h => ?_;cbv;refine n_idx hE Encs.eGLimit_eq h fun x4 h => ?_;cbv;refine n_br hE h (fun hc h => ?_) (fun hc h => ?_)
    ·cbv;have h := ret_some h;subst h;exact ⟨_, _, rfl, ⟨rfl, rfl, hO⟩, .b rfl (.z), rfl⟩
    ·cbv;have h := ret_some h;subst h;exact ⟨_, rfl, .e rfl (.e rfl (.e rfl (.e rfl (.z)))), rfl, hO⟩
   ·cbv;have h := ret_some h;subst h;exact ⟨_, _, rfl, ⟨rfl, rfl, hO⟩, .z, rfl⟩
  ·exact .e rfl (.e rfl (.e rfl (.e rfl (.z))))
  ·clear hx
   rcases s2 with y5 | y6
   ·rintro e l H ⟨rfl, rfl, hO⟩;cbv;have h := ret_some h;subst h;exact hK _ _ _ hO (.refl _)
   ·rintro e l H ⟨rfl, rfl, hO⟩;cbv;have h := ret_some h;subst h;exact hK _ _ _ hO (.refl _)
def cf103 : Cf := ⟨[8], [], [], [], [], []⟩
theorem c103 (N : Nat) (x_s1 : List GExpr) (x_s2 : List GExpr) (v_eq : V) (x_eq : GExpr → GExpr → Option Bool) (h_eq : ∀ y1 y2 q, x_eq y1 y2 = some q → CallVP Tryz.prog v_eq [.agg [.int .i64 y1.Op, .sl (Ar.lst Encs.eGExpr y1.Args) .ro, .int .i64 y1.Var, .int .i64 y1.Field, .int .i64 y1.Kind, .int .i64 y1.Value.Kind, .int .i64 y1.Value.Num, .str y1.Value.Text], .agg [.int .i64 y2.Op, .sl (Ar.lst Encs.eGExpr y2.Args) .ro, .int .i64 y2.Var, .int .i64 y2.Field, .int .i64 y2.Kind, .int .i64 y2.Value.Kind, .int .i64 y2.Value.Num, .str y2.Value.Text]] (.bool q)) (r : Bool) (h : slices_EqualFunc_LExpr_LExpr_Expr_Expr N x_s1 x_s2 x_eq = some r) : CallP Tryz.prog 103 [.sl (Ar.lst Encs.eGExpr x_s1) .ro, .sl (Ar.lst Encs.eGExpr x_s2) .ro, v_eq] (.bool r) := by
 unfold slices_EqualFunc_LExpr_LExpr_Expr_Expr at h
 refine callP_of_spec cf103 okP Tryz.func103 (by rfl) (by kernel_rfl) Tryz.call103 Tryz.ntmps103 (by rfl) (by rfl) ?_;intro E H0 K hE hK
 have hO : Own Eq H0 [] H0 := .start stable_eq rfl
 cbv;refine n_ln hE ?_;cbv;refine n_ln hE ?_;cbv;refine n_br hE h (fun hc h => ?_) (fun hc h => ?_)
 ·cbv;have h := ret_some h;subst h;exact hK _ _ _ hO (.refl _)
 ·cbv;refine n_ln hE ?_;cbv;obtain ⟨s2, hx, h⟩ := bind_some h;refine n_loopN cf103 hE okP (fun s1 => [(1, .v (.sl (Ar.lst Encs.eGExpr x_s2) .ro)), (2, .v (v_eq)), (15, .v (.sl (Ar.lst Encs.eGExpr x_s1) .ro)), (16, .v (.int .i64 (Ar.len x_s1))), (17, .v (.int .i64 s1))]) (fun s1 H1 => Own Eq H0 [] H1) (fun x e l H1 => match (generalizing := false) x with | .inl y => e = .exit 0 ∧ l = [] ∧ Own Eq H0 [] H1 | .inr y => e = .ret ∧ l = [(6, .b false)] ∧ Own Eq H0 [] H1) (by kernel_rfl) ?_ hx ?_ hO ?_
  ·intro s1 H o hO h;clear hx;cbv;refine n_br hE h (fun hc h => ?_) (fun hc h => ?_)
   ·cbv;refine n_idx hE Encs.eGExpr_eq h fun x3 h => ?_;cbv;refine n_alloc hE hO fun b4 H hO => ?_;cbv;refine n_store hE hO 0 rfl rfl fun H hO => ?_;cbv;refine n_idx hE Encs.eGExpr_eq h fun x5 h => ?_;cbv;refine n_load hE hO 0 rfl ?_;cbv;refine n_callF hE (g := fun r6 => .bool r6) h (fun r6 hx => h_eq x3 x5 r6 hx) (.refl _) fun r6 h => ?_;cbv;refine n_br hE h (fun hc h => ?_) (fun hc h => ?_)
    ·cbv;have h := ret_some h;subst h;exact ⟨_, _, rfl, ⟨rfl, rfl, hO.tail⟩, .b rfl (.z), rfl⟩
    ·cbv;have h := ret_some h;subst h;exact ⟨_, rfl, .e rfl (.e rfl (.e rfl (.e rfl (.e rfl (.z))))), rfl, hO.tail⟩
   ·cbv;have h := ret_some h;subst h;exact ⟨_, _, rfl, ⟨rfl, rfl, hO⟩, .z, rfl⟩
  ·exact .e rfl (.e rfl (.e rfl (.e rfl (.e rfl (.z)))))
  ·clear hx
   rcases s2 with y7 | y8
   ·rintro e l H ⟨rfl, rfl, hO⟩;cbv;have h := ret_some h;subst h;exact hK _ _ _ hO (.refl _)
   ·rintro e l H ⟨rfl, rfl, hO⟩;cbv;have h := ret_some h;subst h;exact hK _ _ _ hO (.refl _)
def cf70 : Cf := ⟨[], [], [], [], [], []⟩
theorem c70 (N : Nat) (x_a : GEdge) (x_b : GEdge) (r : Bool) (h : derivative_sameEdge N x_a x_b = some r) : CallP Tryz.prog 70 [.agg [.int .i64 x_a.From, .int .i64 x_a.To, .int .i64 x_a.Var, .int .i64 x_a.Typ, .int .i64 x_a.Cond.Op, .sl (Ar.lst Encs.eGExpr x_a.Cond.Args) .ro, .int .i64 x_a.Cond.Var, .int .i64 x_a.Cond.Field, .int .i64 x_a.Cond.Kind, .int .i64 x_a.Cond.Value.Kind, .int .i64 x_a.Cond.Value.Num, .str x_a.Cond.Value.Text, .sl (Ar.lst (V.int .i64) x_a.Opens) .ro, .sl (Ar.lst (V.int .i64) x_a.Closes) .ro, .sl (Ar.lst Encs.eGExpr x_a.Checks) .ro, .sl (Ar.lst Encs.eGLimit x_a.Limits) .ro, .sl (Ar.lst (V.int .i64) x_a.Inside) .ro], .agg [.int .i64 x_b.From, .int .i64 x_b.To, .int .i64 x_b.Var, .int .i64 x_b.Typ, .int .i64 x_b.Cond.Op, .sl (Ar.lst Encs.eGExpr x_b.Cond.Args) .ro, .int .i64 x_b.Cond.Var, .int .i64 x_b.Cond.Field, .int .i64 x_b.Cond.Kind, .int .i64 x_b.Cond.Value.Kind, .int .i64 x_b.Cond.Value.Num, .str x_b.Cond.Value.Text, .sl (Ar.lst (V.int .i64) x_b.Opens) .ro, .sl (Ar.lst (V.int .i64) x_b.Closes) .ro, .sl (Ar.lst Encs.eGExpr x_b.Checks) .ro, .sl (Ar.lst Encs.eGLimit x_b.Limits) .ro, .sl (Ar.lst (V.int .i64) x_b.Inside) .ro]] (.bool r) := by
 unfold derivative_sameEdge at h
 refine callP_of_spec cf70 okP Tryz.func70 (by rfl) (by kernel_rfl) Tryz.call70 Tryz.ntmps70 (by rfl) (by rfl) ?_;intro E H0 K hE hK
 have hO : Own Eq H0 [] H0 := .start stable_eq rfl
 cbv;refine n_br hE h (fun hc h => ?_) (fun hc h => ?_)
 ·cbv;refine n_call hE (g := fun r1 => .bool r1) h (fun r1 hx => c96 N N x_a.Cond x_b.Cond r1 hx) (.refl _) fun r1 h => ?_;cbv;refine n_br hE h (fun hc h => ?_) (fun hc h => ?_)
  ·cbv;refine n_call hE (g := fun r2 => .bool r2) h (fun r2 hx => c26 N x_a.Opens x_b.Opens r2 hx) (.refl _) fun r2 h => ?_;cbv;refine n_br hE h (fun hc h => ?_) (fun hc h => ?_)
   ·cbv;refine n_call hE (g := fun r3 => .bool r3) h (fun r3 hx => c26 N x_a.Closes x_b.Closes r3 hx) (.refl _) fun r3 h => ?_;cbv;refine n_br hE h (fun hc h => ?_) (fun hc h => ?_)
    ·cbv;refine n_call hE (g := fun r4 => .bool r4) h (fun r4 hx => c103 N x_a.Checks x_b.Checks (.func (.func 96) [] []) (fun y1 y2 => expr_Same N N y1 y2) (fun y1 y2 r hx => CallP.value (F := []) (C := []) (c96 N N y1 y2 r hx)) r4 hx) (.refl _) fun r4 h => ?_;cbv;refine n_br hE h (fun hc h => ?_) (fun hc h => ?_)
     ·cbv;refine n_call hE (g := fun r5 => .bool r5) h (fun r5 hx => c38 N x_a.Limits x_b.Limits r5 hx) (.refl _) fun r5 h => ?_;cbv;refine n_br hE h (fun hc h => ?_) (fun hc h => ?_)
      ·cbv;refine n_call hE (g := fun r6 => .bool r6) h (fun r6 hx => c26 N x_a.Inside x_b.Inside r6 hx) (.refl _) fun r6 h => ?_;cbv;have h := ret_some h;subst h;exact hK _ _ _ hO (.refl _)
      ·cbv;have h := ret_some h;subst h;exact hK _ _ _ hO (.refl _)
     ·cbv;have h := ret_some h;subst h;exact hK _ _ _ hO (.refl _)
    ·cbv;have h := ret_some h;subst h;exact hK _ _ _ hO (.refl _)
   ·cbv;have h := ret_some h;subst h;exact hK _ _ _ hO (.refl _)
  ·cbv;have h := ret_some h;subst h;exact hK _ _ _ hO (.refl _)
 ·cbv;have h := ret_some h;subst h;exact hK _ _ _ hO (.refl _)
def cf69 : Cf := ⟨[], [], [], [], [], []⟩
theorem c69 (N : Nat) (x_y : GEdge) (x_1 : GEdge) (r : Bool) (h : derivative_derived_1 N x_y x_1 = some r) : CallP Tryz.prog 69 [.agg [.int .i64 x_y.From, .int .i64 x_y.To, .int .i64 x_y.Var, .int .i64 x_y.Typ, .int .i64 x_y.Cond.Op, .sl (Ar.lst Encs.eGExpr x_y.Cond.Args) .ro, .int .i64 x_y.Cond.Var, .int .i64 x_y.Cond.Field, .int .i64 x_y.Cond.Kind, .int .i64 x_y.Cond.Value.Kind, .int .i64 x_y.Cond.Value.Num, .str x_y.Cond.Value.Text, .sl (Ar.lst (V.int .i64) x_y.Opens) .ro, .sl (Ar.lst (V.int .i64) x_y.Closes) .ro, .sl (Ar.lst Encs.eGExpr x_y.Checks) .ro, .sl (Ar.lst Encs.eGLimit x_y.Limits) .ro, .sl (Ar.lst (V.int .i64) x_y.Inside) .ro], .eref [.int .i64 x_1.From, .int .i64 x_1.To, .int .i64 x_1.Var, .int .i64 x_1.Typ, .int .i64 x_1.Cond.Op, .sl (Ar.lst Encs.eGExpr x_1.Cond.Args) .ro, .int .i64 x_1.Cond.Var, .int .i64 x_1.Cond.Field, .int .i64 x_1.Cond.Kind, .int .i64 x_1.Cond.Value.Kind, .int .i64 x_1.Cond.Value.Num, .str x_1.Cond.Value.Text, .sl (Ar.lst (V.int .i64) x_1.Opens) .ro, .sl (Ar.lst (V.int .i64) x_1.Closes) .ro, .sl (Ar.lst Encs.eGExpr x_1.Checks) .ro, .sl (Ar.lst Encs.eGLimit x_1.Limits) .ro, .sl (Ar.lst (V.int .i64) x_1.Inside) .ro] 0] (.bool r) := by
 unfold derivative_derived_1 at h
 refine callP_of_spec cf69 okP Tryz.func69 (by rfl) (by kernel_rfl) Tryz.call69 Tryz.ntmps69 (by rfl) (by rfl) ?_;intro E H0 K hE hK
 have hO : Own Eq H0 [] H0 := .start stable_eq rfl
 cbv;refine n_br hE h (fun hc h => ?_) (fun hc h => ?_)
 ·cbv;refine n_call hE (g := fun r1 => .bool r1) h (fun r1 hx => c70 N x_1 x_y r1 hx) (.refl _) fun r1 h => ?_;cbv;have h := ret_some h;subst h;exact hK _ _ _ hO (.refl _)
 ·cbv;have h := ret_some h;subst h;exact hK _ _ _ hO (.refl _)
def cf40 : Cf := ⟨[2, 3, 4, 5, 6, 7], [(13, 5), (18, 3)], [(16, 9)], [1000013], [(40, 7)], [(18, 2, [2])]⟩
theorem c40 (N : Nat) (x_p : GPattern) (r : ((List GEdge) × (List GPattern) × Int)) (h : derivative_derived N x_p = some r) : CallP Tryz.prog 40 [.agg [.int .i64 x_p.Op, .sl (Ar.lst Encs.eGPattern x_p.Args) .ro, .int .i64 x_p.Typ, .int .i64 x_p.Var, .int .i64 x_p.Scope, .int .i64 x_p.Span, .int .i64 x_p.Cond.Op, .sl (Ar.lst Encs.eGExpr x_p.Cond.Args) .ro, .int .i64 x_p.Cond.Var, .int .i64 x_p.Cond.Field, .int .i64 x_p.Cond.Kind, .int .i64 x_p.Cond.Value.Kind, .int .i64 x_p.Cond.Value.Num, .str x_p.Cond.Value.Text]] (.tup [.sl (Ar.lst Encs.eGEdge r.1) .ro, .sl (Ar.lst Encs.eGPattern r.2.1) .ro, .int .i64 r.2.2]) := by
 unfold derivative_derived at h
 refine callP_of_spec cf40 okP Tryz.func40 (by rfl) (by kernel_rfl) Tryz.call40 Tryz.ntmps40 (by rfl) (by rfl) ?_;intro E H0 K hE hK
 have hO : Own Eq H0 [] H0 := .start stable_eq rfl
 cbv;refine n_alloc hE hO fun b1 H hO => ?_;cbv;refine n_alloc hE hO fun b2 H hO => ?_;cbv;refine n_alloc hE hO fun b3 H hO => ?_;cbv;refine n_alloc hE hO fun b4 H hO => ?_;cbv;refine n_alloc hE hO fun b5 H hO => ?_;cbv;refine n_callQ hE h (fun r6 hx => c67 N N x_p r6 hx) (.refl _) fun r6 v7 hv7 h => ?_;cbv;replace hO := hO.tl0 (t := .nil) rfl;replace hO := hO.tl0 (t := .nil) rfl;obtain ⟨o14, hx, h⟩ := bind_some h;replace hO := hO.cast (L' := [.tl .nil, .tl .nil, .blk b5 (.cells [.sl (Ar.lst Encs.eGPattern ([])) .nil]), .blk b4 (.cells [.sl (Ar.lst Encs.eGEdge ([])) .nil]), .blk b3 (.cells [.int .i64 0]), .blk b2 (.cells [.sl [] .nil]), .blk b1 (.cells [.sl [] .nil])]) (by simp only [← lst_nil]);refine n_range cf40 hE okP (ι := Nat) (enc := fun (x : (GEdge × Gderivative_rest)) => [.agg [.int .i64 x.1.From, .int .i64 x.1.To, .int .i64 x.1.Var, .int .i64 x.1.Typ, .int .i64 x.1.Cond.Op, .sl (Ar.lst Encs.eGExpr x.1.Cond.Args) .ro, .int .i64 x.1.Cond.Var, .int .i64 x.1.Cond.Field, .int .i64 x.1.Cond.Kind, .int .i64 x.1.Cond.Value.Kind, .int .i64 x.1.Cond.Value.Num, .str x.1.Cond.Value.Text, .sl (Ar.lst (V.int .i64) x.1.Opens) .ro, .sl (Ar.lst (V.int .i64) x.1.Closes) .ro, .sl (Ar.lst Encs.eGExpr x.1.Checks) .ro, .sl (Ar.lst Encs.eGLimit x.1.Limits) .ro, .sl (Ar.lst (V.int .i64) x.1.Inside) .ro], .agg [.bool x.2.done, .int .i64 x.2.p.Op, .sl (Ar.lst Encs.eGPattern x.2.p.Args) .ro, .int .i64 x.2.p.Typ, .int .i64 x.2.p.Var, .int .i64 x.2.p.Scope, .int .i64 x.2.p.Span, .int .i64 x.2.p.Cond.Op, .sl (Ar.lst Encs.eGExpr x.2.p.Cond.Args) .ro, .int .i64 x.2.p.Cond.Var, .int .i64 x.2.p.Cond.Field, .int .i64 x.2.p.Cond.Kind, .int .i64 x.2.p.Cond.Value.Kind, .int .i64 x.2.p.Cond.Value.Num, .str x.2.p.Cond.Value.Text]]) (fun (s9 : (List GPattern) × (List GEdge)) F H => ∃ g : Tail × Tail, (Appn g.1 ∧ Appn g.2) ∧ Own Eq F [.tl g.1, .tl g.2, .blk b5 (.cells [.sl (Ar.lst Encs.eGPattern s9.1) g.2]), .blk b4 (.cells [.sl (Ar.lst Encs.eGEdge s9.2) g.1]), .blk b3 (.cells [.int .i64 0]), .blk b2 (.cells [.sl [] .nil]), .blk b1 (.cells [.sl [] .nil])] H) (fun (r : ((List GPattern) × (List GEdge) × Int)) e F H => ∃ g : Tail × Tail, (e = .ret ∧ Appn g.1 ∧ Appn g.2) ∧ Own Eq F [.tl g.1, .tl g.2, .blk b5 (.cells [.sl (Ar.lst Encs.eGPattern r.1) g.2]), .blk b4 (.cells [.sl (Ar.lst Encs.eGEdge r.2.1) g.1]), .blk b3 (.cells [.int .i64 r.2.2]), .blk b2 (.cells [.sl [] .nil]), .blk b1 (.cells [.sl [] .nil])] H) (fun i s9 y8 => [(2, .v (.ref b1 0)), (3, .v (.ref b2 0)), (4, .v (.ref b3 0)), (5, .v (.ref b4 0)), (6, .v (.ref b5 0)), (7, .v (.ref i 0)), (8, .v (.eref [.bool y8.2.done, .int .i64 y8.2.p.Op, .sl (Ar.lst Encs.eGPattern y8.2.p.Args) .ro, .int .i64 y8.2.p.Typ, .int .i64 y8.2.p.Var, .int .i64 y8.2.p.Scope, .int .i64 y8.2.p.Span, .int .i64 y8.2.p.Cond.Op, .sl (Ar.lst Encs.eGExpr y8.2.p.Cond.Args) .ro, .int .i64 y8.2.p.Cond.Var, .int .i64 y8.2.p.Cond.Field, .int .i64 y8.2.p.Cond.Kind, .int .i64 y8.2.p.Cond.Value.Kind, .int .i64 y8.2.p.Cond.Value.Num, .str y8.2.p.Cond.Value.Text] 0))]) (fun i s9 y8 F H => ∃ g : Tail × Tail, (Appn g.1 ∧ Appn g.2) ∧ Own Eq F [.blk i (.cells [.int .i64 y8.1.From, .int .i64 y8.1.To, .int .i64 y8.1.Var, .int .i64 y8.1.Typ, .int .i64 y8.1.Cond.Op, .sl (Ar.lst Encs.eGExpr y8.1.Cond.Args) .ro, .int .i64 y8.1.Cond.Var, .int .i64 y8.1.Cond.Field, .int .i64 y8.1.Cond.Kind, .int .i64 y8.1.Cond.Value.Kind, .int .i64 y8.1.Cond.Value.Num, .str y8.1.Cond.Value.Text, .sl (Ar.lst (V.int .i64) y8.1.Opens) .ro, .sl (Ar.lst (V.int .i64) y8.1.Closes) .ro, .sl (Ar.lst Encs.eGExpr y8.1.Checks) .ro, .sl (Ar.lst Encs.eGLimit y8.1.Limits) .ro, .sl (Ar.lst (V.int .i64) y8.1.Inside) .ro]), .tl g.1, .tl g.2, .blk b5 (.cells [.sl (Ar.lst Encs.eGPattern s9.1) g.2]), .blk b4 (.cells [.sl (Ar.lst Encs.eGEdge s9.2) g.1]), .blk b3 (.cells [.int .i64 0]), .blk b2 (.cells [.sl [] .nil]), .blk b1 (.cells [.sl [] .nil])] H) (fun _ => Stable.ex fun _ => Own.stable stable_eq _) (fun _ _ => Stable.ex fun _ => Own.stable stable_eq _) (fun _ _ _ => Stable.ex fun _ => Own.stable stable_eq _) hv7 hx (⟨⟨.nil, .nil⟩, ⟨trivial, trivial⟩, hO⟩) (by decide) (fun _ => rfl) (by kernel_rfl) (by kernel_rfl) ?_ ?_ ?_ ?_
 ·rintro E i11 y8 s9 F10 H hE ⟨⟨t12, t13⟩, ⟨ht12, ht13⟩, hO⟩;clear hx h;cbv;refine n_alloc hE hO fun b15 H hO => ?_;cbv;refine n_store hE hO 0 rfl rfl fun H hO => ?_;cbv;exact ⟨b15, ⟨⟨t12, t13⟩, ⟨ht12, ht13⟩, hO⟩, .e rfl (.e rfl (.e rfl (.e rfl (.e rfl (.e rfl (.e rfl (.z))))))), rfl⟩
 ·rintro E i11 b15 y8 s9 F10 H o hE hF h ⟨⟨t12, t13⟩, ⟨ht12, ht13⟩, hO⟩;clear hx;cbv;refine n_store hE hO 0 rfl rfl fun H hO => ?_;cbv;obtain ⟨s16, hx, h⟩ := bind_some h;refine n_join cf40 hE okP (fun e l H1 => match (generalizing := false) s16 with | .inl y => ∃ u1 : Tail, Appn u1 ∧ e = .normal ∧ l = [(2, .v (.ref b1 0)), (3, .v (.ref b2 0)), (4, .v (.ref b3 0)), (5, .v (.ref b4 0)), (7, .v (.ref b15 0))] ∧ Own Eq F10 [.blk b15 (.cells [.int .i64 y.1.From, .int .i64 y.1.To, .int .i64 y.1.Var, .int .i64 y.1.Typ, .int .i64 y.1.Cond.Op, .sl (Ar.lst Encs.eGExpr y.1.Cond.Args) .ro, .int .i64 y.1.Cond.Var, .int .i64 y.1.Cond.Field, .int .i64 y.1.Cond.Kind, .int .i64 y.1.Cond.Value.Kind, .int .i64 y.1.Cond.Value.Num, .str y.1.Cond.Value.Text, .sl (Ar.lst (V.int .i64) y.1.Opens) .ro, .sl (Ar.lst (V.int .i64) y.1.Closes) .ro, .sl (Ar.lst Encs.eGExpr y.1.Checks) .ro, .sl (Ar.lst Encs.eGLimit y.1.Limits) .ro, .sl (Ar.lst (V.int .i64) y.1.Inside) .ro]), .tl t12, .tl u1, .blk b5 (.cells [.sl (Ar.lst Encs.eGPattern y.2) u1]), .blk b4 (.cells [.sl (Ar.lst Encs.eGEdge s9.2) t12]), .blk b3 (.cells [.int .i64 0]), .blk b2 (.cells [.sl [] .nil]), .blk b1 (.cells [.sl [] .nil])] H1 | .inr y => e = .ret ∧ l = [(2, .v (.ref b1 0)), (3, .v (.ref b2 0)), (4, .v (.ref b3 0))] ∧ Own Eq F10 [.blk b15 (.cells [.int .i64 y.1.From, .int .i64 y.1.To, .int .i64 y.1.Var, .int .i64 y.1.Typ, .int .i64 y.1.Cond.Op, .sl (Ar.lst Encs.eGExpr y.1.Cond.Args) .ro, .int .i64 y.1.Cond.Var, .int .i64 y.1.Cond.Field, .int .i64 y.1.Cond.Kind, .int .i64 y.1.Cond.Value.Kind, .int .i64 y.1.Cond.Value.Num, .str y.1.Cond.Value.Text, .sl (Ar.lst (V.int .i64) y.1.Opens) .ro, .sl (Ar.lst (V.int .i64) y.1.Closes) .ro, .sl (Ar.lst Encs.eGExpr y.1.Checks) .ro, .sl (Ar.lst Encs.eGLimit y.1.Limits) .ro, .sl (Ar.lst (V.int .i64) y.1.Inside) .ro]), .tl t12, .tl t13, .blk b5 (.cells [.sl (Ar.lst Encs.eGPattern s9.1) t13]), .blk b4 (.cells [.sl (Ar.lst Encs.eGEdge s9.2) t12]), .blk b3 (.cells [.int .i64 y.2]), .blk b2 (.cells [.sl [] .nil]), .blk b1 (.cells [.sl [] .nil])] H1) (by kernel_rfl) ?_ ?_
  ·clear h;have h := hx;clear hx;cbv;refine n_br hE h (fun hc h => ?_) (fun hc h => ?_)
   ·cbv;refine n_load hE hO 3 rfl ?_;cbv;refine n_call hE (g := fun r17 => .int .i64 r17) h (fun r17 hx => c45 N s9.1 y8.2.p r17 hx) (.cons (.ro _ _) (.refl _)) fun r17 h => ?_;cbv;refine n_store hE hO 0 rfl rfl fun H hO => ?_;cbv;refine n_load hE hO 0 rfl ?_;cbv;refine n_br hE h (fun hc h => ?_) (fun hc h => ?_)
    ·cbv;refine n_call hE (g := fun r18 => .int .i64 r18) h (fun r18 hx => c39 N y8.2.p r18 hx) (.refl _) fun r18 h => ?_;cbv;refine n_br hE h (fun hc h => ?_) (fun hc h => ?_)
     ·cbv;refine n_store hE hO 7 rfl rfl fun H hO => ?_;cbv;refine n_store hE hO 6 rfl rfl fun H hO => ?_;cbv;refine n_store hE hO 5 rfl rfl fun H hO => ?_;cbv;have h := ret_some h;subst h;exact ⟨_, ⟨rfl, rfl, hO⟩, .e rfl (.e rfl (.e rfl (.z))), rfl⟩
     ·cbv;refine n_load hE hO 3 rfl ?_;cbv;refine n_ln hE ?_;cbv;refine n_store hE hO 0 rfl rfl fun H hO => ?_;cbv;refine n_load hE hO 3 rfl ?_;cbv;refine n_ln hE ?_;cbv;refine n_need hE (by first | exact len_lst _ | exact len_lst' _ | trivial | rfl) ?_;cbv;refine n_appn (f := Encs.eGPattern) hE sz_GPattern (by decide) hO 2 rfl ht13 (l := s9.1) (m := [y8.2.p]) (.refl _) (.lstc (.eq (Encs.eGPattern_eq y8.2.p) (.refl _)) (.lst0)) h fun l20 t19 H hO ht19 h => ?_;cbv;refine n_store hE hO 3 rfl rfl fun H hO => ?_;cbv;have h := ret_some h;subst h;exact ⟨_, ⟨t19, ht19, rfl, rfl, hO⟩, .e rfl (.e rfl (.e rfl (.e rfl (.e rfl (.z))))), rfl⟩
    ·cbv;have h := ret_some h;subst h;exact ⟨_, ⟨t13, ht13, rfl, rfl, hO⟩, .e rfl (.e rfl (.e rfl (.e rfl (.e rfl (.z))))), rfl⟩
   ·cbv;have h := ret_some h;subst h;exact ⟨_, ⟨t13, ht13, rfl, rfl, hO⟩, .e rfl (.e rfl (.e rfl (.e rfl (.e rfl (.z))))), rfl⟩
  ·clear hx
   rcases s16 with y21 | y26
   ·rintro e l H ⟨t22, ht22, rfl, rfl, hO⟩;cbv;refine n_load hE hO 4 rfl ?_;cbv;refine n_frz hE hO 0 rfl fun H hO => ?_;cbv;refine n_call hE (g := fun r23 => .bool r23) h (fun r23 hx => c68 N s9.2 (.func (.func 69) [] [.eref [.int .i64 y21.1.From, .int .i64 y21.1.To, .int .i64 y21.1.Var, .int .i64 y21.1.Typ, .int .i64 y21.1.Cond.Op, .sl (Ar.lst Encs.eGExpr y21.1.Cond.Args) .ro, .int .i64 y21.1.Cond.Var, .int .i64 y21.1.Cond.Field, .int .i64 y21.1.Cond.Kind, .int .i64 y21.1.Cond.Value.Kind, .int .i64 y21.1.Cond.Value.Num, .str y21.1.Cond.Value.Text, .sl (Ar.lst (V.int .i64) y21.1.Opens) .ro, .sl (Ar.lst (V.int .i64) y21.1.Closes) .ro, .sl (Ar.lst Encs.eGExpr y21.1.Checks) .ro, .sl (Ar.lst Encs.eGLimit y21.1.Limits) .ro, .sl (Ar.lst (V.int .i64) y21.1.Inside) .ro] 0]) (fun y1 => derivative_derived_1 N y1 y21.1) (fun y1 r hx => CallP.value (F := []) (C := [.eref [.int .i64 y21.1.From, .int .i64 y21.1.To, .int .i64 y21.1.Var, .int .i64 y21.1.Typ, .int .i64 y21.1.Cond.Op, .sl (Ar.lst Encs.eGExpr y21.1.Cond.Args) .ro, .int .i64 y21.1.Cond.Var, .int .i64 y21.1.Cond.Field, .int .i64 y21.1.Cond.Kind, .int .i64 y21.1.Cond.Value.Kind, .int .i64 y21.1.Cond.Value.Num, .str y21.1.Cond.Value.Text, .sl (Ar.lst (V.int .i64) y21.1.Opens) .ro, .sl (Ar.lst (V.int .i64) y21.1.Closes) .ro, .sl (Ar.lst Encs.eGExpr y21.1.Checks) .ro, .sl (Ar.lst Encs.eGLimit y21.1.Limits) .ro, .sl (Ar.lst (V.int .i64) y21.1.Inside) .ro] 0]) (c69 N y1 y21.1 r hx)) r23 hx) (.cons (.ro _ _) (.refl _)) fun r23 h => ?_;cbv;refine n_br hE h (fun hc h => ?_) (fun hc h => ?_)
    ·cbv;have h := ret_some h;subst h;exact ⟨_, rfl, ⟨⟨t12, t22⟩, ⟨ht12, ht22⟩, hO⟩⟩
    ·cbv;refine n_load hE hO 3 rfl ?_;cbv;refine n_appn (f := Encs.eGEdge) hE sz_GEdge (by decide) hO 0 rfl ht12 (l := s9.2) (m := [y21.1]) (.refl _) (.lstc (.eq (Encs.eGEdge_eq y21.1) (.refl _)) (.lst0)) h fun l25 t24 H hO ht24 h => ?_;cbv;refine n_store hE hO 3 rfl rfl fun H hO => ?_;cbv;refine n_load hE hO 3 rfl ?_;cbv;refine n_ln hE ?_;cbv;refine n_br hE h (fun hc h => ?_) (fun hc h => ?_)
     ·cbv;refine n_store hE hO 6 rfl rfl fun H hO => ?_;cbv;refine n_store hE hO 5 rfl rfl fun H hO => ?_;cbv;refine n_store hE hO 4 rfl rfl fun H hO => ?_;cbv;have h := ret_some h;subst h;exact ⟨_, rfl, rfl, ⟨⟨t24, t22⟩, ⟨rfl, ⟨ht24, ht22⟩⟩, hO⟩⟩
     ·cbv;have h := ret_some h;subst h;exact ⟨_, rfl, ⟨⟨t24, t22⟩, ⟨ht24, ht22⟩, hO⟩⟩
   ·rintro e l H ⟨rfl, rfl, hO⟩;cbv;have h := ret_some h;subst h;exact ⟨_, rfl, rfl, ⟨⟨t12, t13⟩, ⟨rfl, ⟨ht12, ht13⟩⟩, hO.tail⟩⟩
 ·rintro d27 s31 H rfl hd ⟨⟨t32, t33⟩, ⟨ht32, ht33⟩, hO⟩
  have hO : Own Eq H0 [.tl t32, .tl t33, .blk b5 (.cells [.sl (Ar.lst Encs.eGPattern s31.1) t33]), .blk b4 (.cells [.sl (Ar.lst Encs.eGEdge s31.2) t32]), .blk b3 (.cells [.int .i64 0]), .blk b2 (.cells [.sl [] .nil]), .blk b1 (.cells [.sl [] .nil]), .blk d27 DB] H := Own.dblk hd hO
  clear hd;clear hx;cbv;refine n_take hE hO 6 rfl fun H1 hT hW => ?_;cbv;refine n_load hE hW 3 rfl ?_;cbv;refine n_load hE hW 2 rfl ?_;cbv;refine n_need hE trivial ?_;cbv;refine n_give hE hO 6 rfl hT fun H hO => ?_;cbv;refine n_store hE hO 5 rfl rfl fun H hO => ?_;cbv;refine n_store hE hO 4 rfl rfl fun H hO => ?_;cbv;refine n_fin hE hO 7 rfl fun H hO => ?_;cbv;refine n_load hE hO 6 rfl ?_;cbv;refine n_load hE hO 5 rfl ?_;cbv;refine n_load hE hO 4 rfl ?_;cbv;have h := ret_some h;subst h;exact hK _ _ _ hO (.tup (.cons (.ro _ _) (.cons (.ro _ _) (.refl _))))
 ·rintro d27 y34 e H rfl hd hX;clear hx
  rcases hX with ⟨⟨t35, t36⟩, ⟨rfl, ht35, ht36⟩, hO⟩
  have hO : Own Eq H0 [.tl t35, .tl t36, .blk b5 (.cells [.sl (Ar.lst Encs.eGPattern y34.1) t36]), .blk b4 (.cells [.sl (Ar.lst Encs.eGEdge y34.2.1) t35]), .blk b3 (.cells [.int .i64 y34.2.2]), .blk b2 (.cells [.sl [] .nil]), .blk b1 (.cells [.sl [] .nil]), .blk d27 DB] H := Own.dblk hd hO
  clear hd;cbv;refine n_fin hE hO 7 rfl fun H hO => ?_;cbv;refine n_load hE hO 6 rfl ?_;cbv;refine n_load hE hO 5 rfl ?_;cbv;refine n_load hE hO 4 rfl ?_;cbv;have h := ret_some h;subst h;exact hK _ _ _ hO (.tup (.cons (.lit _ (lst_nil)) (.cons (.lit _ (lst_nil)) (.refl _))))
def cf10 : Cf := ⟨[], [], [], [], [], []⟩
theorem c10 (N : Nat) (x_p : GPattern) (r : ((List GEdge) × (List GPattern) × Int)) (h : derivative_Derive N x_p = some r) : CallP Tryz.prog 10 [.agg [.int .i64 x_p.Op, .sl (Ar.lst Encs.eGPattern x_p.Args) .ro, .int .i64 x_p.Typ, .int .i64 x_p.Var, .int .i64 x_p.Scope, .int .i64 x_p.Span, .int .i64 x_p.Cond.Op, .sl (Ar.lst Encs.eGExpr x_p.Cond.Args) .ro, .int .i64 x_p.Cond.Var, .int .i64 x_p.Cond.Field, .int .i64 x_p.Cond.Kind, .int .i64 x_p.Cond.Value.Kind, .int .i64 x_p.Cond.Value.Num, .str x_p.Cond.Value.Text]] (.tup [.sl (Ar.lst Encs.eGEdge r.1) .ro, .sl (Ar.lst Encs.eGPattern r.2.1) .ro, .int .i64 r.2.2]) := by
 unfold derivative_Derive at h
 refine callP_of_spec cf10 okP Tryz.func10 (by rfl) (by kernel_rfl) Tryz.call10 Tryz.ntmps10 (by rfl) (by rfl) ?_;intro E H0 K hE hK
 have hO : Own Eq H0 [] H0 := .start stable_eq rfl
 cbv;refine n_call hE (g := fun r1 => .int .i64 r1) h (fun r1 hx => c39 N x_p r1 hx) (.refl _) fun r1 h => ?_;cbv;refine n_br hE h (fun hc h => ?_) (fun hc h => ?_)
 ·cbv;have h := ret_some h;subst h;exact hK _ _ _ hO (.tup (.cons (.lit _ (lst_nil)) (.cons (.lit _ (lst_nil)) (.refl _))))
 ·cbv;refine n_call hE (g := fun r2 => .tup [.sl (Ar.lst Encs.eGEdge r2.1) .ro, .sl (Ar.lst Encs.eGPattern r2.2.1) .ro, .int .i64 r2.2.2]) h (fun r2 hx => c40 N x_p r2 hx) (.refl _) fun r2 h => ?_;cbv;have h := ret_some h;subst h;exact hK _ _ _ hO (.refl _)
def cf44 : Cf := ⟨[], [(6, 10)], [], [], [], []⟩
theorem c44 (N : Nat) : ∀ (n : Nat) (x_a : GPattern) (x_b : GPattern) (r : Bool), ref09_Same N n x_a x_b = some r → CallP Tryz.prog 44 [.agg [.int .i64 x_a.Op, .sl (Ar.lst Encs.eGPattern x_a.Args) .ro, .int .i64 x_a.Typ, .int .i64 x_a.Var, .int .i64 x_a.Scope, .int .i64 x_a.Span, .int .i64 x_a.Cond.Op, .sl (Ar.lst Encs.eGExpr x_a.Cond.Args) .ro, .int .i64 x_a.Cond.Var, .int .i64 x_a.Cond.Field, .int .i64 x_a.Cond.Kind, .int .i64 x_a.Cond.Value.Kind, .int .i64 x_a.Cond.Value.Num, .str x_a.Cond.Value.Text], .agg [.int .i64 x_b.Op, .sl (Ar.lst Encs.eGPattern x_b.Args) .ro, .int .i64 x_b.Typ, .int .i64 x_b.Var, .int .i64 x_b.Scope, .int .i64 x_b.Span, .int .i64 x_b.Cond.Op, .sl (Ar.lst Encs.eGExpr x_b.Cond.Args) .ro, .int .i64 x_b.Cond.Var, .int .i64 x_b.Cond.Field, .int .i64 x_b.Cond.Kind, .int .i64 x_b.Cond.Value.Kind, .int .i64 x_b.Cond.Value.Num, .str x_b.Cond.Value.Text]] (.bool r) := by
 intro n
 induction n with
 | zero => intro x_a x_b r h; cases h
 | succ n ih =>
 intro x_a x_b r h
 unfold ref09_Same at h
 refine callP_of_spec cf44 okP Tryz.func44 (by rfl) (by kernel_rfl) Tryz.call44 Tryz.ntmps44 (by rfl) (by rfl) ?_;intro E H0 K hE hK
 have hO : Own Eq H0 [] H0 := .start stable_eq rfl
 cbv;refine n_br hE h (fun hc h => ?_) (fun hc h => ?_)
 ·cbv;have h := ret_some h;subst h;exact hK _ _ _ hO (.refl _)
 ·cbv;refine n_call hE (g := fun r1 => .bool r1) h (fun r1 hx => c62 N N x_a.Cond x_b.Cond r1 hx) (.refl _) fun r1 h => ?_;cbv;refine n_ln hE ?_;cbv;refine n_ln hE ?_;cbv;refine n_br hE h (fun hc h => ?_) (fun hc h => ?_)
  ·cbv;have h := ret_some h;subst h;exact hK _ _ _ hO (.refl _)
  ·cbv;obtain ⟨s3, hx, h⟩ := bind_some h;refine n_loopN cf44 hE okP (fun s2 => [(2, .v (.eref [.int .i64 x_a.Op, .sl (Ar.lst Encs.eGPattern x_a.Args) .ro, .int .i64 x_a.Typ, .int .i64 x_a.Var, .int .i64 x_a.Scope, .int .i64 x_a.Span, .int .i64 x_a.Cond.Op, .sl (Ar.lst Encs.eGExpr x_a.Cond.Args) .ro, .int .i64 x_a.Cond.Var, .int .i64 x_a.Cond.Field, .int .i64 x_a.Cond.Kind, .int .i64 x_a.Cond.Value.Kind, .int .i64 x_a.Cond.Value.Num, .str x_a.Cond.Value.Text] 0)), (3, .v (.eref [.int .i64 x_b.Op, .sl (Ar.lst Encs.eGPattern x_b.Args) .ro, .int .i64 x_b.Typ, .int .i64 x_b.Var, .int .i64 x_b.Scope, .int .i64 x_b.Span, .int .i64 x_b.Cond.Op, .sl (Ar.lst Encs.eGExpr x_b.Cond.Args) .ro, .int .i64 x_b.Cond.Var, .int .i64 x_b.Cond.Field, .int .i64 x_b.Cond.Kind, .int .i64 x_b.Cond.Value.Kind, .int .i64 x_b.Cond.Value.Num, .str x_b.Cond.Value.Text] 0)), (5, .v (.int .i64 s2))]) (fun s2 H1 => Own Eq H0 [] H1) (fun x e l H1 => match (generalizing := false) x with | .inl y => e = .exit 0 ∧ l = [] ∧ Own Eq H0 [] H1 | .inr y => e = .ret ∧ l = [(4, .b false)] ∧ Own Eq H0 [] H1) (by kernel_rfl) ?_ hx ?_ hO ?_
   ·intro s2 H o hO h;clear hx;cbv;refine n_ln hE ?_;cbv;refine n_br hE h (fun hc h => ?_) (fun hc h => ?_)
    ·cbv;refine n_idx hE Encs.eGPattern_eq h fun x4 h => ?_;cbv;refine n_idx hE Encs.eGPattern_eq h fun x5 h => ?_;cbv;refine n_call hE (g := fun r6 => .bool r6) h (fun r6 hx => ih x4 x5 r6 hx) (.refl _) fun r6 h => ?_;cbv;refine n_br hE h (fun hc h => ?_) (fun hc h => ?_)
     ·cbv;have h := ret_some h;subst h;exact ⟨_, _, rfl, ⟨rfl, rfl, hO⟩, .b rfl (.z), rfl⟩
     ·cbv;have h := ret_some h;subst h;exact ⟨_, rfl, .e rfl (.e rfl (.e rfl (.z))), rfl, hO⟩
    ·cbv;have h := ret_some h;subst h;exact ⟨_, _, rfl, ⟨rfl, rfl, hO⟩, .z, rfl⟩
   ·exact .e rfl (.e rfl (.e rfl (.z)))
   ·clear hx
    rcases s3 with y7 | y8
    ·rintro e l H ⟨rfl, rfl, hO⟩;cbv;have h := ret_some h;subst h;exact hK _ _ _ hO (.refl _)
    ·rintro e l H ⟨rfl, rfl, hO⟩;cbv;have h := ret_some h;subst h;exact hK _ _ _ hO (.refl _)
def cf13 : Cf := ⟨[], [(6, 8)], [], [], [], []⟩
theorem c13 (N : Nat) (x_a : List GPattern) (x_b : List GPattern) (r : Bool) (h : ref22_SameAll N x_a x_b = some r) : CallP Tryz.prog 13 [.sl (Ar.lst Encs.eGPattern x_a) .ro, .sl (Ar.lst Encs.eGPattern x_b) .ro] (.bool r) := by
 unfold ref22_SameAll at h
 refine callP_of_spec cf13 okP Tryz.func13 (by rfl) (by kernel_rfl) Tryz.call13 Tryz.ntmps13 (by rfl) (by rfl) ?_;intro E H0 K hE hK
 have hO : Own Eq H0 [] H0 := .start stable_eq rfl
 cbv;refine n_ln hE ?_;cbv;refine n_ln hE ?_;cbv;refine n_br hE h (fun hc h => ?_) (fun hc h => ?_)
 ·cbv;have h := ret_some h;subst h;exact hK _ _ _ hO (.refl _)
 ·cbv;obtain ⟨s2, hx, h⟩ := bind_some h;refine n_loopN cf13 hE okP (fun s1 => [(0, .v (.sl (Ar.lst Encs.eGPattern x_a) .ro)), (1, .v (.sl (Ar.lst Encs.eGPattern x_b) .ro)), (5, .v (.int .i64 s1))]) (fun s1 H1 => Own Eq H0 [] H1) (fun x e l H1 => match (generalizing := false) x with | .inl y => e = .exit 0 ∧ l = [] ∧ Own Eq H0 [] H1 | .inr y => e = .ret ∧ l = [(4, .b false)] ∧ Own Eq H0 [] H1) (by kernel_rfl) ?_ hx ?_ hO ?_
  ·intro s1 H o hO h;clear hx;cbv;refine n_ln hE ?_;cbv;refine n_br hE h (fun hc h => ?_) (fun hc h => ?_)
   ·cbv;refine n_idx hE Encs.eGPattern_eq h fun x3 h => ?_;cbv;refine n_idx hE Encs.eGPattern_eq h fun x4 h => ?_;cbv;refine n_call hE (g := fun r5 => .bool r5) h (fun r5 hx => c44 N N x3 x4 r5 hx) (.refl _) fun r5 h => ?_;cbv;refine n_br hE h (fun hc h => ?_) (fun hc h => ?_)
    ·cbv;have h := ret_some h;subst h;exact ⟨_, _, rfl, ⟨rfl, rfl, hO⟩, .b rfl (.z), rfl⟩
    ·cbv;have h := ret_some h;subst h;exact ⟨_, rfl, .e rfl (.e rfl (.e rfl (.z))), rfl, hO⟩
   ·cbv;have h := ret_some h;subst h;exact ⟨_, _, rfl, ⟨rfl, rfl, hO⟩, .z, rfl⟩
  ·exact .e rfl (.e rfl (.e rfl (.z)))
  ·clear hx
   rcases s2 with y6 | y7
   ·rintro e l H ⟨rfl, rfl, hO⟩;cbv;have h := ret_some h;subst h;exact hK _ _ _ hO (.refl _)
   ·rintro e l H ⟨rfl, rfl, hO⟩;cbv;have h := ret_some h;subst h;exact hK _ _ _ hO (.refl _)
def cf47 : Cf := ⟨[2], [], [], [], [], []⟩
theorem c47 (N : Nat) (x_p : GPattern) (r : Int) (h : pattern_whole N x_p = some r) : CallP Tryz.prog 47 [.agg [.int .i64 x_p.Op, .sl (Ar.lst Encs.eGPattern x_p.Args) .ro, .int .i64 x_p.Typ, .int .i64 x_p.Var, .int .i64 x_p.Scope, .int .i64 x_p.Span, .int .i64 x_p.Cond.Op, .sl (Ar.lst Encs.eGExpr x_p.Cond.Args) .ro, .int .i64 x_p.Cond.Var, .int .i64 x_p.Cond.Field, .int .i64 x_p.Cond.Kind, .int .i64 x_p.Cond.Value.Kind, .int .i64 x_p.Cond.Value.Num, .str x_p.Cond.Value.Text]] (.int .i64 r) := by
 unfold pattern_whole at h
 refine callP_of_spec cf47 okP Tryz.func47 (by rfl) (by kernel_rfl) Tryz.call47 Tryz.ntmps47 (by rfl) (by rfl) ?_;intro E H0 K hE hK
 have hO : Own Eq H0 [] H0 := .start stable_eq rfl
 cbv;refine n_alloc hE hO fun b1 H hO => ?_;cbv;refine n_call hE (g := fun r2 => .int .i64 r2) h (fun r2 hx => c39 N x_p r2 hx) (.refl _) fun r2 h => ?_;cbv;refine n_br hE h (fun hc h => ?_) (fun hc h => ?_)
 ·cbv;refine n_store hE hO 0 rfl rfl fun H hO => ?_;cbv;refine n_load hE hO 0 rfl ?_;cbv;have h := ret_some h;subst h;exact hK _ _ _ hO (.refl _)
 ·cbv;refine n_callQ hE h (fun r3 hx => c65 N x_p r3 hx) (.refl _) fun r3 v4 hv4 h => ?_;cbv;obtain ⟨o9, hx, h⟩ := bind_some h;refine n_range cf47 hE okP (ι := Unit) (enc := fun (x : GPattern) => [.agg [.int .i64 x.Op, .sl (Ar.lst Encs.eGPattern x.Args) .ro, .int .i64 x.Typ, .int .i64 x.Var, .int .i64 x.Scope, .int .i64 x.Span, .int .i64 x.Cond.Op, .sl (Ar.lst Encs.eGExpr x.Cond.Args) .ro, .int .i64 x.Cond.Var, .int .i64 x.Cond.Field, .int .i64 x.Cond.Kind, .int .i64 x.Cond.Value.Kind, .int .i64 x.Cond.Value.Num, .str x.Cond.Value.Text]]) (fun (s6 : Unit) F H => Own Eq F [.blk b1 (.cells [.int .i64 0])] H) (fun (r : Int) e F H => e = .ret ∧ Own Eq F [.blk b1 (.cells [.int .i64 r])] H) (fun i s6 y5 => [(2, .v (.ref b1 0)), (4, .v (.eref [.int .i64 y5.Op, .sl (Ar.lst Encs.eGPattern y5.Args) .ro, .int .i64 y5.Typ, .int .i64 y5.Var, .int .i64 y5.Scope, .int .i64 y5.Span, .int .i64 y5.Cond.Op, .sl (Ar.lst Encs.eGExpr y5.Cond.Args) .ro, .int .i64 y5.Cond.Var, .int .i64 y5.Cond.Field, .int .i64 y5.Cond.Kind, .int .i64 y5.Cond.Value.Kind, .int .i64 y5.Cond.Value.Num, .str y5.Cond.Value.Text] 0))]) (fun i s6 y5 F H => Own Eq F [.blk b1 (.cells [.int .i64 0])] H) (fun _ => Own.stable stable_eq _) (fun _ _ => Stable.con (Own.stable stable_eq _)) (fun _ _ _ => Own.stable stable_eq _) hv4 hx (hO) (by decide) (fun _ => rfl) (by kernel_rfl) (by kernel_rfl) ?_ ?_ ?_ ?_
  ·rintro E i8 y5 s6 F7 H hE hO;clear hx h;cbv;exact ⟨(), hO, .e rfl (.e rfl (.z)), rfl⟩
  ·rintro E i8 _ y5 s6 F7 H o hE hF h hO;clear hx;cbv;refine n_br hE h (fun hc h => ?_) (fun hc h => ?_)
   ·cbv;refine n_store hE hO 0 rfl rfl fun H hO => ?_;cbv;have h := ret_some h;subst h;exact ⟨_, rfl, rfl, ⟨rfl, hO⟩⟩
   ·cbv;have h := ret_some h;subst h;exact ⟨_, rfl, hO⟩
  ·rintro d10 s12 H rfl hd hO
   have hO : Own Eq H0 [.blk b1 (.cells [.int .i64 0]), .blk d10 DB] H := Own.dblk hd hO
   clear hd;clear hx;cbv;refine n_store hE hO 0 rfl rfl fun H hO => ?_;cbv;refine n_fin hE hO 1 rfl fun H hO => ?_;cbv;refine n_load hE hO 0 rfl ?_;cbv;have h := ret_some h;subst h;exact hK _ _ _ hO (.refl _)
  ·rintro d10 y13 e H rfl hd hX;clear hx
   rcases hX with ⟨rfl, hO⟩
   have hO : Own Eq H0 [.blk b1 (.cells [.int .i64 y13]), .blk d10 DB] H := Own.dblk hd hO
   clear hd;cbv;refine n_fin hE hO 1 rfl fun H hO => ?_;cbv;refine n_load hE hO 0 rfl ?_;cbv;have h := ret_some h;subst h;exact hK _ _ _ hO (.refl _)
def cf48 : Cf := ⟨[5, 6, 7], [(11, 5)], [(18, 7)], [], [], []⟩
theorem c48 (N : Nat) (x_p : GPattern) (r : (Int × Int × Bool)) (h : pattern_count N x_p = some r) : CallP Tryz.prog 48 [.agg [.int .i64 x_p.Op, .sl (Ar.lst Encs.eGPattern x_p.Args) .ro, .int .i64 x_p.Typ, .int .i64 x_p.Var, .int .i64 x_p.Scope, .int .i64 x_p.Span, .int .i64 x_p.Cond.Op, .sl (Ar.lst Encs.eGExpr x_p.Cond.Args) .ro, .int .i64 x_p.Cond.Var, .int .i64 x_p.Cond.Field, .int .i64 x_p.Cond.Kind, .int .i64 x_p.Cond.Value.Kind, .int .i64 x_p.Cond.Value.Num, .str x_p.Cond.Value.Text]] (.tup [.int .i64 r.1, .int .i64 r.2.1, .bool r.2.2]) := by
 unfold pattern_count at h
 refine callP_of_spec cf48 okP Tryz.func48 (by rfl) (by kernel_rfl) Tryz.call48 Tryz.ntmps48 (by rfl) (by rfl) ?_;intro E H0 K hE hK
 have hO : Own Eq H0 [] H0 := .start stable_eq rfl
 cbv;refine n_alloc hE hO fun b1 H hO => ?_;cbv;refine n_alloc hE hO fun b2 H hO => ?_;cbv;refine n_alloc hE hO fun b3 H hO => ?_;cbv;refine n_store hE hO 2 rfl rfl fun H hO => ?_;cbv;refine n_store hE hO 1 rfl rfl fun H hO => ?_;cbv;refine n_store hE hO 0 rfl rfl fun H hO => ?_;cbv;refine n_callQ hE h (fun r4 hx => c65 N x_p r4 hx) (.refl _) fun r4 v5 hv5 h => ?_;cbv;obtain ⟨o10, hx, h⟩ := bind_some h;refine n_range cf48 hE okP (ι := Unit) (enc := fun (x : GPattern) => [.agg [.int .i64 x.Op, .sl (Ar.lst Encs.eGPattern x.Args) .ro, .int .i64 x.Typ, .int .i64 x.Var, .int .i64 x.Scope, .int .i64 x.Span, .int .i64 x.Cond.Op, .sl (Ar.lst Encs.eGExpr x.Cond.Args) .ro, .int .i64 x.Cond.Var, .int .i64 x.Cond.Field, .int .i64 x.Cond.Kind, .int .i64 x.Cond.Value.Kind, .int .i64 x.Cond.Value.Num, .str x.Cond.Value.Text]]) (fun (s7 : Bool × Int × Int) F H => Own Eq F [.blk b3 (.cells [.bool s7.1]), .blk b2 (.cells [.int .i64 s7.2.1]), .blk b1 (.cells [.int .i64 s7.2.2])] H) (fun (r : Unit) e F H => False) (fun i s7 y6 => [(5, .v (.ref b1 0)), (6, .v (.ref b2 0)), (7, .v (.ref b3 0)), (8, .v (.eref [.int .i64 y6.Op, .sl (Ar.lst Encs.eGPattern y6.Args) .ro, .int .i64 y6.Typ, .int .i64 y6.Var, .int .i64 y6.Scope, .int .i64 y6.Span, .int .i64 y6.Cond.Op, .sl (Ar.lst Encs.eGExpr y6.Cond.Args) .ro, .int .i64 y6.Cond.Var, .int .i64 y6.Cond.Field, .int .i64 y6.Cond.Kind, .int .i64 y6.Cond.Value.Kind, .int .i64 y6.Cond.Value.Num, .str y6.Cond.Value.Text] 0))]) (fun i s7 y6 F H => Own Eq F [.blk b3 (.cells [.bool s7.1]), .blk b2 (.cells [.int .i64 s7.2.1]), .blk b1 (.cells [.int .i64 s7.2.2])] H) (fun _ => Own.stable stable_eq _) (fun _ _ => ⟨fun h => h.elim, fun _ _ h => h.elim⟩) (fun _ _ _ => Own.stable stable_eq _) hv5 hx (hO) (by decide) (fun _ => rfl) (by kernel_rfl) (by kernel_rfl) ?_ ?_ ?_ ?_
 ·rintro E i9 y6 s7 F8 H hE hO;clear hx h;cbv;exact ⟨(), hO, .e rfl (.e rfl (.e rfl (.e rfl (.z)))), rfl⟩
 ·rintro E i9 _ y6 s7 F8 H o hE hF h hO;clear hx;cbv;refine n_elem hE (g := fun x => .agg [.int .i64 x.least, .int .i64 x.most, .bool x.typed, .bool x.cond, .bool x.scope, .bool x.span]) (l := tab_pattern_shapes) rfl (fun _ => rfl) rfl rfl h fun x11 h => ?_;cbv;obtain ⟨s12, hx, h⟩ := bind_some h;refine n_join cf48 hE okP (fun e l H1 => e = .normal ∧ l = [(6, .v (.ref b2 0)), (7, .v (.ref b3 0)), (8, .v (.eref [.int .i64 y6.Op, .sl (Ar.lst Encs.eGPattern y6.Args) .ro, .int .i64 y6.Typ, .int .i64 y6.Var, .int .i64 y6.Scope, .int .i64 y6.Span, .int .i64 y6.Cond.Op, .sl (Ar.lst Encs.eGExpr y6.Cond.Args) .ro, .int .i64 y6.Cond.Var, .int .i64 y6.Cond.Field, .int .i64 y6.Cond.Kind, .int .i64 y6.Cond.Value.Kind, .int .i64 y6.Cond.Value.Num, .str y6.Cond.Value.Text] 0)), (9, .v (.eref [.int .i64 x11.least, .int .i64 x11.most, .bool x11.typed, .bool x11.cond, .bool x11.scope, .bool x11.span] 0))] ∧ Own Eq F8 [.blk b3 (.cells [.bool s12.1]), .blk b2 (.cells [.int .i64 s7.2.1]), .blk b1 (.cells [.int .i64 s12.2])] H1) (by kernel_rfl) ?_ ?_
  ·clear h;have h := hx;clear hx;cbv;refine n_br hE h (fun hc h => ?_) (fun hc h => ?_)
   ·cbv;refine n_load hE hO 0 rfl ?_;cbv;refine n_load hE hO 2 rfl ?_;cbv;refine n_store hE hO 0 rfl rfl fun H hO => ?_;cbv;refine n_load hE hO 2 rfl ?_;cbv;refine n_store hE hO 2 rfl rfl fun H hO => ?_;cbv;have h := ret_some h;subst h;exact ⟨_, ⟨rfl, rfl, hO⟩, .e rfl (.e rfl (.e rfl (.e rfl (.z)))), rfl⟩
   ·cbv;have h := ret_some h;subst h;exact ⟨_, ⟨rfl, rfl, hO⟩, .e rfl (.e rfl (.e rfl (.e rfl (.z)))), rfl⟩
  ·clear hx;rintro e l H ⟨rfl, rfl, hO⟩;cbv;refine n_br hE h (fun hc h => ?_) (fun hc h => ?_)
   ·cbv;refine n_load hE hO 0 rfl ?_;cbv;refine n_load hE hO 1 rfl ?_;cbv;refine n_store hE hO 0 rfl rfl fun H hO => ?_;cbv;refine n_load hE hO 1 rfl ?_;cbv;refine n_store hE hO 1 rfl rfl fun H hO => ?_;cbv;have h := ret_some h;subst h;exact ⟨_, rfl, hO⟩
   ·cbv;have h := ret_some h;subst h;exact ⟨_, rfl, hO⟩
 ·rintro d13 s15 H rfl hd hO
  have hO : Own Eq H0 [.blk b3 (.cells [.bool s15.1]), .blk b2 (.cells [.int .i64 s15.2.1]), .blk b1 (.cells [.int .i64 s15.2.2]), .blk d13 DB] H := Own.dblk hd hO
  clear hd;clear hx;cbv;refine n_load hE hO 2 rfl ?_;cbv;refine n_load hE hO 1 rfl ?_;cbv;refine n_load hE hO 0 rfl ?_;cbv;refine n_fin hE hO 3 rfl fun H hO => ?_;cbv;have h := ret_some h;subst h;exact hK _ _ _ hO (.refl _)
 ·rintro d r e H rfl hd hO;exact hO.elim
def cf16 : Cf := ⟨[], [], [], [], [], []⟩
theorem c16 (N : Nat) (x_p : GPattern) (r : Int) (h : pattern_Check N x_p = some r) : CallP Tryz.prog 16 [.agg [.int .i64 x_p.Op, .sl (Ar.lst Encs.eGPattern x_p.Args) .ro, .int .i64 x_p.Typ, .int .i64 x_p.Var, .int .i64 x_p.Scope, .int .i64 x_p.Span, .int .i64 x_p.Cond.Op, .sl (Ar.lst Encs.eGExpr x_p.Cond.Args) .ro, .int .i64 x_p.Cond.Var, .int .i64 x_p.Cond.Field, .int .i64 x_p.Cond.Kind, .int .i64 x_p.Cond.Value.Kind, .int .i64 x_p.Cond.Value.Num, .str x_p.Cond.Value.Text]] (.int .i64 r) := by
 unfold pattern_Check at h
 refine callP_of_spec cf16 okP Tryz.func16 (by rfl) (by kernel_rfl) Tryz.call16 Tryz.ntmps16 (by rfl) (by rfl) ?_;intro E H0 K hE hK
 have hO : Own Eq H0 [] H0 := .start stable_eq rfl
 cbv;refine n_call hE (g := fun r1 => .int .i64 r1) h (fun r1 hx => c47 N x_p r1 hx) (.refl _) fun r1 h => ?_;cbv;refine n_br hE h (fun hc h => ?_) (fun hc h => ?_)
 ·cbv;have h := ret_some h;subst h;exact hK _ _ _ hO (.refl _)
 ·cbv;refine n_call hE (g := fun r2 => .tup [.int .i64 r2.1, .int .i64 r2.2.1, .bool r2.2.2]) h (fun r2 hx => c48 N x_p r2 hx) (.refl _) fun r2 h => ?_;cbv;refine n_br hE h (fun hc h => ?_) (fun hc h => ?_)
  ·cbv;have h := ret_some h;subst h;exact hK _ _ _ hO (.refl _)
  ·cbv;have h := ret_some h;subst h;exact hK _ _ _ hO (.refl _)
def cf14 : Cf := ⟨[], [], [], [], [], []⟩
theorem c14 (N : Nat) (x_p : GPattern) (r : ((List GPattern) × Int)) (h : derivative_Residuals N x_p = some r) : CallP Tryz.prog 14 [.agg [.int .i64 x_p.Op, .sl (Ar.lst Encs.eGPattern x_p.Args) .ro, .int .i64 x_p.Typ, .int .i64 x_p.Var, .int .i64 x_p.Scope, .int .i64 x_p.Span, .int .i64 x_p.Cond.Op, .sl (Ar.lst Encs.eGExpr x_p.Cond.Args) .ro, .int .i64 x_p.Cond.Var, .int .i64 x_p.Cond.Field, .int .i64 x_p.Cond.Kind, .int .i64 x_p.Cond.Value.Kind, .int .i64 x_p.Cond.Value.Num, .str x_p.Cond.Value.Text]] (.tup [.sl (Ar.lst Encs.eGPattern r.1) .ro, .int .i64 r.2]) := by
 unfold derivative_Residuals at h
 refine callP_of_spec cf14 okP Tryz.func14 (by rfl) (by kernel_rfl) Tryz.call14 Tryz.ntmps14 (by rfl) (by rfl) ?_;intro E H0 K hE hK
 have hO : Own Eq H0 [] H0 := .start stable_eq rfl
 cbv;refine n_call hE (g := fun r1 => .int .i64 r1) h (fun r1 hx => c16 N x_p r1 hx) (.refl _) fun r1 h => ?_;cbv;refine n_br hE h (fun hc h => ?_) (fun hc h => ?_)
 ·cbv;have h := ret_some h;subst h;exact hK _ _ _ hO (.tup (.cons (.lit _ (lst_nil)) (.refl _)))
 ·cbv;replace hO := hO.tl0 (t := .full) rfl;obtain ⟨s4, hx, h⟩ := bind_some h;refine n_loopG cf14 hE okP (γ := Tail) (fun s2 g => [(5, .v (.sl (Ar.lst Encs.eGPattern s2.1) g)), (6, .v (.int .i64 s2.2))]) (fun s2 g H1 => Appn g ∧ Own Eq H0 [.tl g] H1) (fun x e l H1 => match (generalizing := false) x with | .inl y => ∃ u1 : Tail, Appn u1 ∧ e = .exit 0 ∧ l = [(5, .v (.sl (Ar.lst Encs.eGPattern y) u1))] ∧ Own Eq H0 [.tl u1] H1 | .inr y => ∃ u1 : Tail, Appn u1 ∧ e = .ret ∧ l = [(2, .v (.sl [] .nil)), (3, .v (.int .i64 y))] ∧ Own Eq H0 [.tl u1] H1) (by kernel_rfl) ?_ .full hx ?_ ?_ ?_
  ·rintro s2 t3 H o ⟨ht3, hO⟩ h;clear hx;cbv;refine n_ln hE ?_;cbv;refine n_br hE h (fun hc h => ?_) (fun hc h => ?_)
   ·cbv;refine n_idx hE Encs.eGPattern_eq h fun x5 h => ?_;cbv;refine n_call hE (g := fun r6 => .tup [.sl (Ar.lst Encs.eGEdge r6.1) .ro, .sl (Ar.lst Encs.eGPattern r6.2.1) .ro, .int .i64 r6.2.2]) h (fun r6 hx => c40 N x5 r6 hx) (.refl _) fun r6 h => ?_;cbv;refine n_br hE h (fun hc h => ?_) (fun hc h => ?_)
    ·cbv;have h := ret_some h;subst h;exact ⟨_, _, rfl, ⟨t3, ht3, rfl, rfl, hO⟩, .e rfl (.e rfl (.z)), rfl⟩
    ·cbv;refine n_ln hE ?_;cbv;obtain ⟨s9, hx, h⟩ := bind_some h;refine n_loopG cf14 hE okP (γ := Tail) (fun s7 g => [(5, .v (.sl (Ar.lst Encs.eGPattern s7.1) g)), (6, .v (.int .i64 s2.2)), (37, .v (.sl (Ar.lst Encs.eGPattern r6.2.1) .ro)), (38, .v (.int .i64 (Ar.len r6.2.1))), (39, .v (.int .i64 s7.2))]) (fun s7 g H1 => Appn g ∧ Own Eq H0 [.tl g] H1) (fun x e l H1 => ∃ u1 : Tail, Appn u1 ∧ e = .exit 2 ∧ l = [(5, .v (.sl (Ar.lst Encs.eGPattern x) u1)), (6, .v (.int .i64 s2.2))] ∧ Own Eq H0 [.tl u1] H1) (by kernel_rfl) ?_ t3 hx ?_ ?_ ?_
     ·rintro s7 t8 H o ⟨ht8, hO⟩ h;clear hx;cbv;refine n_br hE h (fun hc h => ?_) (fun hc h => ?_)
      ·cbv;refine n_idx hE Encs.eGPattern_eq h fun x10 h => ?_;cbv;refine n_call hE (g := fun r11 => .int .i64 r11) h (fun r11 hx => c45 N s7.1 x10 r11 hx) (.cons (.ro _ _) (.refl _)) fun r11 h => ?_;cbv;refine n_br hE h (fun hc h => ?_) (fun hc h => ?_)
       ·cbv;refine n_appn (f := Encs.eGPattern) hE sz_GPattern (by decide) hO 0 rfl ht8 (l := s7.1) (m := [x10]) (.refl _) (.lstc (.eq (Encs.eGPattern_eq x10) (.refl _)) (.lst0)) h fun l13 t12 H hO ht12 h => ?_;cbv;have h := ret_some h;subst h;exact ⟨_, t12, rfl, .e rfl (.e rfl (.e rfl (.e rfl (.e rfl (.z))))), rfl, ht12, hO⟩
       ·cbv;have h := ret_some h;subst h;exact ⟨_, t8, rfl, .e rfl (.e rfl (.e rfl (.e rfl (.e rfl (.z))))), rfl, ht8, hO⟩
      ·cbv;have h := ret_some h;subst h;exact ⟨_, _, rfl, ⟨t8, ht8, rfl, rfl, hO⟩, .e rfl (.e rfl (.z)), rfl⟩
     ·exact .e rfl (.e rfl (.e rfl (.e rfl (.e rfl (.z)))))
     ·exact ⟨ht3, hO⟩
     ·clear hx;rintro e l H ⟨t14, ht14, rfl, rfl, hO⟩;cbv;refine n_ln hE ?_;cbv;refine n_br hE h (fun hc h => ?_) (fun hc h => ?_)
      ·cbv;have h := ret_some h;subst h;exact ⟨_, _, rfl, ⟨t14, ht14, rfl, rfl, hO⟩, .e rfl (.e rfl (.z)), rfl⟩
      ·cbv;have h := ret_some h;subst h;exact ⟨_, t14, rfl, .e rfl (.e rfl (.z)), rfl, ht14, hO⟩
   ·cbv;have h := ret_some h;subst h;exact ⟨_, _, rfl, ⟨t3, ht3, rfl, rfl, hO⟩, .e rfl (.z), rfl⟩
  ·exact .v (.slt _ (.lstc (.eq (Encs.eGPattern_eq x_p) (.refl _)) (.lst0))) (.e rfl (.z))
  ·exact ⟨trivial, hO⟩
  ·clear hx
   rcases s4 with y15 | y17
   ·rintro e l H ⟨t16, ht16, rfl, rfl, hO⟩;cbv;have h := ret_some h;subst h;exact hK _ _ _ hO (.tup (.cons (.ro _ _) (.refl _)))
   ·rintro e l H ⟨t18, ht18, rfl, rfl, hO⟩;cbv;have h := ret_some h;subst h;exact hK _ _ _ hO (.tup (.cons (.lit _ (lst_nil)) (.refl _)))
def cf49 : Cf := ⟨[], [], [(8, 5), (51, 17)], [], [], []⟩
theorem c49 (N : Nat) : ∀ (n : Nat) (x_p : GPattern) (r : (List GGuard)), derivative_active N n x_p = some r → CallP Tryz.prog 49 [.agg [.int .i64 x_p.Op, .sl (Ar.lst Encs.eGPattern x_p.Args) .ro, .int .i64 x_p.Typ, .int .i64 x_p.Var, .int .i64 x_p.Scope, .int .i64 x_p.Span, .int .i64 x_p.Cond.Op, .sl (Ar.lst Encs.eGExpr x_p.Cond.Args) .ro, .int .i64 x_p.Cond.Var, .int .i64 x_p.Cond.Field, .int .i64 x_p.Cond.Kind, .int .i64 x_p.Cond.Value.Kind, .int .i64 x_p.Cond.Value.Num, .str x_p.Cond.Value.Text]] (.sl (Ar.lst Encs.eGGuard r) .ro) := by
 intro n
 induction n with
 | zero => intro x_p r h; cases h
 | succ n ih =>
 intro x_p r h
 unfold derivative_active at h
 refine callP_of_spec cf49 okP Tryz.func49 (by rfl) (by kernel_rfl) Tryz.call49 Tryz.ntmps49 (by rfl) (by rfl) ?_;intro E H0 K hE hK
 have hO : Own Eq H0 [] H0 := .start stable_eq rfl
 cbv;obtain ⟨s1, hx, h⟩ := bind_some h;refine n_join cf49 hE okP (fun e l H1 => e = .normal ∧ l = [(1, .v (.eref [.int .i64 x_p.Op, .sl (Ar.lst Encs.eGPattern x_p.Args) .ro, .int .i64 x_p.Typ, .int .i64 x_p.Var, .int .i64 x_p.Scope, .int .i64 x_p.Span, .int .i64 x_p.Cond.Op, .sl (Ar.lst Encs.eGExpr x_p.Cond.Args) .ro, .int .i64 x_p.Cond.Var, .int .i64 x_p.Cond.Field, .int .i64 x_p.Cond.Kind, .int .i64 x_p.Cond.Value.Kind, .int .i64 x_p.Cond.Value.Num, .str x_p.Cond.Value.Text] 0)), (3, .v (.sl [] .nil)), (7, .v (.int .i64 x_p.Op)), (8, .v (.bool s1))] ∧ Own Eq H0 [] H1) (by kernel_rfl) ?_ ?_
 ·clear h;have h := hx;clear hx;cbv;refine n_br hE h (fun hc h => ?_) (fun hc h => ?_)
  ·cbv;have h := ret_some h;subst h;exact ⟨_, ⟨rfl, rfl, hO⟩, .e rfl (.e rfl (.e rfl (.e rfl (.z)))), rfl⟩
  ·cbv;have h := ret_some h;subst h;exact ⟨_, ⟨rfl, rfl, hO⟩, .e rfl (.e rfl (.e rfl (.e rfl (.z)))), rfl⟩
 ·clear hx;rintro e l H ⟨rfl, rfl, hO⟩;cbv;refine n_br hE h (fun hc h => ?_) (fun hc h => ?_)
  ·cbv;refine n_idx hE Encs.eGPattern_eq h fun x2 h => ?_;cbv;refine n_call hE (g := fun r3 => .sl (Ar.lst Encs.eGGuard r3) .ro) h (fun r3 hx => ih x2 r3 hx) (.refl _) fun r3 h => ?_;cbv;have h := ret_some h;subst h;exact hK _ _ _ hO (.refl _)
  ·cbv;refine n_br hE h (fun hc h => ?_) (fun hc h => ?_)
   ·cbv;refine n_ln hE ?_;cbv;replace hO := hO.tl0 (t := .nil) rfl;obtain ⟨s6, hx, h⟩ := bind_some h;refine n_loopG cf49 hE okP (γ := Tail) (fun s4 g => [(3, .v (.sl (Ar.lst Encs.eGGuard s4.1) g)), (19, .v (.sl (Ar.lst Encs.eGPattern x_p.Args) .ro)), (20, .v (.int .i64 (Ar.len x_p.Args))), (21, .v (.int .i64 s4.2))]) (fun s4 g H1 => Appn g ∧ Own Eq H0 [.tl g] H1) (fun x e l H1 => ∃ u1 : Tail, Appn u1 ∧ e = .exit 1 ∧ l = [(3, .v (.sl (Ar.lst Encs.eGGuard x) u1))] ∧ Own Eq H0 [.tl u1] H1) (by kernel_rfl) ?_ .nil hx ?_ ?_ ?_
    ·rintro s4 t5 H o ⟨ht5, hO⟩ h;clear hx;cbv;refine n_br hE h (fun hc h => ?_) (fun hc h => ?_)
     ·cbv;refine n_idx hE Encs.eGPattern_eq h fun x7 h => ?_;cbv;refine n_call hE (g := fun r8 => .sl (Ar.lst Encs.eGGuard r8) .ro) h (fun r8 hx => ih x7 r8 hx) (.refl _) fun r8 h => ?_;cbv;refine n_appn (f := Encs.eGGuard) hE sz_GGuard (by decide) hO 0 rfl ht5 (l := s4.1) (m := r8) (.refl _) (.refl _) h fun l10 t9 H hO ht9 h => ?_;cbv;have h := ret_some h;subst h;exact ⟨_, t9, rfl, .e rfl (.e rfl (.e rfl (.e rfl (.z)))), rfl, ht9, hO⟩
     ·cbv;have h := ret_some h;subst h;exact ⟨_, _, rfl, ⟨t5, ht5, rfl, rfl, hO⟩, .e rfl (.z), rfl⟩
    ·exact .v (.slt _ (.lst0)) (.e rfl (.e rfl (.e rfl (.z))))
    ·exact ⟨trivial, hO⟩
    ·clear hx;rintro e l H ⟨t11, ht11, rfl, rfl, hO⟩;cbv;have h := ret_some h;subst h;exact hK _ _ _ hO (.ro _ _)
   ·cbv;refine n_br hE h (fun hc h => ?_) (fun hc h => ?_)
    ·cbv;refine n_appn (f := Encs.eGGuard) hE sz_GGuard (by decide) (hO.tl0 (t := .nil) rfl) 0 rfl trivial (l := []) (m := [(⟨x_p.Scope, x_p.Typ, x_p.Var, x_p.Cond⟩ : GGuard)]) (.lst0) (.lstc (.eq (Encs.eGGuard_eq (⟨x_p.Scope, x_p.Typ, x_p.Var, x_p.Cond⟩ : GGuard)) (.refl _)) (.lst0)) h fun l13 t12 H hO ht12 h => ?_;cbv;refine n_idx hE Encs.eGPattern_eq h fun x14 h => ?_;cbv;refine n_call hE (g := fun r15 => .sl (Ar.lst Encs.eGGuard r15) .ro) h (fun r15 hx => ih x14 r15 hx) (.refl _) fun r15 h => ?_;cbv;refine n_appn (f := Encs.eGGuard) hE sz_GGuard (by decide) hO 0 rfl ht12 (l := l13) (m := r15) (.refl _) (.refl _) h fun l17 t16 H hO ht16 h => ?_;cbv;have h := ret_some h;subst h;exact hK _ _ _ hO (.ro _ _)
    ·cbv;obtain ⟨s18, hx, h⟩ := bind_some h;refine n_join cf49 hE okP (fun e l H1 => e = .normal ∧ l = [(1, .v (.eref [.int .i64 x_p.Op, .sl (Ar.lst Encs.eGPattern x_p.Args) .ro, .int .i64 x_p.Typ, .int .i64 x_p.Var, .int .i64 x_p.Scope, .int .i64 x_p.Span, .int .i64 x_p.Cond.Op, .sl (Ar.lst Encs.eGExpr x_p.Cond.Args) .ro, .int .i64 x_p.Cond.Var, .int .i64 x_p.Cond.Field, .int .i64 x_p.Cond.Kind, .int .i64 x_p.Cond.Value.Kind, .int .i64 x_p.Cond.Value.Num, .str x_p.Cond.Value.Text] 0)), (3, .v (.sl [] .nil)), (51, .v (.bool s18))] ∧ Own Eq H0 [] H1) (by kernel_rfl) ?_ ?_
     ·clear h;have h := hx;clear hx;cbv;refine n_br hE h (fun hc h => ?_) (fun hc h => ?_)
      ·cbv;have h := ret_some h;subst h;exact ⟨_, ⟨rfl, rfl, hO⟩, .e rfl (.e rfl (.e rfl (.z))), rfl⟩
      ·cbv;have h := ret_some h;subst h;exact ⟨_, ⟨rfl, rfl, hO⟩, .e rfl (.e rfl (.e rfl (.z))), rfl⟩
     ·clear hx;rintro e l H ⟨rfl, rfl, hO⟩;cbv;refine n_br hE h (fun hc h => ?_) (fun hc h => ?_)
      ·cbv;refine n_idx hE Encs.eGPattern_eq h fun x19 h => ?_;cbv;refine n_call hE (g := fun r20 => .sl (Ar.lst Encs.eGGuard r20) .ro) h (fun r20 hx => ih x19 r20 hx) (.refl _) fun r20 h => ?_;cbv;have h := ret_some h;subst h;exact hK _ _ _ hO (.refl _)
      ·cbv;have h := ret_some h;subst h;exact hK _ _ _ hO (.lit _ (lst_nil))
def cf18 : Cf := ⟨[], [], [], [], [], []⟩
theorem c18 (N : Nat) (x_p : GPattern) (r : ((List GGuard) × Int)) (h : derivative_Guards N x_p = some r) : CallP Tryz.prog 18 [.agg [.int .i64 x_p.Op, .sl (Ar.lst Encs.eGPattern x_p.Args) .ro, .int .i64 x_p.Typ, .int .i64 x_p.Var, .int .i64 x_p.Scope, .int .i64 x_p.Span, .int .i64 x_p.Cond.Op, .sl (Ar.lst Encs.eGExpr x_p.Cond.Args) .ro, .int .i64 x_p.Cond.Var, .int .i64 x_p.Cond.Field, .int .i64 x_p.Cond.Kind, .int .i64 x_p.Cond.Value.Kind, .int .i64 x_p.Cond.Value.Num, .str x_p.Cond.Value.Text]] (.tup [.sl (Ar.lst Encs.eGGuard r.1) .ro, .int .i64 r.2]) := by
 unfold derivative_Guards at h
 refine callP_of_spec cf18 okP Tryz.func18 (by rfl) (by kernel_rfl) Tryz.call18 Tryz.ntmps18 (by rfl) (by rfl) ?_;intro E H0 K hE hK
 have hO : Own Eq H0 [] H0 := .start stable_eq rfl
 cbv;refine n_call hE (g := fun r1 => .int .i64 r1) h (fun r1 hx => c39 N x_p r1 hx) (.refl _) fun r1 h => ?_;cbv;refine n_br hE h (fun hc h => ?_) (fun hc h => ?_)
 ·cbv;have h := ret_some h;subst h;exact hK _ _ _ hO (.tup (.cons (.lit _ (lst_nil)) (.refl _)))
 ·cbv;refine n_call hE (g := fun r2 => .sl (Ar.lst Encs.eGGuard r2) .ro) h (fun r2 hx => c49 N N x_p r2 hx) (.refl _) fun r2 h => ?_;cbv;have h := ret_some h;subst h;exact hK _ _ _ hO (.refl _)
end Go.Ab

