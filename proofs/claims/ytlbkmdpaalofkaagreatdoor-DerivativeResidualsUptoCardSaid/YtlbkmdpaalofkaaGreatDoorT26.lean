/- GZCo2 -/
import Derived.Test.YtlbkmdpaalofkaaGreatDoorT25
set_option linter.all false

namespace Go.Ab
open Go.RowKit Go.Proofs
variable [Ar] [Encs]
set_option maxRecDepth 100000
def cf151 : Cf := ⟨[], [], [], [], [], []⟩
theorem c151 (N : Nat) (x_v : GValue) (r : Int) (h : value_size N x_v = some r) : CallP Tryz.prog 151 [.agg [.int .i64 x_v.Kind, .int .i64 x_v.Num, .str x_v.Text]] (.int .i64 r) := by
 unfold value_size at h
 refine callP_of_spec cf151 okP Tryz.func151 (by rfl) (by kernel_rfl) Tryz.call151 Tryz.ntmps151 (by rfl) (by rfl) ?_;intro E H0 K hE hK
 have hO : Own Eq H0 [] H0 := .start stable_eq rfl
 cbv;refine n_br hE h (fun hc h => ?_) (fun hc h => ?_)
 ·cbv;have h := ret_some h;subst h;exact hK _ _ _ hO (.refl _)
 ·cbv;refine n_br hE h (fun hc h => ?_) (fun hc h => ?_)
  ·cbv;have h := ret_some h;subst h;exact hK _ _ _ hO (.refl _)
  ·cbv;refine n_br hE h (fun hc h => ?_) (fun hc h => ?_)
   ·cbv;have h := ret_some h;subst h;exact hK _ _ _ hO (.refl _)
   ·cbv;have h := ret_some h;subst h;exact hK _ _ _ hO (.refl _)
def cf145 : Cf := ⟨[], [], [(5, 5)], [], [], []⟩
theorem c145 (N : Nat) (x_v : GValue) (r : Int) (h : value_Check N x_v = some r) : CallP Tryz.prog 145 [.agg [.int .i64 x_v.Kind, .int .i64 x_v.Num, .str x_v.Text]] (.int .i64 r) := by
 unfold value_Check at h
 refine callP_of_spec cf145 okP Tryz.func145 (by rfl) (by kernel_rfl) Tryz.call145 Tryz.ntmps145 (by rfl) (by rfl) ?_;intro E H0 K hE hK
 have hO : Own Eq H0 [] H0 := .start stable_eq rfl
 cbv;obtain ⟨s1, hx, h⟩ := bind_some h;refine n_join cf145 hE okP (fun e l H1 => e = .normal ∧ l = [(1, .v (.eref [.int .i64 x_v.Kind, .int .i64 x_v.Num, .str x_v.Text] 0)), (4, .v (.int .i64 x_v.Kind)), (5, .v (.bool s1))] ∧ Own Eq H0 [] H1) (by kernel_rfl) ?_ ?_
 ·clear h;have h := hx;clear hx;cbv;refine n_br hE h (fun hc h => ?_) (fun hc h => ?_)
  ·cbv;have h := ret_some h;subst h;exact ⟨_, ⟨rfl, rfl, hO⟩, .e rfl (.e rfl (.e rfl (.z))), rfl⟩
  ·cbv;have h := ret_some h;subst h;exact ⟨_, ⟨rfl, rfl, hO⟩, .e rfl (.e rfl (.e rfl (.z))), rfl⟩
 ·clear hx;rintro e l H ⟨rfl, rfl, hO⟩;cbv;refine n_br hE h (fun hc h => ?_) (fun hc h => ?_)
  ·cbv;refine n_br hE h (fun hc h => ?_) (fun hc h => ?_)
   ·cbv;have h := ret_some h;subst h;exact hK _ _ _ hO (.refl _)
   ·cbv;refine n_call hE (g := fun r2 => .int .i64 r2) h (fun r2 hx => c151 N x_v r2 hx) (.refl _) fun r2 h => ?_;cbv;have h := ret_some h;subst h;exact hK _ _ _ hO (.refl _)
  ·cbv;refine n_br hE h (fun hc h => ?_) (fun hc h => ?_)
   ·cbv;refine n_br hE h (fun hc h => ?_) (fun hc h => ?_)
    ·cbv;have h := ret_some h;subst h;exact hK _ _ _ hO (.refl _)
    ·cbv;refine n_call hE (g := fun r3 => .int .i64 r3) h (fun r3 hx => c151 N x_v r3 hx) (.refl _) fun r3 h => ?_;cbv;have h := ret_some h;subst h;exact hK _ _ _ hO (.refl _)
   ·cbv;have h := ret_some h;subst h;exact hK _ _ _ hO (.refl _)
def cf146 : Cf := ⟨[], [], [], [], [], []⟩
theorem c146 (N : Nat) (x_kind : Int) (x_v : GValue) (r : Bool) (h : expr_suits N x_kind x_v = some r) : CallP Tryz.prog 146 [.int .i64 x_kind, .agg [.int .i64 x_v.Kind, .int .i64 x_v.Num, .str x_v.Text]] (.bool r) := by
 unfold expr_suits at h
 refine callP_of_spec cf146 okP Tryz.func146 (by rfl) (by kernel_rfl) Tryz.call146 Tryz.ntmps146 (by rfl) (by rfl) ?_;intro E H0 K hE hK
 have hO : Own Eq H0 [] H0 := .start stable_eq rfl
 cbv;have h := ret_some h;subst h;exact hK _ _ _ hO (.refl _)
def cf137 : Cf := ⟨[], [], [], [], [], []⟩
theorem c137 (N : Nat) (x_e : GExpr) (r : Int) (h : expr_constants N x_e = some r) : CallP Tryz.prog 137 [.agg [.int .i64 x_e.Op, .sl (Ar.lst Encs.eGExpr x_e.Args) .ro, .int .i64 x_e.Var, .int .i64 x_e.Field, .int .i64 x_e.Kind, .int .i64 x_e.Value.Kind, .int .i64 x_e.Value.Num, .str x_e.Value.Text]] (.int .i64 r) := by
 unfold expr_constants at h
 refine callP_of_spec cf137 okP Tryz.func137 (by rfl) (by kernel_rfl) Tryz.call137 Tryz.ntmps137 (by rfl) (by rfl) ?_;intro E H0 K hE hK
 have hO : Own Eq H0 [] H0 := .start stable_eq rfl
 cbv;refine n_call hE (g := fun r1 => .int .i64 r1) h (fun r1 hx => c145 N x_e.Value r1 hx) (.refl _) fun r1 h => ?_;cbv;refine n_br hE h (fun hc h => ?_) (fun hc h => ?_)
 ·cbv;have h := ret_some h;subst h;exact hK _ _ _ hO (.refl _)
 ·cbv;refine n_br hE h (fun hc h => ?_) (fun hc h => ?_)
  ·cbv;refine n_call hE (g := fun r2 => .bool r2) h (fun r2 hx => c146 N x_e.Kind x_e.Value r2 hx) (.refl _) fun r2 h => ?_;cbv;refine n_br hE h (fun hc h => ?_) (fun hc h => ?_)
   ·cbv;have h := ret_some h;subst h;exact hK _ _ _ hO (.refl _)
   ·cbv;have h := ret_some h;subst h;exact hK _ _ _ hO (.refl _)
  ·cbv;have h := ret_some h;subst h;exact hK _ _ _ hO (.refl _)
def cf118 : Cf := ⟨[], [], [(73, 15)], [], [], []⟩
theorem c118 (N : Nat) (x_e : GExpr) (r : Int) (h : expr_node N x_e = some r) : CallP Tryz.prog 118 [.agg [.int .i64 x_e.Op, .sl (Ar.lst Encs.eGExpr x_e.Args) .ro, .int .i64 x_e.Var, .int .i64 x_e.Field, .int .i64 x_e.Kind, .int .i64 x_e.Value.Kind, .int .i64 x_e.Value.Num, .str x_e.Value.Text]] (.int .i64 r) := by
 unfold expr_node at h
 refine callP_of_spec cf118 okP Tryz.func118 (by rfl) (by kernel_rfl) Tryz.call118 Tryz.ntmps118 (by rfl) (by rfl) ?_;intro E H0 K hE hK
 have hO : Own Eq H0 [] H0 := .start stable_eq rfl
 cbv;refine n_call hE (g := fun r1 => .tup [.int .i64 r1.1, .bool r1.2]) h (fun r1 hx => c135 N x_e.Op r1 hx) (.refl _) fun r1 h => ?_;cbv;refine n_br hE h (fun hc h => ?_) (fun hc h => ?_)
 ·cbv;have h := ret_some h;subst h;exact hK _ _ _ hO (.refl _)
 ·cbv;refine n_ln hE ?_;cbv;refine n_br hE h (fun hc h => ?_) (fun hc h => ?_)
  ·cbv;have h := ret_some h;subst h;exact hK _ _ _ hO (.refl _)
  ·cbv;refine n_call hE (g := fun r2 => .tup [.bool r2.1, .bool r2.2]) h (fun r2 hx => c136 N x_e.Op r2 hx) (.refl _) fun r2 h => ?_;cbv;refine n_br hE h (fun hc h => ?_) (fun hc h => ?_)
   ·cbv;have h := ret_some h;subst h;exact hK _ _ _ hO (.refl _)
   ·cbv;refine n_br hE h (fun hc h => ?_) (fun hc h => ?_)
    ·cbv;have h := ret_some h;subst h;exact hK _ _ _ hO (.refl _)
    ·cbv;obtain ⟨s3, hx, h⟩ := bind_some h;refine n_join cf118 hE okP (fun e l H1 => match (generalizing := false) s3 with | .inl y => e = .normal ∧ l = [(1, .v (.eref [.int .i64 x_e.Op, .sl (Ar.lst Encs.eGExpr x_e.Args) .ro, .int .i64 x_e.Var, .int .i64 x_e.Field, .int .i64 x_e.Kind, .int .i64 x_e.Value.Kind, .int .i64 x_e.Value.Num, .str x_e.Value.Text] 0)), (5, .v (.bool r2.1)), (6, .v (.bool r2.2)), (7, .v (.bool (Ar.cmp .eql x_e.Op 4))), (8, .v (.bool (Ar.or (Ar.cmp .eql x_e.Op 4) (Ar.cmp .eql x_e.Op 0))))] ∧ Own Eq H0 [] H1 | .inr y => e = .ret ∧ l = [(2, .v (.int .i64 y))] ∧ Own Eq H0 [] H1) (by kernel_rfl) ?_ ?_
     ·clear h;have h := hx;clear hx;cbv;refine n_br hE h (fun hc h => ?_) (fun hc h => ?_)
      ·cbv;refine n_call hE (g := fun r4 => .int .i64 r4) h (fun r4 hx => c137 N x_e r4 hx) (.refl _) fun r4 h => ?_;cbv;refine n_br hE h (fun hc h => ?_) (fun hc h => ?_)
       ·cbv;have h := ret_some h;subst h;exact ⟨_, ⟨rfl, rfl, hO⟩, .e rfl (.z), rfl⟩
       ·cbv;have h := ret_some h;subst h;exact ⟨_, ⟨rfl, rfl, hO⟩, .e rfl (.e rfl (.e rfl (.e rfl (.e rfl (.z))))), rfl⟩
      ·cbv;have h := ret_some h;subst h;exact ⟨_, ⟨rfl, rfl, hO⟩, .e rfl (.e rfl (.e rfl (.e rfl (.e rfl (.z))))), rfl⟩
     ·clear hx
      rcases s3 with y5 | y6
      ·rintro e l H ⟨rfl, rfl, hO⟩;cbv;refine n_br hE h (fun hc h => ?_) (fun hc h => ?_)
       ·cbv;have h := ret_some h;subst h;exact hK _ _ _ hO (.refl _)
       ·cbv;have h := ret_some h;subst h;exact hK _ _ _ hO (.refl _)
      ·rintro e l H ⟨rfl, rfl, hO⟩;cbv;have h := ret_some h;subst h;exact hK _ _ _ hO (.refl _)
def cf95 : Cf := ⟨[], [], [], [], [], []⟩
theorem c95 (N : Nat) (x_e : GExpr) (r : Int) (h : expr_Check N x_e = some r) : CallP Tryz.prog 95 [.agg [.int .i64 x_e.Op, .sl (Ar.lst Encs.eGExpr x_e.Args) .ro, .int .i64 x_e.Var, .int .i64 x_e.Field, .int .i64 x_e.Kind, .int .i64 x_e.Value.Kind, .int .i64 x_e.Value.Num, .str x_e.Value.Text]] (.int .i64 r) := by
 unfold expr_Check at h
 refine callP_of_spec cf95 okP Tryz.func95 (by rfl) (by kernel_rfl) Tryz.call95 Tryz.ntmps95 (by rfl) (by rfl) ?_;intro E H0 K hE hK
 have hO : Own Eq H0 [] H0 := .start stable_eq rfl
 cbv;refine n_call hE (g := fun r1 => .tup [.int .i64 r1.1, .int .i64 r1.2]) h (fun r1 hx => c116 N N x_e r1 hx) (.refl _) fun r1 h => ?_;cbv;refine n_br hE h (fun hc h => ?_) (fun hc h => ?_)
 ·cbv;have h := ret_some h;subst h;exact hK _ _ _ hO (.refl _)
 ·cbv;refine n_br hE h (fun hc h => ?_) (fun hc h => ?_)
  ·cbv;have h := ret_some h;subst h;exact hK _ _ _ hO (.refl _)
  ·cbv;refine n_call hE (g := fun r2 => .int .i64 r2) h (fun r2 hx => c117 N N x_e (.func (.func 118) [] []) (fun y1 => expr_node N y1) (fun y1 r hx => CallP.value (F := []) (C := []) (c118 N y1 r hx)) r2 hx) (.refl _) fun r2 h => ?_;cbv;have h := ret_some h;subst h;exact hK _ _ _ hO (.refl _)
def cf96 : Cf := ⟨[], [(6, 10)], [], [], [], []⟩
theorem c96 (N : Nat) : ∀ (n : Nat) (x_a : GExpr) (x_b : GExpr) (r : Bool), expr_Same N n x_a x_b = some r → CallP Tryz.prog 96 [.agg [.int .i64 x_a.Op, .sl (Ar.lst Encs.eGExpr x_a.Args) .ro, .int .i64 x_a.Var, .int .i64 x_a.Field, .int .i64 x_a.Kind, .int .i64 x_a.Value.Kind, .int .i64 x_a.Value.Num, .str x_a.Value.Text], .agg [.int .i64 x_b.Op, .sl (Ar.lst Encs.eGExpr x_b.Args) .ro, .int .i64 x_b.Var, .int .i64 x_b.Field, .int .i64 x_b.Kind, .int .i64 x_b.Value.Kind, .int .i64 x_b.Value.Num, .str x_b.Value.Text]] (.bool r) := by
 intro n
 induction n with
 | zero => intro x_a x_b r h; cases h
 | succ n ih =>
 intro x_a x_b r h
 unfold expr_Same at h
 refine callP_of_spec cf96 okP Tryz.func96 (by rfl) (by kernel_rfl) Tryz.call96 Tryz.ntmps96 (by rfl) (by rfl) ?_;intro E H0 K hE hK
 have hO : Own Eq H0 [] H0 := .start stable_eq rfl
 cbv;refine n_ln hE ?_;cbv;refine n_ln hE ?_;cbv;refine n_br hE h (fun hc h => ?_) (fun hc h => ?_)
 ·cbv;have h := ret_some h;subst h;exact hK _ _ _ hO (.refl _)
 ·cbv;refine n_ln hE ?_;cbv;obtain ⟨s2, hx, h⟩ := bind_some h;refine n_loopN cf96 hE okP (fun s1 => [(2, .v (.eref [.int .i64 x_a.Op, .sl (Ar.lst Encs.eGExpr x_a.Args) .ro, .int .i64 x_a.Var, .int .i64 x_a.Field, .int .i64 x_a.Kind, .int .i64 x_a.Value.Kind, .int .i64 x_a.Value.Num, .str x_a.Value.Text] 0)), (3, .v (.eref [.int .i64 x_b.Op, .sl (Ar.lst Encs.eGExpr x_b.Args) .ro, .int .i64 x_b.Var, .int .i64 x_b.Field, .int .i64 x_b.Kind, .int .i64 x_b.Value.Kind, .int .i64 x_b.Value.Num, .str x_b.Value.Text] 0)), (50, .v (.int .i64 (Ar.len x_a.Args))), (51, .v (.int .i64 s1))]) (fun s1 H1 => Own Eq H0 [] H1) (fun x e l H1 => match (generalizing := false) x with | .inl y => e = .exit 0 ∧ l = [] ∧ Own Eq H0 [] H1 | .inr y => e = .ret ∧ l = [(4, .b false)] ∧ Own Eq H0 [] H1) (by kernel_rfl) ?_ hx ?_ hO ?_
  ·intro s1 H o hO h;clear hx;cbv;refine n_br hE h (fun hc h => ?_) (fun hc h => ?_)
   ·cbv;refine n_idx hE Encs.eGExpr_eq h fun x3 h => ?_;cbv;refine n_idx hE Encs.eGExpr_eq h fun x4 h => ?_;cbv;refine n_call hE (g := fun r5 => .bool r5) h (fun r5 hx => ih x3 x4 r5 hx) (.refl _) fun r5 h => ?_;cbv;refine n_br hE h (fun hc h => ?_) (fun hc h => ?_)
    ·cbv;have h := ret_some h;subst h;exact ⟨_, _, rfl, ⟨rfl, rfl, hO⟩, .b rfl (.z), rfl⟩
    ·cbv;have h := ret_some h;subst h;exact ⟨_, rfl, .e rfl (.e rfl (.e rfl (.e rfl (.z)))), rfl, hO⟩
   ·cbv;have h := ret_some h;subst h;exact ⟨_, _, rfl, ⟨rfl, rfl, hO⟩, .z, rfl⟩
  ·exact .e rfl (.e rfl (.e rfl (.e rfl (.z))))
  ·clear hx
   rcases s2 with y6 | y7
   ·rintro e l H ⟨rfl, rfl, hO⟩;cbv;have h := ret_some h;subst h;exact hK _ _ _ hO (.refl _)
   ·rintro e l H ⟨rfl, rfl, hO⟩;cbv;have h := ret_some h;subst h;exact hK _ _ _ hO (.refl _)
def cf97 : Cf := ⟨[], [], [], [], [], []⟩
theorem c97 (N : Nat) (x_used : Bool) (x_n : Int) (r : Bool) (h : pattern_unused N x_used x_n = some r) : CallP Tryz.prog 97 [.bool x_used, .int .i64 x_n] (.bool r) := by
 unfold pattern_unused at h
 refine callP_of_spec cf97 okP Tryz.func97 (by rfl) (by kernel_rfl) Tryz.call97 Tryz.ntmps97 (by rfl) (by rfl) ?_;intro E H0 K hE hK
 have hO : Own Eq H0 [] H0 := .start stable_eq rfl
 cbv;have h := ret_some h;subst h;exact hK _ _ _ hO (.refl _)
def cf66 : Cf := ⟨[], [], [(64, 10)], [], [], []⟩
theorem c66 (N : Nat) (x_p : GPattern) (r : Int) (h : pattern_check N x_p = some r) : CallP Tryz.prog 66 [.agg [.int .i64 x_p.Op, .sl (Ar.lst Encs.eGPattern x_p.Args) .ro, .int .i64 x_p.Typ, .int .i64 x_p.Var, .int .i64 x_p.Scope, .int .i64 x_p.Span, .int .i64 x_p.Cond.Op, .sl (Ar.lst Encs.eGExpr x_p.Cond.Args) .ro, .int .i64 x_p.Cond.Var, .int .i64 x_p.Cond.Field, .int .i64 x_p.Cond.Kind, .int .i64 x_p.Cond.Value.Kind, .int .i64 x_p.Cond.Value.Num, .str x_p.Cond.Value.Text]] (.int .i64 r) := by
 unfold pattern_check at h
 refine callP_of_spec cf66 okP Tryz.func66 (by rfl) (by kernel_rfl) Tryz.call66 Tryz.ntmps66 (by rfl) (by rfl) ?_;intro E H0 K hE hK
 have hO : Own Eq H0 [] H0 := .start stable_eq rfl
 cbv;refine n_br hE h (fun hc h => ?_) (fun hc h => ?_)
 ·cbv;have h := ret_some h;subst h;exact hK _ _ _ hO (.refl _)
 ·cbv;refine n_elem hE (g := fun x => .agg [.int .i64 x.least, .int .i64 x.most, .bool x.typed, .bool x.cond, .bool x.scope, .bool x.span]) (l := tab_pattern_shapes) rfl (fun _ => rfl) rfl rfl h fun x1 h => ?_;cbv;refine n_ln hE ?_;cbv;refine n_ln hE ?_;cbv;refine n_br hE h (fun hc h => ?_) (fun hc h => ?_)
  ·cbv;have h := ret_some h;subst h;exact hK _ _ _ hO (.refl _)
  ·cbv;refine n_call hE (g := fun r2 => .bool r2) h (fun r2 hx => c94 N x1.typed x_p.Typ 15 r2 hx) (.refl _) fun r2 h => ?_;cbv;refine n_br hE h (fun hc h => ?_) (fun hc h => ?_)
   ·cbv;have h := ret_some h;subst h;exact hK _ _ _ hO (.refl _)
   ·cbv;refine n_call hE (g := fun r3 => .bool r3) h (fun r3 hx => c94 N x1.typed x_p.Var 15 r3 hx) (.refl _) fun r3 h => ?_;cbv;refine n_br hE h (fun hc h => ?_) (fun hc h => ?_)
    ·cbv;have h := ret_some h;subst h;exact hK _ _ _ hO (.refl _)
    ·cbv;refine n_call hE (g := fun r4 => .bool r4) h (fun r4 hx => c94 N x1.scope x_p.Scope 63 r4 hx) (.refl _) fun r4 h => ?_;cbv;refine n_br hE h (fun hc h => ?_) (fun hc h => ?_)
     ·cbv;have h := ret_some h;subst h;exact hK _ _ _ hO (.refl _)
     ·cbv;refine n_call hE (g := fun r5 => .bool r5) h (fun r5 hx => c94 N x1.span x_p.Span 1099511627776 r5 hx) (.refl _) fun r5 h => ?_;cbv;refine n_br hE h (fun hc h => ?_) (fun hc h => ?_)
      ·cbv;have h := ret_some h;subst h;exact hK _ _ _ hO (.refl _)
      ·cbv;obtain ⟨s6, hx, h⟩ := bind_some h;refine n_join cf66 hE okP (fun e l H1 => match (generalizing := false) s6 with | .inl y => e = .normal ∧ l = [(1, .v (.eref [.int .i64 x_p.Op, .sl (Ar.lst Encs.eGPattern x_p.Args) .ro, .int .i64 x_p.Typ, .int .i64 x_p.Var, .int .i64 x_p.Scope, .int .i64 x_p.Span, .int .i64 x_p.Cond.Op, .sl (Ar.lst Encs.eGExpr x_p.Cond.Args) .ro, .int .i64 x_p.Cond.Var, .int .i64 x_p.Cond.Field, .int .i64 x_p.Cond.Kind, .int .i64 x_p.Cond.Value.Kind, .int .i64 x_p.Cond.Value.Num, .str x_p.Cond.Value.Text] 0)), (3, .v (.eref [.int .i64 x1.least, .int .i64 x1.most, .bool x1.typed, .bool x1.cond, .bool x1.scope, .bool x1.span] 0))] ∧ Own Eq H0 [] H1 | .inr y => e = .ret ∧ l = [(2, .v (.int .i64 y))] ∧ Own Eq H0 [] H1) (by kernel_rfl) ?_ ?_
       ·clear h;have h := hx;clear hx;cbv;refine n_br hE h (fun hc h => ?_) (fun hc h => ?_)
        ·cbv;refine n_call hE (g := fun r7 => .int .i64 r7) h (fun r7 hx => c95 N x_p.Cond r7 hx) (.refl _) fun r7 h => ?_;cbv;refine n_br hE h (fun hc h => ?_) (fun hc h => ?_)
         ·cbv;have h := ret_some h;subst h;exact ⟨_, ⟨rfl, rfl, hO⟩, .e rfl (.z), rfl⟩
         ·cbv;have h := ret_some h;subst h;exact ⟨_, ⟨rfl, rfl, hO⟩, .e rfl (.e rfl (.z)), rfl⟩
        ·cbv;have h := ret_some h;subst h;exact ⟨_, ⟨rfl, rfl, hO⟩, .e rfl (.e rfl (.z)), rfl⟩
       ·clear hx
        rcases s6 with y8 | y18
        ·rintro e l H ⟨rfl, rfl, hO⟩;cbv;refine n_br hE h (fun hc h => ?_) (fun hc h => ?_)
         ·cbv;refine n_call hE (g := fun r9 => .bool r9) h (fun r9 hx => c96 N N x_p.Cond (⟨0, [], 0, 0, 0, (⟨0, 0, ⟨#[]⟩⟩ : GValue)⟩ : GExpr) r9 hx) (.cons (.refl _) (.cons (.agg (.cons (.refl _) (.cons (.lit _ (lst_nil)) (.refl _)))) (.refl _))) fun r9 h => ?_;cbv;refine n_br hE h (fun hc h => ?_) (fun hc h => ?_)
          ·cbv;have h := ret_some h;subst h;exact hK _ _ _ hO (.refl _)
          ·cbv;refine n_call hE (g := fun r10 => .bool r10) h (fun r10 hx => c97 N x1.typed x_p.Typ r10 hx) (.refl _) fun r10 h => ?_;cbv;refine n_br hE h (fun hc h => ?_) (fun hc h => ?_)
           ·cbv;have h := ret_some h;subst h;exact hK _ _ _ hO (.refl _)
           ·cbv;refine n_call hE (g := fun r11 => .bool r11) h (fun r11 hx => c97 N x1.typed x_p.Var r11 hx) (.refl _) fun r11 h => ?_;cbv;refine n_br hE h (fun hc h => ?_) (fun hc h => ?_)
            ·cbv;have h := ret_some h;subst h;exact hK _ _ _ hO (.refl _)
            ·cbv;refine n_call hE (g := fun r12 => .bool r12) h (fun r12 hx => c97 N x1.scope x_p.Scope r12 hx) (.refl _) fun r12 h => ?_;cbv;refine n_br hE h (fun hc h => ?_) (fun hc h => ?_)
             ·cbv;have h := ret_some h;subst h;exact hK _ _ _ hO (.refl _)
             ·cbv;refine n_call hE (g := fun r13 => .bool r13) h (fun r13 hx => c97 N x1.span x_p.Span r13 hx) (.refl _) fun r13 h => ?_;cbv;refine n_br hE h (fun hc h => ?_) (fun hc h => ?_)
              ·cbv;have h := ret_some h;subst h;exact hK _ _ _ hO (.refl _)
              ·cbv;have h := ret_some h;subst h;exact hK _ _ _ hO (.refl _)
         ·cbv;refine n_call hE (g := fun r14 => .bool r14) h (fun r14 hx => c97 N x1.typed x_p.Typ r14 hx) (.refl _) fun r14 h => ?_;cbv;refine n_br hE h (fun hc h => ?_) (fun hc h => ?_)
          ·cbv;have h := ret_some h;subst h;exact hK _ _ _ hO (.refl _)
          ·cbv;refine n_call hE (g := fun r15 => .bool r15) h (fun r15 hx => c97 N x1.typed x_p.Var r15 hx) (.refl _) fun r15 h => ?_;cbv;refine n_br hE h (fun hc h => ?_) (fun hc h => ?_)
           ·cbv;have h := ret_some h;subst h;exact hK _ _ _ hO (.refl _)
           ·cbv;refine n_call hE (g := fun r16 => .bool r16) h (fun r16 hx => c97 N x1.scope x_p.Scope r16 hx) (.refl _) fun r16 h => ?_;cbv;refine n_br hE h (fun hc h => ?_) (fun hc h => ?_)
            ·cbv;have h := ret_some h;subst h;exact hK _ _ _ hO (.refl _)
            ·cbv;refine n_call hE (g := fun r17 => .bool r17) h (fun r17 hx => c97 N x1.span x_p.Span r17 hx) (.refl _) fun r17 h => ?_;cbv;refine n_br hE h (fun hc h => ?_) (fun hc h => ?_)
             ·cbv;have h := ret_some h;subst h;exact hK _ _ _ hO (.refl _)
             ·cbv;have h := ret_some h;subst h;exact hK _ _ _ hO (.refl _)
        ·rintro e l H ⟨rfl, rfl, hO⟩;cbv;have h := ret_some h;subst h;exact hK _ _ _ hO (.refl _)
def cf39 : Cf := ⟨[2], [], [], [], [], []⟩
theorem c39 (N : Nat) (x_p : GPattern) (r : Int) (h : pattern_CheckRest N x_p = some r) : CallP Tryz.prog 39 [.agg [.int .i64 x_p.Op, .sl (Ar.lst Encs.eGPattern x_p.Args) .ro, .int .i64 x_p.Typ, .int .i64 x_p.Var, .int .i64 x_p.Scope, .int .i64 x_p.Span, .int .i64 x_p.Cond.Op, .sl (Ar.lst Encs.eGExpr x_p.Cond.Args) .ro, .int .i64 x_p.Cond.Var, .int .i64 x_p.Cond.Field, .int .i64 x_p.Cond.Kind, .int .i64 x_p.Cond.Value.Kind, .int .i64 x_p.Cond.Value.Num, .str x_p.Cond.Value.Text]] (.int .i64 r) := by
 unfold pattern_CheckRest at h
 refine callP_of_spec cf39 okP Tryz.func39 (by rfl) (by kernel_rfl) Tryz.call39 Tryz.ntmps39 (by rfl) (by rfl) ?_;intro E H0 K hE hK
 have hO : Own Eq H0 [] H0 := .start stable_eq rfl
 cbv;refine n_alloc hE hO fun b1 H hO => ?_;cbv;refine n_call hE (g := fun r2 => .tup [.int .i64 r2.1, .int .i64 r2.2]) h (fun r2 hx => c64 N N x_p r2 hx) (.refl _) fun r2 h => ?_;cbv;refine n_br hE h (fun hc h => ?_) (fun hc h => ?_)
 ·cbv;refine n_store hE hO 0 rfl rfl fun H hO => ?_;cbv;refine n_load hE hO 0 rfl ?_;cbv;have h := ret_some h;subst h;exact hK _ _ _ hO (.refl _)
 ·cbv;refine n_br hE h (fun hc h => ?_) (fun hc h => ?_)
  ·cbv;refine n_store hE hO 0 rfl rfl fun H hO => ?_;cbv;refine n_load hE hO 0 rfl ?_;cbv;have h := ret_some h;subst h;exact hK _ _ _ hO (.refl _)
  ·cbv;refine n_callQ hE h (fun r3 hx => c65 N x_p r3 hx) (.refl _) fun r3 v4 hv4 h => ?_;cbv;obtain ⟨o9, hx, h⟩ := bind_some h;refine n_range cf39 hE okP (ι := Unit) (enc := fun (x : GPattern) => [.agg [.int .i64 x.Op, .sl (Ar.lst Encs.eGPattern x.Args) .ro, .int .i64 x.Typ, .int .i64 x.Var, .int .i64 x.Scope, .int .i64 x.Span, .int .i64 x.Cond.Op, .sl (Ar.lst Encs.eGExpr x.Cond.Args) .ro, .int .i64 x.Cond.Var, .int .i64 x.Cond.Field, .int .i64 x.Cond.Kind, .int .i64 x.Cond.Value.Kind, .int .i64 x.Cond.Value.Num, .str x.Cond.Value.Text]]) (fun (s6 : Unit) F H => Own Eq F [.blk b1 (.cells [.int .i64 0])] H) (fun (r : Int) e F H => e = .ret ∧ Own Eq F [.blk b1 (.cells [.int .i64 r])] H) (fun i s6 y5 => [(2, .v (.ref b1 0)), (5, .v (.eref [.int .i64 y5.Op, .sl (Ar.lst Encs.eGPattern y5.Args) .ro, .int .i64 y5.Typ, .int .i64 y5.Var, .int .i64 y5.Scope, .int .i64 y5.Span, .int .i64 y5.Cond.Op, .sl (Ar.lst Encs.eGExpr y5.Cond.Args) .ro, .int .i64 y5.Cond.Var, .int .i64 y5.Cond.Field, .int .i64 y5.Cond.Kind, .int .i64 y5.Cond.Value.Kind, .int .i64 y5.Cond.Value.Num, .str y5.Cond.Value.Text] 0))]) (fun i s6 y5 F H => Own Eq F [.blk b1 (.cells [.int .i64 0])] H) (fun _ => Own.stable stable_eq _) (fun _ _ => Stable.con (Own.stable stable_eq _)) (fun _ _ _ => Own.stable stable_eq _) hv4 hx (hO) (by decide) (fun _ => rfl) (by kernel_rfl) (by kernel_rfl) ?_ ?_ ?_ ?_
   ·rintro E i8 y5 s6 F7 H hE hO;clear hx h;cbv;exact ⟨(), hO, .e rfl (.e rfl (.z)), rfl⟩
   ·rintro E i8 _ y5 s6 F7 H o hE hF h hO;clear hx;cbv;refine n_call hE (g := fun r10 => .int .i64 r10) h (fun r10 hx => c66 N y5 r10 hx) (.refl _) fun r10 h => ?_;cbv;refine n_br hE h (fun hc h => ?_) (fun hc h => ?_)
    ·cbv;refine n_store hE hO 0 rfl rfl fun H hO => ?_;cbv;have h := ret_some h;subst h;exact ⟨_, rfl, rfl, ⟨rfl, hO⟩⟩
    ·cbv;have h := ret_some h;subst h;exact ⟨_, rfl, hO⟩
   ·rintro d11 s13 H rfl hd hO
    have hO : Own Eq H0 [.blk b1 (.cells [.int .i64 0]), .blk d11 DB] H := Own.dblk hd hO
    clear hd;clear hx;cbv;refine n_store hE hO 0 rfl rfl fun H hO => ?_;cbv;refine n_fin hE hO 1 rfl fun H hO => ?_;cbv;refine n_load hE hO 0 rfl ?_;cbv;have h := ret_some h;subst h;exact hK _ _ _ hO (.refl _)
   ·rintro d11 y14 e H rfl hd hX;clear hx
    rcases hX with ⟨rfl, hO⟩
    have hO : Own Eq H0 [.blk b1 (.cells [.int .i64 y14]), .blk d11 DB] H := Own.dblk hd hO
    clear hd;cbv;refine n_fin hE hO 1 rfl fun H hO => ?_;cbv;refine n_load hE hO 0 rfl ?_;cbv;have h := ret_some h;subst h;exact hK _ _ _ hO (.refl _)
def cf76 : Cf := ⟨[], [], [], [], [], []⟩
theorem c76 (N : Nat) (x_s : List GPattern) (v_f : V) (x_f : GPattern → Option Bool) (h_f : ∀ y1 q, x_f y1 = some q → CallVP Tryz.prog v_f [.agg [.int .i64 y1.Op, .sl (Ar.lst Encs.eGPattern y1.Args) .ro, .int .i64 y1.Typ, .int .i64 y1.Var, .int .i64 y1.Scope, .int .i64 y1.Span, .int .i64 y1.Cond.Op, .sl (Ar.lst Encs.eGExpr y1.Cond.Args) .ro, .int .i64 y1.Cond.Var, .int .i64 y1.Cond.Field, .int .i64 y1.Cond.Kind, .int .i64 y1.Cond.Value.Kind, .int .i64 y1.Cond.Value.Num, .str y1.Cond.Value.Text]] (.bool q)) (r : Int) (h : slices_IndexFunc_LPattern_Pattern N x_s x_f = some r) : CallP Tryz.prog 76 [.sl (Ar.lst Encs.eGPattern x_s) .ro, v_f] (.int .i64 r) := by
 unfold slices_IndexFunc_LPattern_Pattern at h
 refine callP_of_spec cf76 okP Tryz.func76 (by rfl) (by kernel_rfl) Tryz.call76 Tryz.ntmps76 (by rfl) (by rfl) ?_;intro E H0 K hE hK
 have hO : Own Eq H0 [] H0 := .start stable_eq rfl
 cbv;refine n_ln hE ?_;cbv;obtain ⟨s2, hx, h⟩ := bind_some h;refine n_loopN cf76 hE okP (fun s1 => [(0, .v (.sl (Ar.lst Encs.eGPattern x_s) .ro)), (1, .v (v_f)), (7, .v (.int .i64 (Ar.len x_s))), (8, .v (.int .i64 s1))]) (fun s1 H1 => Own Eq H0 [] H1) (fun x e l H1 => match (generalizing := false) x with | .inl y => e = .exit 0 ∧ l = [] ∧ Own Eq H0 [] H1 | .inr y => e = .ret ∧ l = [(4, .v (.int .i64 y))] ∧ Own Eq H0 [] H1) (by kernel_rfl) ?_ hx ?_ hO ?_
 ·intro s1 H o hO h;clear hx;cbv;refine n_br hE h (fun hc h => ?_) (fun hc h => ?_)
  ·cbv;refine n_idx hE Encs.eGPattern_eq h fun x3 h => ?_;cbv;refine n_callF hE (g := fun r4 => .bool r4) h (fun r4 hx => h_f x3 r4 hx) (.refl _) fun r4 h => ?_;cbv;refine n_br hE h (fun hc h => ?_) (fun hc h => ?_)
   ·cbv;have h := ret_some h;subst h;exact ⟨_, _, rfl, ⟨rfl, rfl, hO⟩, .e rfl (.z), rfl⟩
   ·cbv;have h := ret_some h;subst h;exact ⟨_, rfl, .e rfl (.e rfl (.e rfl (.e rfl (.z)))), rfl, hO⟩
  ·cbv;have h := ret_some h;subst h;exact ⟨_, _, rfl, ⟨rfl, rfl, hO⟩, .z, rfl⟩
 ·exact .e rfl (.e rfl (.e rfl (.e rfl (.z))))
 ·clear hx
  rcases s2 with y5 | y6
  ·rintro e l H ⟨rfl, rfl, hO⟩;cbv;have h := ret_some h;subst h;exact hK _ _ _ hO (.refl _)
  ·rintro e l H ⟨rfl, rfl, hO⟩;cbv;have h := ret_some h;subst h;exact hK _ _ _ hO (.refl _)
def cf108 : Cf := ⟨[8], [], [], [], [], []⟩
theorem c108 (N : Nat) (x_s1 : List GPattern) (x_s2 : List GPattern) (v_eq : V) (x_eq : GPattern → GPattern → Option Bool) (h_eq : ∀ y1 y2 q, x_eq y1 y2 = some q → CallVP Tryz.prog v_eq [.agg [.int .i64 y1.Op, .sl (Ar.lst Encs.eGPattern y1.Args) .ro, .int .i64 y1.Typ, .int .i64 y1.Var, .int .i64 y1.Scope, .int .i64 y1.Span, .int .i64 y1.Cond.Op, .sl (Ar.lst Encs.eGExpr y1.Cond.Args) .ro, .int .i64 y1.Cond.Var, .int .i64 y1.Cond.Field, .int .i64 y1.Cond.Kind, .int .i64 y1.Cond.Value.Kind, .int .i64 y1.Cond.Value.Num, .str y1.Cond.Value.Text], .agg [.int .i64 y2.Op, .sl (Ar.lst Encs.eGPattern y2.Args) .ro, .int .i64 y2.Typ, .int .i64 y2.Var, .int .i64 y2.Scope, .int .i64 y2.Span, .int .i64 y2.Cond.Op, .sl (Ar.lst Encs.eGExpr y2.Cond.Args) .ro, .int .i64 y2.Cond.Var, .int .i64 y2.Cond.Field, .int .i64 y2.Cond.Kind, .int .i64 y2.Cond.Value.Kind, .int .i64 y2.Cond.Value.Num, .str y2.Cond.Value.Text]] (.bool q)) (r : Bool) (h : slices_EqualFunc_LPattern_LPattern_Pattern_Pattern N x_s1 x_s2 x_eq = some r) : CallP Tryz.prog 108 [.sl (Ar.lst Encs.eGPattern x_s1) .ro, .sl (Ar.lst Encs.eGPattern x_s2) .ro, v_eq] (.bool r) := by
 unfold slices_EqualFunc_LPattern_LPattern_Pattern_Pattern at h
 refine callP_of_spec cf108 okP Tryz.func108 (by rfl) (by kernel_rfl) Tryz.call108 Tryz.ntmps108 (by rfl) (by rfl) ?_;intro E H0 K hE hK
 have hO : Own Eq H0 [] H0 := .start stable_eq rfl
 cbv;refine n_ln hE ?_;cbv;refine n_ln hE ?_;cbv;refine n_br hE h (fun hc h => ?_) (fun hc h => ?_)
 ·cbv;have h := ret_some h;subst h;exact hK _ _ _ hO (.refl _)
 ·cbv;refine n_ln hE ?_;cbv;obtain ⟨s2, hx, h⟩ := bind_some h;refine n_loopN cf108 hE okP (fun s1 => [(1, .v (.sl (Ar.lst Encs.eGPattern x_s2) .ro)), (2, .v (v_eq)), (15, .v (.sl (Ar.lst Encs.eGPattern x_s1) .ro)), (16, .v (.int .i64 (Ar.len x_s1))), (17, .v (.int .i64 s1))]) (fun s1 H1 => Own Eq H0 [] H1) (fun x e l H1 => match (generalizing := false) x with | .inl y => e = .exit 0 ∧ l = [] ∧ Own Eq H0 [] H1 | .inr y => e = .ret ∧ l = [(6, .b false)] ∧ Own Eq H0 [] H1) (by kernel_rfl) ?_ hx ?_ hO ?_
  ·intro s1 H o hO h;clear hx;cbv;refine n_br hE h (fun hc h => ?_) (fun hc h => ?_)
   ·cbv;refine n_idx hE Encs.eGPattern_eq h fun x3 h => ?_;cbv;refine n_alloc hE hO fun b4 H hO => ?_;cbv;refine n_store hE hO 0 rfl rfl fun H hO => ?_;cbv;refine n_idx hE Encs.eGPattern_eq h fun x5 h => ?_;cbv;refine n_load hE hO 0 rfl ?_;cbv;refine n_callF hE (g := fun r6 => .bool r6) h (fun r6 hx => h_eq x3 x5 r6 hx) (.refl _) fun r6 h => ?_;cbv;refine n_br hE h (fun hc h => ?_) (fun hc h => ?_)
    ·cbv;have h := ret_some h;subst h;exact ⟨_, _, rfl, ⟨rfl, rfl, hO.tail⟩, .b rfl (.z), rfl⟩
    ·cbv;have h := ret_some h;subst h;exact ⟨_, rfl, .e rfl (.e rfl (.e rfl (.e rfl (.e rfl (.z))))), rfl, hO.tail⟩
   ·cbv;have h := ret_some h;subst h;exact ⟨_, _, rfl, ⟨rfl, rfl, hO⟩, .z, rfl⟩
  ·exact .e rfl (.e rfl (.e rfl (.e rfl (.e rfl (.z)))))
  ·clear hx
   rcases s2 with y7 | y8
   ·rintro e l H ⟨rfl, rfl, hO⟩;cbv;have h := ret_some h;subst h;exact hK _ _ _ hO (.refl _)
   ·rintro e l H ⟨rfl, rfl, hO⟩;cbv;have h := ret_some h;subst h;exact hK _ _ _ hO (.refl _)
def cf78 : Cf := ⟨[], [], [], [], [], []⟩
theorem c78 (N : Nat) : ∀ (n : Nat) (x_a : GPattern) (x_b : GPattern) (r : Bool), pattern_Same N n x_a x_b = some r → CallP Tryz.prog 78 [.agg [.int .i64 x_a.Op, .sl (Ar.lst Encs.eGPattern x_a.Args) .ro, .int .i64 x_a.Typ, .int .i64 x_a.Var, .int .i64 x_a.Scope, .int .i64 x_a.Span, .int .i64 x_a.Cond.Op, .sl (Ar.lst Encs.eGExpr x_a.Cond.Args) .ro, .int .i64 x_a.Cond.Var, .int .i64 x_a.Cond.Field, .int .i64 x_a.Cond.Kind, .int .i64 x_a.Cond.Value.Kind, .int .i64 x_a.Cond.Value.Num, .str x_a.Cond.Value.Text], .agg [.int .i64 x_b.Op, .sl (Ar.lst Encs.eGPattern x_b.Args) .ro, .int .i64 x_b.Typ, .int .i64 x_b.Var, .int .i64 x_b.Scope, .int .i64 x_b.Span, .int .i64 x_b.Cond.Op, .sl (Ar.lst Encs.eGExpr x_b.Cond.Args) .ro, .int .i64 x_b.Cond.Var, .int .i64 x_b.Cond.Field, .int .i64 x_b.Cond.Kind, .int .i64 x_b.Cond.Value.Kind, .int .i64 x_b.Cond.Value.Num, .str x_b.Cond.Value.Text]] (.bool r) := by
 intro n
 induction n with
 | zero => intro x_a x_b r h; cases h
 | succ n ih =>
 intro x_a x_b r h
 unfold pattern_Same at h
 refine callP_of_spec cf78 okP Tryz.func78 (by rfl) (by kernel_rfl) Tryz.call78 Tryz.ntmps78 (by rfl) (by rfl) ?_;intro E H0 K hE hK
 have hO : Own Eq H0 [] H0 := .start stable_eq rfl
 cbv;refine n_br hE h (fun hc h => ?_) (fun hc h => ?_)
 ·cbv;have h := ret_some h;subst h;exact hK _ _ _ hO (.refl _)
 ·cbv;refine n_call hE (g := fun r1 => .bool r1) h (fun r1 hx => c96 N N x_a.Cond x_b.Cond r1 hx) (.refl _) fun r1 h => ?_;cbv;refine n_br hE h (fun hc h => ?_) (fun hc h => ?_)
  ·cbv;have h := ret_some h;subst h;exact hK _ _ _ hO (.refl _)
  ·cbv;refine n_call hE (g := fun r2 => .bool r2) h (fun r2 hx => c108 N x_a.Args x_b.Args (.func (.func 78) [] []) (fun y1 y2 => pattern_Same N n y1 y2) (fun y1 y2 r hx => CallP.value (F := []) (C := []) (ih y1 y2 r hx)) r2 hx) (.refl _) fun r2 h => ?_;cbv;have h := ret_some h;subst h;exact hK _ _ _ hO (.refl _)
def cf77 : Cf := ⟨[], [], [], [], [], []⟩
theorem c77 (N : Nat) (x_q : GPattern) (x_1 : GPattern) (r : Bool) (h : derivative_index_1 N x_q x_1 = some r) : CallP Tryz.prog 77 [.agg [.int .i64 x_q.Op, .sl (Ar.lst Encs.eGPattern x_q.Args) .ro, .int .i64 x_q.Typ, .int .i64 x_q.Var, .int .i64 x_q.Scope, .int .i64 x_q.Span, .int .i64 x_q.Cond.Op, .sl (Ar.lst Encs.eGExpr x_q.Cond.Args) .ro, .int .i64 x_q.Cond.Var, .int .i64 x_q.Cond.Field, .int .i64 x_q.Cond.Kind, .int .i64 x_q.Cond.Value.Kind, .int .i64 x_q.Cond.Value.Num, .str x_q.Cond.Value.Text], .eref [.int .i64 x_1.Op, .sl (Ar.lst Encs.eGPattern x_1.Args) .ro, .int .i64 x_1.Typ, .int .i64 x_1.Var, .int .i64 x_1.Scope, .int .i64 x_1.Span, .int .i64 x_1.Cond.Op, .sl (Ar.lst Encs.eGExpr x_1.Cond.Args) .ro, .int .i64 x_1.Cond.Var, .int .i64 x_1.Cond.Field, .int .i64 x_1.Cond.Kind, .int .i64 x_1.Cond.Value.Kind, .int .i64 x_1.Cond.Value.Num, .str x_1.Cond.Value.Text] 0] (.bool r) := by
 unfold derivative_index_1 at h
 refine callP_of_spec cf77 okP Tryz.func77 (by rfl) (by kernel_rfl) Tryz.call77 Tryz.ntmps77 (by rfl) (by rfl) ?_;intro E H0 K hE hK
 have hO : Own Eq H0 [] H0 := .start stable_eq rfl
 cbv;refine n_call hE (g := fun r1 => .bool r1) h (fun r1 hx => c78 N N x_1 x_q r1 hx) (.refl _) fun r1 h => ?_;cbv;have h := ret_some h;subst h;exact hK _ _ _ hO (.refl _)
def cf45 : Cf := ⟨[], [], [], [], [], []⟩
theorem c45 (N : Nat) (x_l : List GPattern) (x_p : GPattern) (r : Int) (h : derivative_index N x_l x_p = some r) : CallP Tryz.prog 45 [.sl (Ar.lst Encs.eGPattern x_l) .ro, .agg [.int .i64 x_p.Op, .sl (Ar.lst Encs.eGPattern x_p.Args) .ro, .int .i64 x_p.Typ, .int .i64 x_p.Var, .int .i64 x_p.Scope, .int .i64 x_p.Span, .int .i64 x_p.Cond.Op, .sl (Ar.lst Encs.eGExpr x_p.Cond.Args) .ro, .int .i64 x_p.Cond.Var, .int .i64 x_p.Cond.Field, .int .i64 x_p.Cond.Kind, .int .i64 x_p.Cond.Value.Kind, .int .i64 x_p.Cond.Value.Num, .str x_p.Cond.Value.Text]] (.int .i64 r) := by
 unfold derivative_index at h
 refine callP_of_spec cf45 okP Tryz.func45 (by rfl) (by kernel_rfl) Tryz.call45 Tryz.ntmps45 (by rfl) (by rfl) ?_;intro E H0 K hE hK
 have hO : Own Eq H0 [] H0 := .start stable_eq rfl
 cbv;refine n_call hE (g := fun r1 => .int .i64 r1) h (fun r1 hx => c76 N x_l (.func (.func 77) [] [.eref [.int .i64 x_p.Op, .sl (Ar.lst Encs.eGPattern x_p.Args) .ro, .int .i64 x_p.Typ, .int .i64 x_p.Var, .int .i64 x_p.Scope, .int .i64 x_p.Span, .int .i64 x_p.Cond.Op, .sl (Ar.lst Encs.eGExpr x_p.Cond.Args) .ro, .int .i64 x_p.Cond.Var, .int .i64 x_p.Cond.Field, .int .i64 x_p.Cond.Kind, .int .i64 x_p.Cond.Value.Kind, .int .i64 x_p.Cond.Value.Num, .str x_p.Cond.Value.Text] 0]) (fun y1 => derivative_index_1 N y1 x_p) (fun y1 r hx => CallP.value (F := []) (C := [.eref [.int .i64 x_p.Op, .sl (Ar.lst Encs.eGPattern x_p.Args) .ro, .int .i64 x_p.Typ, .int .i64 x_p.Var, .int .i64 x_p.Scope, .int .i64 x_p.Span, .int .i64 x_p.Cond.Op, .sl (Ar.lst Encs.eGExpr x_p.Cond.Args) .ro, .int .i64 x_p.Cond.Var, .int .i64 x_p.Cond.Field, .int .i64 x_p.Cond.Kind, .int .i64 x_p.Cond.Value.Kind, .int .i64 x_p.Cond.Value.Num, .str x_p.Cond.Value.Text] 0]) (c77 N y1 x_p r hx)) r1 hx) (.refl _) fun r1 h => ?_;cbv;have h := ret_some h;subst h;exact hK _ _ _ hO (.refl _)
def cf98 : Cf := ⟨[], [], [], [], [], []⟩
theorem c98 (N : Nat) (x_1 : GPattern) (r : (List (GEdge × Gderivative_rest))) (h : derivative_pairs_1 N x_1 = some r) : EmitP Tryz.prog 98 (fun yv => [yv, .eref [.int .i64 x_1.Op, .sl (Ar.lst Encs.eGPattern x_1.Args) .ro, .int .i64 x_1.Typ, .int .i64 x_1.Var, .int .i64 x_1.Scope, .int .i64 x_1.Span, .int .i64 x_1.Cond.Op, .sl (Ar.lst Encs.eGExpr x_1.Cond.Args) .ro, .int .i64 x_1.Cond.Var, .int .i64 x_1.Cond.Field, .int .i64 x_1.Cond.Kind, .int .i64 x_1.Cond.Value.Kind, .int .i64 x_1.Cond.Value.Num, .str x_1.Cond.Value.Text] 0]) (List.map (fun (x : (GEdge × Gderivative_rest)) => [.agg [.int .i64 x.1.From, .int .i64 x.1.To, .int .i64 x.1.Var, .int .i64 x.1.Typ, .int .i64 x.1.Cond.Op, .sl (Ar.lst Encs.eGExpr x.1.Cond.Args) .ro, .int .i64 x.1.Cond.Var, .int .i64 x.1.Cond.Field, .int .i64 x.1.Cond.Kind, .int .i64 x.1.Cond.Value.Kind, .int .i64 x.1.Cond.Value.Num, .str x.1.Cond.Value.Text, .sl (Ar.lst (V.int .i64) x.1.Opens) .ro, .sl (Ar.lst (V.int .i64) x.1.Closes) .ro, .sl (Ar.lst Encs.eGExpr x.1.Checks) .ro, .sl (Ar.lst Encs.eGLimit x.1.Limits) .ro, .sl (Ar.lst (V.int .i64) x.1.Inside) .ro], .agg [.bool x.2.done, .int .i64 x.2.p.Op, .sl (Ar.lst Encs.eGPattern x.2.p.Args) .ro, .int .i64 x.2.p.Typ, .int .i64 x.2.p.Var, .int .i64 x.2.p.Scope, .int .i64 x.2.p.Span, .int .i64 x.2.p.Cond.Op, .sl (Ar.lst Encs.eGExpr x.2.p.Cond.Args) .ro, .int .i64 x.2.p.Cond.Var, .int .i64 x.2.p.Cond.Field, .int .i64 x.2.p.Cond.Kind, .int .i64 x.2.p.Cond.Value.Kind, .int .i64 x.2.p.Cond.Value.Num, .str x.2.p.Cond.Value.Text]]) r) rbN := by
 unfold derivative_pairs_1 at h
 obtain ⟨⟨w0, u0⟩, h1, hr⟩ := bind_some h;clear h
 have hr := ret_some hr
 subst hr;have h := h1;clear h1;refine emitP_of_spec cf98 okP Tryz.func98 (by rfl) (by kernel_rfl) Tryz.call98 Tryz.ntmps98 (by rfl) (fun _ => rfl) ?_;intro yv I D hI hD hy tl F E H K hE hO hK hKD
 have hO : Own (I (List.map (fun (x : (GEdge × Gderivative_rest)) => [.agg [.int .i64 x.1.From, .int .i64 x.1.To, .int .i64 x.1.Var, .int .i64 x.1.Typ, .int .i64 x.1.Cond.Op, .sl (Ar.lst Encs.eGExpr x.1.Cond.Args) .ro, .int .i64 x.1.Cond.Var, .int .i64 x.1.Cond.Field, .int .i64 x.1.Cond.Kind, .int .i64 x.1.Cond.Value.Kind, .int .i64 x.1.Cond.Value.Num, .str x.1.Cond.Value.Text, .sl (Ar.lst (V.int .i64) x.1.Opens) .ro, .sl (Ar.lst (V.int .i64) x.1.Closes) .ro, .sl (Ar.lst Encs.eGExpr x.1.Checks) .ro, .sl (Ar.lst Encs.eGLimit x.1.Limits) .ro, .sl (Ar.lst (V.int .i64) x.1.Inside) .ro], .agg [.bool x.2.done, .int .i64 x.2.p.Op, .sl (Ar.lst Encs.eGPattern x.2.p.Args) .ro, .int .i64 x.2.p.Typ, .int .i64 x.2.p.Var, .int .i64 x.2.p.Scope, .int .i64 x.2.p.Span, .int .i64 x.2.p.Cond.Op, .sl (Ar.lst Encs.eGExpr x.2.p.Cond.Args) .ro, .int .i64 x.2.p.Cond.Var, .int .i64 x.2.p.Cond.Field, .int .i64 x.2.p.Cond.Kind, .int .i64 x.2.p.Cond.Value.Kind, .int .i64 x.2.p.Cond.Value.Num, .str x.2.p.Cond.Value.Text]]) (w0 ++ []) ++ tl)) F [] H := by rw [List.append_nil]; exact hO
 cbv;obtain ⟨w1, h1, he⟩ := thenE_ret h;clear h;have h := h1;clear h1
 rw [he, List.append_assoc] at hO
 clear he
 have hO : Own (I ([.agg [.int .i64 0, .int .i64 0, .int .i64 x_1.Var, .int .i64 x_1.Typ, .int .i64 x_1.Cond.Op, .sl (Ar.lst Encs.eGExpr x_1.Cond.Args) .ro, .int .i64 x_1.Cond.Var, .int .i64 x_1.Cond.Field, .int .i64 x_1.Cond.Kind, .int .i64 x_1.Cond.Value.Kind, .int .i64 x_1.Cond.Value.Num, .str x_1.Cond.Value.Text, .sl (Ar.lst (V.int .i64) ([])) .ro, .sl (Ar.lst (V.int .i64) ([])) .ro, .sl (Ar.lst Encs.eGExpr ([])) .ro, .sl (Ar.lst Encs.eGLimit ([])) .ro, .sl (Ar.lst (V.int .i64) ([])) .ro], .agg [.bool true, .int .i64 0, .sl (Ar.lst Encs.eGPattern ([])) .ro, .int .i64 0, .int .i64 0, .int .i64 0, .int .i64 0, .int .i64 0, .sl (Ar.lst Encs.eGExpr ([])) .ro, .int .i64 0, .int .i64 0, .int .i64 0, .int .i64 0, .int .i64 0, .str (⟨#[]⟩)]] :: (List.map (fun (x : (GEdge × Gderivative_rest)) => [.agg [.int .i64 x.1.From, .int .i64 x.1.To, .int .i64 x.1.Var, .int .i64 x.1.Typ, .int .i64 x.1.Cond.Op, .sl (Ar.lst Encs.eGExpr x.1.Cond.Args) .ro, .int .i64 x.1.Cond.Var, .int .i64 x.1.Cond.Field, .int .i64 x.1.Cond.Kind, .int .i64 x.1.Cond.Value.Kind, .int .i64 x.1.Cond.Value.Num, .str x.1.Cond.Value.Text, .sl (Ar.lst (V.int .i64) x.1.Opens) .ro, .sl (Ar.lst (V.int .i64) x.1.Closes) .ro, .sl (Ar.lst Encs.eGExpr x.1.Checks) .ro, .sl (Ar.lst Encs.eGLimit x.1.Limits) .ro, .sl (Ar.lst (V.int .i64) x.1.Inside) .ro], .agg [.bool x.2.done, .int .i64 x.2.p.Op, .sl (Ar.lst Encs.eGPattern x.2.p.Args) .ro, .int .i64 x.2.p.Typ, .int .i64 x.2.p.Var, .int .i64 x.2.p.Scope, .int .i64 x.2.p.Span, .int .i64 x.2.p.Cond.Op, .sl (Ar.lst Encs.eGExpr x.2.p.Cond.Args) .ro, .int .i64 x.2.p.Cond.Var, .int .i64 x.2.p.Cond.Field, .int .i64 x.2.p.Cond.Kind, .int .i64 x.2.p.Cond.Value.Kind, .int .i64 x.2.p.Cond.Value.Num, .str x.2.p.Cond.Value.Text]]) (w1 ++ []) ++ tl))) F [] _ := hO
 refine n_yield hE hI hD hy hO (.cons (.agg (.cons (.refl _) (.cons (.refl _) (.cons (.refl _) (.cons (.refl _) (.cons (.refl _) (.cons (.refl _) (.cons (.refl _) (.cons (.refl _) (.cons (.refl _) (.cons (.refl _) (.cons (.refl _) (.cons (.refl _) (.cons (.lit _ (lst_nil)) (.cons (.lit _ (lst_nil)) (.cons (.lit _ (lst_nil)) (.cons (.lit _ (lst_nil)) (.cons (.lit _ (lst_nil)) (.refl _))))))))))))))))))) (.cons (.agg (.cons (.refl _) (.cons (.refl _) (.cons (.lit _ (lst_nil)) (.cons (.refl _) (.cons (.refl _) (.cons (.refl _) (.cons (.refl _) (.cons (.refl _) (.cons (.lit _ (lst_nil)) (.refl _))))))))))) (.refl _))) (fun H hO => ?_) (fun H hO => ?_)
 ·cbv;obtain ⟨hw, _⟩ := pair_some h
  rw [← hw] at hO
  exact hK _ _ _ hO trivial
 ·clear h;cbv;exact hKD _ _ _ hO trivial
def cf138 : Cf := ⟨[7], [], [], [], [], []⟩
theorem c138 (N : Nat) (x_s : List GPattern) (r : List GPattern) (h : slices_Clone_LPattern_Pattern N x_s = some r) : CallO Tryz.prog 138 [.sl (Ar.lst Encs.eGPattern x_s) .ro] 14 (Ar.lst Encs.eGPattern r) := by
 unfold slices_Clone_LPattern_Pattern at h
 intro H0;refine callO_run (T := TT) cf138 okP Tryz.func138 (by rfl) (by kernel_rfl) Tryz.call138 Tryz.ntmps138 (by rfl) (by rfl) ?_;intro E K hE hK hN
 have hO : Own Eq H0 [] H0 := .start stable_eq rfl
 cbv;refine n_nilc hE rfl (fun hx => ?_) ?_
 ·cbv;exact hN (appL_nil hx h) [] H0 hO
 ·cbv;refine n_oapp0 hE sz_GPattern (by decide) hO (.inr rfl) (m := x_s) (src_sl hE sz_GPattern (.refl _)) h fun l q H hq hO h => ?_;cbv;have h := ret_some h;subst h;exact hK q _ _ (okn_lst hE hq) hO
theorem ov147 (vals : Array Value) (w : World) : (callFunc 147 vals).run Tryz.prog w = ((Extern.SlicesOverlaps.overlaps #[22, 22] #[4] vals).run Tryz.prog w).andThen fun v w' => .ok (.value v) w' :=
 run_callFunc_extern Tryz.func147 (by kernel_rfl) (by kernel_rfl) (by kernel_rfl) (e := Extern.SlicesOverlaps.overlaps #[22, 22] #[4]) (by kernel_rfl) vals w
def cf139 : Cf := ⟨[], [(11, 8), (15, 8)], [], [], [], []⟩
set_option maxHeartbeats 1000000 in
theorem c139 (N : Nat) (x_s : List GPattern) (x_i : Int) (x_v : List GPattern) (r : List GPattern) (h : slices_Insert_LPattern_Pattern N x_s x_i x_v = some r) : CallOO Tryz.prog 139 [.int .i64 x_i, .sl (Ar.lst Encs.eGPattern x_v) .ro] 14 (Ar.lst Encs.eGPattern x_s) (Ar.lst Encs.eGPattern r) := by
 unfold slices_Insert_LPattern_Pattern at h
 obtain ⟨x, h1, h2⟩ := bind_some h
 cases ret_some h2
 obtain ⟨h0, h1, h2, hr⟩ := lst_ins (f := Encs.eGPattern) h1;rw [hr];clear hr h
 have hvall := lst_sz sz_GPattern x_v
 generalize Ar.lst Encs.eGPattern x_s = xs at *
 generalize Ar.lst Encs.eGPattern x_v = vs at *
 rintro H ⟨id, lo, n, pre, rest⟩ ⟨e1, e2⟩ hk
 simp only at e1 e2 hk
 refine callOO_run (T := TT) cf139 okP Tryz.func139 (by rfl) (by kernel_rfl) Tryz.call139 Tryz.ntmps139 (by rfl) (by rfl) ?_;intro E K hE hK
 simp only at hK ⊢
 generalize hrow : pre ++ xs ++ rest = row at hk
 obtain ⟨RL, hRL⟩ : ∃ RL : Int, RL = (row.length : Nat) := ⟨_, rfl⟩;obtain ⟨M, hM⟩ : ∃ M : Int, M = (vs.length : Nat) := ⟨_, rfl⟩
 have hlen : lo + n ≤ RL := by rw [hRL, ← hrow, e1, e2]; simp; omega
 have hn0 : 0 ≤ lo ∧ 0 ≤ n ∧ x_i ≤ n ∧ 0 ≤ M ∧ n + M ≤ 1073741824 := by omega
 have hwrap : ∀ a b : Int, 0 ≤ a → 0 ≤ b → a + b ≤ 1073741824 → Ar.ar .add .i64 a b = a + b := fun a b ha hb hab => by rw [Ar.ar_eq]; exact wrap_small _ (by omega) (by omega)
 have hwrap2 : ∀ a b : Int, 0 ≤ b → b ≤ a → a ≤ 1073741824 → Ar.ar .sub .i64 a b = a - b := fun a b ha hb hab => by rw [Ar.ar_eq]; exact wrap_small _ (by omega) (by omega)
 have hadd : Ar.ar .add .i64 n M = n + M := hwrap _ _ (by omega) (by omega) (by omega)
 have haddi : Ar.ar .add .i64 x_i M = x_i + M := hwrap _ _ (by omega) (by omega) (by omega)
 have hd2 : Ar.ar .sub .i64 (Ar.ar .add .i64 n M) x_i = n + M - x_i := by rw [hadd]; exact hwrap2 _ x_i h0 (by omega) (by omega)
 have hgt : ∀ c b, Ar.cmp .gtr (Ar.ar .add .i64 n M) c = b → (b = true → c < n + M) ∧ (b = false → n + M ≤ c) := fun c b h => by
  rw [Ar.cmp_eq, hadd] at h; subst h; simp [cmpI]
 have hbn : (n.toNat + vs.length) * 152 ≤ 140737488355328 := mul_bnd (by omega) (by decide)
 have hbn2 : ∀ a b : Int, 0 ≤ a → 0 ≤ b → a + b ≤ 1073741824 → (a.toNat + b.toNat) * 152 ≤ 140737488355328 := fun a b _ _ _ => mul_bnd (by omega) (by decide)
 have hsubl : ∀ l2 n2 : Int, 0 ≤ l2 → 0 ≤ n2 → l2 + n2 ≤ RL → n2 = ((subL row l2 n2).length : Nat) := fun l2 n2 a b c => by rw [subL_length a b (by rw [← hRL]; exact c)]; omega
 have hov : ∀ (r1 r2 ys : List V) (L l YL n : Int), L = (r1.length : Nat) → YL = (ys.length : Nat) → 0 ≤ l → l + YL ≤ L → r2 = over r1 l.toNat (ys.take n.toNat) → L = (r2.length : Nat) := fun r1 r2 ys L l YL n a b c d e => by
  rw [e, over_length (by simp; omega)]; exact a
 have hov2 : ∀ (r1 : List V) (l l2 n2 n : Int), 0 ≤ l → 0 ≤ n → l + n ≤ RL → 0 ≤ l2 → 0 ≤ n2 → r1 = over row l.toNat ((subL row l2 n2).take n.toNat) → RL = (r1.length : Nat) := fun r1 l l2 n2 n a b c _ _ e => by
  rw [e, over_length (by simp; omega)]; exact hRL
 have hnl : ∀ (r2 : List V) (z : V) (j : Nat) (l n d : Int), 0 ≤ l → 0 ≤ n → l + n ≤ RL → 0 ≤ d → r2 = subL row l n ++ List.replicate d.toNat z ++ List.replicate j z → ∃ L : Int, L = (r2.length : Nat) ∧ n + d ≤ L := fun r2 z j l n d a b c e f => ⟨_, rfl, by rw [f]; simp only [List.length_append, List.length_replicate, subL_length a b (by rw [← hRL]; exact c)]; omega⟩
 have hne : ∀ t (b : Option Blk), H t = none → upd H t b id = some (.arr 14 row) := fun t b ht => by rw [upd_other _ _ (fun e => by subst e; rw [hk] at ht; cases ht)]; exact hk
 have hx0 : vs = [] → xs.take x_i.toNat ++ vs ++ xs.drop x_i.toNat = xs := fun e => by rw [e, List.append_nil, List.take_append_drop]
 have hx1 : x_i = n → xs.take x_i.toNat ++ vs ++ xs.drop x_i.toNat = xs ++ vs := fun e => by rw [e, e2, Int.toNat_natCast, List.take_of_length_le (Nat.le_refl _), List.drop_of_length_le (Nat.le_refl _), List.append_nil]
 have hv0 : M = 0 → vs = [] := fun e => List.length_eq_zero_iff.1 (by omega)
 have hcmp : ∀ op a b c, Ar.cmp op a b = c → cmpI op a b = c := fun op a b c h => by rw [← Ar.cmp_eq]; exact h
 cbv;refine r_oslice hE hk hRL x_i n rfl rfl h0 (by omega) hlen fun _ _ _ _ => ?_;cbv;refine r_ln hE hM ?_;cbv;refine r_br hE (fun hc => ?_) (fun hc => ?_)
 ·cbv
  have hm0 : M = 0 := by simpa [cmpI] using hcmp _ _ _ _ hc
  rw [hx0 (hv0 hm0)] at hK
  refine hK id lo n row pre rest H hrow.symm e1 e2 (.inl rfl) ?_;rw [upd_upd]; exact upd_le hk
 ·cbv
  have hm0 : ¬ M = 0 := by simpa [cmpI] using hcmp _ _ _ _ hc
  refine r_olen hE ?_;cbv;refine r_br hE (fun hc2 => ?_) (fun hc2 => ?_)
  ·cbv
   have hin2 : x_i = n := by simpa [cmpI] using hcmp _ _ _ _ hc2
   rw [hx1 hin2] at hK
   refine r_oapp hE hk hRL (y := .sl vs .ro) (ys' := vs) ⟨.refl _, hvall⟩ hM (fun hfit m row1 q5 hr1 => ?_) (fun hno => ⟨hbn, fun t m row1 j ht q5 hr1 => ?_⟩)
   ·cbv
    have h3 := ins_end hrow.symm e1 e2 hM q5 hr1
    exact hK id lo m row1 pre _ _ h3.1 e1 h3.2 (.inl rfl) (by rw [upd_upd]; exact .refl _)
   ·cbv
    have h3 := ins_endN hrow.symm e1 e2 hM q5 hr1
    exact hK t 0 m row1 [] _ _ h3.1 rfl h3.2 (.inr ht) hle_new
  ·cbv;refine r_ocap hE hk hRL fun c hcap => ?_;cbv;refine r_br hE (fun hc3 => ?_) (fun hc3 => ?_)
   ·have hgr : c < n + M := (hgt c _ hc3).1 rfl
    cbv;refine r_oslice hE hk hRL 0 x_i rfl rfl (Int.le_refl _) h0 (by omega) fun l1 n1 q1 q2 => ?_
    have q1' : lo = l1 := by omega
    have q2' : x_i = n1 := by omega
    subst q1' q2';cbv;refine r_oappz hE (n + M - x_i) hd2 hk hRL (by omega) (hbn2 _ _ (by omega) (by omega) (by omega)) (fun hfit => absurd hfit (by omega)) (fun hno t m row2 j ht qm hr2 => ?_);obtain ⟨L2, hL2, hL2'⟩ := hnl row2 _ j _ _ _ (by omega) (by omega) (by omega) (by omega) hr2;cbv;refine r_oslice hE (upd_same _ _ _) hL2 x_i m rfl rfl h0 (by omega) (by omega) fun l1' n1' q1 q2 => ?_;cbv;refine r_ocopy hE (upd_same _ _ _) (y := .sl vs .ro) (ys' := vs) ⟨.refl _, hvall⟩ hM fun cm row3 _ hr3 => ?_
    have hL3 := hov row2 row3 vs L2 l1' M n1' hL2 hM (by omega) (by omega) hr3
    rw [upd_upd];cbv;refine r_oslice hE (upd_same _ _ _) hL3 _ m haddi rfl (by omega) (by omega) (by omega) fun l2' n2' q3 q4 => ?_;cbv;refine r_oslice hE (hne _ _ ht) hRL x_i n rfl rfl h0 (by omega) hlen fun l3' n3' q5 q6 => ?_;cbv;refine r_ocopy hE (upd_same _ _ _) (src_row hE (hne _ _ ht)) (hsubl l3' n3' (by omega) (by omega) (by omega)) fun cm2 row4 _ hr4 => ?_;rw [upd_upd];cbv
    have h3 := ins_new (d := n + M - x_i) (m := m) hrow.symm e1 e2 hM h0 h1 rfl qm hr2 (by omega) q2 hr3 (by omega) (by omega) q5 q6 hr4
    exact hK t 0 m row4 [] _ _ h3.1 rfl h3.2 (.inr ht) hle_new
   ·have hle' : n + M ≤ c := (hgt c _ hc3).2 rfl
    cbv;refine r_oslice hE hk hRL 0 (n + M) rfl hadd (Int.le_refl _) (by omega) (by omega) fun l0 n0 ql qm => ?_;cbv;refine r_oslice hE hk hRL _ n0 haddi rfl (by omega) (by omega) (by omega) fun l1 n1 q1 q2 => ?_;cbv;refine r_callA hE (callA_overlaps (P := Tryz.prog) (f := 147) (tS := 22) (tR := 4) (e := 29) (sz := 14) (xs := vs) (t := .ro) ov147 (by kernel_rfl) (by kernel_rfl) hk hvall) ?_;cbv;refine r_br hE (fun hc4 => ?_) (fun hc4 => ?_)
    rotate_left
    ·exact absurd (show Ar.nt false = false from hc4) (by rw [Ar.nt_eq]; decide)
    cbv;refine r_oslice hE hk hRL _ n0 haddi rfl (by omega) (by omega) (by omega) fun l1 n1 q1 q2 => ?_;cbv;refine r_oslice hE hk hRL x_i n0 rfl rfl h0 (by omega) (by omega) fun l2 n2 q3 q4 => ?_;cbv;refine r_ocopy hE hk (src_row hE hk) (hsubl l2 n2 (by omega) (by omega) (by omega)) fun cm row1 _ hr1 => ?_
    have hL1 := hov2 row1 l1 l2 n2 n1 (by omega) (by omega) (by omega) (by omega) (by omega) hr1
    cbv;refine r_oslice hE (upd_same _ _ _) hL1 x_i n0 rfl rfl h0 (by omega) (by omega) fun l3 n3 q5 q6 => ?_;cbv;refine r_ocopy hE (upd_same _ _ _) (y := .sl vs .ro) (ys' := vs) ⟨.refl _, hvall⟩ hM fun cm2 row2 _ hr2 => ?_;rw [upd_upd];cbv
    have h3 := ins_in (m := n0) hrow.symm e1 e2 hM h0 h1 hRL (by omega) (by omega) (by omega) q1 q2 q3 q4 hr1 q5 q6 hr2
    exact hK id l0 n0 row2 pre _ _ h3.1 (by omega) h3.2 (.inl rfl) (by rw [upd_upd]; exact .refl _)
def cf140 : Cf := ⟨[4], [], [], [], [], []⟩
theorem c140 (N : Nat) (x_op : Int) (x_args : List GPattern) (r : GPattern) (h : derivative_list N x_op x_args = some r) : CallP Tryz.prog 140 [.int .i64 x_op, .sl (Ar.lst Encs.eGPattern x_args) .ro] (.agg [.int .i64 r.Op, .sl (Ar.lst Encs.eGPattern r.Args) .ro, .int .i64 r.Typ, .int .i64 r.Var, .int .i64 r.Scope, .int .i64 r.Span, .int .i64 r.Cond.Op, .sl (Ar.lst Encs.eGExpr r.Cond.Args) .ro, .int .i64 r.Cond.Var, .int .i64 r.Cond.Field, .int .i64 r.Cond.Kind, .int .i64 r.Cond.Value.Kind, .int .i64 r.Cond.Value.Num, .str r.Cond.Value.Text]) := by
 unfold derivative_list at h
 refine callP_of_spec cf140 okP Tryz.func140 (by rfl) (by kernel_rfl) Tryz.call140 Tryz.ntmps140 (by rfl) (by rfl) ?_;intro E H0 K hE hK
 have hO : Own Eq H0 [] H0 := .start stable_eq rfl
 cbv;refine n_alloc hE hO fun b1 H hO => ?_;cbv;refine n_ln hE ?_;cbv;refine n_br hE h (fun hc h => ?_) (fun hc h => ?_)
 ·cbv;refine n_idx hE Encs.eGPattern_eq h fun x2 h => ?_;cbv;refine n_store hE hO 0 rfl rfl fun H hO => ?_;cbv;refine n_load hE hO 0 rfl ?_;cbv;have h := ret_some h;subst h;exact hK _ _ _ hO (.refl _)
 ·cbv;refine n_store hE hO 0 rfl rfl fun H hO => ?_;cbv;refine n_load hE hO 0 rfl ?_;cbv;have h := ret_some h;subst h;exact hK _ _ _ hO (.agg (.cons (.refl _) (.cons (.refl _) (.cons (.refl _) (.cons (.refl _) (.cons (.refl _) (.cons (.refl _) (.cons (.refl _) (.cons (.lit _ (lst_nil)) (.refl _))))))))))
def cf120 : Cf := ⟨[4], [], [(10, 4)], [], [(20, 5), (20, 16)], []⟩
theorem c120 (N : Nat) (x_r : Gderivative_rest) (x_more : List GPattern) (r : Gderivative_rest) (h : derivative_continued N x_r x_more = some r) : CallP Tryz.prog 120 [.agg [.bool x_r.done, .int .i64 x_r.p.Op, .sl (Ar.lst Encs.eGPattern x_r.p.Args) .ro, .int .i64 x_r.p.Typ, .int .i64 x_r.p.Var, .int .i64 x_r.p.Scope, .int .i64 x_r.p.Span, .int .i64 x_r.p.Cond.Op, .sl (Ar.lst Encs.eGExpr x_r.p.Cond.Args) .ro, .int .i64 x_r.p.Cond.Var, .int .i64 x_r.p.Cond.Field, .int .i64 x_r.p.Cond.Kind, .int .i64 x_r.p.Cond.Value.Kind, .int .i64 x_r.p.Cond.Value.Num, .str x_r.p.Cond.Value.Text], .sl (Ar.lst Encs.eGPattern x_more) .ro] (.agg [.bool r.done, .int .i64 r.p.Op, .sl (Ar.lst Encs.eGPattern r.p.Args) .ro, .int .i64 r.p.Typ, .int .i64 r.p.Var, .int .i64 r.p.Scope, .int .i64 r.p.Span, .int .i64 r.p.Cond.Op, .sl (Ar.lst Encs.eGExpr r.p.Cond.Args) .ro, .int .i64 r.p.Cond.Var, .int .i64 r.p.Cond.Field, .int .i64 r.p.Cond.Kind, .int .i64 r.p.Cond.Value.Kind, .int .i64 r.p.Cond.Value.Num, .str r.p.Cond.Value.Text]) := by
 unfold derivative_continued at h
 refine callP_of_spec cf120 okP Tryz.func120 (by rfl) (by kernel_rfl) Tryz.call120 Tryz.ntmps120 (by rfl) (by rfl) ?_;intro E H0 K hE hK
 have hO : Own Eq H0 [] H0 := .start stable_eq rfl
 cbv;refine n_alloc hE hO fun b1 H hO => ?_;cbv;refine n_callO hE (f := Encs.eGPattern) h (fun l2 hx => c138 N x_more l2 hx) (.refl _) hO fun l2 q3 H hq3 hO h => ?_;cbv;obtain ⟨s4, hx, h⟩ := bind_some h;refine n_join cf120 hE okP (fun e l H1 => ∃ u1 : OG, Okn u1 (Ar.len s4) ∧ e = .normal ∧ l = [(4, .v (.ref b1 0)), (5, .v (.own u1.id u1.lo u1.n))] ∧ Own Eq H0 [.blk u1.id (.arr 14 (u1.pre ++ Ar.lst Encs.eGPattern s4 ++ u1.rest)), .blk b1 (.cells [.bool false, .int .i64 0, .sl [] .nil, .int .i64 0, .int .i64 0, .int .i64 0, .int .i64 0, .int .i64 0, .sl [] .nil, .int .i64 0, .int .i64 0, .int .i64 0, .int .i64 0, .int .i64 0, .str (⟨#[]⟩)])] H1) (by kernel_rfl) ?_ ?_
 ·clear h;have h := hx;clear hx;cbv;refine n_br hE h (fun hc h => ?_) (fun hc h => ?_)
  ·cbv;refine n_callOO hE (f := Encs.eGPattern) hO hq3 0 rfl h (fun l5 hx => c139 N l2 0 ([x_r.p]) l5 hx) (.cons (.refl _) (.cons (.lit _ (lst_cons ((Encs.eGPattern_eq x_r.p).symm) (lst_nil))) (.refl _))) fun l5 q6 H hq6 hO h => ?_;cbv;have h := ret_some h;subst h;exact ⟨_, ⟨q6, hq6, rfl, rfl, hO⟩, .e rfl (.e rfl (.z)), rfl⟩
  ·cbv;have h := ret_some h;subst h;exact ⟨_, ⟨q3, hq3, rfl, rfl, hO⟩, .e rfl (.e rfl (.z)), rfl⟩
 ·clear hx;rintro e l H ⟨q7, hq7, rfl, rfl, hO⟩;cbv;refine n_olen hE hq7 ?_;cbv;refine n_br hE h (fun hc h => ?_) (fun hc h => ?_)
  ·cbv;refine n_store hE hO 1 rfl rfl fun H hO => ?_;cbv;refine n_load hE hO 1 rfl ?_;cbv;have h := ret_some h;subst h;exact hK _ _ _ hO (.agg (.cons (.refl _) (.cons (.refl _) (.cons (.lit _ (lst_nil)) (.cons (.refl _) (.cons (.refl _) (.cons (.refl _) (.cons (.refl _) (.cons (.refl _) (.cons (.lit _ (lst_nil)) (.refl _)))))))))))
  ·cbv;refine n_ofrz hE hO hq7 0 rfl fun H hO => ?_;cbv;refine n_need hE (by trivial) ?_;cbv;refine n_call hE (g := fun r8 => .agg [.int .i64 r8.Op, .sl (Ar.lst Encs.eGPattern r8.Args) .ro, .int .i64 r8.Typ, .int .i64 r8.Var, .int .i64 r8.Scope, .int .i64 r8.Span, .int .i64 r8.Cond.Op, .sl (Ar.lst Encs.eGExpr r8.Cond.Args) .ro, .int .i64 r8.Cond.Var, .int .i64 r8.Cond.Field, .int .i64 r8.Cond.Kind, .int .i64 r8.Cond.Value.Kind, .int .i64 r8.Cond.Value.Num, .str r8.Cond.Value.Text]) h (fun r8 hx => c140 N 1 s4 r8 hx) (.refl _) fun r8 h => ?_;cbv;refine n_store hE hO 0 rfl rfl fun H hO => ?_;cbv;refine n_load hE hO 0 rfl ?_;cbv;have h := ret_some h;subst h;exact hK _ _ _ hO (.refl _)
def cf141 : Cf := ⟨[], [(5, 6)], [], [], [], []⟩
theorem c141 (N : Nat) (x_s : List GPattern) (x_i x_j : Int) (r : List GPattern) (h : slices_Delete_LPattern_Pattern N x_s x_i x_j = some r) : CallOO Tryz.prog 141 [.int .i64 x_i, .int .i64 x_j] 14 (Ar.lst Encs.eGPattern x_s) (Ar.lst Encs.eGPattern r) := by
 unfold slices_Delete_LPattern_Pattern at h
 obtain ⟨x, h1, h2⟩ := bind_some h
 cases ret_some h2
 obtain ⟨h0, h1, h2, hr⟩ := lst_del (f := Encs.eGPattern) h1;rw [hr];clear hr h
 generalize Ar.lst Encs.eGPattern x_s = xs at *
 rintro H ⟨id, lo, n, pre, rest⟩ ⟨e1, e2⟩ hk
 simp only at e1 e2 hk
 refine callOO_run (T := TT) cf141 okP Tryz.func141 (by rfl) (by kernel_rfl) Tryz.call141 Tryz.ntmps141 (by rfl) (by rfl) ?_;intro E K hE hK
 simp only at hK ⊢
 generalize hrow : pre ++ xs ++ rest = row at hk
 obtain ⟨RL, hRL⟩ : ∃ RL : Int, RL = (row.length : Nat) := ⟨_, rfl⟩
 have hlen : lo + n ≤ RL := by rw [hRL, ← hrow, e1, e2]; simp; omega
 have hn0 : 0 ≤ lo ∧ 0 ≤ n ∧ x_j ≤ n := by omega
 have hdl : ∀ l2 n2 : Int, 0 ≤ l2 → 0 ≤ n2 → l2 + n2 ≤ RL → n2 = ((subL row l2 n2).length : Nat) := fun l2 n2 a b c => by rw [subL_length a b (by rw [← hRL]; exact c)]; omega
 cbv;refine r_olen hE ?_;cbv;refine r_oslice3 hE hk hRL x_i x_j rfl rfl h0 h1 (by omega) hlen rfl ?_;cbv;refine r_br hE (fun hc => ?_) (fun hc => ?_)
 ·cbv
  have hij : x_i = x_j := by rw [Ar.cmp_eq] at hc; simpa [cmpI] using hc
  refine hK id lo n row pre rest H ?_ e1 ?_ (.inl rfl) ?_
  ·rw [← hrow, hij, List.take_append_drop]
  ·rw [hij, List.take_append_drop]; exact e2
  ·rw [upd_upd]; intro y b hy
   by_cases ey : y = id
   ·subst ey; rw [upd_same] at hy; cases hy; exact hk
   ·rwa [upd_other _ _ ey] at hy
 ·cbv;refine r_olen hE ?_;cbv;refine r_oslice hE hk hRL 0 x_i rfl rfl (Int.le_refl _) h0 (by omega) fun l1 n1 q1 q2 => ?_;cbv;refine r_oslice hE hk hRL x_j n rfl rfl (by omega) (by omega) hlen fun l2 n2 q3 q4 => ?_;cbv
  have hsl := hdl l2 n2 (by omega) (by omega) (by omega)
  refine r_oapp hE hk hRL (src_row hE hk) hsl (fun hfit m row1 q5 hr1 => ?_) (fun hno => absurd hno (by omega));cbv;refine r_olen hE ?_;cbv
  have hR1 : RL = (row1.length : Nat) := by rw [hr1, over_length (sub_fit hRL hsl (by omega) (by omega) hfit)]; exact hRL
  refine r_oslice hE (upd_same _ _ _) hR1 m n rfl rfl (by omega) (by omega) (by omega) fun l3 n3 q6 q7 => ?_;cbv;refine r_oclear hE (upd_same _ _ _) fun row2 hr2 => ?_;cbv
  have hd := del_row hrow.symm e1 e2 h0 h1 h2 (by omega) (by omega) q3 q4 hr1 (q5.trans (congrArg (n1 + ·) hsl)) q6 q7 hr2
  rw [upd_upd];exact hK id l1 m row2 pre _ _ hd.1 (by omega) hd.2 (.inl rfl) (by rw [upd_upd]; exact .refl _)
def cf121 : Cf := ⟨[6], [], [], [], [(22, 7)], []⟩
theorem c121 (N : Nat) (x_args : List GPattern) (x_at : Int) (x_r : Gderivative_rest) (r : Gderivative_rest) (h : derivative_joined N x_args x_at x_r = some r) : CallP Tryz.prog 121 [.sl (Ar.lst Encs.eGPattern x_args) .ro, .int .i64 x_at, .agg [.bool x_r.done, .int .i64 x_r.p.Op, .sl (Ar.lst Encs.eGPattern x_r.p.Args) .ro, .int .i64 x_r.p.Typ, .int .i64 x_r.p.Var, .int .i64 x_r.p.Scope, .int .i64 x_r.p.Span, .int .i64 x_r.p.Cond.Op, .sl (Ar.lst Encs.eGExpr x_r.p.Cond.Args) .ro, .int .i64 x_r.p.Cond.Var, .int .i64 x_r.p.Cond.Field, .int .i64 x_r.p.Cond.Kind, .int .i64 x_r.p.Cond.Value.Kind, .int .i64 x_r.p.Cond.Value.Num, .str x_r.p.Cond.Value.Text]] (.agg [.bool r.done, .int .i64 r.p.Op, .sl (Ar.lst Encs.eGPattern r.p.Args) .ro, .int .i64 r.p.Typ, .int .i64 r.p.Var, .int .i64 r.p.Scope, .int .i64 r.p.Span, .int .i64 r.p.Cond.Op, .sl (Ar.lst Encs.eGExpr r.p.Cond.Args) .ro, .int .i64 r.p.Cond.Var, .int .i64 r.p.Cond.Field, .int .i64 r.p.Cond.Kind, .int .i64 r.p.Cond.Value.Kind, .int .i64 r.p.Cond.Value.Num, .str r.p.Cond.Value.Text]) := by
 unfold derivative_joined at h
 refine callP_of_spec cf121 okP Tryz.func121 (by rfl) (by kernel_rfl) Tryz.call121 Tryz.ntmps121 (by rfl) (by rfl) ?_;intro E H0 K hE hK
 have hO : Own Eq H0 [] H0 := .start stable_eq rfl
 cbv;refine n_alloc hE hO fun b1 H hO => ?_;cbv;refine n_callO hE (f := Encs.eGPattern) h (fun l2 hx => c138 N x_args l2 hx) (.refl _) hO fun l2 q3 H hq3 hO h => ?_;cbv;refine n_br hE h (fun hc h => ?_) (fun hc h => ?_)
 ·cbv;refine n_callOO hE (f := Encs.eGPattern) hO hq3 0 rfl h (fun l4 hx => c141 N l2 x_at (Ar.ar .add .i64 x_at 1) l4 hx) (.refl _) fun l4 q5 H hq5 hO h => ?_;cbv;refine n_ofrz hE hO hq5 0 rfl fun H hO => ?_;cbv;refine n_call hE (g := fun r6 => .agg [.int .i64 r6.Op, .sl (Ar.lst Encs.eGPattern r6.Args) .ro, .int .i64 r6.Typ, .int .i64 r6.Var, .int .i64 r6.Scope, .int .i64 r6.Span, .int .i64 r6.Cond.Op, .sl (Ar.lst Encs.eGExpr r6.Cond.Args) .ro, .int .i64 r6.Cond.Var, .int .i64 r6.Cond.Field, .int .i64 r6.Cond.Kind, .int .i64 r6.Cond.Value.Kind, .int .i64 r6.Cond.Value.Num, .str r6.Cond.Value.Text]) h (fun r6 hx => c140 N 3 l4 r6 hx) (.refl _) fun r6 h => ?_;cbv;refine n_store hE hO 0 rfl rfl fun H hO => ?_;cbv;refine n_load hE hO 0 rfl ?_;cbv;have h := ret_some h;subst h;exact hK _ _ _ hO (.refl _)
 ·cbv;refine n_oidx hE hO hq3 0 rfl h fun h => ?_;cbv;refine n_ostore hE (f := Encs.eGPattern) (u := (fun x7 : GPattern => x_r.p)) (fun _ => ⟨_, .eq (Encs.eGPattern_eq _) (.refl _), (by rw [Encs.eGPattern_eq]; rfl), sz_GPattern _, rfl⟩) (by decide) hO hq3 0 rfl h fun l8 H hq3 h hO => ?_;cbv;refine n_ofrz hE hO hq3 0 rfl fun H hO => ?_;cbv;refine n_call hE (g := fun r9 => .agg [.int .i64 r9.Op, .sl (Ar.lst Encs.eGPattern r9.Args) .ro, .int .i64 r9.Typ, .int .i64 r9.Var, .int .i64 r9.Scope, .int .i64 r9.Span, .int .i64 r9.Cond.Op, .sl (Ar.lst Encs.eGExpr r9.Cond.Args) .ro, .int .i64 r9.Cond.Var, .int .i64 r9.Cond.Field, .int .i64 r9.Cond.Kind, .int .i64 r9.Cond.Value.Kind, .int .i64 r9.Cond.Value.Num, .str r9.Cond.Value.Text]) h (fun r9 hx => c140 N 3 l8 r9 hx) (.refl _) fun r9 h => ?_;cbv;refine n_store hE hO 0 rfl rfl fun H hO => ?_;cbv;refine n_load hE hO 0 rfl ?_;cbv;have h := ret_some h;subst h;exact hK _ _ _ hO (.refl _)
def cf142 : Cf := ⟨[22], [], [], [], [], []⟩
theorem c142 (N : Nat) (x_s : List GExpr) (x_n : Int) (r : List GExpr) (h : slices_Grow_LExpr_Expr N x_s x_n = some r) : CallO Tryz.prog 142 [.sl [] .nil, .int .i64 x_n] 8 (Ar.lst Encs.eGExpr r) := by
 unfold slices_Grow_LExpr_Expr at h
 obtain ⟨h1, h2, hr⟩ := lst_grow (f := Encs.eGExpr) h;rw [hr];clear hr h;intro H0
 have hneg : ∀ b, Ar.cmp .lss x_n 0 = b → b = false := fun b h => by rw [Ar.cmp_eq] at h; subst h; simp [cmpI]; omega
 have hsub : Ar.ar .sub .i64 x_n (Ar.ar .sub .i64 0 0) = x_n := by rw [Ar.ar_eq, Ar.ar_eq]; simp only [arI]; rw [show (0 : Int) - 0 = 0 from rfl, wrap_small 0 (by omega) (by omega), Int.sub_zero]; exact wrap_small _ (by omega) (by omega)
 have hgt : ∀ b, Ar.cmp .gtr (Ar.ar .sub .i64 x_n (Ar.ar .sub .i64 0 0)) 0 = b → (b = false → x_n = 0) := fun b h => by rw [hsub, Ar.cmp_eq] at h; subst h; simp [cmpI]; omega
 have hbn : x_n.toNat * 88 ≤ 140737488355328 := by have := mul_bnd (a := x_n.toNat) (b := 0) (by_ := 88) (by omega) (by decide); simpa using this
 have hl0 : (0 : Int) = (([] : List V).length : Nat) := rfl
 refine callO_run (T := TT) cf142 okP Tryz.func142 (by rfl) (by kernel_rfl) Tryz.call142 Tryz.ntmps142 (by rfl) (by rfl) ?_;intro E K hE hK hN;cbv;refine r_br hE (fun hc => absurd (hneg _ hc) (by decide)) (fun hc => ?_);cbv;refine r_ln hE hl0 ?_;cbv;refine r_br hE (fun hc2 => ?_) (fun hc2 => ?_)
 ·cbv;refine r_slnil hE ?_;cbv;refine r_oappz0 hE x_n hsub (.inl rfl) h1 hbn fun t m row j ht hm hrow => ?_;obtain ⟨RL, hRL, hR0⟩ : ∃ RL : Int, RL = (row.length : Nat) ∧ 0 ≤ RL := ⟨_, rfl, by omega⟩;cbv;refine r_ln hE hl0 ?_;cbv;refine r_oslice hE (upd_same _ _ _) hRL 0 0 rfl rfl (Int.le_refl _) (Int.le_refl _) hR0 fun l' n' q1 q2 => ?_;cbv
  have e1 : 0 = l' := by omega
  have e2 : 0 = n' := by omega
  subst e1 e2;exact hK ⟨t, 0, 0, [], row⟩ [] _ ⟨rfl, rfl⟩ ((Own.start stable_eq rfl).push ht rfl)
 ·cbv;exact hN rfl [] H0 (.start stable_eq rfl)
def cf124 : Cf := ⟨[], [], [], [], [(35, 6)], []⟩
theorem c124 (N : Nat) (x_slices : List (List GExpr)) (r : (List GExpr)) (h : slices_Concat_LExpr_Expr N x_slices = some r) : CallP Tryz.prog 124 [.sl (Ar.lst Encs.eLGExpr x_slices) .ro] (.sl (Ar.lst Encs.eGExpr r) .ro) := by
 unfold slices_Concat_LExpr_Expr at h
 refine callP_of_spec cf124 okP Tryz.func124 (by rfl) (by kernel_rfl) Tryz.call124 Tryz.ntmps124 (by rfl) (by rfl) ?_;intro E H0 K hE hK
 have hO : Own Eq H0 [] H0 := .start stable_eq rfl
 cbv;refine n_ln hE ?_;cbv;obtain ⟨s2, hx, h⟩ := bind_some h;refine n_loopN cf124 hE okP (fun s1 => [(0, .v (.sl (Ar.lst Encs.eLGExpr x_slices) .ro)), (3, .v (.int .i64 s1.1)), (9, .v (.sl (Ar.lst Encs.eLGExpr x_slices) .ro)), (10, .v (.int .i64 (Ar.len x_slices))), (11, .v (.int .i64 s1.2))]) (fun s1 H1 => Own Eq H0 [] H1) (fun x e l H1 => e = .exit 0 ∧ l = [(0, .v (.sl (Ar.lst Encs.eLGExpr x_slices) .ro)), (3, .v (.int .i64 x))] ∧ Own Eq H0 [] H1) (by kernel_rfl) ?_ hx ?_ hO ?_
 ·intro s1 H o hO h;clear hx;cbv;refine n_br hE h (fun hc h => ?_) (fun hc h => ?_)
  ·cbv;refine n_idx hE Encs.eLGExpr_eq h fun x3 h => ?_;cbv;refine n_ln hE ?_;cbv;refine n_br hE h (fun hc h => ?_) (fun hc h => ?_)
   ·cbv
    cases h
   ·cbv;have h := ret_some h;subst h;exact ⟨_, rfl, .e rfl (.e rfl (.e rfl (.e rfl (.e rfl (.z))))), rfl, hO⟩
  ·cbv;have h := ret_some h;subst h;exact ⟨_, _, rfl, ⟨rfl, rfl, hO⟩, .e rfl (.e rfl (.z)), rfl⟩
 ·exact .e rfl (.e rfl (.e rfl (.e rfl (.e rfl (.z)))))
 ·clear hx;rintro e l H ⟨rfl, rfl, hO⟩;cbv;refine n_callO hE (f := Encs.eGExpr) h (fun l4 hx => c142 N [] s2 l4 hx) (.cons (.refl _) (.cons (.refl _) .nil)) hO fun l4 q5 H hq5 hO h => ?_;cbv;refine n_ln hE ?_;cbv;obtain ⟨s8, hx, h⟩ := bind_some h;refine n_loopG cf124 hE okP (γ := OG) (fun s6 g => [(6, .v (.own g.id g.lo g.n)), (25, .v (.sl (Ar.lst Encs.eLGExpr x_slices) .ro)), (26, .v (.int .i64 (Ar.len x_slices))), (27, .v (.int .i64 s6.1))]) (fun s6 g H1 => Okn g (Ar.len s6.2) ∧ Own Eq H0 [.blk g.id (.arr 8 (g.pre ++ Ar.lst Encs.eGExpr s6.2 ++ g.rest))] H1) (fun x e l H1 => ∃ u1 : OG, Okn u1 (Ar.len x) ∧ e = .exit 2 ∧ l = [(6, .v (.own u1.id u1.lo u1.n))] ∧ Own Eq H0 [.blk u1.id (.arr 8 (u1.pre ++ Ar.lst Encs.eGExpr x ++ u1.rest))] H1) (by kernel_rfl) ?_ q5 hx ?_ ?_ ?_
  ·rintro s6 q7 H o ⟨hq7, hO⟩ h;clear hx;cbv;refine n_br hE h (fun hc h => ?_) (fun hc h => ?_)
   ·cbv;refine n_idx hE Encs.eLGExpr_eq h fun x9 h => ?_;cbv;refine n_oapp (f := Encs.eGExpr) hE sz_GExpr (by decide) hO hq7 0 rfl (m := x9) (src_sl (f := Encs.eGExpr) hE sz_GExpr (.refl _)) h fun l11 q10 H hq10 hO h => ?_;cbv;have h := ret_some h;subst h;exact ⟨_, q10, rfl, .e rfl (.e rfl (.e rfl (.e rfl (.z)))), rfl, hq10, hO⟩
   ·cbv;have h := ret_some h;subst h;exact ⟨_, _, rfl, ⟨q7, hq7, rfl, rfl, hO⟩, .e rfl (.z), rfl⟩
  ·exact .e rfl (.e rfl (.e rfl (.e rfl (.z))))
  ·exact ⟨hq5, hO⟩
  ·clear hx;rintro e l H ⟨q12, hq12, rfl, rfl, hO⟩;cbv;refine n_ofrz hE hO hq12 0 rfl fun H hO => ?_;cbv;have h := ret_some h;subst h;exact hK _ _ _ hO (.refl _)
def cf149 : Cf := ⟨[22], [], [], [], [], []⟩
theorem c149 (N : Nat) (x_s : List Int) (x_n : Int) (r : List Int) (h : slices_Grow_Lint_int N x_s x_n = some r) : CallO Tryz.prog 149 [.sl [] .nil, .int .i64 x_n] 1 (Ar.lst (V.int .i64) r) := by
 unfold slices_Grow_Lint_int at h
 obtain ⟨h1, h2, hr⟩ := lst_grow (f := (V.int .i64)) h;rw [hr];clear hr h;intro H0
 have hneg : ∀ b, Ar.cmp .lss x_n 0 = b → b = false := fun b h => by rw [Ar.cmp_eq] at h; subst h; simp [cmpI]; omega
 have hsub : Ar.ar .sub .i64 x_n (Ar.ar .sub .i64 0 0) = x_n := by rw [Ar.ar_eq, Ar.ar_eq]; simp only [arI]; rw [show (0 : Int) - 0 = 0 from rfl, wrap_small 0 (by omega) (by omega), Int.sub_zero]; exact wrap_small _ (by omega) (by omega)
 have hgt : ∀ b, Ar.cmp .gtr (Ar.ar .sub .i64 x_n (Ar.ar .sub .i64 0 0)) 0 = b → (b = false → x_n = 0) := fun b h => by rw [hsub, Ar.cmp_eq] at h; subst h; simp [cmpI]; omega
 have hbn : x_n.toNat * 8 ≤ 140737488355328 := by have := mul_bnd (a := x_n.toNat) (b := 0) (by_ := 8) (by omega) (by decide); simpa using this
 have hl0 : (0 : Int) = (([] : List V).length : Nat) := rfl
 refine callO_run (T := TT) cf149 okP Tryz.func149 (by rfl) (by kernel_rfl) Tryz.call149 Tryz.ntmps149 (by rfl) (by rfl) ?_;intro E K hE hK hN;cbv;refine r_br hE (fun hc => absurd (hneg _ hc) (by decide)) (fun hc => ?_);cbv;refine r_ln hE hl0 ?_;cbv;refine r_br hE (fun hc2 => ?_) (fun hc2 => ?_)
 ·cbv;refine r_slnil hE ?_;cbv;refine r_oappz0 hE x_n hsub (.inl rfl) h1 hbn fun t m row j ht hm hrow => ?_;obtain ⟨RL, hRL, hR0⟩ : ∃ RL : Int, RL = (row.length : Nat) ∧ 0 ≤ RL := ⟨_, rfl, by omega⟩;cbv;refine r_ln hE hl0 ?_;cbv;refine r_oslice hE (upd_same _ _ _) hRL 0 0 rfl rfl (Int.le_refl _) (Int.le_refl _) hR0 fun l' n' q1 q2 => ?_;cbv
  have e1 : 0 = l' := by omega
  have e2 : 0 = n' := by omega
  subst e1 e2;exact hK ⟨t, 0, 0, [], row⟩ [] _ ⟨rfl, rfl⟩ ((Own.start stable_eq rfl).push ht rfl)
 ·cbv;exact hN rfl [] H0 (.start stable_eq rfl)
def cf143 : Cf := ⟨[], [], [], [], [(35, 6)], []⟩
theorem c143 (N : Nat) (x_slices : List (List Int)) (r : (List Int)) (h : slices_Concat_Lint_int N x_slices = some r) : CallP Tryz.prog 143 [.sl (Ar.lst Encs.eLI x_slices) .ro] (.sl (Ar.lst (V.int .i64) r) .ro) := by
 unfold slices_Concat_Lint_int at h
 refine callP_of_spec cf143 okP Tryz.func143 (by rfl) (by kernel_rfl) Tryz.call143 Tryz.ntmps143 (by rfl) (by rfl) ?_;intro E H0 K hE hK
 have hO : Own Eq H0 [] H0 := .start stable_eq rfl
 cbv;refine n_ln hE ?_;cbv;obtain ⟨s2, hx, h⟩ := bind_some h;refine n_loopN cf143 hE okP (fun s1 => [(0, .v (.sl (Ar.lst Encs.eLI x_slices) .ro)), (3, .v (.int .i64 s1.1)), (9, .v (.sl (Ar.lst Encs.eLI x_slices) .ro)), (10, .v (.int .i64 (Ar.len x_slices))), (11, .v (.int .i64 s1.2))]) (fun s1 H1 => Own Eq H0 [] H1) (fun x e l H1 => e = .exit 0 ∧ l = [(0, .v (.sl (Ar.lst Encs.eLI x_slices) .ro)), (3, .v (.int .i64 x))] ∧ Own Eq H0 [] H1) (by kernel_rfl) ?_ hx ?_ hO ?_
 ·intro s1 H o hO h;clear hx;cbv;refine n_br hE h (fun hc h => ?_) (fun hc h => ?_)
  ·cbv;refine n_idx hE Encs.eLI_eq h fun x3 h => ?_;cbv;refine n_ln hE ?_;cbv;refine n_br hE h (fun hc h => ?_) (fun hc h => ?_)
   ·cbv
    cases h
   ·cbv;have h := ret_some h;subst h;exact ⟨_, rfl, .e rfl (.e rfl (.e rfl (.e rfl (.e rfl (.z))))), rfl, hO⟩
  ·cbv;have h := ret_some h;subst h;exact ⟨_, _, rfl, ⟨rfl, rfl, hO⟩, .e rfl (.e rfl (.z)), rfl⟩
 ·exact .e rfl (.e rfl (.e rfl (.e rfl (.e rfl (.z)))))
 ·clear hx;rintro e l H ⟨rfl, rfl, hO⟩;cbv;refine n_callO hE (f := (V.int .i64)) h (fun l4 hx => c149 N [] s2 l4 hx) (.cons (.refl _) (.cons (.refl _) .nil)) hO fun l4 q5 H hq5 hO h => ?_;cbv;refine n_ln hE ?_;cbv;obtain ⟨s8, hx, h⟩ := bind_some h;refine n_loopG cf143 hE okP (γ := OG) (fun s6 g => [(6, .v (.own g.id g.lo g.n)), (25, .v (.sl (Ar.lst Encs.eLI x_slices) .ro)), (26, .v (.int .i64 (Ar.len x_slices))), (27, .v (.int .i64 s6.1))]) (fun s6 g H1 => Okn g (Ar.len s6.2) ∧ Own Eq H0 [.blk g.id (.arr 1 (g.pre ++ Ar.lst (V.int .i64) s6.2 ++ g.rest))] H1) (fun x e l H1 => ∃ u1 : OG, Okn u1 (Ar.len x) ∧ e = .exit 2 ∧ l = [(6, .v (.own u1.id u1.lo u1.n))] ∧ Own Eq H0 [.blk u1.id (.arr 1 (u1.pre ++ Ar.lst (V.int .i64) x ++ u1.rest))] H1) (by kernel_rfl) ?_ q5 hx ?_ ?_ ?_
  ·rintro s6 q7 H o ⟨hq7, hO⟩ h;clear hx;cbv;refine n_br hE h (fun hc h => ?_) (fun hc h => ?_)
   ·cbv;refine n_idx hE Encs.eLI_eq h fun x9 h => ?_;cbv;refine n_oapp (f := (V.int .i64)) hE (fun _ => rfl) (by decide) hO hq7 0 rfl (m := x9) (src_sl (f := (V.int .i64)) hE (fun _ => rfl) (.refl _)) h fun l11 q10 H hq10 hO h => ?_;cbv;have h := ret_some h;subst h;exact ⟨_, q10, rfl, .e rfl (.e rfl (.e rfl (.e rfl (.z)))), rfl, hq10, hO⟩
   ·cbv;have h := ret_some h;subst h;exact ⟨_, _, rfl, ⟨q7, hq7, rfl, rfl, hO⟩, .e rfl (.z), rfl⟩
  ·exact .e rfl (.e rfl (.e rfl (.e rfl (.z))))
  ·exact ⟨hq5, hO⟩
  ·clear hx;rintro e l H ⟨q12, hq12, rfl, rfl, hO⟩;cbv;refine n_ofrz hE hO hq12 0 rfl fun H hO => ?_;cbv;have h := ret_some h;subst h;exact hK _ _ _ hO (.refl _)
end Go.Ab

