/- A part of the proof: GDCo1. -/
import Derived.Test.YtlbkmdpaalofkaaDoorT22
import Derived.Test.YtlbkmdpaalofkaaDoorT23
import Derived.Test.YtlbkmdpaalofkaaDoorT21
set_option linter.unusedVariables false
set_option linter.unusedSimpArgs false
set_option linter.unusedSectionVars false

/- The contracts. By program. -/
namespace Go.Ab
open Go.RowKit Go.Proofs

instance globs : Glob := ⟨fun n => match n with
  | 0 => .eref [.int .i64 0, .int .i64 0, .bool true, .bool true, .bool false, .bool false, .int .i64 2, .int .i64 64, .bool false, .bool false, .bool false, .bool false, .int .i64 2, .int .i64 64, .bool false, .bool false, .bool false, .bool false, .int .i64 2, .int .i64 64, .bool false, .bool false, .bool false, .bool false, .int .i64 1, .int .i64 1, .bool false, .bool false, .bool false, .bool false, .int .i64 1, .int .i64 1, .bool true, .bool true, .bool true, .bool false, .int .i64 1, .int .i64 1, .bool false, .bool false, .bool true, .bool true, .int .i64 1, .int .i64 1, .bool false, .bool true, .bool false, .bool false, .int .i64 2, .int .i64 2, .bool false, .bool false, .bool false, .bool false, .int .i64 1, .int .i64 1, .bool true, .bool true, .bool true, .bool false, .int .i64 1, .int .i64 1, .bool false, .bool false, .bool true, .bool true] 0
  | _ => .bad⟩

variable [Ar] [Encs]
set_option maxRecDepth 100000

theorem okP : POk Tryd.prog TT := ⟨okT, by rfl⟩

def cf13 : Cf := ⟨[], [], [], [], [], []⟩
theorem c13 (N : Nat) : ∀ (n : Nat) (x_p : GPattern) (r : (List GPattern)), ref09_Nodes N n x_p = some r → CallP Tryd.prog 13 [.agg [.int .i64 x_p.Op, .sl (Ar.lst Encs.eGPattern x_p.Args) .ro, .int .i64 x_p.Typ, .int .i64 x_p.Var, .int .i64 x_p.Scope, .int .i64 x_p.Span, .int .i64 x_p.Cond.Op, .sl (Ar.lst Encs.eGExpr x_p.Cond.Args) .ro, .int .i64 x_p.Cond.Var, .int .i64 x_p.Cond.Field, .int .i64 x_p.Cond.Kind, .int .i64 x_p.Cond.Value.Kind, .int .i64 x_p.Cond.Value.Num, .str x_p.Cond.Value.Text]] (.sl (Ar.lst Encs.eGPattern r) .ro) := by
  intro n
  induction n with
  | zero => intro x_p r h; cases h
  | succ n ih =>
  intro x_p r h
  unfold ref09_Nodes at h
  refine callP_of_spec cf13 okP Tryd.func13 (by rfl) (by kernel_rfl) Tryd.call13 Tryd.ntmps13 (by rfl) (by rfl) ?_
  intro E H0 K hE hK
  have hO : Own Eq H0 [] H0 := .start stable_eq rfl
  cbv
  replace hO := hO.tl0 (t := .full) rfl
  obtain ⟨s3, hx, h⟩ := bind_some h
  refine n_loopG cf13 hE okP (γ := Tail) (fun s1 g => [(1, .v (.eref [.int .i64 x_p.Op, .sl (Ar.lst Encs.eGPattern x_p.Args) .ro, .int .i64 x_p.Typ, .int .i64 x_p.Var, .int .i64 x_p.Scope, .int .i64 x_p.Span, .int .i64 x_p.Cond.Op, .sl (Ar.lst Encs.eGExpr x_p.Cond.Args) .ro, .int .i64 x_p.Cond.Var, .int .i64 x_p.Cond.Field, .int .i64 x_p.Cond.Kind, .int .i64 x_p.Cond.Value.Kind, .int .i64 x_p.Cond.Value.Num, .str x_p.Cond.Value.Text] 0)), (3, .v (.sl (Ar.lst Encs.eGPattern s1.1) g)), (4, .v (.int .i64 s1.2))]) (fun s1 g H1 => Appn g ∧ Own Eq H0 [.tl g] H1) (fun x e l H1 => ∃ u1 : Tail, Appn u1 ∧ e = .exit 0 ∧ l = [(3, .v (.sl (Ar.lst Encs.eGPattern x) u1))] ∧ Own Eq H0 [.tl u1] H1) (by kernel_rfl) ?_ .full hx ?_ ?_ ?_
  · rintro s1 t2 H o ⟨ht2, hO⟩ h
    clear hx
    cbv
    refine n_ln hE ?_
    cbv
    refine n_br hE h (fun hc h => ?_) (fun hc h => ?_)
    · cbv
      refine n_idx hE Encs.eGPattern_eq h fun x4 h => ?_
      cbv
      refine n_call hE (g := fun r5 => .sl (Ar.lst Encs.eGPattern r5) .ro) h (fun r5 hx => ih x4 r5 hx) (.refl _) fun r5 h => ?_
      cbv
      refine n_appn hE sz_GPattern (by decide) hO 0 rfl ht2 (l := s1.1) (m := r5) (.refl _) (.refl _) h fun l7 t6 H hO ht6 h => ?_
      cbv
      have h := ret_some h
      subst h
      exact ⟨_, t6, rfl, .e rfl (.e rfl (.e rfl (.z))), rfl, ht6, hO⟩
    · cbv
      have h := ret_some h
      subst h
      exact ⟨_, _, rfl, ⟨t2, ht2, rfl, rfl, hO⟩, .e rfl (.z), rfl⟩
  · exact .e rfl (.v (.slt _ (.lstc (.eq (Encs.eGPattern_eq x_p) (.refl _)) (.lst0))) (.e rfl (.z)))
  · exact ⟨trivial, hO⟩
  · clear hx
    rintro e l H ⟨t8, ht8, rfl, rfl, hO⟩
    cbv
    have h := ret_some h
    subst h
    exact hK _ _ _ hO (.ro _ _)

def cf20 : Cf := ⟨[], [], [], [], [], []⟩
theorem c20 (N : Nat) : ∀ (n : Nat) (x_p : GPattern) (x_limit : Int) (r : Int), ref09_Total N n x_p x_limit = some r → CallP Tryd.prog 20 [.agg [.int .i64 x_p.Op, .sl (Ar.lst Encs.eGPattern x_p.Args) .ro, .int .i64 x_p.Typ, .int .i64 x_p.Var, .int .i64 x_p.Scope, .int .i64 x_p.Span, .int .i64 x_p.Cond.Op, .sl (Ar.lst Encs.eGExpr x_p.Cond.Args) .ro, .int .i64 x_p.Cond.Var, .int .i64 x_p.Cond.Field, .int .i64 x_p.Cond.Kind, .int .i64 x_p.Cond.Value.Kind, .int .i64 x_p.Cond.Value.Num, .str x_p.Cond.Value.Text], .int .i64 x_limit] (.int .i64 r) := by
  intro n
  induction n with
  | zero => intro x_p x_limit r h; cases h
  | succ n ih =>
  intro x_p x_limit r h
  unfold ref09_Total at h
  refine callP_of_spec cf20 okP Tryd.func20 (by rfl) (by kernel_rfl) Tryd.call20 Tryd.ntmps20 (by rfl) (by rfl) ?_
  intro E H0 K hE hK
  have hO : Own Eq H0 [] H0 := .start stable_eq rfl
  cbv
  obtain ⟨s2, hx, h⟩ := bind_some h
  refine n_loopN cf20 hE okP (fun s1 => [(1, .v (.int .i64 x_limit)), (2, .v (.eref [.int .i64 x_p.Op, .sl (Ar.lst Encs.eGPattern x_p.Args) .ro, .int .i64 x_p.Typ, .int .i64 x_p.Var, .int .i64 x_p.Scope, .int .i64 x_p.Span, .int .i64 x_p.Cond.Op, .sl (Ar.lst Encs.eGExpr x_p.Cond.Args) .ro, .int .i64 x_p.Cond.Var, .int .i64 x_p.Cond.Field, .int .i64 x_p.Cond.Kind, .int .i64 x_p.Cond.Value.Kind, .int .i64 x_p.Cond.Value.Num, .str x_p.Cond.Value.Text] 0)), (5, .v (.int .i64 s1.1)), (6, .v (.int .i64 s1.2))]) (fun s1 H1 => Own Eq H0 [] H1) (fun x e l H1 => e = .exit 0 ∧ l = [(5, .v (.int .i64 x))] ∧ Own Eq H0 [] H1) (by kernel_rfl) ?_ hx ?_ hO ?_
  · intro s1 H o hO h
    clear hx
    cbv
    refine n_ln hE ?_
    cbv
    refine n_br hE h (fun hc h => ?_) (fun hc h => ?_)
    · cbv
      refine n_idx hE Encs.eGPattern_eq h fun x3 h => ?_
      cbv
      refine n_call hE (g := fun r4 => .int .i64 r4) h (fun r4 hx => ih x3 x_limit r4 hx) (.refl _) fun r4 h => ?_
      cbv
      have h := ret_some h
      subst h
      exact ⟨_, rfl, .e rfl (.e rfl (.e rfl (.e rfl (.z)))), rfl, hO⟩
    · cbv
      have h := ret_some h
      subst h
      exact ⟨_, _, rfl, ⟨rfl, rfl, hO⟩, .e rfl (.z), rfl⟩
  · exact .e rfl (.e rfl (.e rfl (.e rfl (.z))))
  · clear hx
    rintro e l H ⟨rfl, rfl, hO⟩
    cbv
    have h := ret_some h
    subst h
    exact hK _ _ _ hO (.refl _)

def cf21 : Cf := ⟨[], [], [], [], [], []⟩
theorem c21 (N : Nat) : ∀ (n : Nat) (x_p : GPattern) (r : Int), ref09_Depth N n x_p = some r → CallP Tryd.prog 21 [.agg [.int .i64 x_p.Op, .sl (Ar.lst Encs.eGPattern x_p.Args) .ro, .int .i64 x_p.Typ, .int .i64 x_p.Var, .int .i64 x_p.Scope, .int .i64 x_p.Span, .int .i64 x_p.Cond.Op, .sl (Ar.lst Encs.eGExpr x_p.Cond.Args) .ro, .int .i64 x_p.Cond.Var, .int .i64 x_p.Cond.Field, .int .i64 x_p.Cond.Kind, .int .i64 x_p.Cond.Value.Kind, .int .i64 x_p.Cond.Value.Num, .str x_p.Cond.Value.Text]] (.int .i64 r) := by
  intro n
  induction n with
  | zero => intro x_p r h; cases h
  | succ n ih =>
  intro x_p r h
  unfold ref09_Depth at h
  refine callP_of_spec cf21 okP Tryd.func21 (by rfl) (by kernel_rfl) Tryd.call21 Tryd.ntmps21 (by rfl) (by rfl) ?_
  intro E H0 K hE hK
  have hO : Own Eq H0 [] H0 := .start stable_eq rfl
  cbv
  obtain ⟨s2, hx, h⟩ := bind_some h
  refine n_loopN cf21 hE okP (fun s1 => [(1, .v (.eref [.int .i64 x_p.Op, .sl (Ar.lst Encs.eGPattern x_p.Args) .ro, .int .i64 x_p.Typ, .int .i64 x_p.Var, .int .i64 x_p.Scope, .int .i64 x_p.Span, .int .i64 x_p.Cond.Op, .sl (Ar.lst Encs.eGExpr x_p.Cond.Args) .ro, .int .i64 x_p.Cond.Var, .int .i64 x_p.Cond.Field, .int .i64 x_p.Cond.Kind, .int .i64 x_p.Cond.Value.Kind, .int .i64 x_p.Cond.Value.Num, .str x_p.Cond.Value.Text] 0)), (3, .v (.int .i64 s1.1)), (4, .v (.int .i64 s1.2))]) (fun s1 H1 => Own Eq H0 [] H1) (fun x e l H1 => e = .exit 0 ∧ l = [(3, .v (.int .i64 x))] ∧ Own Eq H0 [] H1) (by kernel_rfl) ?_ hx ?_ hO ?_
  · intro s1 H o hO h
    clear hx
    cbv
    refine n_ln hE ?_
    cbv
    refine n_br hE h (fun hc h => ?_) (fun hc h => ?_)
    · cbv
      refine n_idx hE Encs.eGPattern_eq h fun x3 h => ?_
      cbv
      refine n_call hE (g := fun r4 => .int .i64 r4) h (fun r4 hx => ih x3 r4 hx) (.refl _) fun r4 h => ?_
      cbv
      have h := ret_some h
      subst h
      exact ⟨_, rfl, .e rfl (.e rfl (.e rfl (.z))), rfl, hO⟩
    · cbv
      have h := ret_some h
      subst h
      exact ⟨_, _, rfl, ⟨rfl, rfl, hO⟩, .e rfl (.z), rfl⟩
  · exact .e rfl (.e rfl (.e rfl (.z)))
  · clear hx
    rintro e l H ⟨rfl, rfl, hO⟩
    cbv
    have h := ret_some h
    subst h
    exact hK _ _ _ hO (.refl _)

def cf32 : Cf := ⟨[], [], [], [], [], []⟩
theorem c32 (N : Nat) : ∀ (n : Nat) (x_e : GExpr) (x_limit : Int) (r : Int), ref08_Count N n x_e x_limit = some r → CallP Tryd.prog 32 [.agg [.int .i64 x_e.Op, .sl (Ar.lst Encs.eGExpr x_e.Args) .ro, .int .i64 x_e.Var, .int .i64 x_e.Field, .int .i64 x_e.Kind, .int .i64 x_e.Value.Kind, .int .i64 x_e.Value.Num, .str x_e.Value.Text], .int .i64 x_limit] (.int .i64 r) := by
  intro n
  induction n with
  | zero => intro x_e x_limit r h; cases h
  | succ n ih =>
  intro x_e x_limit r h
  unfold ref08_Count at h
  refine callP_of_spec cf32 okP Tryd.func32 (by rfl) (by kernel_rfl) Tryd.call32 Tryd.ntmps32 (by rfl) (by rfl) ?_
  intro E H0 K hE hK
  have hO : Own Eq H0 [] H0 := .start stable_eq rfl
  cbv
  obtain ⟨s2, hx, h⟩ := bind_some h
  refine n_loopN cf32 hE okP (fun s1 => [(1, .v (.int .i64 x_limit)), (2, .v (.eref [.int .i64 x_e.Op, .sl (Ar.lst Encs.eGExpr x_e.Args) .ro, .int .i64 x_e.Var, .int .i64 x_e.Field, .int .i64 x_e.Kind, .int .i64 x_e.Value.Kind, .int .i64 x_e.Value.Num, .str x_e.Value.Text] 0)), (5, .v (.int .i64 s1.1)), (6, .v (.int .i64 s1.2))]) (fun s1 H1 => Own Eq H0 [] H1) (fun x e l H1 => e = .exit 0 ∧ l = [(5, .v (.int .i64 x))] ∧ Own Eq H0 [] H1) (by kernel_rfl) ?_ hx ?_ hO ?_
  · intro s1 H o hO h
    clear hx
    cbv
    refine n_ln hE ?_
    cbv
    refine n_br hE h (fun hc h => ?_) (fun hc h => ?_)
    · cbv
      refine n_idx hE Encs.eGExpr_eq h fun x3 h => ?_
      cbv
      refine n_call hE (g := fun r4 => .int .i64 r4) h (fun r4 hx => ih x3 x_limit r4 hx) (.refl _) fun r4 h => ?_
      cbv
      have h := ret_some h
      subst h
      exact ⟨_, rfl, .e rfl (.e rfl (.e rfl (.e rfl (.z)))), rfl, hO⟩
    · cbv
      have h := ret_some h
      subst h
      exact ⟨_, _, rfl, ⟨rfl, rfl, hO⟩, .e rfl (.z), rfl⟩
  · exact .e rfl (.e rfl (.e rfl (.e rfl (.z))))
  · clear hx
    rintro e l H ⟨rfl, rfl, hO⟩
    cbv
    have h := ret_some h
    subst h
    exact hK _ _ _ hO (.refl _)

def cf39 : Cf := ⟨[], [], [], [], [], []⟩
theorem c39 (N : Nat) : ∀ (n : Nat) (x_e : GExpr) (r : Int), ref08_Depth N n x_e = some r → CallP Tryd.prog 39 [.agg [.int .i64 x_e.Op, .sl (Ar.lst Encs.eGExpr x_e.Args) .ro, .int .i64 x_e.Var, .int .i64 x_e.Field, .int .i64 x_e.Kind, .int .i64 x_e.Value.Kind, .int .i64 x_e.Value.Num, .str x_e.Value.Text]] (.int .i64 r) := by
  intro n
  induction n with
  | zero => intro x_e r h; cases h
  | succ n ih =>
  intro x_e r h
  unfold ref08_Depth at h
  refine callP_of_spec cf39 okP Tryd.func39 (by rfl) (by kernel_rfl) Tryd.call39 Tryd.ntmps39 (by rfl) (by rfl) ?_
  intro E H0 K hE hK
  have hO : Own Eq H0 [] H0 := .start stable_eq rfl
  cbv
  obtain ⟨s2, hx, h⟩ := bind_some h
  refine n_loopN cf39 hE okP (fun s1 => [(1, .v (.eref [.int .i64 x_e.Op, .sl (Ar.lst Encs.eGExpr x_e.Args) .ro, .int .i64 x_e.Var, .int .i64 x_e.Field, .int .i64 x_e.Kind, .int .i64 x_e.Value.Kind, .int .i64 x_e.Value.Num, .str x_e.Value.Text] 0)), (3, .v (.int .i64 s1.1)), (4, .v (.int .i64 s1.2))]) (fun s1 H1 => Own Eq H0 [] H1) (fun x e l H1 => e = .exit 0 ∧ l = [(3, .v (.int .i64 x))] ∧ Own Eq H0 [] H1) (by kernel_rfl) ?_ hx ?_ hO ?_
  · intro s1 H o hO h
    clear hx
    cbv
    refine n_ln hE ?_
    cbv
    refine n_br hE h (fun hc h => ?_) (fun hc h => ?_)
    · cbv
      refine n_idx hE Encs.eGExpr_eq h fun x3 h => ?_
      cbv
      refine n_call hE (g := fun r4 => .int .i64 r4) h (fun r4 hx => ih x3 r4 hx) (.refl _) fun r4 h => ?_
      cbv
      have h := ret_some h
      subst h
      exact ⟨_, rfl, .e rfl (.e rfl (.e rfl (.z))), rfl, hO⟩
    · cbv
      have h := ret_some h
      subst h
      exact ⟨_, _, rfl, ⟨rfl, rfl, hO⟩, .e rfl (.z), rfl⟩
  · exact .e rfl (.e rfl (.e rfl (.z)))
  · clear hx
    rintro e l H ⟨rfl, rfl, hO⟩
    cbv
    have h := ret_some h
    subst h
    exact hK _ _ _ hO (.refl _)

def cf22 : Cf := ⟨[], [], [], [], [], []⟩
theorem c22 (N : Nat) (x_e : GExpr) (r : Bool) (h : ref08_Few N x_e = some r) : CallP Tryd.prog 22 [.agg [.int .i64 x_e.Op, .sl (Ar.lst Encs.eGExpr x_e.Args) .ro, .int .i64 x_e.Var, .int .i64 x_e.Field, .int .i64 x_e.Kind, .int .i64 x_e.Value.Kind, .int .i64 x_e.Value.Num, .str x_e.Value.Text]] (.bool r) := by
  unfold ref08_Few at h
  refine callP_of_spec cf22 okP Tryd.func22 (by rfl) (by kernel_rfl) Tryd.call22 Tryd.ntmps22 (by rfl) (by rfl) ?_
  intro E H0 K hE hK
  have hO : Own Eq H0 [] H0 := .start stable_eq rfl
  cbv
  refine n_call hE (g := fun r1 => .int .i64 r1) h (fun r1 hx => c32 N N x_e 200 r1 hx) (.refl _) fun r1 h => ?_
  cbv
  refine n_br hE h (fun hc h => ?_) (fun hc h => ?_)
  · cbv
    refine n_call hE (g := fun r2 => .int .i64 r2) h (fun r2 hx => c39 N N x_e r2 hx) (.refl _) fun r2 h => ?_
    cbv
    have h := ret_some h
    subst h
    exact hK _ _ _ hO (.refl _)
  · cbv
    have h := ret_some h
    subst h
    exact hK _ _ _ hO (.refl _)

def cf5 : Cf := ⟨[], [], [], [], [], []⟩
theorem c5 (N : Nat) (x_p : GPattern) (r : Bool) (h : ref09_Few N x_p = some r) : CallP Tryd.prog 5 [.agg [.int .i64 x_p.Op, .sl (Ar.lst Encs.eGPattern x_p.Args) .ro, .int .i64 x_p.Typ, .int .i64 x_p.Var, .int .i64 x_p.Scope, .int .i64 x_p.Span, .int .i64 x_p.Cond.Op, .sl (Ar.lst Encs.eGExpr x_p.Cond.Args) .ro, .int .i64 x_p.Cond.Var, .int .i64 x_p.Cond.Field, .int .i64 x_p.Cond.Kind, .int .i64 x_p.Cond.Value.Kind, .int .i64 x_p.Cond.Value.Num, .str x_p.Cond.Value.Text]] (.bool r) := by
  unfold ref09_Few at h
  refine callP_of_spec cf5 okP Tryd.func5 (by rfl) (by kernel_rfl) Tryd.call5 Tryd.ntmps5 (by rfl) (by rfl) ?_
  intro E H0 K hE hK
  have hO : Own Eq H0 [] H0 := .start stable_eq rfl
  cbv
  refine n_call hE (g := fun r1 => .int .i64 r1) h (fun r1 hx => c20 N N x_p 150 r1 hx) (.refl _) fun r1 h => ?_
  cbv
  refine n_br hE h (fun hc h => ?_) (fun hc h => ?_)
  · cbv
    have h := ret_some h
    subst h
    exact hK _ _ _ hO (.refl _)
  · cbv
    refine n_call hE (g := fun r2 => .int .i64 r2) h (fun r2 hx => c21 N N x_p r2 hx) (.refl _) fun r2 h => ?_
    cbv
    refine n_br hE h (fun hc h => ?_) (fun hc h => ?_)
    · cbv
      have h := ret_some h
      subst h
      exact hK _ _ _ hO (.refl _)
    · cbv
      refine n_call hE (g := fun r3 => .sl (Ar.lst Encs.eGPattern r3) .ro) h (fun r3 hx => c13 N N x_p r3 hx) (.refl _) fun r3 h => ?_
      cbv
      obtain ⟨s5, hx, h⟩ := bind_some h
      refine n_loopN cf5 hE okP (fun s4 => [(3, .v (.sl (Ar.lst Encs.eGPattern r3) .ro)), (4, .v (.int .i64 s4))]) (fun s4 H1 => Own Eq H0 [] H1) (fun x e l H1 => match (generalizing := false) x with | .inl y => e = .exit 0 ∧ l = [] ∧ Own Eq H0 [] H1 | .inr y => e = .ret ∧ l = [(2, .b false)] ∧ Own Eq H0 [] H1) (by kernel_rfl) ?_ hx ?_ hO ?_
      · intro s4 H o hO h
        clear hx
        cbv
        refine n_ln hE ?_
        cbv
        refine n_br hE h (fun hc h => ?_) (fun hc h => ?_)
        · cbv
          refine n_idx hE Encs.eGPattern_eq h fun x6 h => ?_
          cbv
          refine n_call hE (g := fun r7 => .bool r7) h (fun r7 hx => c22 N x6.Cond r7 hx) (.refl _) fun r7 h => ?_
          cbv
          refine n_br hE h (fun hc h => ?_) (fun hc h => ?_)
          · cbv
            have h := ret_some h
            subst h
            exact ⟨_, _, rfl, ⟨rfl, rfl, hO⟩, .b rfl (.z), rfl⟩
          · cbv
            have h := ret_some h
            subst h
            exact ⟨_, rfl, .e rfl (.e rfl (.z)), rfl, hO⟩
        · cbv
          have h := ret_some h
          subst h
          exact ⟨_, _, rfl, ⟨rfl, rfl, hO⟩, .z, rfl⟩
      · exact .e rfl (.e rfl (.z))
      · clear hx
        rcases s5 with y8 | y9
        · rintro e l H ⟨rfl, rfl, hO⟩
          cbv
          have h := ret_some h
          subst h
          exact hK _ _ _ hO (.refl _)
        · rintro e l H ⟨rfl, rfl, hO⟩
          cbv
          have h := ret_some h
          subst h
          exact hK _ _ _ hO (.refl _)

def cf41 : Cf := ⟨[], [], [], [], [], []⟩
theorem c41 (N : Nat) : ∀ (n : Nat) (x_p : GPattern) (r : (Int × Int)), pattern_Size N n x_p = some r → CallP Tryd.prog 41 [.agg [.int .i64 x_p.Op, .sl (Ar.lst Encs.eGPattern x_p.Args) .ro, .int .i64 x_p.Typ, .int .i64 x_p.Var, .int .i64 x_p.Scope, .int .i64 x_p.Span, .int .i64 x_p.Cond.Op, .sl (Ar.lst Encs.eGExpr x_p.Cond.Args) .ro, .int .i64 x_p.Cond.Var, .int .i64 x_p.Cond.Field, .int .i64 x_p.Cond.Kind, .int .i64 x_p.Cond.Value.Kind, .int .i64 x_p.Cond.Value.Num, .str x_p.Cond.Value.Text]] (.tup [.int .i64 r.1, .int .i64 r.2]) := by
  intro n
  induction n with
  | zero => intro x_p r h; cases h
  | succ n ih =>
  intro x_p r h
  unfold pattern_Size at h
  refine callP_of_spec cf41 okP Tryd.func41 (by rfl) (by kernel_rfl) Tryd.call41 Tryd.ntmps41 (by rfl) (by rfl) ?_
  intro E H0 K hE hK
  have hO : Own Eq H0 [] H0 := .start stable_eq rfl
  cbv
  refine n_ln hE ?_
  cbv
  obtain ⟨s2, hx, h⟩ := bind_some h
  refine n_loopN cf41 hE okP (fun s1 => [(4, .v (.int .i64 s1.1)), (5, .v (.int .i64 s1.2.1)), (11, .v (.sl (Ar.lst Encs.eGPattern x_p.Args) .ro)), (12, .v (.int .i64 (Ar.len x_p.Args))), (13, .v (.int .i64 s1.2.2))]) (fun s1 H1 => Own Eq H0 [] H1) (fun x e l H1 => e = .exit 0 ∧ l = [(4, .v (.int .i64 x.1)), (5, .v (.int .i64 x.2))] ∧ Own Eq H0 [] H1) (by kernel_rfl) ?_ hx ?_ hO ?_
  · intro s1 H o hO h
    clear hx
    cbv
    refine n_br hE h (fun hc h => ?_) (fun hc h => ?_)
    · cbv
      refine n_idx hE Encs.eGPattern_eq h fun x3 h => ?_
      cbv
      refine n_call hE (g := fun r4 => .tup [.int .i64 r4.1, .int .i64 r4.2]) h (fun r4 hx => ih x3 r4 hx) (.refl _) fun r4 h => ?_
      cbv
      have h := ret_some h
      subst h
      exact ⟨_, rfl, .e rfl (.e rfl (.e rfl (.e rfl (.e rfl (.z))))), rfl, hO⟩
    · cbv
      have h := ret_some h
      subst h
      exact ⟨_, _, rfl, ⟨rfl, rfl, hO⟩, .e rfl (.e rfl (.z)), rfl⟩
  · exact .e rfl (.e rfl (.e rfl (.e rfl (.e rfl (.z)))))
  · clear hx
    rintro e l H ⟨rfl, rfl, hO⟩
    cbv
    have h := ret_some h
    subst h
    exact hK _ _ _ hO (.refl _)

def cf52 : Cf := ⟨[], [], [], [], [], []⟩
theorem c52 (N : Nat) : ∀ (n : Nat) (x_p : GPattern) (r : (List GPattern)), pattern_walk N n x_p = some r → EmitP Tryd.prog 52 (fun yv => [.agg [.int .i64 x_p.Op, .sl (Ar.lst Encs.eGPattern x_p.Args) .ro, .int .i64 x_p.Typ, .int .i64 x_p.Var, .int .i64 x_p.Scope, .int .i64 x_p.Span, .int .i64 x_p.Cond.Op, .sl (Ar.lst Encs.eGExpr x_p.Cond.Args) .ro, .int .i64 x_p.Cond.Var, .int .i64 x_p.Cond.Field, .int .i64 x_p.Cond.Kind, .int .i64 x_p.Cond.Value.Kind, .int .i64 x_p.Cond.Value.Num, .str x_p.Cond.Value.Text], yv]) (List.map (fun (x : GPattern) => [.agg [.int .i64 x.Op, .sl (Ar.lst Encs.eGPattern x.Args) .ro, .int .i64 x.Typ, .int .i64 x.Var, .int .i64 x.Scope, .int .i64 x.Span, .int .i64 x.Cond.Op, .sl (Ar.lst Encs.eGExpr x.Cond.Args) .ro, .int .i64 x.Cond.Var, .int .i64 x.Cond.Field, .int .i64 x.Cond.Kind, .int .i64 x.Cond.Value.Kind, .int .i64 x.Cond.Value.Num, .str x.Cond.Value.Text]]) r) rbB := by
  intro n
  induction n with
  | zero => intro x_p r h; cases h
  | succ n ih =>
  intro x_p r h
  unfold pattern_walk at h
  obtain ⟨⟨w0, u0⟩, h1, hr⟩ := bind_some h
  clear h
  have hr := ret_some hr
  subst hr
  have h := h1
  clear h1
  refine emitP_of_spec cf52 okP Tryd.func52 (by rfl) (by kernel_rfl) Tryd.call52 Tryd.ntmps52 (by rfl) (fun _ => rfl) ?_
  intro yv I D hI hD hy tl F E H K hE hO hK hKD
  have hO : Own (I (List.map (fun (x : GPattern) => [.agg [.int .i64 x.Op, .sl (Ar.lst Encs.eGPattern x.Args) .ro, .int .i64 x.Typ, .int .i64 x.Var, .int .i64 x.Scope, .int .i64 x.Span, .int .i64 x.Cond.Op, .sl (Ar.lst Encs.eGExpr x.Cond.Args) .ro, .int .i64 x.Cond.Var, .int .i64 x.Cond.Field, .int .i64 x.Cond.Kind, .int .i64 x.Cond.Value.Kind, .int .i64 x.Cond.Value.Num, .str x.Cond.Value.Text]]) (w0 ++ []) ++ tl)) F [] H := by rw [List.append_nil]; exact hO
  cbv
  obtain ⟨w1, h1, he⟩ := thenE_ret h
  clear h
  have h := h1
  clear h1
  rw [he, List.append_assoc] at hO
  clear he
  have hO : Own (I ([.agg [.int .i64 x_p.Op, .sl (Ar.lst Encs.eGPattern x_p.Args) .ro, .int .i64 x_p.Typ, .int .i64 x_p.Var, .int .i64 x_p.Scope, .int .i64 x_p.Span, .int .i64 x_p.Cond.Op, .sl (Ar.lst Encs.eGExpr x_p.Cond.Args) .ro, .int .i64 x_p.Cond.Var, .int .i64 x_p.Cond.Field, .int .i64 x_p.Cond.Kind, .int .i64 x_p.Cond.Value.Kind, .int .i64 x_p.Cond.Value.Num, .str x_p.Cond.Value.Text]] :: (List.map (fun (x : GPattern) => [.agg [.int .i64 x.Op, .sl (Ar.lst Encs.eGPattern x.Args) .ro, .int .i64 x.Typ, .int .i64 x.Var, .int .i64 x.Scope, .int .i64 x.Span, .int .i64 x.Cond.Op, .sl (Ar.lst Encs.eGExpr x.Cond.Args) .ro, .int .i64 x.Cond.Var, .int .i64 x.Cond.Field, .int .i64 x.Cond.Kind, .int .i64 x.Cond.Value.Kind, .int .i64 x.Cond.Value.Num, .str x.Cond.Value.Text]]) (w1 ++ []) ++ tl))) F [] _ := hO
  refine n_yield hE hI hD hy hO (.refl _) (fun H hO => ?_) (fun H hO => ?_)
  · cbv
    refine n_brF hE (Ar.nt_eq _) ?_
    cbv
    refine n_ln hE ?_
    cbv
    obtain ⟨w3, w4, s7, hx, h1, he⟩ := thenE_some h
    clear h
    have h := h1
    clear h1
    rw [he, List.append_assoc] at hO
    clear he
    refine n_loopE cf52 hE okP (γ := Unit) (fun s2 g => [(1, .v (yv)), (12, .v (.sl (Ar.lst Encs.eGPattern x_p.Args) .ro)), (13, .v (.int .i64 (Ar.len x_p.Args))), (14, .v (.int .i64 s2))]) (fun s2 g w H1 => Own (I (List.map (fun (x : GPattern) => [.agg [.int .i64 x.Op, .sl (Ar.lst Encs.eGPattern x.Args) .ro, .int .i64 x.Typ, .int .i64 x.Var, .int .i64 x.Scope, .int .i64 x.Span, .int .i64 x.Cond.Op, .sl (Ar.lst Encs.eGExpr x.Cond.Args) .ro, .int .i64 x.Cond.Var, .int .i64 x.Cond.Field, .int .i64 x.Cond.Kind, .int .i64 x.Cond.Value.Kind, .int .i64 x.Cond.Value.Num, .str x.Cond.Value.Text]]) w ++ tl)) F [] H1) (fun x e l w H1 => e = .exit 0 ∧ l = [] ∧ Own (I (List.map (fun (x : GPattern) => [.agg [.int .i64 x.Op, .sl (Ar.lst Encs.eGPattern x.Args) .ro, .int .i64 x.Typ, .int .i64 x.Var, .int .i64 x.Scope, .int .i64 x.Span, .int .i64 x.Cond.Op, .sl (Ar.lst Encs.eGExpr x.Cond.Args) .ro, .int .i64 x.Cond.Var, .int .i64 x.Cond.Field, .int .i64 x.Cond.Kind, .int .i64 x.Cond.Value.Kind, .int .i64 x.Cond.Value.Num, .str x.Cond.Value.Text]]) w ++ tl)) F [] H1) (fun e l H1 => (e = .ret ∧ l = [(4, .b false)] ∧ Own D F [] H1)) (by kernel_rfl) ?_ (w' := w4 ++ []) () hx ?_ ?_ ?_ ?_
    · rintro s2 _ w5 w6 H o hO h
      clear hx
      skip
      cbv
      refine n_br hE h (fun hc h => ?_) (fun hc h => ?_)
      · cbv
        refine n_idx hE Encs.eGPattern_eq h fun x8 h => ?_
        cbv
        obtain ⟨l9, hl, h⟩ := bind_some h
        obtain ⟨w10, h1, he⟩ := thenE_ret h
        clear h
        have h := h1
        clear h1
        rw [he, List.append_assoc] at hO
        clear he
        rw [List.map_append, List.append_assoc] at hO
        refine n_emit hE hI hD hy (ih x8 l9 hl) hO (.refl _) (fun v H hb hO => ?_) (fun v H hb hO => ?_)
        · cases hb
          clear hl
          cbv
          refine n_brF hE (Ar.nt_eq _) ?_
          cbv
          obtain ⟨hw, rfl⟩ := pair_some h
          rw [← hw] at hO
          exact ⟨_, (), rfl, .e rfl (.e rfl (.e rfl (.e rfl (.z)))), rfl, hO⟩
        · cases hb
          clear h hl
          cbv
          refine n_brT hE (Ar.nt_eq _) ?_
          cbv
          exact .inr ⟨_, ⟨rfl, rfl, hO⟩, .b rfl (.z), rfl⟩
      · cbv
        obtain ⟨hw, rfl⟩ := pair_some h
        rw [← hw] at hO
        exact .inl ⟨_, _, rfl, ⟨rfl, rfl, hO⟩, .z, rfl⟩
    · exact .e rfl (.e rfl (.e rfl (.e rfl (.z))))
    · exact hO
    · rintro e l H ⟨rfl, rfl, hO⟩
      clear hx
      cbv
      obtain ⟨hw, _⟩ := pair_some h
      rw [← hw] at hO
      exact hK _ _ _ hO rfl
    · rintro e l H hX
      obtain ⟨rfl, rfl, hO⟩ := hX
      clear h
      cbv
      exact hKD _ _ _ hO rfl
  · clear h
    cbv
    refine n_brT hE (Ar.nt_eq _) ?_
    cbv
    exact hKD _ _ _ hO rfl

def cf51 : Cf := ⟨[], [], [], [], [], []⟩
theorem c51 (N : Nat) (x_1 : GPattern) (r : (List GPattern)) (h : pattern_preorder_1 N x_1 = some r) : EmitP Tryd.prog 51 (fun yv => [yv, .eref [.int .i64 x_1.Op, .sl (Ar.lst Encs.eGPattern x_1.Args) .ro, .int .i64 x_1.Typ, .int .i64 x_1.Var, .int .i64 x_1.Scope, .int .i64 x_1.Span, .int .i64 x_1.Cond.Op, .sl (Ar.lst Encs.eGExpr x_1.Cond.Args) .ro, .int .i64 x_1.Cond.Var, .int .i64 x_1.Cond.Field, .int .i64 x_1.Cond.Kind, .int .i64 x_1.Cond.Value.Kind, .int .i64 x_1.Cond.Value.Num, .str x_1.Cond.Value.Text] 0]) (List.map (fun (x : GPattern) => [.agg [.int .i64 x.Op, .sl (Ar.lst Encs.eGPattern x.Args) .ro, .int .i64 x.Typ, .int .i64 x.Var, .int .i64 x.Scope, .int .i64 x.Span, .int .i64 x.Cond.Op, .sl (Ar.lst Encs.eGExpr x.Cond.Args) .ro, .int .i64 x.Cond.Var, .int .i64 x.Cond.Field, .int .i64 x.Cond.Kind, .int .i64 x.Cond.Value.Kind, .int .i64 x.Cond.Value.Num, .str x.Cond.Value.Text]]) r) rbN := by
  unfold pattern_preorder_1 at h
  obtain ⟨⟨w0, u0⟩, h1, hr⟩ := bind_some h
  clear h
  have hr := ret_some hr
  subst hr
  have h := h1
  clear h1
  refine emitP_of_spec cf51 okP Tryd.func51 (by rfl) (by kernel_rfl) Tryd.call51 Tryd.ntmps51 (by rfl) (fun _ => rfl) ?_
  intro yv I D hI hD hy tl F E H K hE hO hK hKD
  have hO : Own (I (List.map (fun (x : GPattern) => [.agg [.int .i64 x.Op, .sl (Ar.lst Encs.eGPattern x.Args) .ro, .int .i64 x.Typ, .int .i64 x.Var, .int .i64 x.Scope, .int .i64 x.Span, .int .i64 x.Cond.Op, .sl (Ar.lst Encs.eGExpr x.Cond.Args) .ro, .int .i64 x.Cond.Var, .int .i64 x.Cond.Field, .int .i64 x.Cond.Kind, .int .i64 x.Cond.Value.Kind, .int .i64 x.Cond.Value.Num, .str x.Cond.Value.Text]]) (w0 ++ []) ++ tl)) F [] H := by rw [List.append_nil]; exact hO
  cbv
  obtain ⟨l1, hl, h⟩ := bind_some h
  obtain ⟨w2, h1, he⟩ := thenE_ret h
  clear h
  have h := h1
  clear h1
  rw [he, List.append_assoc] at hO
  clear he
  rw [List.map_append, List.append_assoc] at hO
  refine n_emit hE hI hD hy (c52 N N x_1 l1 hl) hO (.refl _) (fun v H hb hO => ?_) (fun v H hb hO => ?_)
  · cases hb
    clear hl
    cbv
    obtain ⟨hw, _⟩ := pair_some h
    rw [← hw] at hO
    exact hK _ _ _ hO trivial
  · cases hb
    clear h hl
    cbv
    exact hKD _ _ _ hO trivial

def cf42 : Cf := ⟨[], [], [], [], [], []⟩
theorem c42 (N : Nat) (x_p : GPattern) (r : (List GPattern)) (h : pattern_preorder N x_p = some r) : CallQ Tryd.prog 42 [.agg [.int .i64 x_p.Op, .sl (Ar.lst Encs.eGPattern x_p.Args) .ro, .int .i64 x_p.Typ, .int .i64 x_p.Var, .int .i64 x_p.Scope, .int .i64 x_p.Span, .int .i64 x_p.Cond.Op, .sl (Ar.lst Encs.eGExpr x_p.Cond.Args) .ro, .int .i64 x_p.Cond.Var, .int .i64 x_p.Cond.Field, .int .i64 x_p.Cond.Kind, .int .i64 x_p.Cond.Value.Kind, .int .i64 x_p.Cond.Value.Num, .str x_p.Cond.Value.Text]] (fun v => IterV Tryd.prog v (r.map fun (x : GPattern) => [.agg [.int .i64 x.Op, .sl (Ar.lst Encs.eGPattern x.Args) .ro, .int .i64 x.Typ, .int .i64 x.Var, .int .i64 x.Scope, .int .i64 x.Span, .int .i64 x.Cond.Op, .sl (Ar.lst Encs.eGExpr x.Cond.Args) .ro, .int .i64 x.Cond.Var, .int .i64 x.Cond.Field, .int .i64 x.Cond.Kind, .int .i64 x.Cond.Value.Kind, .int .i64 x.Cond.Value.Num, .str x.Cond.Value.Text]])) := by
  unfold pattern_preorder at h
  refine callQ_of_spec cf42 okP Tryd.func42 (by rfl) (by kernel_rfl) Tryd.call42 Tryd.ntmps42 (by rfl) (by rfl) ?_
  intro E H0 K hE hK
  have hO : Own Eq H0 [] H0 := .start stable_eq rfl
  cbv
  exact hK _ _ _ hO (iterV_of_emit Tryd.call51 (c51 N x_p r h))

def cf53 : Cf := ⟨[], [], [], [], [], []⟩
theorem c53 (N : Nat) (x_used : Bool) (x_n : Int) (x_most : Int) (r : Bool) (h : pattern_within N x_used x_n x_most = some r) : CallP Tryd.prog 53 [.bool x_used, .int .i64 x_n, .int .i64 x_most] (.bool r) := by
  unfold pattern_within at h
  refine callP_of_spec cf53 okP Tryd.func53 (by rfl) (by kernel_rfl) Tryd.call53 Tryd.ntmps53 (by rfl) (by rfl) ?_
  intro E H0 K hE hK
  have hO : Own Eq H0 [] H0 := .start stable_eq rfl
  cbv
  have h := ret_some h
  subst h
  exact hK _ _ _ hO (.refl _)

def cf71 : Cf := ⟨[], [], [], [], [], []⟩
theorem c71 (N : Nat) : ∀ (n : Nat) (x_e : GExpr) (r : (Int × Int)), expr_Size N n x_e = some r → CallP Tryd.prog 71 [.agg [.int .i64 x_e.Op, .sl (Ar.lst Encs.eGExpr x_e.Args) .ro, .int .i64 x_e.Var, .int .i64 x_e.Field, .int .i64 x_e.Kind, .int .i64 x_e.Value.Kind, .int .i64 x_e.Value.Num, .str x_e.Value.Text]] (.tup [.int .i64 r.1, .int .i64 r.2]) := by
  intro n
  induction n with
  | zero => intro x_e r h; cases h
  | succ n ih =>
  intro x_e r h
  unfold expr_Size at h
  refine callP_of_spec cf71 okP Tryd.func71 (by rfl) (by kernel_rfl) Tryd.call71 Tryd.ntmps71 (by rfl) (by rfl) ?_
  intro E H0 K hE hK
  have hO : Own Eq H0 [] H0 := .start stable_eq rfl
  cbv
  refine n_ln hE ?_
  cbv
  obtain ⟨s2, hx, h⟩ := bind_some h
  refine n_loopN cf71 hE okP (fun s1 => [(4, .v (.int .i64 s1.1)), (5, .v (.int .i64 s1.2.1)), (11, .v (.sl (Ar.lst Encs.eGExpr x_e.Args) .ro)), (12, .v (.int .i64 (Ar.len x_e.Args))), (13, .v (.int .i64 s1.2.2))]) (fun s1 H1 => Own Eq H0 [] H1) (fun x e l H1 => e = .exit 0 ∧ l = [(4, .v (.int .i64 x.1)), (5, .v (.int .i64 x.2))] ∧ Own Eq H0 [] H1) (by kernel_rfl) ?_ hx ?_ hO ?_
  · intro s1 H o hO h
    clear hx
    cbv
    refine n_br hE h (fun hc h => ?_) (fun hc h => ?_)
    · cbv
      refine n_idx hE Encs.eGExpr_eq h fun x3 h => ?_
      cbv
      refine n_call hE (g := fun r4 => .tup [.int .i64 r4.1, .int .i64 r4.2]) h (fun r4 hx => ih x3 r4 hx) (.refl _) fun r4 h => ?_
      cbv
      have h := ret_some h
      subst h
      exact ⟨_, rfl, .e rfl (.e rfl (.e rfl (.e rfl (.e rfl (.z))))), rfl, hO⟩
    · cbv
      have h := ret_some h
      subst h
      exact ⟨_, _, rfl, ⟨rfl, rfl, hO⟩, .e rfl (.e rfl (.z)), rfl⟩
  · exact .e rfl (.e rfl (.e rfl (.e rfl (.e rfl (.z)))))
  · clear hx
    rintro e l H ⟨rfl, rfl, hO⟩
    cbv
    have h := ret_some h
    subst h
    exact hK _ _ _ hO (.refl _)

def cf72 : Cf := ⟨[], [], [], [], [], []⟩
theorem c72 (N : Nat) : ∀ (n : Nat) (x_e : GExpr) (v_f : V) (x_f : GExpr → Option Int) (h_f : ∀ y1 q, x_f y1 = some q → CallVP Tryd.prog v_f [.agg [.int .i64 y1.Op, .sl (Ar.lst Encs.eGExpr y1.Args) .ro, .int .i64 y1.Var, .int .i64 y1.Field, .int .i64 y1.Kind, .int .i64 y1.Value.Kind, .int .i64 y1.Value.Num, .str y1.Value.Text]] (.int .i64 q)) (r : Int), expr_visit N n x_e x_f = some r → CallP Tryd.prog 72 [.agg [.int .i64 x_e.Op, .sl (Ar.lst Encs.eGExpr x_e.Args) .ro, .int .i64 x_e.Var, .int .i64 x_e.Field, .int .i64 x_e.Kind, .int .i64 x_e.Value.Kind, .int .i64 x_e.Value.Num, .str x_e.Value.Text], v_f] (.int .i64 r) := by
  intro n
  induction n with
  | zero => intro x_e v_f x_f h_f r h; cases h
  | succ n ih =>
  intro x_e v_f x_f h_f r h
  unfold expr_visit at h
  refine callP_of_spec cf72 okP Tryd.func72 (by rfl) (by kernel_rfl) Tryd.call72 Tryd.ntmps72 (by rfl) (by rfl) ?_
  intro E H0 K hE hK
  have hO : Own Eq H0 [] H0 := .start stable_eq rfl
  cbv
  refine n_callF hE (g := fun r1 => .int .i64 r1) h (fun r1 hx => h_f x_e r1 hx) (.refl _) fun r1 h => ?_
  cbv
  refine n_br hE h (fun hc h => ?_) (fun hc h => ?_)
  · cbv
    have h := ret_some h
    subst h
    exact hK _ _ _ hO (.refl _)
  · cbv
    refine n_ln hE ?_
    cbv
    obtain ⟨s3, hx, h⟩ := bind_some h
    refine n_loopN cf72 hE okP (fun s2 => [(1, .v (v_f)), (16, .v (.sl (Ar.lst Encs.eGExpr x_e.Args) .ro)), (17, .v (.int .i64 (Ar.len x_e.Args))), (18, .v (.int .i64 s2))]) (fun s2 H1 => Own Eq H0 [] H1) (fun x e l H1 => match (generalizing := false) x with | .inl y => e = .exit 0 ∧ l = [] ∧ Own Eq H0 [] H1 | .inr y => e = .ret ∧ l = [(4, .v (.int .i64 y))] ∧ Own Eq H0 [] H1) (by kernel_rfl) ?_ hx ?_ hO ?_
    · intro s2 H o hO h
      clear hx
      cbv
      refine n_br hE h (fun hc h => ?_) (fun hc h => ?_)
      · cbv
        refine n_idx hE Encs.eGExpr_eq h fun x4 h => ?_
        cbv
        refine n_call hE (g := fun r5 => .int .i64 r5) h (fun r5 hx => ih x4 v_f x_f h_f r5 hx) (.refl _) fun r5 h => ?_
        cbv
        refine n_br hE h (fun hc h => ?_) (fun hc h => ?_)
        · cbv
          have h := ret_some h
          subst h
          exact ⟨_, _, rfl, ⟨rfl, rfl, hO⟩, .e rfl (.z), rfl⟩
        · cbv
          have h := ret_some h
          subst h
          exact ⟨_, rfl, .e rfl (.e rfl (.e rfl (.e rfl (.z)))), rfl, hO⟩
      · cbv
        have h := ret_some h
        subst h
        exact ⟨_, _, rfl, ⟨rfl, rfl, hO⟩, .z, rfl⟩
    · exact .e rfl (.e rfl (.e rfl (.e rfl (.z))))
    · clear hx
      rcases s3 with y6 | y7
      · rintro e l H ⟨rfl, rfl, hO⟩
        cbv
        have h := ret_some h
        subst h
        exact hK _ _ _ hO (.refl _)
      · rintro e l H ⟨rfl, rfl, hO⟩
        cbv
        have h := ret_some h
        subst h
        exact hK _ _ _ hO (.refl _)

def cf83 : Cf := ⟨[], [], [], [], [], []⟩
theorem c83 (N : Nat) (x_op : Int) (r : (Int × Bool)) (h : expr_arity N x_op = some r) : CallP Tryd.prog 83 [.int .i64 x_op] (.tup [.int .i64 r.1, .bool r.2]) := by
  unfold expr_arity at h
  refine callP_of_spec cf83 okP Tryd.func83 (by rfl) (by kernel_rfl) Tryd.call83 Tryd.ntmps83 (by rfl) (by rfl) ?_
  intro E H0 K hE hK
  have hO : Own Eq H0 [] H0 := .start stable_eq rfl
  cbv
  refine n_br hE h (fun hc h => ?_) (fun hc h => ?_)
  · cbv
    have h := ret_some h
    subst h
    exact hK _ _ _ hO (.refl _)
  · cbv
    refine n_br hE h (fun hc h => ?_) (fun hc h => ?_)
    · cbv
      have h := ret_some h
      subst h
      exact hK _ _ _ hO (.refl _)
    · cbv
      refine n_br hE h (fun hc h => ?_) (fun hc h => ?_)
      · cbv
        have h := ret_some h
        subst h
        exact hK _ _ _ hO (.refl _)
      · cbv
        have h := ret_some h
        subst h
        exact hK _ _ _ hO (.refl _)

def cf84 : Cf := ⟨[], [], [(5, 4)], [], [], []⟩
theorem c84 (N : Nat) (x_op : Int) (r : (Bool × Bool)) (h : expr_uses N x_op = some r) : CallP Tryd.prog 84 [.int .i64 x_op] (.tup [.bool r.1, .bool r.2]) := by
  unfold expr_uses at h
  refine callP_of_spec cf84 okP Tryd.func84 (by rfl) (by kernel_rfl) Tryd.call84 Tryd.ntmps84 (by rfl) (by rfl) ?_
  intro E H0 K hE hK
  have hO : Own Eq H0 [] H0 := .start stable_eq rfl
  cbv
  obtain ⟨s1, hx, h⟩ := bind_some h
  refine n_join cf84 hE okP (fun e l H1 => e = .normal ∧ l = [(4, .v (.int .i64 x_op)), (5, .v (.bool s1))] ∧ Own Eq H0 [] H1) (by kernel_rfl) ?_ ?_
  · clear h
    have h := hx
    clear hx
    cbv
    refine n_br hE h (fun hc h => ?_) (fun hc h => ?_)
    · cbv
      have h := ret_some h
      subst h
      exact ⟨_, ⟨rfl, rfl, hO⟩, .e rfl (.e rfl (.z)), rfl⟩
    · cbv
      have h := ret_some h
      subst h
      exact ⟨_, ⟨rfl, rfl, hO⟩, .e rfl (.e rfl (.z)), rfl⟩
  · clear hx
    rintro e l H ⟨rfl, rfl, hO⟩
    cbv
    refine n_br hE h (fun hc h => ?_) (fun hc h => ?_)
    · cbv
      have h := ret_some h
      subst h
      exact hK _ _ _ hO (.refl _)
    · cbv
      refine n_br hE h (fun hc h => ?_) (fun hc h => ?_)
      · cbv
        have h := ret_some h
        subst h
        exact hK _ _ _ hO (.refl _)
      · cbv
        refine n_br hE h (fun hc h => ?_) (fun hc h => ?_)
        · cbv
          have h := ret_some h
          subst h
          exact hK _ _ _ hO (.refl _)
        · cbv
          have h := ret_some h
          subst h
          exact hK _ _ _ hO (.refl _)

def cf104 : Cf := ⟨[], [], [], [], [], []⟩
theorem c104 (N : Nat) (x_v : GValue) (r : Int) (h : value_size N x_v = some r) : CallP Tryd.prog 104 [.agg [.int .i64 x_v.Kind, .int .i64 x_v.Num, .str x_v.Text]] (.int .i64 r) := by
  unfold value_size at h
  refine callP_of_spec cf104 okP Tryd.func104 (by rfl) (by kernel_rfl) Tryd.call104 Tryd.ntmps104 (by rfl) (by rfl) ?_
  intro E H0 K hE hK
  have hO : Own Eq H0 [] H0 := .start stable_eq rfl
  cbv
  refine n_br hE h (fun hc h => ?_) (fun hc h => ?_)
  · cbv
    have h := ret_some h
    subst h
    exact hK _ _ _ hO (.refl _)
  · cbv
    refine n_br hE h (fun hc h => ?_) (fun hc h => ?_)
    · cbv
      have h := ret_some h
      subst h
      exact hK _ _ _ hO (.refl _)
    · cbv
      refine n_br hE h (fun hc h => ?_) (fun hc h => ?_)
      · cbv
        have h := ret_some h
        subst h
        exact hK _ _ _ hO (.refl _)
      · cbv
        have h := ret_some h
        subst h
        exact hK _ _ _ hO (.refl _)

def cf94 : Cf := ⟨[], [], [(5, 5)], [], [], []⟩
theorem c94 (N : Nat) (x_v : GValue) (r : Int) (h : value_Check N x_v = some r) : CallP Tryd.prog 94 [.agg [.int .i64 x_v.Kind, .int .i64 x_v.Num, .str x_v.Text]] (.int .i64 r) := by
  unfold value_Check at h
  refine callP_of_spec cf94 okP Tryd.func94 (by rfl) (by kernel_rfl) Tryd.call94 Tryd.ntmps94 (by rfl) (by rfl) ?_
  intro E H0 K hE hK
  have hO : Own Eq H0 [] H0 := .start stable_eq rfl
  cbv
  obtain ⟨s1, hx, h⟩ := bind_some h
  refine n_join cf94 hE okP (fun e l H1 => e = .normal ∧ l = [(1, .v (.eref [.int .i64 x_v.Kind, .int .i64 x_v.Num, .str x_v.Text] 0)), (4, .v (.int .i64 x_v.Kind)), (5, .v (.bool s1))] ∧ Own Eq H0 [] H1) (by kernel_rfl) ?_ ?_
  · clear h
    have h := hx
    clear hx
    cbv
    refine n_br hE h (fun hc h => ?_) (fun hc h => ?_)
    · cbv
      have h := ret_some h
      subst h
      exact ⟨_, ⟨rfl, rfl, hO⟩, .e rfl (.e rfl (.e rfl (.z))), rfl⟩
    · cbv
      have h := ret_some h
      subst h
      exact ⟨_, ⟨rfl, rfl, hO⟩, .e rfl (.e rfl (.e rfl (.z))), rfl⟩
  · clear hx
    rintro e l H ⟨rfl, rfl, hO⟩
    cbv
    refine n_br hE h (fun hc h => ?_) (fun hc h => ?_)
    · cbv
      refine n_br hE h (fun hc h => ?_) (fun hc h => ?_)
      · cbv
        have h := ret_some h
        subst h
        exact hK _ _ _ hO (.refl _)
      · cbv
        refine n_call hE (g := fun r2 => .int .i64 r2) h (fun r2 hx => c104 N x_v r2 hx) (.refl _) fun r2 h => ?_
        cbv
        have h := ret_some h
        subst h
        exact hK _ _ _ hO (.refl _)
    · cbv
      refine n_br hE h (fun hc h => ?_) (fun hc h => ?_)
      · cbv
        refine n_br hE h (fun hc h => ?_) (fun hc h => ?_)
        · cbv
          have h := ret_some h
          subst h
          exact hK _ _ _ hO (.refl _)
        · cbv
          refine n_call hE (g := fun r3 => .int .i64 r3) h (fun r3 hx => c104 N x_v r3 hx) (.refl _) fun r3 h => ?_
          cbv
          have h := ret_some h
          subst h
          exact hK _ _ _ hO (.refl _)
      · cbv
        have h := ret_some h
        subst h
        exact hK _ _ _ hO (.refl _)

def cf95 : Cf := ⟨[], [], [], [], [], []⟩
theorem c95 (N : Nat) (x_kind : Int) (x_v : GValue) (r : Bool) (h : expr_suits N x_kind x_v = some r) : CallP Tryd.prog 95 [.int .i64 x_kind, .agg [.int .i64 x_v.Kind, .int .i64 x_v.Num, .str x_v.Text]] (.bool r) := by
  unfold expr_suits at h
  refine callP_of_spec cf95 okP Tryd.func95 (by rfl) (by kernel_rfl) Tryd.call95 Tryd.ntmps95 (by rfl) (by rfl) ?_
  intro E H0 K hE hK
  have hO : Own Eq H0 [] H0 := .start stable_eq rfl
  cbv
  have h := ret_some h
  subst h
  exact hK _ _ _ hO (.refl _)

def cf85 : Cf := ⟨[], [], [], [], [], []⟩
theorem c85 (N : Nat) (x_e : GExpr) (r : Int) (h : expr_constants N x_e = some r) : CallP Tryd.prog 85 [.agg [.int .i64 x_e.Op, .sl (Ar.lst Encs.eGExpr x_e.Args) .ro, .int .i64 x_e.Var, .int .i64 x_e.Field, .int .i64 x_e.Kind, .int .i64 x_e.Value.Kind, .int .i64 x_e.Value.Num, .str x_e.Value.Text]] (.int .i64 r) := by
  unfold expr_constants at h
  refine callP_of_spec cf85 okP Tryd.func85 (by rfl) (by kernel_rfl) Tryd.call85 Tryd.ntmps85 (by rfl) (by rfl) ?_
  intro E H0 K hE hK
  have hO : Own Eq H0 [] H0 := .start stable_eq rfl
  cbv
  refine n_call hE (g := fun r1 => .int .i64 r1) h (fun r1 hx => c94 N x_e.Value r1 hx) (.refl _) fun r1 h => ?_
  cbv
  refine n_br hE h (fun hc h => ?_) (fun hc h => ?_)
  · cbv
    have h := ret_some h
    subst h
    exact hK _ _ _ hO (.refl _)
  · cbv
    refine n_br hE h (fun hc h => ?_) (fun hc h => ?_)
    · cbv
      refine n_call hE (g := fun r2 => .bool r2) h (fun r2 hx => c95 N x_e.Kind x_e.Value r2 hx) (.refl _) fun r2 h => ?_
      cbv
      refine n_br hE h (fun hc h => ?_) (fun hc h => ?_)
      · cbv
        have h := ret_some h
        subst h
        exact hK _ _ _ hO (.refl _)
      · cbv
        have h := ret_some h
        subst h
        exact hK _ _ _ hO (.refl _)
    · cbv
      have h := ret_some h
      subst h
      exact hK _ _ _ hO (.refl _)

def cf73 : Cf := ⟨[], [], [(73, 15)], [], [], []⟩
theorem c73 (N : Nat) (x_e : GExpr) (r : Int) (h : expr_node N x_e = some r) : CallP Tryd.prog 73 [.agg [.int .i64 x_e.Op, .sl (Ar.lst Encs.eGExpr x_e.Args) .ro, .int .i64 x_e.Var, .int .i64 x_e.Field, .int .i64 x_e.Kind, .int .i64 x_e.Value.Kind, .int .i64 x_e.Value.Num, .str x_e.Value.Text]] (.int .i64 r) := by
  unfold expr_node at h
  refine callP_of_spec cf73 okP Tryd.func73 (by rfl) (by kernel_rfl) Tryd.call73 Tryd.ntmps73 (by rfl) (by rfl) ?_
  intro E H0 K hE hK
  have hO : Own Eq H0 [] H0 := .start stable_eq rfl
  cbv
  refine n_call hE (g := fun r1 => .tup [.int .i64 r1.1, .bool r1.2]) h (fun r1 hx => c83 N x_e.Op r1 hx) (.refl _) fun r1 h => ?_
  cbv
  refine n_br hE h (fun hc h => ?_) (fun hc h => ?_)
  · cbv
    have h := ret_some h
    subst h
    exact hK _ _ _ hO (.refl _)
  · cbv
    refine n_ln hE ?_
    cbv
    refine n_br hE h (fun hc h => ?_) (fun hc h => ?_)
    · cbv
      have h := ret_some h
      subst h
      exact hK _ _ _ hO (.refl _)
    · cbv
      refine n_call hE (g := fun r2 => .tup [.bool r2.1, .bool r2.2]) h (fun r2 hx => c84 N x_e.Op r2 hx) (.refl _) fun r2 h => ?_
      cbv
      refine n_br hE h (fun hc h => ?_) (fun hc h => ?_)
      · cbv
        have h := ret_some h
        subst h
        exact hK _ _ _ hO (.refl _)
      · cbv
        refine n_br hE h (fun hc h => ?_) (fun hc h => ?_)
        · cbv
          have h := ret_some h
          subst h
          exact hK _ _ _ hO (.refl _)
        · cbv
          obtain ⟨s3, hx, h⟩ := bind_some h
          refine n_join cf73 hE okP (fun e l H1 => match (generalizing := false) s3 with | .inl y => e = .normal ∧ l = [(1, .v (.eref [.int .i64 x_e.Op, .sl (Ar.lst Encs.eGExpr x_e.Args) .ro, .int .i64 x_e.Var, .int .i64 x_e.Field, .int .i64 x_e.Kind, .int .i64 x_e.Value.Kind, .int .i64 x_e.Value.Num, .str x_e.Value.Text] 0)), (5, .v (.bool r2.1)), (6, .v (.bool r2.2)), (7, .v (.bool (Ar.cmp .eql x_e.Op 4))), (8, .v (.bool (Ar.or (Ar.cmp .eql x_e.Op 4) (Ar.cmp .eql x_e.Op 0))))] ∧ Own Eq H0 [] H1 | .inr y => e = .ret ∧ l = [(2, .v (.int .i64 y))] ∧ Own Eq H0 [] H1) (by kernel_rfl) ?_ ?_
          · clear h
            have h := hx
            clear hx
            cbv
            refine n_br hE h (fun hc h => ?_) (fun hc h => ?_)
            · cbv
              refine n_call hE (g := fun r4 => .int .i64 r4) h (fun r4 hx => c85 N x_e r4 hx) (.refl _) fun r4 h => ?_
              cbv
              refine n_br hE h (fun hc h => ?_) (fun hc h => ?_)
              · cbv
                have h := ret_some h
                subst h
                exact ⟨_, ⟨rfl, rfl, hO⟩, .e rfl (.z), rfl⟩
              · cbv
                have h := ret_some h
                subst h
                exact ⟨_, ⟨rfl, rfl, hO⟩, .e rfl (.e rfl (.e rfl (.e rfl (.e rfl (.z))))), rfl⟩
            · cbv
              have h := ret_some h
              subst h
              exact ⟨_, ⟨rfl, rfl, hO⟩, .e rfl (.e rfl (.e rfl (.e rfl (.e rfl (.z))))), rfl⟩
          · clear hx
            rcases s3 with y5 | y6
            · rintro e l H ⟨rfl, rfl, hO⟩
              cbv
              refine n_br hE h (fun hc h => ?_) (fun hc h => ?_)
              · cbv
                have h := ret_some h
                subst h
                exact hK _ _ _ hO (.refl _)
              · cbv
                have h := ret_some h
                subst h
                exact hK _ _ _ hO (.refl _)
            · rintro e l H ⟨rfl, rfl, hO⟩
              cbv
              have h := ret_some h
              subst h
              exact hK _ _ _ hO (.refl _)

def cf54 : Cf := ⟨[], [], [], [], [], []⟩
theorem c54 (N : Nat) (x_e : GExpr) (r : Int) (h : expr_Check N x_e = some r) : CallP Tryd.prog 54 [.agg [.int .i64 x_e.Op, .sl (Ar.lst Encs.eGExpr x_e.Args) .ro, .int .i64 x_e.Var, .int .i64 x_e.Field, .int .i64 x_e.Kind, .int .i64 x_e.Value.Kind, .int .i64 x_e.Value.Num, .str x_e.Value.Text]] (.int .i64 r) := by
  unfold expr_Check at h
  refine callP_of_spec cf54 okP Tryd.func54 (by rfl) (by kernel_rfl) Tryd.call54 Tryd.ntmps54 (by rfl) (by rfl) ?_
  intro E H0 K hE hK
  have hO : Own Eq H0 [] H0 := .start stable_eq rfl
  cbv
  refine n_call hE (g := fun r1 => .tup [.int .i64 r1.1, .int .i64 r1.2]) h (fun r1 hx => c71 N N x_e r1 hx) (.refl _) fun r1 h => ?_
  cbv
  refine n_br hE h (fun hc h => ?_) (fun hc h => ?_)
  · cbv
    have h := ret_some h
    subst h
    exact hK _ _ _ hO (.refl _)
  · cbv
    refine n_br hE h (fun hc h => ?_) (fun hc h => ?_)
    · cbv
      have h := ret_some h
      subst h
      exact hK _ _ _ hO (.refl _)
    · cbv
      refine n_call hE (g := fun r2 => .int .i64 r2) h (fun r2 hx => c72 N N x_e (.func (.func 73) [] []) (fun y1 => expr_node N y1) (fun y1 r hx => CallP.value (F := []) (C := []) (c73 N y1 r hx)) r2 hx) (.refl _) fun r2 h => ?_
      cbv
      have h := ret_some h
      subst h
      exact hK _ _ _ hO (.refl _)

def cf55 : Cf := ⟨[], [(6, 10)], [], [], [], []⟩
theorem c55 (N : Nat) : ∀ (n : Nat) (x_a : GExpr) (x_b : GExpr) (r : Bool), expr_Same N n x_a x_b = some r → CallP Tryd.prog 55 [.agg [.int .i64 x_a.Op, .sl (Ar.lst Encs.eGExpr x_a.Args) .ro, .int .i64 x_a.Var, .int .i64 x_a.Field, .int .i64 x_a.Kind, .int .i64 x_a.Value.Kind, .int .i64 x_a.Value.Num, .str x_a.Value.Text], .agg [.int .i64 x_b.Op, .sl (Ar.lst Encs.eGExpr x_b.Args) .ro, .int .i64 x_b.Var, .int .i64 x_b.Field, .int .i64 x_b.Kind, .int .i64 x_b.Value.Kind, .int .i64 x_b.Value.Num, .str x_b.Value.Text]] (.bool r) := by
  intro n
  induction n with
  | zero => intro x_a x_b r h; cases h
  | succ n ih =>
  intro x_a x_b r h
  unfold expr_Same at h
  refine callP_of_spec cf55 okP Tryd.func55 (by rfl) (by kernel_rfl) Tryd.call55 Tryd.ntmps55 (by rfl) (by rfl) ?_
  intro E H0 K hE hK
  have hO : Own Eq H0 [] H0 := .start stable_eq rfl
  cbv
  refine n_ln hE ?_
  cbv
  refine n_ln hE ?_
  cbv
  refine n_br hE h (fun hc h => ?_) (fun hc h => ?_)
  · cbv
    have h := ret_some h
    subst h
    exact hK _ _ _ hO (.refl _)
  · cbv
    refine n_ln hE ?_
    cbv
    obtain ⟨s2, hx, h⟩ := bind_some h
    refine n_loopN cf55 hE okP (fun s1 => [(2, .v (.eref [.int .i64 x_a.Op, .sl (Ar.lst Encs.eGExpr x_a.Args) .ro, .int .i64 x_a.Var, .int .i64 x_a.Field, .int .i64 x_a.Kind, .int .i64 x_a.Value.Kind, .int .i64 x_a.Value.Num, .str x_a.Value.Text] 0)), (3, .v (.eref [.int .i64 x_b.Op, .sl (Ar.lst Encs.eGExpr x_b.Args) .ro, .int .i64 x_b.Var, .int .i64 x_b.Field, .int .i64 x_b.Kind, .int .i64 x_b.Value.Kind, .int .i64 x_b.Value.Num, .str x_b.Value.Text] 0)), (50, .v (.int .i64 (Ar.len x_a.Args))), (51, .v (.int .i64 s1))]) (fun s1 H1 => Own Eq H0 [] H1) (fun x e l H1 => match (generalizing := false) x with | .inl y => e = .exit 0 ∧ l = [] ∧ Own Eq H0 [] H1 | .inr y => e = .ret ∧ l = [(4, .b false)] ∧ Own Eq H0 [] H1) (by kernel_rfl) ?_ hx ?_ hO ?_
    · intro s1 H o hO h
      clear hx
      cbv
      refine n_br hE h (fun hc h => ?_) (fun hc h => ?_)
      · cbv
        refine n_idx hE Encs.eGExpr_eq h fun x3 h => ?_
        cbv
        refine n_idx hE Encs.eGExpr_eq h fun x4 h => ?_
        cbv
        refine n_call hE (g := fun r5 => .bool r5) h (fun r5 hx => ih x3 x4 r5 hx) (.refl _) fun r5 h => ?_
        cbv
        refine n_br hE h (fun hc h => ?_) (fun hc h => ?_)
        · cbv
          have h := ret_some h
          subst h
          exact ⟨_, _, rfl, ⟨rfl, rfl, hO⟩, .b rfl (.z), rfl⟩
        · cbv
          have h := ret_some h
          subst h
          exact ⟨_, rfl, .e rfl (.e rfl (.e rfl (.e rfl (.z)))), rfl, hO⟩
      · cbv
        have h := ret_some h
        subst h
        exact ⟨_, _, rfl, ⟨rfl, rfl, hO⟩, .z, rfl⟩
    · exact .e rfl (.e rfl (.e rfl (.e rfl (.z))))
    · clear hx
      rcases s2 with y6 | y7
      · rintro e l H ⟨rfl, rfl, hO⟩
        cbv
        have h := ret_some h
        subst h
        exact hK _ _ _ hO (.refl _)
      · rintro e l H ⟨rfl, rfl, hO⟩
        cbv
        have h := ret_some h
        subst h
        exact hK _ _ _ hO (.refl _)

def cf56 : Cf := ⟨[], [], [], [], [], []⟩
theorem c56 (N : Nat) (x_used : Bool) (x_n : Int) (r : Bool) (h : pattern_unused N x_used x_n = some r) : CallP Tryd.prog 56 [.bool x_used, .int .i64 x_n] (.bool r) := by
  unfold pattern_unused at h
  refine callP_of_spec cf56 okP Tryd.func56 (by rfl) (by kernel_rfl) Tryd.call56 Tryd.ntmps56 (by rfl) (by rfl) ?_
  intro E H0 K hE hK
  have hO : Own Eq H0 [] H0 := .start stable_eq rfl
  cbv
  have h := ret_some h
  subst h
  exact hK _ _ _ hO (.refl _)

def cf43 : Cf := ⟨[], [], [(64, 10)], [], [], []⟩
theorem c43 (N : Nat) (x_p : GPattern) (r : Int) (h : pattern_check N x_p = some r) : CallP Tryd.prog 43 [.agg [.int .i64 x_p.Op, .sl (Ar.lst Encs.eGPattern x_p.Args) .ro, .int .i64 x_p.Typ, .int .i64 x_p.Var, .int .i64 x_p.Scope, .int .i64 x_p.Span, .int .i64 x_p.Cond.Op, .sl (Ar.lst Encs.eGExpr x_p.Cond.Args) .ro, .int .i64 x_p.Cond.Var, .int .i64 x_p.Cond.Field, .int .i64 x_p.Cond.Kind, .int .i64 x_p.Cond.Value.Kind, .int .i64 x_p.Cond.Value.Num, .str x_p.Cond.Value.Text]] (.int .i64 r) := by
  unfold pattern_check at h
  refine callP_of_spec cf43 okP Tryd.func43 (by rfl) (by kernel_rfl) Tryd.call43 Tryd.ntmps43 (by rfl) (by rfl) ?_
  intro E H0 K hE hK
  have hO : Own Eq H0 [] H0 := .start stable_eq rfl
  cbv
  refine n_br hE h (fun hc h => ?_) (fun hc h => ?_)
  · cbv
    have h := ret_some h
    subst h
    exact hK _ _ _ hO (.refl _)
  · cbv
    refine n_elem hE (g := fun x => .agg [.int .i64 x.least, .int .i64 x.most, .bool x.typed, .bool x.cond, .bool x.scope, .bool x.span]) (l := tab_pattern_shapes) rfl (fun _ => rfl) rfl rfl h fun x1 h => ?_
    cbv
    refine n_ln hE ?_
    cbv
    refine n_ln hE ?_
    cbv
    refine n_br hE h (fun hc h => ?_) (fun hc h => ?_)
    · cbv
      have h := ret_some h
      subst h
      exact hK _ _ _ hO (.refl _)
    · cbv
      refine n_call hE (g := fun r2 => .bool r2) h (fun r2 hx => c53 N x1.typed x_p.Typ 15 r2 hx) (.refl _) fun r2 h => ?_
      cbv
      refine n_br hE h (fun hc h => ?_) (fun hc h => ?_)
      · cbv
        have h := ret_some h
        subst h
        exact hK _ _ _ hO (.refl _)
      · cbv
        refine n_call hE (g := fun r3 => .bool r3) h (fun r3 hx => c53 N x1.typed x_p.Var 15 r3 hx) (.refl _) fun r3 h => ?_
        cbv
        refine n_br hE h (fun hc h => ?_) (fun hc h => ?_)
        · cbv
          have h := ret_some h
          subst h
          exact hK _ _ _ hO (.refl _)
        · cbv
          refine n_call hE (g := fun r4 => .bool r4) h (fun r4 hx => c53 N x1.scope x_p.Scope 63 r4 hx) (.refl _) fun r4 h => ?_
          cbv
          refine n_br hE h (fun hc h => ?_) (fun hc h => ?_)
          · cbv
            have h := ret_some h
            subst h
            exact hK _ _ _ hO (.refl _)
          · cbv
            refine n_call hE (g := fun r5 => .bool r5) h (fun r5 hx => c53 N x1.span x_p.Span 1099511627776 r5 hx) (.refl _) fun r5 h => ?_
            cbv
            refine n_br hE h (fun hc h => ?_) (fun hc h => ?_)
            · cbv
              have h := ret_some h
              subst h
              exact hK _ _ _ hO (.refl _)
            · cbv
              obtain ⟨s6, hx, h⟩ := bind_some h
              refine n_join cf43 hE okP (fun e l H1 => match (generalizing := false) s6 with | .inl y => e = .normal ∧ l = [(1, .v (.eref [.int .i64 x_p.Op, .sl (Ar.lst Encs.eGPattern x_p.Args) .ro, .int .i64 x_p.Typ, .int .i64 x_p.Var, .int .i64 x_p.Scope, .int .i64 x_p.Span, .int .i64 x_p.Cond.Op, .sl (Ar.lst Encs.eGExpr x_p.Cond.Args) .ro, .int .i64 x_p.Cond.Var, .int .i64 x_p.Cond.Field, .int .i64 x_p.Cond.Kind, .int .i64 x_p.Cond.Value.Kind, .int .i64 x_p.Cond.Value.Num, .str x_p.Cond.Value.Text] 0)), (3, .v (.eref [.int .i64 x1.least, .int .i64 x1.most, .bool x1.typed, .bool x1.cond, .bool x1.scope, .bool x1.span] 0))] ∧ Own Eq H0 [] H1 | .inr y => e = .ret ∧ l = [(2, .v (.int .i64 y))] ∧ Own Eq H0 [] H1) (by kernel_rfl) ?_ ?_
              · clear h
                have h := hx
                clear hx
                cbv
                refine n_br hE h (fun hc h => ?_) (fun hc h => ?_)
                · cbv
                  refine n_call hE (g := fun r7 => .int .i64 r7) h (fun r7 hx => c54 N x_p.Cond r7 hx) (.refl _) fun r7 h => ?_
                  cbv
                  refine n_br hE h (fun hc h => ?_) (fun hc h => ?_)
                  · cbv
                    have h := ret_some h
                    subst h
                    exact ⟨_, ⟨rfl, rfl, hO⟩, .e rfl (.z), rfl⟩
                  · cbv
                    have h := ret_some h
                    subst h
                    exact ⟨_, ⟨rfl, rfl, hO⟩, .e rfl (.e rfl (.z)), rfl⟩
                · cbv
                  have h := ret_some h
                  subst h
                  exact ⟨_, ⟨rfl, rfl, hO⟩, .e rfl (.e rfl (.z)), rfl⟩
              · clear hx
                rcases s6 with y8 | y18
                · rintro e l H ⟨rfl, rfl, hO⟩
                  cbv
                  refine n_br hE h (fun hc h => ?_) (fun hc h => ?_)
                  · cbv
                    refine n_call hE (g := fun r9 => .bool r9) h (fun r9 hx => c55 N N x_p.Cond (⟨0, [], 0, 0, 0, (⟨0, 0, ⟨#[]⟩⟩ : GValue)⟩ : GExpr) r9 hx) (.cons (.refl _) (.cons (.agg (.cons (.refl _) (.cons (.lit _ (lst_nil)) (.refl _)))) (.refl _))) fun r9 h => ?_
                    cbv
                    refine n_br hE h (fun hc h => ?_) (fun hc h => ?_)
                    · cbv
                      have h := ret_some h
                      subst h
                      exact hK _ _ _ hO (.refl _)
                    · cbv
                      refine n_call hE (g := fun r10 => .bool r10) h (fun r10 hx => c56 N x1.typed x_p.Typ r10 hx) (.refl _) fun r10 h => ?_
                      cbv
                      refine n_br hE h (fun hc h => ?_) (fun hc h => ?_)
                      · cbv
                        have h := ret_some h
                        subst h
                        exact hK _ _ _ hO (.refl _)
                      · cbv
                        refine n_call hE (g := fun r11 => .bool r11) h (fun r11 hx => c56 N x1.typed x_p.Var r11 hx) (.refl _) fun r11 h => ?_
                        cbv
                        refine n_br hE h (fun hc h => ?_) (fun hc h => ?_)
                        · cbv
                          have h := ret_some h
                          subst h
                          exact hK _ _ _ hO (.refl _)
                        · cbv
                          refine n_call hE (g := fun r12 => .bool r12) h (fun r12 hx => c56 N x1.scope x_p.Scope r12 hx) (.refl _) fun r12 h => ?_
                          cbv
                          refine n_br hE h (fun hc h => ?_) (fun hc h => ?_)
                          · cbv
                            have h := ret_some h
                            subst h
                            exact hK _ _ _ hO (.refl _)
                          · cbv
                            refine n_call hE (g := fun r13 => .bool r13) h (fun r13 hx => c56 N x1.span x_p.Span r13 hx) (.refl _) fun r13 h => ?_
                            cbv
                            refine n_br hE h (fun hc h => ?_) (fun hc h => ?_)
                            · cbv
                              have h := ret_some h
                              subst h
                              exact hK _ _ _ hO (.refl _)
                            · cbv
                              have h := ret_some h
                              subst h
                              exact hK _ _ _ hO (.refl _)
                  · cbv
                    refine n_call hE (g := fun r14 => .bool r14) h (fun r14 hx => c56 N x1.typed x_p.Typ r14 hx) (.refl _) fun r14 h => ?_
                    cbv
                    refine n_br hE h (fun hc h => ?_) (fun hc h => ?_)
                    · cbv
                      have h := ret_some h
                      subst h
                      exact hK _ _ _ hO (.refl _)
                    · cbv
                      refine n_call hE (g := fun r15 => .bool r15) h (fun r15 hx => c56 N x1.typed x_p.Var r15 hx) (.refl _) fun r15 h => ?_
                      cbv
                      refine n_br hE h (fun hc h => ?_) (fun hc h => ?_)
                      · cbv
                        have h := ret_some h
                        subst h
                        exact hK _ _ _ hO (.refl _)
                      · cbv
                        refine n_call hE (g := fun r16 => .bool r16) h (fun r16 hx => c56 N x1.scope x_p.Scope r16 hx) (.refl _) fun r16 h => ?_
                        cbv
                        refine n_br hE h (fun hc h => ?_) (fun hc h => ?_)
                        · cbv
                          have h := ret_some h
                          subst h
                          exact hK _ _ _ hO (.refl _)
                        · cbv
                          refine n_call hE (g := fun r17 => .bool r17) h (fun r17 hx => c56 N x1.span x_p.Span r17 hx) (.refl _) fun r17 h => ?_
                          cbv
                          refine n_br hE h (fun hc h => ?_) (fun hc h => ?_)
                          · cbv
                            have h := ret_some h
                            subst h
                            exact hK _ _ _ hO (.refl _)
                          · cbv
                            have h := ret_some h
                            subst h
                            exact hK _ _ _ hO (.refl _)
                · rintro e l H ⟨rfl, rfl, hO⟩
                  cbv
                  have h := ret_some h
                  subst h
                  exact hK _ _ _ hO (.refl _)

def cf27 : Cf := ⟨[2], [], [], [], [], []⟩
theorem c27 (N : Nat) (x_p : GPattern) (r : Int) (h : pattern_CheckRest N x_p = some r) : CallP Tryd.prog 27 [.agg [.int .i64 x_p.Op, .sl (Ar.lst Encs.eGPattern x_p.Args) .ro, .int .i64 x_p.Typ, .int .i64 x_p.Var, .int .i64 x_p.Scope, .int .i64 x_p.Span, .int .i64 x_p.Cond.Op, .sl (Ar.lst Encs.eGExpr x_p.Cond.Args) .ro, .int .i64 x_p.Cond.Var, .int .i64 x_p.Cond.Field, .int .i64 x_p.Cond.Kind, .int .i64 x_p.Cond.Value.Kind, .int .i64 x_p.Cond.Value.Num, .str x_p.Cond.Value.Text]] (.int .i64 r) := by
  unfold pattern_CheckRest at h
  refine callP_of_spec cf27 okP Tryd.func27 (by rfl) (by kernel_rfl) Tryd.call27 Tryd.ntmps27 (by rfl) (by rfl) ?_
  intro E H0 K hE hK
  have hO : Own Eq H0 [] H0 := .start stable_eq rfl
  cbv
  refine n_alloc hE hO fun b1 H hO => ?_
  cbv
  refine n_call hE (g := fun r2 => .tup [.int .i64 r2.1, .int .i64 r2.2]) h (fun r2 hx => c41 N N x_p r2 hx) (.refl _) fun r2 h => ?_
  cbv
  refine n_br hE h (fun hc h => ?_) (fun hc h => ?_)
  · cbv
    refine n_store hE hO 0 rfl rfl fun H hO => ?_
    cbv
    refine n_load hE hO 0 rfl ?_
    cbv
    have h := ret_some h
    subst h
    exact hK _ _ _ hO (.refl _)
  · cbv
    refine n_br hE h (fun hc h => ?_) (fun hc h => ?_)
    · cbv
      refine n_store hE hO 0 rfl rfl fun H hO => ?_
      cbv
      refine n_load hE hO 0 rfl ?_
      cbv
      have h := ret_some h
      subst h
      exact hK _ _ _ hO (.refl _)
    · cbv
      refine n_callQ hE h (fun r3 hx => c42 N x_p r3 hx) (.refl _) fun r3 v4 hv4 h => ?_
      cbv
      obtain ⟨o9, hx, h⟩ := bind_some h
      refine n_range cf27 hE okP (ι := Unit) (enc := fun (x : GPattern) => [.agg [.int .i64 x.Op, .sl (Ar.lst Encs.eGPattern x.Args) .ro, .int .i64 x.Typ, .int .i64 x.Var, .int .i64 x.Scope, .int .i64 x.Span, .int .i64 x.Cond.Op, .sl (Ar.lst Encs.eGExpr x.Cond.Args) .ro, .int .i64 x.Cond.Var, .int .i64 x.Cond.Field, .int .i64 x.Cond.Kind, .int .i64 x.Cond.Value.Kind, .int .i64 x.Cond.Value.Num, .str x.Cond.Value.Text]]) (fun (s6 : Unit) F H => Own Eq F [.blk b1 (.cells [.int .i64 0])] H) (fun (r : Int) e F H => e = .ret ∧ Own Eq F [.blk b1 (.cells [.int .i64 r])] H) (fun i s6 y5 => [(2, .v (.ref b1 0)), (5, .v (.eref [.int .i64 y5.Op, .sl (Ar.lst Encs.eGPattern y5.Args) .ro, .int .i64 y5.Typ, .int .i64 y5.Var, .int .i64 y5.Scope, .int .i64 y5.Span, .int .i64 y5.Cond.Op, .sl (Ar.lst Encs.eGExpr y5.Cond.Args) .ro, .int .i64 y5.Cond.Var, .int .i64 y5.Cond.Field, .int .i64 y5.Cond.Kind, .int .i64 y5.Cond.Value.Kind, .int .i64 y5.Cond.Value.Num, .str y5.Cond.Value.Text] 0))]) (fun i s6 y5 F H => Own Eq F [.blk b1 (.cells [.int .i64 0])] H) (fun _ => Own.stable stable_eq _) (fun _ _ => Stable.con (Own.stable stable_eq _)) (fun _ _ _ => Own.stable stable_eq _) hv4 hx (hO) (by decide) (fun _ => rfl) (by kernel_rfl) (by kernel_rfl) ?_ ?_ ?_ ?_
      · rintro E i8 y5 s6 F7 H hE hO
        clear hx h
        cbv
        exact ⟨(), hO, .e rfl (.e rfl (.z)), rfl⟩
      · rintro E i8 _ y5 s6 F7 H o hE hF h hO
        clear hx
        cbv
        refine n_call hE (g := fun r10 => .int .i64 r10) h (fun r10 hx => c43 N y5 r10 hx) (.refl _) fun r10 h => ?_
        cbv
        refine n_br hE h (fun hc h => ?_) (fun hc h => ?_)
        · cbv
          refine n_store hE hO 0 rfl rfl fun H hO => ?_
          cbv
          have h := ret_some h
          subst h
          exact ⟨_, rfl, rfl, ⟨rfl, hO⟩⟩
        · cbv
          have h := ret_some h
          subst h
          exact ⟨_, rfl, hO⟩
      · rintro d11 s13 H rfl hd hO
        have hO : Own Eq H0 [.blk b1 (.cells [.int .i64 0]), .blk d11 DB] H := Own.dblk hd hO
        clear hd
        clear hx
        cbv
        refine n_store hE hO 0 rfl rfl fun H hO => ?_
        cbv
        refine n_fin hE hO 1 rfl fun H hO => ?_
        cbv
        refine n_load hE hO 0 rfl ?_
        cbv
        have h := ret_some h
        subst h
        exact hK _ _ _ hO (.refl _)
      · rintro d11 y14 e H rfl hd hX
        clear hx
        rcases hX with ⟨rfl, hO⟩
        have hO : Own Eq H0 [.blk b1 (.cells [.int .i64 y14]), .blk d11 DB] H := Own.dblk hd hO
        clear hd
        cbv
        refine n_fin hE hO 1 rfl fun H hO => ?_
        cbv
        refine n_load hE hO 0 rfl ?_
        cbv
        have h := ret_some h
        subst h
        exact hK _ _ _ hO (.refl _)

def cf28 : Cf := ⟨[], [], [(8, 5), (51, 17)], [], [], []⟩
theorem c28 (N : Nat) : ∀ (n : Nat) (x_p : GPattern) (r : (List GGuard)), derivative_active N n x_p = some r → CallP Tryd.prog 28 [.agg [.int .i64 x_p.Op, .sl (Ar.lst Encs.eGPattern x_p.Args) .ro, .int .i64 x_p.Typ, .int .i64 x_p.Var, .int .i64 x_p.Scope, .int .i64 x_p.Span, .int .i64 x_p.Cond.Op, .sl (Ar.lst Encs.eGExpr x_p.Cond.Args) .ro, .int .i64 x_p.Cond.Var, .int .i64 x_p.Cond.Field, .int .i64 x_p.Cond.Kind, .int .i64 x_p.Cond.Value.Kind, .int .i64 x_p.Cond.Value.Num, .str x_p.Cond.Value.Text]] (.sl (Ar.lst Encs.eGGuard r) .ro) := by
  intro n
  induction n with
  | zero => intro x_p r h; cases h
  | succ n ih =>
  intro x_p r h
  unfold derivative_active at h
  refine callP_of_spec cf28 okP Tryd.func28 (by rfl) (by kernel_rfl) Tryd.call28 Tryd.ntmps28 (by rfl) (by rfl) ?_
  intro E H0 K hE hK
  have hO : Own Eq H0 [] H0 := .start stable_eq rfl
  cbv
  obtain ⟨s1, hx, h⟩ := bind_some h
  refine n_join cf28 hE okP (fun e l H1 => e = .normal ∧ l = [(1, .v (.eref [.int .i64 x_p.Op, .sl (Ar.lst Encs.eGPattern x_p.Args) .ro, .int .i64 x_p.Typ, .int .i64 x_p.Var, .int .i64 x_p.Scope, .int .i64 x_p.Span, .int .i64 x_p.Cond.Op, .sl (Ar.lst Encs.eGExpr x_p.Cond.Args) .ro, .int .i64 x_p.Cond.Var, .int .i64 x_p.Cond.Field, .int .i64 x_p.Cond.Kind, .int .i64 x_p.Cond.Value.Kind, .int .i64 x_p.Cond.Value.Num, .str x_p.Cond.Value.Text] 0)), (3, .v (.sl [] .nil)), (7, .v (.int .i64 x_p.Op)), (8, .v (.bool s1))] ∧ Own Eq H0 [] H1) (by kernel_rfl) ?_ ?_
  · clear h
    have h := hx
    clear hx
    cbv
    refine n_br hE h (fun hc h => ?_) (fun hc h => ?_)
    · cbv
      have h := ret_some h
      subst h
      exact ⟨_, ⟨rfl, rfl, hO⟩, .e rfl (.e rfl (.e rfl (.e rfl (.z)))), rfl⟩
    · cbv
      have h := ret_some h
      subst h
      exact ⟨_, ⟨rfl, rfl, hO⟩, .e rfl (.e rfl (.e rfl (.e rfl (.z)))), rfl⟩
  · clear hx
    rintro e l H ⟨rfl, rfl, hO⟩
    cbv
    refine n_br hE h (fun hc h => ?_) (fun hc h => ?_)
    · cbv
      refine n_idx hE Encs.eGPattern_eq h fun x2 h => ?_
      cbv
      refine n_call hE (g := fun r3 => .sl (Ar.lst Encs.eGGuard r3) .ro) h (fun r3 hx => ih x2 r3 hx) (.refl _) fun r3 h => ?_
      cbv
      have h := ret_some h
      subst h
      exact hK _ _ _ hO (.refl _)
    · cbv
      refine n_br hE h (fun hc h => ?_) (fun hc h => ?_)
      · cbv
        refine n_ln hE ?_
        cbv
        replace hO := hO.tl0 (t := .nil) rfl
        obtain ⟨s6, hx, h⟩ := bind_some h
        refine n_loopG cf28 hE okP (γ := Tail) (fun s4 g => [(3, .v (.sl (Ar.lst Encs.eGGuard s4.1) g)), (19, .v (.sl (Ar.lst Encs.eGPattern x_p.Args) .ro)), (20, .v (.int .i64 (Ar.len x_p.Args))), (21, .v (.int .i64 s4.2))]) (fun s4 g H1 => Appn g ∧ Own Eq H0 [.tl g] H1) (fun x e l H1 => ∃ u1 : Tail, Appn u1 ∧ e = .exit 1 ∧ l = [(3, .v (.sl (Ar.lst Encs.eGGuard x) u1))] ∧ Own Eq H0 [.tl u1] H1) (by kernel_rfl) ?_ .nil hx ?_ ?_ ?_
        · rintro s4 t5 H o ⟨ht5, hO⟩ h
          clear hx
          cbv
          refine n_br hE h (fun hc h => ?_) (fun hc h => ?_)
          · cbv
            refine n_idx hE Encs.eGPattern_eq h fun x7 h => ?_
            cbv
            refine n_call hE (g := fun r8 => .sl (Ar.lst Encs.eGGuard r8) .ro) h (fun r8 hx => ih x7 r8 hx) (.refl _) fun r8 h => ?_
            cbv
            refine n_appn hE sz_GGuard (by decide) hO 0 rfl ht5 (l := s4.1) (m := r8) (.refl _) (.refl _) h fun l10 t9 H hO ht9 h => ?_
            cbv
            have h := ret_some h
            subst h
            exact ⟨_, t9, rfl, .e rfl (.e rfl (.e rfl (.e rfl (.z)))), rfl, ht9, hO⟩
          · cbv
            have h := ret_some h
            subst h
            exact ⟨_, _, rfl, ⟨t5, ht5, rfl, rfl, hO⟩, .e rfl (.z), rfl⟩
        · exact .v (.slt _ (.lst0)) (.e rfl (.e rfl (.e rfl (.z))))
        · exact ⟨trivial, hO⟩
        · clear hx
          rintro e l H ⟨t11, ht11, rfl, rfl, hO⟩
          cbv
          have h := ret_some h
          subst h
          exact hK _ _ _ hO (.ro _ _)
      · cbv
        refine n_br hE h (fun hc h => ?_) (fun hc h => ?_)
        · cbv
          refine n_appn hE sz_GGuard (by decide) (hO.tl0 (t := .nil) rfl) 0 rfl trivial (l := []) (m := [(⟨x_p.Scope, x_p.Typ, x_p.Var, x_p.Cond⟩ : GGuard)]) (.lst0) (.lstc (.eq (Encs.eGGuard_eq (⟨x_p.Scope, x_p.Typ, x_p.Var, x_p.Cond⟩ : GGuard)) (.refl _)) (.lst0)) h fun l13 t12 H hO ht12 h => ?_
          cbv
          refine n_idx hE Encs.eGPattern_eq h fun x14 h => ?_
          cbv
          refine n_call hE (g := fun r15 => .sl (Ar.lst Encs.eGGuard r15) .ro) h (fun r15 hx => ih x14 r15 hx) (.refl _) fun r15 h => ?_
          cbv
          refine n_appn hE sz_GGuard (by decide) hO 0 rfl ht12 (l := l13) (m := r15) (.refl _) (.refl _) h fun l17 t16 H hO ht16 h => ?_
          cbv
          have h := ret_some h
          subst h
          exact hK _ _ _ hO (.ro _ _)
        · cbv
          obtain ⟨s18, hx, h⟩ := bind_some h
          refine n_join cf28 hE okP (fun e l H1 => e = .normal ∧ l = [(1, .v (.eref [.int .i64 x_p.Op, .sl (Ar.lst Encs.eGPattern x_p.Args) .ro, .int .i64 x_p.Typ, .int .i64 x_p.Var, .int .i64 x_p.Scope, .int .i64 x_p.Span, .int .i64 x_p.Cond.Op, .sl (Ar.lst Encs.eGExpr x_p.Cond.Args) .ro, .int .i64 x_p.Cond.Var, .int .i64 x_p.Cond.Field, .int .i64 x_p.Cond.Kind, .int .i64 x_p.Cond.Value.Kind, .int .i64 x_p.Cond.Value.Num, .str x_p.Cond.Value.Text] 0)), (3, .v (.sl [] .nil)), (51, .v (.bool s18))] ∧ Own Eq H0 [] H1) (by kernel_rfl) ?_ ?_
          · clear h
            have h := hx
            clear hx
            cbv
            refine n_br hE h (fun hc h => ?_) (fun hc h => ?_)
            · cbv
              have h := ret_some h
              subst h
              exact ⟨_, ⟨rfl, rfl, hO⟩, .e rfl (.e rfl (.e rfl (.z))), rfl⟩
            · cbv
              have h := ret_some h
              subst h
              exact ⟨_, ⟨rfl, rfl, hO⟩, .e rfl (.e rfl (.e rfl (.z))), rfl⟩
          · clear hx
            rintro e l H ⟨rfl, rfl, hO⟩
            cbv
            refine n_br hE h (fun hc h => ?_) (fun hc h => ?_)
            · cbv
              refine n_idx hE Encs.eGPattern_eq h fun x19 h => ?_
              cbv
              refine n_call hE (g := fun r20 => .sl (Ar.lst Encs.eGGuard r20) .ro) h (fun r20 hx => ih x19 r20 hx) (.refl _) fun r20 h => ?_
              cbv
              have h := ret_some h
              subst h
              exact hK _ _ _ hO (.refl _)
            · cbv
              have h := ret_some h
              subst h
              exact hK _ _ _ hO (.lit _ (lst_nil))

def cf7 : Cf := ⟨[], [], [], [], [], []⟩
theorem c7 (N : Nat) (x_p : GPattern) (r : ((List GGuard) × Int)) (h : derivative_Guards N x_p = some r) : CallP Tryd.prog 7 [.agg [.int .i64 x_p.Op, .sl (Ar.lst Encs.eGPattern x_p.Args) .ro, .int .i64 x_p.Typ, .int .i64 x_p.Var, .int .i64 x_p.Scope, .int .i64 x_p.Span, .int .i64 x_p.Cond.Op, .sl (Ar.lst Encs.eGExpr x_p.Cond.Args) .ro, .int .i64 x_p.Cond.Var, .int .i64 x_p.Cond.Field, .int .i64 x_p.Cond.Kind, .int .i64 x_p.Cond.Value.Kind, .int .i64 x_p.Cond.Value.Num, .str x_p.Cond.Value.Text]] (.tup [.sl (Ar.lst Encs.eGGuard r.1) .ro, .int .i64 r.2]) := by
  unfold derivative_Guards at h
  refine callP_of_spec cf7 okP Tryd.func7 (by rfl) (by kernel_rfl) Tryd.call7 Tryd.ntmps7 (by rfl) (by rfl) ?_
  intro E H0 K hE hK
  have hO : Own Eq H0 [] H0 := .start stable_eq rfl
  cbv
  refine n_call hE (g := fun r1 => .int .i64 r1) h (fun r1 hx => c27 N x_p r1 hx) (.refl _) fun r1 h => ?_
  cbv
  refine n_br hE h (fun hc h => ?_) (fun hc h => ?_)
  · cbv
    have h := ret_some h
    subst h
    exact hK _ _ _ hO (.tup (.cons (.lit _ (lst_nil)) (.refl _)))
  · cbv
    refine n_call hE (g := fun r2 => .sl (Ar.lst Encs.eGGuard r2) .ro) h (fun r2 hx => c28 N N x_p r2 hx) (.refl _) fun r2 h => ?_
    cbv
    have h := ret_some h
    subst h
    exact hK _ _ _ hO (.refl _)

def cf36 : Cf := ⟨[], [], [], [], [], []⟩
theorem c36 (N : Nat) (x_s : List GPattern) (v_f : V) (x_f : GPattern → Option Bool) (h_f : ∀ y1 q, x_f y1 = some q → CallVP Tryd.prog v_f [.agg [.int .i64 y1.Op, .sl (Ar.lst Encs.eGPattern y1.Args) .ro, .int .i64 y1.Typ, .int .i64 y1.Var, .int .i64 y1.Scope, .int .i64 y1.Span, .int .i64 y1.Cond.Op, .sl (Ar.lst Encs.eGExpr y1.Cond.Args) .ro, .int .i64 y1.Cond.Var, .int .i64 y1.Cond.Field, .int .i64 y1.Cond.Kind, .int .i64 y1.Cond.Value.Kind, .int .i64 y1.Cond.Value.Num, .str y1.Cond.Value.Text]] (.bool q)) (r : Int) (h : slices_IndexFunc_LPattern_Pattern N x_s x_f = some r) : CallP Tryd.prog 36 [.sl (Ar.lst Encs.eGPattern x_s) .ro, v_f] (.int .i64 r) := by
  unfold slices_IndexFunc_LPattern_Pattern at h
  refine callP_of_spec cf36 okP Tryd.func36 (by rfl) (by kernel_rfl) Tryd.call36 Tryd.ntmps36 (by rfl) (by rfl) ?_
  intro E H0 K hE hK
  have hO : Own Eq H0 [] H0 := .start stable_eq rfl
  cbv
  refine n_ln hE ?_
  cbv
  obtain ⟨s2, hx, h⟩ := bind_some h
  refine n_loopN cf36 hE okP (fun s1 => [(0, .v (.sl (Ar.lst Encs.eGPattern x_s) .ro)), (1, .v (v_f)), (7, .v (.int .i64 (Ar.len x_s))), (8, .v (.int .i64 s1))]) (fun s1 H1 => Own Eq H0 [] H1) (fun x e l H1 => match (generalizing := false) x with | .inl y => e = .exit 0 ∧ l = [] ∧ Own Eq H0 [] H1 | .inr y => e = .ret ∧ l = [(4, .v (.int .i64 y))] ∧ Own Eq H0 [] H1) (by kernel_rfl) ?_ hx ?_ hO ?_
  · intro s1 H o hO h
    clear hx
    cbv
    refine n_br hE h (fun hc h => ?_) (fun hc h => ?_)
    · cbv
      refine n_idx hE Encs.eGPattern_eq h fun x3 h => ?_
      cbv
      refine n_callF hE (g := fun r4 => .bool r4) h (fun r4 hx => h_f x3 r4 hx) (.refl _) fun r4 h => ?_
      cbv
      refine n_br hE h (fun hc h => ?_) (fun hc h => ?_)
      · cbv
        have h := ret_some h
        subst h
        exact ⟨_, _, rfl, ⟨rfl, rfl, hO⟩, .e rfl (.z), rfl⟩
      · cbv
        have h := ret_some h
        subst h
        exact ⟨_, rfl, .e rfl (.e rfl (.e rfl (.e rfl (.z)))), rfl, hO⟩
    · cbv
      have h := ret_some h
      subst h
      exact ⟨_, _, rfl, ⟨rfl, rfl, hO⟩, .z, rfl⟩
  · exact .e rfl (.e rfl (.e rfl (.e rfl (.z))))
  · clear hx
    rcases s2 with y5 | y6
    · rintro e l H ⟨rfl, rfl, hO⟩
      cbv
      have h := ret_some h
      subst h
      exact hK _ _ _ hO (.refl _)
    · rintro e l H ⟨rfl, rfl, hO⟩
      cbv
      have h := ret_some h
      subst h
      exact hK _ _ _ hO (.refl _)

def cf70 : Cf := ⟨[8], [], [], [], [], []⟩
theorem c70 (N : Nat) (x_s1 : List GPattern) (x_s2 : List GPattern) (v_eq : V) (x_eq : GPattern → GPattern → Option Bool) (h_eq : ∀ y1 y2 q, x_eq y1 y2 = some q → CallVP Tryd.prog v_eq [.agg [.int .i64 y1.Op, .sl (Ar.lst Encs.eGPattern y1.Args) .ro, .int .i64 y1.Typ, .int .i64 y1.Var, .int .i64 y1.Scope, .int .i64 y1.Span, .int .i64 y1.Cond.Op, .sl (Ar.lst Encs.eGExpr y1.Cond.Args) .ro, .int .i64 y1.Cond.Var, .int .i64 y1.Cond.Field, .int .i64 y1.Cond.Kind, .int .i64 y1.Cond.Value.Kind, .int .i64 y1.Cond.Value.Num, .str y1.Cond.Value.Text], .agg [.int .i64 y2.Op, .sl (Ar.lst Encs.eGPattern y2.Args) .ro, .int .i64 y2.Typ, .int .i64 y2.Var, .int .i64 y2.Scope, .int .i64 y2.Span, .int .i64 y2.Cond.Op, .sl (Ar.lst Encs.eGExpr y2.Cond.Args) .ro, .int .i64 y2.Cond.Var, .int .i64 y2.Cond.Field, .int .i64 y2.Cond.Kind, .int .i64 y2.Cond.Value.Kind, .int .i64 y2.Cond.Value.Num, .str y2.Cond.Value.Text]] (.bool q)) (r : Bool) (h : slices_EqualFunc_LPattern_LPattern_Pattern_Pattern N x_s1 x_s2 x_eq = some r) : CallP Tryd.prog 70 [.sl (Ar.lst Encs.eGPattern x_s1) .ro, .sl (Ar.lst Encs.eGPattern x_s2) .ro, v_eq] (.bool r) := by
  unfold slices_EqualFunc_LPattern_LPattern_Pattern_Pattern at h
  refine callP_of_spec cf70 okP Tryd.func70 (by rfl) (by kernel_rfl) Tryd.call70 Tryd.ntmps70 (by rfl) (by rfl) ?_
  intro E H0 K hE hK
  have hO : Own Eq H0 [] H0 := .start stable_eq rfl
  cbv
  refine n_ln hE ?_
  cbv
  refine n_ln hE ?_
  cbv
  refine n_br hE h (fun hc h => ?_) (fun hc h => ?_)
  · cbv
    have h := ret_some h
    subst h
    exact hK _ _ _ hO (.refl _)
  · cbv
    refine n_ln hE ?_
    cbv
    obtain ⟨s2, hx, h⟩ := bind_some h
    refine n_loopN cf70 hE okP (fun s1 => [(1, .v (.sl (Ar.lst Encs.eGPattern x_s2) .ro)), (2, .v (v_eq)), (15, .v (.sl (Ar.lst Encs.eGPattern x_s1) .ro)), (16, .v (.int .i64 (Ar.len x_s1))), (17, .v (.int .i64 s1))]) (fun s1 H1 => Own Eq H0 [] H1) (fun x e l H1 => match (generalizing := false) x with | .inl y => e = .exit 0 ∧ l = [] ∧ Own Eq H0 [] H1 | .inr y => e = .ret ∧ l = [(6, .b false)] ∧ Own Eq H0 [] H1) (by kernel_rfl) ?_ hx ?_ hO ?_
    · intro s1 H o hO h
      clear hx
      cbv
      refine n_br hE h (fun hc h => ?_) (fun hc h => ?_)
      · cbv
        refine n_idx hE Encs.eGPattern_eq h fun x3 h => ?_
        cbv
        refine n_alloc hE hO fun b4 H hO => ?_
        cbv
        refine n_store hE hO 0 rfl rfl fun H hO => ?_
        cbv
        refine n_idx hE Encs.eGPattern_eq h fun x5 h => ?_
        cbv
        refine n_load hE hO 0 rfl ?_
        cbv
        refine n_callF hE (g := fun r6 => .bool r6) h (fun r6 hx => h_eq x3 x5 r6 hx) (.refl _) fun r6 h => ?_
        cbv
        refine n_br hE h (fun hc h => ?_) (fun hc h => ?_)
        · cbv
          have h := ret_some h
          subst h
          exact ⟨_, _, rfl, ⟨rfl, rfl, hO.tail⟩, .b rfl (.z), rfl⟩
        · cbv
          have h := ret_some h
          subst h
          exact ⟨_, rfl, .e rfl (.e rfl (.e rfl (.e rfl (.e rfl (.z))))), rfl, hO.tail⟩
      · cbv
        have h := ret_some h
        subst h
        exact ⟨_, _, rfl, ⟨rfl, rfl, hO⟩, .z, rfl⟩
    · exact .e rfl (.e rfl (.e rfl (.e rfl (.e rfl (.z)))))
    · clear hx
      rcases s2 with y7 | y8
      · rintro e l H ⟨rfl, rfl, hO⟩
        cbv
        have h := ret_some h
        subst h
        exact hK _ _ _ hO (.refl _)
      · rintro e l H ⟨rfl, rfl, hO⟩
        cbv
        have h := ret_some h
        subst h
        exact hK _ _ _ hO (.refl _)

def cf50 : Cf := ⟨[], [], [], [], [], []⟩
theorem c50 (N : Nat) : ∀ (n : Nat) (x_a : GPattern) (x_b : GPattern) (r : Bool), pattern_Same N n x_a x_b = some r → CallP Tryd.prog 50 [.agg [.int .i64 x_a.Op, .sl (Ar.lst Encs.eGPattern x_a.Args) .ro, .int .i64 x_a.Typ, .int .i64 x_a.Var, .int .i64 x_a.Scope, .int .i64 x_a.Span, .int .i64 x_a.Cond.Op, .sl (Ar.lst Encs.eGExpr x_a.Cond.Args) .ro, .int .i64 x_a.Cond.Var, .int .i64 x_a.Cond.Field, .int .i64 x_a.Cond.Kind, .int .i64 x_a.Cond.Value.Kind, .int .i64 x_a.Cond.Value.Num, .str x_a.Cond.Value.Text], .agg [.int .i64 x_b.Op, .sl (Ar.lst Encs.eGPattern x_b.Args) .ro, .int .i64 x_b.Typ, .int .i64 x_b.Var, .int .i64 x_b.Scope, .int .i64 x_b.Span, .int .i64 x_b.Cond.Op, .sl (Ar.lst Encs.eGExpr x_b.Cond.Args) .ro, .int .i64 x_b.Cond.Var, .int .i64 x_b.Cond.Field, .int .i64 x_b.Cond.Kind, .int .i64 x_b.Cond.Value.Kind, .int .i64 x_b.Cond.Value.Num, .str x_b.Cond.Value.Text]] (.bool r) := by
  intro n
  induction n with
  | zero => intro x_a x_b r h; cases h
  | succ n ih =>
  intro x_a x_b r h
  unfold pattern_Same at h
  refine callP_of_spec cf50 okP Tryd.func50 (by rfl) (by kernel_rfl) Tryd.call50 Tryd.ntmps50 (by rfl) (by rfl) ?_
  intro E H0 K hE hK
  have hO : Own Eq H0 [] H0 := .start stable_eq rfl
  cbv
  refine n_br hE h (fun hc h => ?_) (fun hc h => ?_)
  · cbv
    have h := ret_some h
    subst h
    exact hK _ _ _ hO (.refl _)
  · cbv
    refine n_call hE (g := fun r1 => .bool r1) h (fun r1 hx => c55 N N x_a.Cond x_b.Cond r1 hx) (.refl _) fun r1 h => ?_
    cbv
    refine n_br hE h (fun hc h => ?_) (fun hc h => ?_)
    · cbv
      have h := ret_some h
      subst h
      exact hK _ _ _ hO (.refl _)
    · cbv
      refine n_call hE (g := fun r2 => .bool r2) h (fun r2 hx => c70 N x_a.Args x_b.Args (.func (.func 50) [] []) (fun y1 y2 => pattern_Same N n y1 y2) (fun y1 y2 r hx => CallP.value (F := []) (C := []) (ih y1 y2 r hx)) r2 hx) (.refl _) fun r2 h => ?_
      cbv
      have h := ret_some h
      subst h
      exact hK _ _ _ hO (.refl _)

end Go.Ab

