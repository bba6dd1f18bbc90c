/- A part of the proof: GDCo4. -/
import Derived.Test.YtlbkmdpaalofkaaDoorT26
set_option linter.unusedVariables false
set_option linter.unusedSimpArgs false
set_option linter.unusedSectionVars false

/- The contracts. By program. -/
namespace Go.Ab
open Go.RowKit Go.Proofs

variable [Ar] [Encs]
set_option maxRecDepth 100000

def cf12 : Cf := ⟨[], [], [], [], [], []⟩
theorem c12 (N : Nat) (x_p : GPattern) (r : ((List GEdge) × (List GPattern) × Int)) (h : derivative_Derive N x_p = some r) : CallP Tryd.prog 12 [.agg [.int .i64 x_p.Op, .sl (Ar.lst Encs.eGPattern x_p.Args) .ro, .int .i64 x_p.Typ, .int .i64 x_p.Var, .int .i64 x_p.Scope, .int .i64 x_p.Span, .int .i64 x_p.Cond.Op, .sl (Ar.lst Encs.eGExpr x_p.Cond.Args) .ro, .int .i64 x_p.Cond.Var, .int .i64 x_p.Cond.Field, .int .i64 x_p.Cond.Kind, .int .i64 x_p.Cond.Value.Kind, .int .i64 x_p.Cond.Value.Num, .str x_p.Cond.Value.Text]] (.tup [.sl (Ar.lst Encs.eGEdge r.1) .ro, .sl (Ar.lst Encs.eGPattern r.2.1) .ro, .int .i64 r.2.2]) := by
  unfold derivative_Derive at h
  refine callP_of_spec cf12 okP Tryd.func12 (by rfl) (by kernel_rfl) Tryd.call12 Tryd.ntmps12 (by rfl) (by rfl) ?_
  intro E H0 K hE hK
  have hO : Own Eq H0 [] H0 := .start stable_eq rfl
  cbv
  refine n_call hE (g := fun r1 => .int .i64 r1) h (fun r1 hx => c27 N x_p r1 hx) (.refl _) fun r1 h => ?_
  cbv
  refine n_br hE h (fun hc h => ?_) (fun hc h => ?_)
  · cbv
    have h := ret_some h
    subst h
    exact hK _ _ _ hO (.tup (.cons (.lit _ (lst_nil)) (.cons (.lit _ (lst_nil)) (.refl _))))
  · cbv
    refine n_call hE (g := fun r2 => .tup [.sl (Ar.lst Encs.eGEdge r2.1) .ro, .sl (Ar.lst Encs.eGPattern r2.2.1) .ro, .int .i64 r2.2.2]) h (fun r2 hx => c35 N x_p r2 hx) (.refl _) fun r2 h => ?_
    cbv
    have h := ret_some h
    subst h
    exact hK _ _ _ hO (.refl _)

def cf37 : Cf := ⟨[2], [], [], [], [], []⟩
theorem c37 (N : Nat) (x_b : Bool) (r : GValue) (h : ref08_Flag N x_b = some r) : CallP Tryd.prog 37 [.bool x_b] (.agg [.int .i64 r.Kind, .int .i64 r.Num, .str r.Text]) := by
  unfold ref08_Flag at h
  refine callP_of_spec cf37 okP Tryd.func37 (by rfl) (by kernel_rfl) Tryd.call37 Tryd.ntmps37 (by rfl) (by rfl) ?_
  intro E H0 K hE hK
  have hO : Own Eq H0 [] H0 := .start stable_eq rfl
  cbv
  refine n_alloc hE hO fun b1 H hO => ?_
  cbv
  refine n_br hE h (fun hc h => ?_) (fun hc h => ?_)
  · cbv
    refine n_store hE hO 0 rfl rfl fun H hO => ?_
    cbv
    refine n_load hE hO 0 rfl ?_
    cbv
    have h := ret_some h
    subst h
    exact hK _ _ _ hO (.refl _)
  · cbv
    refine n_store hE hO 0 rfl rfl fun H hO => ?_
    cbv
    refine n_load hE hO 0 rfl ?_
    cbv
    have h := ret_some h
    subst h
    exact hK _ _ _ hO (.refl _)

def cf17 : Cf := ⟨[0], [], [], [], [], []⟩
theorem c17 (N : Nat) (r : GExpr) (h : law22_truth N  = some r) : CallP Tryd.prog 17 [] (.agg [.int .i64 r.Op, .sl (Ar.lst Encs.eGExpr r.Args) .ro, .int .i64 r.Var, .int .i64 r.Field, .int .i64 r.Kind, .int .i64 r.Value.Kind, .int .i64 r.Value.Num, .str r.Value.Text]) := by
  unfold law22_truth at h
  refine callP_of_spec cf17 okP Tryd.func17 (by rfl) (by kernel_rfl) Tryd.call17 Tryd.ntmps17 (by rfl) (by rfl) ?_
  intro E H0 K hE hK
  have hO : Own Eq H0 [] H0 := .start stable_eq rfl
  cbv
  refine n_alloc hE hO fun b1 H hO => ?_
  cbv
  refine n_call hE (g := fun r2 => .agg [.int .i64 r2.Kind, .int .i64 r2.Num, .str r2.Text]) h (fun r2 hx => c37 N true r2 hx) (.refl _) fun r2 h => ?_
  cbv
  refine n_store hE hO 0 rfl rfl fun H hO => ?_
  cbv
  refine n_load hE hO 0 rfl ?_
  cbv
  have h := ret_some h
  subst h
  exact hK _ _ _ hO (.agg (.cons (.refl _) (.cons (.lit _ (lst_nil)) (.refl _))))

def cf18 : Cf := ⟨[4], [], [], [], [], []⟩
theorem c18 (N : Nat) (x_op : Int) (x_args : List GPattern) (r : GPattern) (h : law22_node N x_op x_args = some r) : CallP Tryd.prog 18 [.int .i64 x_op, .sl (Ar.lst Encs.eGPattern x_args) .ro] (.agg [.int .i64 r.Op, .sl (Ar.lst Encs.eGPattern r.Args) .ro, .int .i64 r.Typ, .int .i64 r.Var, .int .i64 r.Scope, .int .i64 r.Span, .int .i64 r.Cond.Op, .sl (Ar.lst Encs.eGExpr r.Cond.Args) .ro, .int .i64 r.Cond.Var, .int .i64 r.Cond.Field, .int .i64 r.Cond.Kind, .int .i64 r.Cond.Value.Kind, .int .i64 r.Cond.Value.Num, .str r.Cond.Value.Text]) := by
  unfold law22_node at h
  refine callP_of_spec cf18 okP Tryd.func18 (by rfl) (by kernel_rfl) Tryd.call18 Tryd.ntmps18 (by rfl) (by rfl) ?_
  intro E H0 K hE hK
  have hO : Own Eq H0 [] H0 := .start stable_eq rfl
  cbv
  refine n_alloc hE hO fun b1 H hO => ?_
  cbv
  refine n_store hE hO 0 rfl rfl fun H hO => ?_
  cbv
  refine n_load hE hO 0 rfl ?_
  cbv
  have h := ret_some h
  subst h
  exact hK _ _ _ hO (.agg (.cons (.refl _) (.cons (.refl _) (.cons (.refl _) (.cons (.refl _) (.cons (.refl _) (.cons (.refl _) (.cons (.refl _) (.cons (.lit _ (lst_nil)) (.refl _))))))))))

def cf31 : Cf := ⟨[], [(6, 10)], [], [], [], []⟩
theorem c31 (N : Nat) : ∀ (n : Nat) (x_a : GExpr) (x_b : GExpr) (r : Bool), ref08_Same N n x_a x_b = some r → CallP Tryd.prog 31 [.agg [.int .i64 x_a.Op, .sl (Ar.lst Encs.eGExpr x_a.Args) .ro, .int .i64 x_a.Var, .int .i64 x_a.Field, .int .i64 x_a.Kind, .int .i64 x_a.Value.Kind, .int .i64 x_a.Value.Num, .str x_a.Value.Text], .agg [.int .i64 x_b.Op, .sl (Ar.lst Encs.eGExpr x_b.Args) .ro, .int .i64 x_b.Var, .int .i64 x_b.Field, .int .i64 x_b.Kind, .int .i64 x_b.Value.Kind, .int .i64 x_b.Value.Num, .str x_b.Value.Text]] (.bool r) := by
  intro n
  induction n with
  | zero => intro x_a x_b r h; cases h
  | succ n ih =>
  intro x_a x_b r h
  unfold ref08_Same at h
  refine callP_of_spec cf31 okP Tryd.func31 (by rfl) (by kernel_rfl) Tryd.call31 Tryd.ntmps31 (by rfl) (by rfl) ?_
  intro E H0 K hE hK
  have hO : Own Eq H0 [] H0 := .start stable_eq rfl
  cbv
  refine n_ln hE ?_
  cbv
  refine n_ln hE ?_
  cbv
  refine n_br hE h (fun hc h => ?_) (fun hc h => ?_)
  · cbv
    have h := ret_some h
    subst h
    exact hK _ _ _ hO (.refl _)
  · cbv
    obtain ⟨s2, hx, h⟩ := bind_some h
    refine n_loopN cf31 hE okP (fun s1 => [(2, .v (.eref [.int .i64 x_a.Op, .sl (Ar.lst Encs.eGExpr x_a.Args) .ro, .int .i64 x_a.Var, .int .i64 x_a.Field, .int .i64 x_a.Kind, .int .i64 x_a.Value.Kind, .int .i64 x_a.Value.Num, .str x_a.Value.Text] 0)), (3, .v (.eref [.int .i64 x_b.Op, .sl (Ar.lst Encs.eGExpr x_b.Args) .ro, .int .i64 x_b.Var, .int .i64 x_b.Field, .int .i64 x_b.Kind, .int .i64 x_b.Value.Kind, .int .i64 x_b.Value.Num, .str x_b.Value.Text] 0)), (5, .v (.int .i64 s1))]) (fun s1 H1 => Own Eq H0 [] H1) (fun x e l H1 => match (generalizing := false) x with | .inl y => e = .exit 0 ∧ l = [] ∧ Own Eq H0 [] H1 | .inr y => e = .ret ∧ l = [(4, .b false)] ∧ Own Eq H0 [] H1) (by kernel_rfl) ?_ hx ?_ hO ?_
    · intro s1 H o hO h
      clear hx
      cbv
      refine n_ln hE ?_
      cbv
      refine n_br hE h (fun hc h => ?_) (fun hc h => ?_)
      · cbv
        refine n_idx hE Encs.eGExpr_eq h fun x3 h => ?_
        cbv
        refine n_idx hE Encs.eGExpr_eq h fun x4 h => ?_
        cbv
        refine n_call hE (g := fun r5 => .bool r5) h (fun r5 hx => ih x3 x4 r5 hx) (.refl _) fun r5 h => ?_
        cbv
        refine n_br hE h (fun hc h => ?_) (fun hc h => ?_)
        · cbv
          have h := ret_some h
          subst h
          exact ⟨_, _, rfl, ⟨rfl, rfl, hO⟩, .b rfl (.z), rfl⟩
        · cbv
          have h := ret_some h
          subst h
          exact ⟨_, rfl, .e rfl (.e rfl (.e rfl (.z))), rfl, hO⟩
      · cbv
        have h := ret_some h
        subst h
        exact ⟨_, _, rfl, ⟨rfl, rfl, hO⟩, .z, rfl⟩
    · exact .e rfl (.e rfl (.e rfl (.z)))
    · clear hx
      rcases s2 with y6 | y7
      · rintro e l H ⟨rfl, rfl, hO⟩
        cbv
        have h := ret_some h
        subst h
        exact hK _ _ _ hO (.refl _)
      · rintro e l H ⟨rfl, rfl, hO⟩
        cbv
        have h := ret_some h
        subst h
        exact hK _ _ _ hO (.refl _)

def cf38 : Cf := ⟨[], [(6, 10)], [], [], [], []⟩
theorem c38 (N : Nat) : ∀ (n : Nat) (x_a : GPattern) (x_b : GPattern) (r : Bool), ref09_Same N n x_a x_b = some r → CallP Tryd.prog 38 [.agg [.int .i64 x_a.Op, .sl (Ar.lst Encs.eGPattern x_a.Args) .ro, .int .i64 x_a.Typ, .int .i64 x_a.Var, .int .i64 x_a.Scope, .int .i64 x_a.Span, .int .i64 x_a.Cond.Op, .sl (Ar.lst Encs.eGExpr x_a.Cond.Args) .ro, .int .i64 x_a.Cond.Var, .int .i64 x_a.Cond.Field, .int .i64 x_a.Cond.Kind, .int .i64 x_a.Cond.Value.Kind, .int .i64 x_a.Cond.Value.Num, .str x_a.Cond.Value.Text], .agg [.int .i64 x_b.Op, .sl (Ar.lst Encs.eGPattern x_b.Args) .ro, .int .i64 x_b.Typ, .int .i64 x_b.Var, .int .i64 x_b.Scope, .int .i64 x_b.Span, .int .i64 x_b.Cond.Op, .sl (Ar.lst Encs.eGExpr x_b.Cond.Args) .ro, .int .i64 x_b.Cond.Var, .int .i64 x_b.Cond.Field, .int .i64 x_b.Cond.Kind, .int .i64 x_b.Cond.Value.Kind, .int .i64 x_b.Cond.Value.Num, .str x_b.Cond.Value.Text]] (.bool r) := by
  intro n
  induction n with
  | zero => intro x_a x_b r h; cases h
  | succ n ih =>
  intro x_a x_b r h
  unfold ref09_Same at h
  refine callP_of_spec cf38 okP Tryd.func38 (by rfl) (by kernel_rfl) Tryd.call38 Tryd.ntmps38 (by rfl) (by rfl) ?_
  intro E H0 K hE hK
  have hO : Own Eq H0 [] H0 := .start stable_eq rfl
  cbv
  refine n_br hE h (fun hc h => ?_) (fun hc h => ?_)
  · cbv
    have h := ret_some h
    subst h
    exact hK _ _ _ hO (.refl _)
  · cbv
    refine n_call hE (g := fun r1 => .bool r1) h (fun r1 hx => c31 N N x_a.Cond x_b.Cond r1 hx) (.refl _) fun r1 h => ?_
    cbv
    refine n_ln hE ?_
    cbv
    refine n_ln hE ?_
    cbv
    refine n_br hE h (fun hc h => ?_) (fun hc h => ?_)
    · cbv
      have h := ret_some h
      subst h
      exact hK _ _ _ hO (.refl _)
    · cbv
      obtain ⟨s3, hx, h⟩ := bind_some h
      refine n_loopN cf38 hE okP (fun s2 => [(2, .v (.eref [.int .i64 x_a.Op, .sl (Ar.lst Encs.eGPattern x_a.Args) .ro, .int .i64 x_a.Typ, .int .i64 x_a.Var, .int .i64 x_a.Scope, .int .i64 x_a.Span, .int .i64 x_a.Cond.Op, .sl (Ar.lst Encs.eGExpr x_a.Cond.Args) .ro, .int .i64 x_a.Cond.Var, .int .i64 x_a.Cond.Field, .int .i64 x_a.Cond.Kind, .int .i64 x_a.Cond.Value.Kind, .int .i64 x_a.Cond.Value.Num, .str x_a.Cond.Value.Text] 0)), (3, .v (.eref [.int .i64 x_b.Op, .sl (Ar.lst Encs.eGPattern x_b.Args) .ro, .int .i64 x_b.Typ, .int .i64 x_b.Var, .int .i64 x_b.Scope, .int .i64 x_b.Span, .int .i64 x_b.Cond.Op, .sl (Ar.lst Encs.eGExpr x_b.Cond.Args) .ro, .int .i64 x_b.Cond.Var, .int .i64 x_b.Cond.Field, .int .i64 x_b.Cond.Kind, .int .i64 x_b.Cond.Value.Kind, .int .i64 x_b.Cond.Value.Num, .str x_b.Cond.Value.Text] 0)), (5, .v (.int .i64 s2))]) (fun s2 H1 => Own Eq H0 [] H1) (fun x e l H1 => match (generalizing := false) x with | .inl y => e = .exit 0 ∧ l = [] ∧ Own Eq H0 [] H1 | .inr y => e = .ret ∧ l = [(4, .b false)] ∧ Own Eq H0 [] H1) (by kernel_rfl) ?_ hx ?_ hO ?_
      · intro s2 H o hO h
        clear hx
        cbv
        refine n_ln hE ?_
        cbv
        refine n_br hE h (fun hc h => ?_) (fun hc h => ?_)
        · cbv
          refine n_idx hE Encs.eGPattern_eq h fun x4 h => ?_
          cbv
          refine n_idx hE Encs.eGPattern_eq h fun x5 h => ?_
          cbv
          refine n_call hE (g := fun r6 => .bool r6) h (fun r6 hx => ih x4 x5 r6 hx) (.refl _) fun r6 h => ?_
          cbv
          refine n_br hE h (fun hc h => ?_) (fun hc h => ?_)
          · cbv
            have h := ret_some h
            subst h
            exact ⟨_, _, rfl, ⟨rfl, rfl, hO⟩, .b rfl (.z), rfl⟩
          · cbv
            have h := ret_some h
            subst h
            exact ⟨_, rfl, .e rfl (.e rfl (.e rfl (.z))), rfl, hO⟩
        · cbv
          have h := ret_some h
          subst h
          exact ⟨_, _, rfl, ⟨rfl, rfl, hO⟩, .z, rfl⟩
      · exact .e rfl (.e rfl (.e rfl (.z)))
      · clear hx
        rcases s3 with y7 | y8
        · rintro e l H ⟨rfl, rfl, hO⟩
          cbv
          have h := ret_some h
          subst h
          exact hK _ _ _ hO (.refl _)
        · rintro e l H ⟨rfl, rfl, hO⟩
          cbv
          have h := ret_some h
          subst h
          exact hK _ _ _ hO (.refl _)

def cf19 : Cf := ⟨[], [(6, 8)], [], [], [], []⟩
theorem c19 (N : Nat) (x_a : List GPattern) (x_b : List GPattern) (r : Bool) (h : ref22_SameAll N x_a x_b = some r) : CallP Tryd.prog 19 [.sl (Ar.lst Encs.eGPattern x_a) .ro, .sl (Ar.lst Encs.eGPattern x_b) .ro] (.bool r) := by
  unfold ref22_SameAll at h
  refine callP_of_spec cf19 okP Tryd.func19 (by rfl) (by kernel_rfl) Tryd.call19 Tryd.ntmps19 (by rfl) (by rfl) ?_
  intro E H0 K hE hK
  have hO : Own Eq H0 [] H0 := .start stable_eq rfl
  cbv
  refine n_ln hE ?_
  cbv
  refine n_ln hE ?_
  cbv
  refine n_br hE h (fun hc h => ?_) (fun hc h => ?_)
  · cbv
    have h := ret_some h
    subst h
    exact hK _ _ _ hO (.refl _)
  · cbv
    obtain ⟨s2, hx, h⟩ := bind_some h
    refine n_loopN cf19 hE okP (fun s1 => [(0, .v (.sl (Ar.lst Encs.eGPattern x_a) .ro)), (1, .v (.sl (Ar.lst Encs.eGPattern x_b) .ro)), (5, .v (.int .i64 s1))]) (fun s1 H1 => Own Eq H0 [] H1) (fun x e l H1 => match (generalizing := false) x with | .inl y => e = .exit 0 ∧ l = [] ∧ Own Eq H0 [] H1 | .inr y => e = .ret ∧ l = [(4, .b false)] ∧ Own Eq H0 [] H1) (by kernel_rfl) ?_ hx ?_ hO ?_
    · intro s1 H o hO h
      clear hx
      cbv
      refine n_ln hE ?_
      cbv
      refine n_br hE h (fun hc h => ?_) (fun hc h => ?_)
      · cbv
        refine n_idx hE Encs.eGPattern_eq h fun x3 h => ?_
        cbv
        refine n_idx hE Encs.eGPattern_eq h fun x4 h => ?_
        cbv
        refine n_call hE (g := fun r5 => .bool r5) h (fun r5 hx => c38 N N x3 x4 r5 hx) (.refl _) fun r5 h => ?_
        cbv
        refine n_br hE h (fun hc h => ?_) (fun hc h => ?_)
        · cbv
          have h := ret_some h
          subst h
          exact ⟨_, _, rfl, ⟨rfl, rfl, hO⟩, .b rfl (.z), rfl⟩
        · cbv
          have h := ret_some h
          subst h
          exact ⟨_, rfl, .e rfl (.e rfl (.e rfl (.z))), rfl, hO⟩
      · cbv
        have h := ret_some h
        subst h
        exact ⟨_, _, rfl, ⟨rfl, rfl, hO⟩, .z, rfl⟩
    · exact .e rfl (.e rfl (.e rfl (.z)))
    · clear hx
      rcases s2 with y6 | y7
      · rintro e l H ⟨rfl, rfl, hO⟩
        cbv
        have h := ret_some h
        subst h
        exact hK _ _ _ hO (.refl _)
      · rintro e l H ⟨rfl, rfl, hO⟩
        cbv
        have h := ret_some h
        subst h
        exact hK _ _ _ hO (.refl _)

def cf23 : Cf := ⟨[2], [], [], [], [], []⟩
theorem c23 (N : Nat) (x_v : Int) (r : GPattern) (h : law22_event N x_v = some r) : CallP Tryd.prog 23 [.int .i64 x_v] (.agg [.int .i64 r.Op, .sl (Ar.lst Encs.eGPattern r.Args) .ro, .int .i64 r.Typ, .int .i64 r.Var, .int .i64 r.Scope, .int .i64 r.Span, .int .i64 r.Cond.Op, .sl (Ar.lst Encs.eGExpr r.Cond.Args) .ro, .int .i64 r.Cond.Var, .int .i64 r.Cond.Field, .int .i64 r.Cond.Kind, .int .i64 r.Cond.Value.Kind, .int .i64 r.Cond.Value.Num, .str r.Cond.Value.Text]) := by
  unfold law22_event at h
  refine callP_of_spec cf23 okP Tryd.func23 (by rfl) (by kernel_rfl) Tryd.call23 Tryd.ntmps23 (by rfl) (by rfl) ?_
  intro E H0 K hE hK
  have hO : Own Eq H0 [] H0 := .start stable_eq rfl
  cbv
  refine n_alloc hE hO fun b1 H hO => ?_
  cbv
  refine n_call hE (g := fun r2 => .agg [.int .i64 r2.Op, .sl (Ar.lst Encs.eGExpr r2.Args) .ro, .int .i64 r2.Var, .int .i64 r2.Field, .int .i64 r2.Kind, .int .i64 r2.Value.Kind, .int .i64 r2.Value.Num, .str r2.Value.Text]) h (fun r2 hx => c17 N  r2 hx) (.refl _) fun r2 h => ?_
  cbv
  refine n_store hE hO 0 rfl rfl fun H hO => ?_
  cbv
  refine n_load hE hO 0 rfl ?_
  cbv
  have h := ret_some h
  subst h
  exact hK _ _ _ hO (.agg (.cons (.refl _) (.cons (.lit _ (lst_nil)) (.refl _))))

def cf33 : Cf := ⟨[2], [], [], [], [], []⟩
theorem c33 (N : Nat) (x_p : GPattern) (r : Int) (h : pattern_whole N x_p = some r) : CallP Tryd.prog 33 [.agg [.int .i64 x_p.Op, .sl (Ar.lst Encs.eGPattern x_p.Args) .ro, .int .i64 x_p.Typ, .int .i64 x_p.Var, .int .i64 x_p.Scope, .int .i64 x_p.Span, .int .i64 x_p.Cond.Op, .sl (Ar.lst Encs.eGExpr x_p.Cond.Args) .ro, .int .i64 x_p.Cond.Var, .int .i64 x_p.Cond.Field, .int .i64 x_p.Cond.Kind, .int .i64 x_p.Cond.Value.Kind, .int .i64 x_p.Cond.Value.Num, .str x_p.Cond.Value.Text]] (.int .i64 r) := by
  unfold pattern_whole at h
  refine callP_of_spec cf33 okP Tryd.func33 (by rfl) (by kernel_rfl) Tryd.call33 Tryd.ntmps33 (by rfl) (by rfl) ?_
  intro E H0 K hE hK
  have hO : Own Eq H0 [] H0 := .start stable_eq rfl
  cbv
  refine n_alloc hE hO fun b1 H hO => ?_
  cbv
  refine n_call hE (g := fun r2 => .int .i64 r2) h (fun r2 hx => c27 N x_p r2 hx) (.refl _) fun r2 h => ?_
  cbv
  refine n_br hE h (fun hc h => ?_) (fun hc h => ?_)
  · cbv
    refine n_store hE hO 0 rfl rfl fun H hO => ?_
    cbv
    refine n_load hE hO 0 rfl ?_
    cbv
    have h := ret_some h
    subst h
    exact hK _ _ _ hO (.refl _)
  · cbv
    refine n_callQ hE h (fun r3 hx => c42 N x_p r3 hx) (.refl _) fun r3 v4 hv4 h => ?_
    cbv
    obtain ⟨o9, hx, h⟩ := bind_some h
    refine n_range cf33 hE okP (ι := Unit) (enc := fun (x : GPattern) => [.agg [.int .i64 x.Op, .sl (Ar.lst Encs.eGPattern x.Args) .ro, .int .i64 x.Typ, .int .i64 x.Var, .int .i64 x.Scope, .int .i64 x.Span, .int .i64 x.Cond.Op, .sl (Ar.lst Encs.eGExpr x.Cond.Args) .ro, .int .i64 x.Cond.Var, .int .i64 x.Cond.Field, .int .i64 x.Cond.Kind, .int .i64 x.Cond.Value.Kind, .int .i64 x.Cond.Value.Num, .str x.Cond.Value.Text]]) (fun (s6 : Unit) F H => Own Eq F [.blk b1 (.cells [.int .i64 0])] H) (fun (r : Int) e F H => e = .ret ∧ Own Eq F [.blk b1 (.cells [.int .i64 r])] H) (fun i s6 y5 => [(2, .v (.ref b1 0)), (4, .v (.eref [.int .i64 y5.Op, .sl (Ar.lst Encs.eGPattern y5.Args) .ro, .int .i64 y5.Typ, .int .i64 y5.Var, .int .i64 y5.Scope, .int .i64 y5.Span, .int .i64 y5.Cond.Op, .sl (Ar.lst Encs.eGExpr y5.Cond.Args) .ro, .int .i64 y5.Cond.Var, .int .i64 y5.Cond.Field, .int .i64 y5.Cond.Kind, .int .i64 y5.Cond.Value.Kind, .int .i64 y5.Cond.Value.Num, .str y5.Cond.Value.Text] 0))]) (fun i s6 y5 F H => Own Eq F [.blk b1 (.cells [.int .i64 0])] H) (fun _ => Own.stable stable_eq _) (fun _ _ => Stable.con (Own.stable stable_eq _)) (fun _ _ _ => Own.stable stable_eq _) hv4 hx (hO) (by decide) (fun _ => rfl) (by kernel_rfl) (by kernel_rfl) ?_ ?_ ?_ ?_
    · rintro E i8 y5 s6 F7 H hE hO
      clear hx h
      cbv
      exact ⟨(), hO, .e rfl (.e rfl (.z)), rfl⟩
    · rintro E i8 _ y5 s6 F7 H o hE hF h hO
      clear hx
      cbv
      refine n_br hE h (fun hc h => ?_) (fun hc h => ?_)
      · cbv
        refine n_store hE hO 0 rfl rfl fun H hO => ?_
        cbv
        have h := ret_some h
        subst h
        exact ⟨_, rfl, rfl, ⟨rfl, hO⟩⟩
      · cbv
        have h := ret_some h
        subst h
        exact ⟨_, rfl, hO⟩
    · rintro d10 s12 H rfl hd hO
      have hO : Own Eq H0 [.blk b1 (.cells [.int .i64 0]), .blk d10 DB] H := Own.dblk hd hO
      clear hd
      clear hx
      cbv
      refine n_store hE hO 0 rfl rfl fun H hO => ?_
      cbv
      refine n_fin hE hO 1 rfl fun H hO => ?_
      cbv
      refine n_load hE hO 0 rfl ?_
      cbv
      have h := ret_some h
      subst h
      exact hK _ _ _ hO (.refl _)
    · rintro d10 y13 e H rfl hd hX
      clear hx
      rcases hX with ⟨rfl, hO⟩
      have hO : Own Eq H0 [.blk b1 (.cells [.int .i64 y13]), .blk d10 DB] H := Own.dblk hd hO
      clear hd
      cbv
      refine n_fin hE hO 1 rfl fun H hO => ?_
      cbv
      refine n_load hE hO 0 rfl ?_
      cbv
      have h := ret_some h
      subst h
      exact hK _ _ _ hO (.refl _)

def cf34 : Cf := ⟨[5, 6, 7], [(11, 5)], [(18, 7)], [], [], []⟩
theorem c34 (N : Nat) (x_p : GPattern) (r : (Int × Int × Bool)) (h : pattern_count N x_p = some r) : CallP Tryd.prog 34 [.agg [.int .i64 x_p.Op, .sl (Ar.lst Encs.eGPattern x_p.Args) .ro, .int .i64 x_p.Typ, .int .i64 x_p.Var, .int .i64 x_p.Scope, .int .i64 x_p.Span, .int .i64 x_p.Cond.Op, .sl (Ar.lst Encs.eGExpr x_p.Cond.Args) .ro, .int .i64 x_p.Cond.Var, .int .i64 x_p.Cond.Field, .int .i64 x_p.Cond.Kind, .int .i64 x_p.Cond.Value.Kind, .int .i64 x_p.Cond.Value.Num, .str x_p.Cond.Value.Text]] (.tup [.int .i64 r.1, .int .i64 r.2.1, .bool r.2.2]) := by
  unfold pattern_count at h
  refine callP_of_spec cf34 okP Tryd.func34 (by rfl) (by kernel_rfl) Tryd.call34 Tryd.ntmps34 (by rfl) (by rfl) ?_
  intro E H0 K hE hK
  have hO : Own Eq H0 [] H0 := .start stable_eq rfl
  cbv
  refine n_alloc hE hO fun b1 H hO => ?_
  cbv
  refine n_alloc hE hO fun b2 H hO => ?_
  cbv
  refine n_alloc hE hO fun b3 H hO => ?_
  cbv
  refine n_store hE hO 2 rfl rfl fun H hO => ?_
  cbv
  refine n_store hE hO 1 rfl rfl fun H hO => ?_
  cbv
  refine n_store hE hO 0 rfl rfl fun H hO => ?_
  cbv
  refine n_callQ hE h (fun r4 hx => c42 N x_p r4 hx) (.refl _) fun r4 v5 hv5 h => ?_
  cbv
  obtain ⟨o10, hx, h⟩ := bind_some h
  refine n_range cf34 hE okP (ι := Unit) (enc := fun (x : GPattern) => [.agg [.int .i64 x.Op, .sl (Ar.lst Encs.eGPattern x.Args) .ro, .int .i64 x.Typ, .int .i64 x.Var, .int .i64 x.Scope, .int .i64 x.Span, .int .i64 x.Cond.Op, .sl (Ar.lst Encs.eGExpr x.Cond.Args) .ro, .int .i64 x.Cond.Var, .int .i64 x.Cond.Field, .int .i64 x.Cond.Kind, .int .i64 x.Cond.Value.Kind, .int .i64 x.Cond.Value.Num, .str x.Cond.Value.Text]]) (fun (s7 : Bool × Int × Int) F H => Own Eq F [.blk b3 (.cells [.bool s7.1]), .blk b2 (.cells [.int .i64 s7.2.1]), .blk b1 (.cells [.int .i64 s7.2.2])] H) (fun (r : Unit) e F H => False) (fun i s7 y6 => [(5, .v (.ref b1 0)), (6, .v (.ref b2 0)), (7, .v (.ref b3 0)), (8, .v (.eref [.int .i64 y6.Op, .sl (Ar.lst Encs.eGPattern y6.Args) .ro, .int .i64 y6.Typ, .int .i64 y6.Var, .int .i64 y6.Scope, .int .i64 y6.Span, .int .i64 y6.Cond.Op, .sl (Ar.lst Encs.eGExpr y6.Cond.Args) .ro, .int .i64 y6.Cond.Var, .int .i64 y6.Cond.Field, .int .i64 y6.Cond.Kind, .int .i64 y6.Cond.Value.Kind, .int .i64 y6.Cond.Value.Num, .str y6.Cond.Value.Text] 0))]) (fun i s7 y6 F H => Own Eq F [.blk b3 (.cells [.bool s7.1]), .blk b2 (.cells [.int .i64 s7.2.1]), .blk b1 (.cells [.int .i64 s7.2.2])] H) (fun _ => Own.stable stable_eq _) (fun _ _ => ⟨fun h => h.elim, fun _ _ h => h.elim⟩) (fun _ _ _ => Own.stable stable_eq _) hv5 hx (hO) (by decide) (fun _ => rfl) (by kernel_rfl) (by kernel_rfl) ?_ ?_ ?_ ?_
  · rintro E i9 y6 s7 F8 H hE hO
    clear hx h
    cbv
    exact ⟨(), hO, .e rfl (.e rfl (.e rfl (.e rfl (.z)))), rfl⟩
  · rintro E i9 _ y6 s7 F8 H o hE hF h hO
    clear hx
    cbv
    refine n_elem hE (g := fun x => .agg [.int .i64 x.least, .int .i64 x.most, .bool x.typed, .bool x.cond, .bool x.scope, .bool x.span]) (l := tab_pattern_shapes) rfl (fun _ => rfl) rfl rfl h fun x11 h => ?_
    cbv
    obtain ⟨s12, hx, h⟩ := bind_some h
    refine n_join cf34 hE okP (fun e l H1 => e = .normal ∧ l = [(6, .v (.ref b2 0)), (7, .v (.ref b3 0)), (8, .v (.eref [.int .i64 y6.Op, .sl (Ar.lst Encs.eGPattern y6.Args) .ro, .int .i64 y6.Typ, .int .i64 y6.Var, .int .i64 y6.Scope, .int .i64 y6.Span, .int .i64 y6.Cond.Op, .sl (Ar.lst Encs.eGExpr y6.Cond.Args) .ro, .int .i64 y6.Cond.Var, .int .i64 y6.Cond.Field, .int .i64 y6.Cond.Kind, .int .i64 y6.Cond.Value.Kind, .int .i64 y6.Cond.Value.Num, .str y6.Cond.Value.Text] 0)), (9, .v (.eref [.int .i64 x11.least, .int .i64 x11.most, .bool x11.typed, .bool x11.cond, .bool x11.scope, .bool x11.span] 0))] ∧ Own Eq F8 [.blk b3 (.cells [.bool s12.1]), .blk b2 (.cells [.int .i64 s7.2.1]), .blk b1 (.cells [.int .i64 s12.2])] H1) (by kernel_rfl) ?_ ?_
    · clear h
      have h := hx
      clear hx
      cbv
      refine n_br hE h (fun hc h => ?_) (fun hc h => ?_)
      · cbv
        refine n_load hE hO 0 rfl ?_
        cbv
        refine n_load hE hO 2 rfl ?_
        cbv
        refine n_store hE hO 0 rfl rfl fun H hO => ?_
        cbv
        refine n_load hE hO 2 rfl ?_
        cbv
        refine n_store hE hO 2 rfl rfl fun H hO => ?_
        cbv
        have h := ret_some h
        subst h
        exact ⟨_, ⟨rfl, rfl, hO⟩, .e rfl (.e rfl (.e rfl (.e rfl (.z)))), rfl⟩
      · cbv
        have h := ret_some h
        subst h
        exact ⟨_, ⟨rfl, rfl, hO⟩, .e rfl (.e rfl (.e rfl (.e rfl (.z)))), rfl⟩
    · clear hx
      rintro e l H ⟨rfl, rfl, hO⟩
      cbv
      refine n_br hE h (fun hc h => ?_) (fun hc h => ?_)
      · cbv
        refine n_load hE hO 0 rfl ?_
        cbv
        refine n_load hE hO 1 rfl ?_
        cbv
        refine n_store hE hO 0 rfl rfl fun H hO => ?_
        cbv
        refine n_load hE hO 1 rfl ?_
        cbv
        refine n_store hE hO 1 rfl rfl fun H hO => ?_
        cbv
        have h := ret_some h
        subst h
        exact ⟨_, rfl, hO⟩
      · cbv
        have h := ret_some h
        subst h
        exact ⟨_, rfl, hO⟩
  · rintro d13 s15 H rfl hd hO
    have hO : Own Eq H0 [.blk b3 (.cells [.bool s15.1]), .blk b2 (.cells [.int .i64 s15.2.1]), .blk b1 (.cells [.int .i64 s15.2.2]), .blk d13 DB] H := Own.dblk hd hO
    clear hd
    clear hx
    cbv
    refine n_load hE hO 2 rfl ?_
    cbv
    refine n_load hE hO 1 rfl ?_
    cbv
    refine n_load hE hO 0 rfl ?_
    cbv
    refine n_fin hE hO 3 rfl fun H hO => ?_
    cbv
    have h := ret_some h
    subst h
    exact hK _ _ _ hO (.refl _)
  · rintro d r e H rfl hd hO
    exact hO.elim

def cf11 : Cf := ⟨[], [], [], [], [], []⟩
theorem c11 (N : Nat) (x_p : GPattern) (r : Int) (h : pattern_Check N x_p = some r) : CallP Tryd.prog 11 [.agg [.int .i64 x_p.Op, .sl (Ar.lst Encs.eGPattern x_p.Args) .ro, .int .i64 x_p.Typ, .int .i64 x_p.Var, .int .i64 x_p.Scope, .int .i64 x_p.Span, .int .i64 x_p.Cond.Op, .sl (Ar.lst Encs.eGExpr x_p.Cond.Args) .ro, .int .i64 x_p.Cond.Var, .int .i64 x_p.Cond.Field, .int .i64 x_p.Cond.Kind, .int .i64 x_p.Cond.Value.Kind, .int .i64 x_p.Cond.Value.Num, .str x_p.Cond.Value.Text]] (.int .i64 r) := by
  unfold pattern_Check at h
  refine callP_of_spec cf11 okP Tryd.func11 (by rfl) (by kernel_rfl) Tryd.call11 Tryd.ntmps11 (by rfl) (by rfl) ?_
  intro E H0 K hE hK
  have hO : Own Eq H0 [] H0 := .start stable_eq rfl
  cbv
  refine n_call hE (g := fun r1 => .int .i64 r1) h (fun r1 hx => c33 N x_p r1 hx) (.refl _) fun r1 h => ?_
  cbv
  refine n_br hE h (fun hc h => ?_) (fun hc h => ?_)
  · cbv
    have h := ret_some h
    subst h
    exact hK _ _ _ hO (.refl _)
  · cbv
    refine n_call hE (g := fun r2 => .tup [.int .i64 r2.1, .int .i64 r2.2.1, .bool r2.2.2]) h (fun r2 hx => c34 N x_p r2 hx) (.refl _) fun r2 h => ?_
    cbv
    refine n_br hE h (fun hc h => ?_) (fun hc h => ?_)
    · cbv
      have h := ret_some h
      subst h
      exact hK _ _ _ hO (.refl _)
    · cbv
      have h := ret_some h
      subst h
      exact hK _ _ _ hO (.refl _)

def cf24 : Cf := ⟨[], [], [], [], [], []⟩
theorem c24 (N : Nat) (x_p : GPattern) (r : ((List GPattern) × Int)) (h : derivative_Residuals N x_p = some r) : CallP Tryd.prog 24 [.agg [.int .i64 x_p.Op, .sl (Ar.lst Encs.eGPattern x_p.Args) .ro, .int .i64 x_p.Typ, .int .i64 x_p.Var, .int .i64 x_p.Scope, .int .i64 x_p.Span, .int .i64 x_p.Cond.Op, .sl (Ar.lst Encs.eGExpr x_p.Cond.Args) .ro, .int .i64 x_p.Cond.Var, .int .i64 x_p.Cond.Field, .int .i64 x_p.Cond.Kind, .int .i64 x_p.Cond.Value.Kind, .int .i64 x_p.Cond.Value.Num, .str x_p.Cond.Value.Text]] (.tup [.sl (Ar.lst Encs.eGPattern r.1) .ro, .int .i64 r.2]) := by
  unfold derivative_Residuals at h
  refine callP_of_spec cf24 okP Tryd.func24 (by rfl) (by kernel_rfl) Tryd.call24 Tryd.ntmps24 (by rfl) (by rfl) ?_
  intro E H0 K hE hK
  have hO : Own Eq H0 [] H0 := .start stable_eq rfl
  cbv
  refine n_call hE (g := fun r1 => .int .i64 r1) h (fun r1 hx => c11 N x_p r1 hx) (.refl _) fun r1 h => ?_
  cbv
  refine n_br hE h (fun hc h => ?_) (fun hc h => ?_)
  · cbv
    have h := ret_some h
    subst h
    exact hK _ _ _ hO (.tup (.cons (.lit _ (lst_nil)) (.refl _)))
  · cbv
    replace hO := hO.tl0 (t := .full) rfl
    obtain ⟨s4, hx, h⟩ := bind_some h
    refine n_loopG cf24 hE okP (γ := Tail) (fun s2 g => [(5, .v (.sl (Ar.lst Encs.eGPattern s2.1) g)), (6, .v (.int .i64 s2.2))]) (fun s2 g H1 => Appn g ∧ Own Eq H0 [.tl g] H1) (fun x e l H1 => match (generalizing := false) x with | .inl y => ∃ u1 : Tail, Appn u1 ∧ e = .exit 0 ∧ l = [(5, .v (.sl (Ar.lst Encs.eGPattern y) u1))] ∧ Own Eq H0 [.tl u1] H1 | .inr y => ∃ u1 : Tail, Appn u1 ∧ e = .ret ∧ l = [(2, .v (.sl [] .nil)), (3, .v (.int .i64 y))] ∧ Own Eq H0 [.tl u1] H1) (by kernel_rfl) ?_ .full hx ?_ ?_ ?_
    · rintro s2 t3 H o ⟨ht3, hO⟩ h
      clear hx
      cbv
      refine n_ln hE ?_
      cbv
      refine n_br hE h (fun hc h => ?_) (fun hc h => ?_)
      · cbv
        refine n_idx hE Encs.eGPattern_eq h fun x5 h => ?_
        cbv
        refine n_call hE (g := fun r6 => .tup [.sl (Ar.lst Encs.eGEdge r6.1) .ro, .sl (Ar.lst Encs.eGPattern r6.2.1) .ro, .int .i64 r6.2.2]) h (fun r6 hx => c35 N x5 r6 hx) (.refl _) fun r6 h => ?_
        cbv
        refine n_br hE h (fun hc h => ?_) (fun hc h => ?_)
        · cbv
          have h := ret_some h
          subst h
          exact ⟨_, _, rfl, ⟨t3, ht3, rfl, rfl, hO⟩, .e rfl (.e rfl (.z)), rfl⟩
        · cbv
          refine n_ln hE ?_
          cbv
          obtain ⟨s9, hx, h⟩ := bind_some h
          refine n_loopG cf24 hE okP (γ := Tail) (fun s7 g => [(5, .v (.sl (Ar.lst Encs.eGPattern s7.1) g)), (6, .v (.int .i64 s2.2)), (37, .v (.sl (Ar.lst Encs.eGPattern r6.2.1) .ro)), (38, .v (.int .i64 (Ar.len r6.2.1))), (39, .v (.int .i64 s7.2))]) (fun s7 g H1 => Appn g ∧ Own Eq H0 [.tl g] H1) (fun x e l H1 => ∃ u1 : Tail, Appn u1 ∧ e = .exit 2 ∧ l = [(5, .v (.sl (Ar.lst Encs.eGPattern x) u1)), (6, .v (.int .i64 s2.2))] ∧ Own Eq H0 [.tl u1] H1) (by kernel_rfl) ?_ t3 hx ?_ ?_ ?_
          · rintro s7 t8 H o ⟨ht8, hO⟩ h
            clear hx
            cbv
            refine n_br hE h (fun hc h => ?_) (fun hc h => ?_)
            · cbv
              refine n_idx hE Encs.eGPattern_eq h fun x10 h => ?_
              cbv
              refine n_call hE (g := fun r11 => .int .i64 r11) h (fun r11 hx => c40 N s7.1 x10 r11 hx) (.cons (.ro _ _) (.refl _)) fun r11 h => ?_
              cbv
              refine n_br hE h (fun hc h => ?_) (fun hc h => ?_)
              · cbv
                refine n_appn hE sz_GPattern (by decide) hO 0 rfl ht8 (l := s7.1) (m := [x10]) (.refl _) (.lstc (.eq (Encs.eGPattern_eq x10) (.refl _)) (.lst0)) h fun l13 t12 H hO ht12 h => ?_
                cbv
                have h := ret_some h
                subst h
                exact ⟨_, t12, rfl, .e rfl (.e rfl (.e rfl (.e rfl (.e rfl (.z))))), rfl, ht12, hO⟩
              · cbv
                have h := ret_some h
                subst h
                exact ⟨_, t8, rfl, .e rfl (.e rfl (.e rfl (.e rfl (.e rfl (.z))))), rfl, ht8, hO⟩
            · cbv
              have h := ret_some h
              subst h
              exact ⟨_, _, rfl, ⟨t8, ht8, rfl, rfl, hO⟩, .e rfl (.e rfl (.z)), rfl⟩
          · exact .e rfl (.e rfl (.e rfl (.e rfl (.e rfl (.z)))))
          · exact ⟨ht3, hO⟩
          · clear hx
            rintro e l H ⟨t14, ht14, rfl, rfl, hO⟩
            cbv
            refine n_ln hE ?_
            cbv
            refine n_br hE h (fun hc h => ?_) (fun hc h => ?_)
            · cbv
              have h := ret_some h
              subst h
              exact ⟨_, _, rfl, ⟨t14, ht14, rfl, rfl, hO⟩, .e rfl (.e rfl (.z)), rfl⟩
            · cbv
              have h := ret_some h
              subst h
              exact ⟨_, t14, rfl, .e rfl (.e rfl (.z)), rfl, ht14, hO⟩
      · cbv
        have h := ret_some h
        subst h
        exact ⟨_, _, rfl, ⟨t3, ht3, rfl, rfl, hO⟩, .e rfl (.z), rfl⟩
    · exact .v (.slt _ (.lstc (.eq (Encs.eGPattern_eq x_p) (.refl _)) (.lst0))) (.e rfl (.z))
    · exact ⟨trivial, hO⟩
    · clear hx
      rcases s4 with y15 | y17
      · rintro e l H ⟨t16, ht16, rfl, rfl, hO⟩
        cbv
        have h := ret_some h
        subst h
        exact hK _ _ _ hO (.tup (.cons (.ro _ _) (.refl _)))
      · rintro e l H ⟨t18, ht18, rfl, rfl, hO⟩
        cbv
        have h := ret_some h
        subst h
        exact hK _ _ _ hO (.tup (.cons (.lit _ (lst_nil)) (.refl _)))

def cf6 : Cf := ⟨[], [], [], [], [], []⟩
theorem c6 (N : Nat) (r : Bool) (h : law22_awake N  = some r) : CallP Tryd.prog 6 [] (.bool r) := by
  unfold law22_awake at h
  refine callP_of_spec cf6 okP Tryd.func6 (by rfl) (by kernel_rfl) Tryd.call6 Tryd.ntmps6 (by rfl) (by rfl) ?_
  intro E H0 K hE hK
  have hO : Own Eq H0 [] H0 := .start stable_eq rfl
  cbv
  refine n_call hE (g := fun r1 => .agg [.int .i64 r1.Op, .sl (Ar.lst Encs.eGPattern r1.Args) .ro, .int .i64 r1.Typ, .int .i64 r1.Var, .int .i64 r1.Scope, .int .i64 r1.Span, .int .i64 r1.Cond.Op, .sl (Ar.lst Encs.eGExpr r1.Cond.Args) .ro, .int .i64 r1.Cond.Var, .int .i64 r1.Cond.Field, .int .i64 r1.Cond.Kind, .int .i64 r1.Cond.Value.Kind, .int .i64 r1.Cond.Value.Num, .str r1.Cond.Value.Text]) h (fun r1 hx => c23 N 0 r1 hx) (.refl _) fun r1 h => ?_
  cbv
  refine n_call hE (g := fun r2 => .agg [.int .i64 r2.Op, .sl (Ar.lst Encs.eGPattern r2.Args) .ro, .int .i64 r2.Typ, .int .i64 r2.Var, .int .i64 r2.Scope, .int .i64 r2.Span, .int .i64 r2.Cond.Op, .sl (Ar.lst Encs.eGExpr r2.Cond.Args) .ro, .int .i64 r2.Cond.Var, .int .i64 r2.Cond.Field, .int .i64 r2.Cond.Kind, .int .i64 r2.Cond.Value.Kind, .int .i64 r2.Cond.Value.Num, .str r2.Cond.Value.Text]) h (fun r2 hx => c23 N 1 r2 hx) (.refl _) fun r2 h => ?_
  cbv
  refine n_call hE (g := fun r3 => .agg [.int .i64 r3.Op, .sl (Ar.lst Encs.eGPattern r3.Args) .ro, .int .i64 r3.Typ, .int .i64 r3.Var, .int .i64 r3.Scope, .int .i64 r3.Span, .int .i64 r3.Cond.Op, .sl (Ar.lst Encs.eGExpr r3.Cond.Args) .ro, .int .i64 r3.Cond.Var, .int .i64 r3.Cond.Field, .int .i64 r3.Cond.Kind, .int .i64 r3.Cond.Value.Kind, .int .i64 r3.Cond.Value.Num, .str r3.Cond.Value.Text]) h (fun r3 hx => c18 N 1 ([r1, r2]) r3 hx) (.cons (.refl _) (.cons (.lit _ (lst_cons ((Encs.eGPattern_eq r1).symm) (lst_cons ((Encs.eGPattern_eq r2).symm) (lst_nil)))) (.refl _))) fun r3 h => ?_
  cbv
  refine n_call hE (g := fun r4 => .tup [.sl (Ar.lst Encs.eGEdge r4.1) .ro, .sl (Ar.lst Encs.eGPattern r4.2.1) .ro, .int .i64 r4.2.2]) h (fun r4 hx => c12 N r3 r4 hx) (.refl _) fun r4 h => ?_
  cbv
  refine n_call hE (g := fun r5 => .agg [.int .i64 r5.Op, .sl (Ar.lst Encs.eGPattern r5.Args) .ro, .int .i64 r5.Typ, .int .i64 r5.Var, .int .i64 r5.Scope, .int .i64 r5.Span, .int .i64 r5.Cond.Op, .sl (Ar.lst Encs.eGExpr r5.Cond.Args) .ro, .int .i64 r5.Cond.Var, .int .i64 r5.Cond.Field, .int .i64 r5.Cond.Kind, .int .i64 r5.Cond.Value.Kind, .int .i64 r5.Cond.Value.Num, .str r5.Cond.Value.Text]) h (fun r5 hx => c23 N 0 r5 hx) (.refl _) fun r5 h => ?_
  cbv
  refine n_call hE (g := fun r6 => .agg [.int .i64 r6.Op, .sl (Ar.lst Encs.eGPattern r6.Args) .ro, .int .i64 r6.Typ, .int .i64 r6.Var, .int .i64 r6.Scope, .int .i64 r6.Span, .int .i64 r6.Cond.Op, .sl (Ar.lst Encs.eGExpr r6.Cond.Args) .ro, .int .i64 r6.Cond.Var, .int .i64 r6.Cond.Field, .int .i64 r6.Cond.Kind, .int .i64 r6.Cond.Value.Kind, .int .i64 r6.Cond.Value.Num, .str r6.Cond.Value.Text]) h (fun r6 hx => c18 N 4 ([r5]) r6 hx) (.cons (.refl _) (.cons (.lit _ (lst_cons ((Encs.eGPattern_eq r5).symm) (lst_nil))) (.refl _))) fun r6 h => ?_
  cbv
  refine n_call hE (g := fun r7 => .tup [.sl (Ar.lst Encs.eGEdge r7.1) .ro, .sl (Ar.lst Encs.eGPattern r7.2.1) .ro, .int .i64 r7.2.2]) h (fun r7 hx => c12 N r6 r7 hx) (.refl _) fun r7 h => ?_
  cbv
  refine n_call hE (g := fun r8 => .agg [.int .i64 r8.Op, .sl (Ar.lst Encs.eGPattern r8.Args) .ro, .int .i64 r8.Typ, .int .i64 r8.Var, .int .i64 r8.Scope, .int .i64 r8.Span, .int .i64 r8.Cond.Op, .sl (Ar.lst Encs.eGExpr r8.Cond.Args) .ro, .int .i64 r8.Cond.Var, .int .i64 r8.Cond.Field, .int .i64 r8.Cond.Kind, .int .i64 r8.Cond.Value.Kind, .int .i64 r8.Cond.Value.Num, .str r8.Cond.Value.Text]) h (fun r8 hx => c23 N 0 r8 hx) (.refl _) fun r8 h => ?_
  cbv
  refine n_call hE (g := fun r9 => .agg [.int .i64 r9.Op, .sl (Ar.lst Encs.eGPattern r9.Args) .ro, .int .i64 r9.Typ, .int .i64 r9.Var, .int .i64 r9.Scope, .int .i64 r9.Span, .int .i64 r9.Cond.Op, .sl (Ar.lst Encs.eGExpr r9.Cond.Args) .ro, .int .i64 r9.Cond.Var, .int .i64 r9.Cond.Field, .int .i64 r9.Cond.Kind, .int .i64 r9.Cond.Value.Kind, .int .i64 r9.Cond.Value.Num, .str r9.Cond.Value.Text]) h (fun r9 hx => c23 N 1 r9 hx) (.refl _) fun r9 h => ?_
  cbv
  refine n_call hE (g := fun r10 => .agg [.int .i64 r10.Op, .sl (Ar.lst Encs.eGPattern r10.Args) .ro, .int .i64 r10.Typ, .int .i64 r10.Var, .int .i64 r10.Scope, .int .i64 r10.Span, .int .i64 r10.Cond.Op, .sl (Ar.lst Encs.eGExpr r10.Cond.Args) .ro, .int .i64 r10.Cond.Var, .int .i64 r10.Cond.Field, .int .i64 r10.Cond.Kind, .int .i64 r10.Cond.Value.Kind, .int .i64 r10.Cond.Value.Num, .str r10.Cond.Value.Text]) h (fun r10 hx => c18 N 1 ([r8, r9]) r10 hx) (.cons (.refl _) (.cons (.lit _ (lst_cons ((Encs.eGPattern_eq r8).symm) (lst_cons ((Encs.eGPattern_eq r9).symm) (lst_nil)))) (.refl _))) fun r10 h => ?_
  cbv
  refine n_call hE (g := fun r11 => .tup [.sl (Ar.lst Encs.eGPattern r11.1) .ro, .int .i64 r11.2]) h (fun r11 hx => c24 N (⟨6, [r10], 0, 0, 0, 5, (⟨0, [], 0, 0, 0, (⟨0, 0, ⟨#[]⟩⟩ : GValue)⟩ : GExpr)⟩ : GPattern) r11 hx) (.cons (.agg (.cons (.refl _) (.cons (.lit _ (lst_cons ((Encs.eGPattern_eq r10).symm) (lst_nil))) (.cons (.refl _) (.cons (.refl _) (.cons (.refl _) (.cons (.refl _) (.cons (.refl _) (.cons (.lit _ (lst_nil)) (.refl _)))))))))) (.refl _)) fun r11 h => ?_
  cbv
  refine n_call hE (g := fun r12 => .tup [.sl (Ar.lst Encs.eGEdge r12.1) .ro, .sl (Ar.lst Encs.eGPattern r12.2.1) .ro, .int .i64 r12.2.2]) h (fun r12 hx => c12 N (⟨6, [r10], 0, 0, 0, 5, (⟨0, [], 0, 0, 0, (⟨0, 0, ⟨#[]⟩⟩ : GValue)⟩ : GExpr)⟩ : GPattern) r12 hx) (.cons (.agg (.cons (.refl _) (.cons (.lit _ (lst_cons ((Encs.eGPattern_eq r10).symm) (lst_nil))) (.cons (.refl _) (.cons (.refl _) (.cons (.refl _) (.cons (.refl _) (.cons (.refl _) (.cons (.lit _ (lst_nil)) (.refl _)))))))))) (.refl _)) fun r12 h => ?_
  cbv
  refine n_call hE (g := fun r13 => .agg [.int .i64 r13.Op, .sl (Ar.lst Encs.eGExpr r13.Args) .ro, .int .i64 r13.Var, .int .i64 r13.Field, .int .i64 r13.Kind, .int .i64 r13.Value.Kind, .int .i64 r13.Value.Num, .str r13.Value.Text]) h (fun r13 hx => c17 N  r13 hx) (.refl _) fun r13 h => ?_
  cbv
  refine n_call hE (g := fun r14 => .agg [.int .i64 r14.Op, .sl (Ar.lst Encs.eGPattern r14.Args) .ro, .int .i64 r14.Typ, .int .i64 r14.Var, .int .i64 r14.Scope, .int .i64 r14.Span, .int .i64 r14.Cond.Op, .sl (Ar.lst Encs.eGExpr r14.Cond.Args) .ro, .int .i64 r14.Cond.Var, .int .i64 r14.Cond.Field, .int .i64 r14.Cond.Kind, .int .i64 r14.Cond.Value.Kind, .int .i64 r14.Cond.Value.Num, .str r14.Cond.Value.Text]) h (fun r14 hx => c23 N 1 r14 hx) (.refl _) fun r14 h => ?_
  cbv
  refine n_call hE (g := fun r15 => .agg [.int .i64 r15.Op, .sl (Ar.lst Encs.eGPattern r15.Args) .ro, .int .i64 r15.Typ, .int .i64 r15.Var, .int .i64 r15.Scope, .int .i64 r15.Span, .int .i64 r15.Cond.Op, .sl (Ar.lst Encs.eGExpr r15.Cond.Args) .ro, .int .i64 r15.Cond.Var, .int .i64 r15.Cond.Field, .int .i64 r15.Cond.Kind, .int .i64 r15.Cond.Value.Kind, .int .i64 r15.Cond.Value.Num, .str r15.Cond.Value.Text]) h (fun r15 hx => c18 N 4 ([r14]) r15 hx) (.cons (.refl _) (.cons (.lit _ (lst_cons ((Encs.eGPattern_eq r14).symm) (lst_nil))) (.refl _))) fun r15 h => ?_
  cbv
  refine n_call hE (g := fun r16 => .tup [.sl (Ar.lst Encs.eGPattern r16.1) .ro, .int .i64 r16.2]) h (fun r16 hx => c24 N (⟨5, [r15], 2, 0, 0, 0, r13⟩ : GPattern) r16 hx) (.cons (.agg (.cons (.refl _) (.cons (.lit _ (lst_cons ((Encs.eGPattern_eq r15).symm) (lst_nil))) (.refl _)))) (.refl _)) fun r16 h => ?_
  cbv
  refine n_call hE (g := fun r17 => .tup [.sl (Ar.lst Encs.eGEdge r17.1) .ro, .sl (Ar.lst Encs.eGPattern r17.2.1) .ro, .int .i64 r17.2.2]) h (fun r17 hx => c12 N (⟨5, [r15], 2, 0, 0, 0, r13⟩ : GPattern) r17 hx) (.cons (.agg (.cons (.refl _) (.cons (.lit _ (lst_cons ((Encs.eGPattern_eq r15).symm) (lst_nil))) (.refl _)))) (.refl _)) fun r17 h => ?_
  cbv
  refine n_ln hE ?_
  cbv
  refine n_ln hE ?_
  cbv
  refine n_ln hE ?_
  cbv
  refine n_ln hE ?_
  cbv
  refine n_ln hE ?_
  cbv
  refine n_ln hE ?_
  cbv
  refine n_br hE h (fun hc h => ?_) (fun hc h => ?_)
  · cbv
    have h := ret_some h
    subst h
    exact hK _ _ _ hO (.refl _)
  · cbv
    refine n_idx hE Encs.eGPattern_eq h fun x18 h => ?_
    cbv
    refine n_call hE (g := fun r19 => .tup [.sl (Ar.lst Encs.eGGuard r19.1) .ro, .int .i64 r19.2]) h (fun r19 hx => c7 N x18 r19 hx) (.refl _) fun r19 h => ?_
    cbv
    refine n_ln hE ?_
    cbv
    refine n_br hE h (fun hc h => ?_) (fun hc h => ?_)
    · cbv
      have h := ret_some h
      subst h
      exact hK _ _ _ hO (.refl _)
    · cbv
      refine n_idx hE Encs.eGGuard_eq h fun x20 h => ?_
      cbv
      refine n_br hE h (fun hc h => ?_) (fun hc h => ?_)
      · cbv
        have h := ret_some h
        subst h
        exact hK _ _ _ hO (.refl _)
      · cbv
        refine n_idx hE Encs.eGPattern_eq h fun x21 h => ?_
        cbv
        refine n_br hE h (fun hc h => ?_) (fun hc h => ?_)
        · cbv
          have h := ret_some h
          subst h
          exact hK _ _ _ hO (.refl _)
        · cbv
          refine n_idx hE Encs.eGPattern_eq h fun x22 h => ?_
          cbv
          refine n_br hE h (fun hc h => ?_) (fun hc h => ?_)
          · cbv
            have h := ret_some h
            subst h
            exact hK _ _ _ hO (.refl _)
          · cbv
            refine n_call hE (g := fun r23 => .agg [.int .i64 r23.Op, .sl (Ar.lst Encs.eGPattern r23.Args) .ro, .int .i64 r23.Typ, .int .i64 r23.Var, .int .i64 r23.Scope, .int .i64 r23.Span, .int .i64 r23.Cond.Op, .sl (Ar.lst Encs.eGExpr r23.Cond.Args) .ro, .int .i64 r23.Cond.Var, .int .i64 r23.Cond.Field, .int .i64 r23.Cond.Kind, .int .i64 r23.Cond.Value.Kind, .int .i64 r23.Cond.Value.Num, .str r23.Cond.Value.Text]) h (fun r23 hx => c23 N 1 r23 hx) (.refl _) fun r23 h => ?_
            cbv
            refine n_call hE (g := fun r24 => .bool r24) h (fun r24 hx => c19 N r4.2.1 ([r23]) r24 hx) (.cons (.refl _) (.cons (.lit _ (lst_cons ((Encs.eGPattern_eq r23).symm) (lst_nil))) (.refl _))) fun r24 h => ?_
            cbv
            refine n_br hE h (fun hc h => ?_) (fun hc h => ?_)
            · cbv
              have h := ret_some h
              subst h
              exact hK _ _ _ hO (.refl _)
            · cbv
              refine n_call hE (g := fun r25 => .agg [.int .i64 r25.Op, .sl (Ar.lst Encs.eGPattern r25.Args) .ro, .int .i64 r25.Typ, .int .i64 r25.Var, .int .i64 r25.Scope, .int .i64 r25.Span, .int .i64 r25.Cond.Op, .sl (Ar.lst Encs.eGExpr r25.Cond.Args) .ro, .int .i64 r25.Cond.Var, .int .i64 r25.Cond.Field, .int .i64 r25.Cond.Kind, .int .i64 r25.Cond.Value.Kind, .int .i64 r25.Cond.Value.Num, .str r25.Cond.Value.Text]) h (fun r25 hx => c23 N 0 r25 hx) (.refl _) fun r25 h => ?_
              cbv
              refine n_call hE (g := fun r26 => .agg [.int .i64 r26.Op, .sl (Ar.lst Encs.eGPattern r26.Args) .ro, .int .i64 r26.Typ, .int .i64 r26.Var, .int .i64 r26.Scope, .int .i64 r26.Span, .int .i64 r26.Cond.Op, .sl (Ar.lst Encs.eGExpr r26.Cond.Args) .ro, .int .i64 r26.Cond.Var, .int .i64 r26.Cond.Field, .int .i64 r26.Cond.Kind, .int .i64 r26.Cond.Value.Kind, .int .i64 r26.Cond.Value.Num, .str r26.Cond.Value.Text]) h (fun r26 hx => c18 N 4 ([r25]) r26 hx) (.cons (.refl _) (.cons (.lit _ (lst_cons ((Encs.eGPattern_eq r25).symm) (lst_nil))) (.refl _))) fun r26 h => ?_
              cbv
              refine n_call hE (g := fun r27 => .bool r27) h (fun r27 hx => c19 N r7.2.1 ([r26]) r27 hx) (.cons (.refl _) (.cons (.lit _ (lst_cons ((Encs.eGPattern_eq r26).symm) (lst_nil))) (.refl _))) fun r27 h => ?_
              cbv
              refine n_br hE h (fun hc h => ?_) (fun hc h => ?_)
              · cbv
                have h := ret_some h
                subst h
                exact hK _ _ _ hO (.refl _)
              · cbv
                refine n_idx hE Encs.eGEdge_eq h fun x28 h => ?_
                cbv
                refine n_br hE h (fun hc h => ?_) (fun hc h => ?_)
                · cbv
                  have h := ret_some h
                  subst h
                  exact hK _ _ _ hO (.refl _)
                · cbv
                  refine n_idx hE Encs.eGEdge_eq h fun x29 h => ?_
                  cbv
                  refine n_br hE h (fun hc h => ?_) (fun hc h => ?_)
                  · cbv
                    have h := ret_some h
                    subst h
                    exact hK _ _ _ hO (.refl _)
                  · cbv
                    refine n_idx hE Encs.eGEdge_eq h fun x30 h => ?_
                    cbv
                    refine n_br hE h (fun hc h => ?_) (fun hc h => ?_)
                    · cbv
                      have h := ret_some h
                      subst h
                      exact hK _ _ _ hO (.refl _)
                    · cbv
                      refine n_idx hE Encs.eGEdge_eq h fun x31 h => ?_
                      cbv
                      refine n_call hE (g := fun r32 => .bool r32) h (fun r32 hx => c25 N x31.Opens ([0]) r32 hx) (.cons (.refl _) (.cons (.lit _ (lst_cons (rfl) (lst_nil))) (.refl _))) fun r32 h => ?_
                      cbv
                      refine n_br hE h (fun hc h => ?_) (fun hc h => ?_)
                      · cbv
                        refine n_idx hE Encs.eGEdge_eq h fun x33 h => ?_
                        cbv
                        refine n_call hE (g := fun r34 => .bool r34) h (fun r34 hx => c26 N x33.Limits ([(⟨0, 5⟩ : GLimit)]) r34 hx) (.cons (.refl _) (.cons (.lit _ (lst_cons ((Encs.eGLimit_eq (⟨0, 5⟩ : GLimit)).symm) (lst_nil))) (.refl _))) fun r34 h => ?_
                        cbv
                        refine n_br hE h (fun hc h => ?_) (fun hc h => ?_)
                        · cbv
                          refine n_idx hE Encs.eGEdge_eq h fun x35 h => ?_
                          cbv
                          refine n_ln hE ?_
                          cbv
                          refine n_br hE h (fun hc h => ?_) (fun hc h => ?_)
                          · cbv
                            refine n_idx hE Encs.eGEdge_eq h fun x36 h => ?_
                            cbv
                            refine n_call hE (g := fun r37 => .bool r37) h (fun r37 hx => c25 N x36.Closes ([0]) r37 hx) (.cons (.refl _) (.cons (.lit _ (lst_cons (rfl) (lst_nil))) (.refl _))) fun r37 h => ?_
                            cbv
                            refine n_br hE h (fun hc h => ?_) (fun hc h => ?_)
                            · cbv
                              refine n_idx hE Encs.eGEdge_eq h fun x38 h => ?_
                              cbv
                              refine n_ln hE ?_
                              cbv
                              refine n_br hE h (fun hc h => ?_) (fun hc h => ?_)
                              · cbv
                                refine n_idx hE Encs.eGEdge_eq h fun x39 h => ?_
                                cbv
                                refine n_call hE (g := fun r40 => .bool r40) h (fun r40 hx => c25 N x39.Inside ([0]) r40 hx) (.cons (.refl _) (.cons (.lit _ (lst_cons (rfl) (lst_nil))) (.refl _))) fun r40 h => ?_
                                cbv
                                have h := ret_some h
                                subst h
                                exact hK _ _ _ hO (.refl _)
                              · cbv
                                have h := ret_some h
                                subst h
                                exact hK _ _ _ hO (.refl _)
                            · cbv
                              have h := ret_some h
                              subst h
                              exact hK _ _ _ hO (.refl _)
                          · cbv
                            have h := ret_some h
                            subst h
                            exact hK _ _ _ hO (.refl _)
                        · cbv
                          have h := ret_some h
                          subst h
                          exact hK _ _ _ hO (.refl _)
                      · cbv
                        have h := ret_some h
                        subst h
                        exact hK _ _ _ hO (.refl _)

def cf57 : Cf := ⟨[], [], [(11, 6)], [], [], []⟩
theorem c57 (N : Nat) (x_p : GPattern) (r : Bool) (h : ref09_arity N x_p = some r) : CallP Tryd.prog 57 [.agg [.int .i64 x_p.Op, .sl (Ar.lst Encs.eGPattern x_p.Args) .ro, .int .i64 x_p.Typ, .int .i64 x_p.Var, .int .i64 x_p.Scope, .int .i64 x_p.Span, .int .i64 x_p.Cond.Op, .sl (Ar.lst Encs.eGExpr x_p.Cond.Args) .ro, .int .i64 x_p.Cond.Var, .int .i64 x_p.Cond.Field, .int .i64 x_p.Cond.Kind, .int .i64 x_p.Cond.Value.Kind, .int .i64 x_p.Cond.Value.Num, .str x_p.Cond.Value.Text]] (.bool r) := by
  unfold ref09_arity at h
  refine callP_of_spec cf57 okP Tryd.func57 (by rfl) (by kernel_rfl) Tryd.call57 Tryd.ntmps57 (by rfl) (by rfl) ?_
  intro E H0 K hE hK
  have hO : Own Eq H0 [] H0 := .start stable_eq rfl
  cbv
  refine n_br hE h (fun hc h => ?_) (fun hc h => ?_)
  · cbv
    refine n_ln hE ?_
    cbv
    have h := ret_some h
    subst h
    exact hK _ _ _ hO (.refl _)
  · cbv
    obtain ⟨s1, hx, h⟩ := bind_some h
    refine n_join cf57 hE okP (fun e l H1 => e = .normal ∧ l = [(1, .v (.eref [.int .i64 x_p.Op, .sl (Ar.lst Encs.eGPattern x_p.Args) .ro, .int .i64 x_p.Typ, .int .i64 x_p.Var, .int .i64 x_p.Scope, .int .i64 x_p.Span, .int .i64 x_p.Cond.Op, .sl (Ar.lst Encs.eGExpr x_p.Cond.Args) .ro, .int .i64 x_p.Cond.Var, .int .i64 x_p.Cond.Field, .int .i64 x_p.Cond.Kind, .int .i64 x_p.Cond.Value.Kind, .int .i64 x_p.Cond.Value.Num, .str x_p.Cond.Value.Text] 0)), (4, .v (.int .i64 x_p.Op)), (11, .v (.bool s1))] ∧ Own Eq H0 [] H1) (by kernel_rfl) ?_ ?_
    · clear h
      have h := hx
      clear hx
      cbv
      refine n_br hE h (fun hc h => ?_) (fun hc h => ?_)
      · cbv
        have h := ret_some h
        subst h
        exact ⟨_, ⟨rfl, rfl, hO⟩, .e rfl (.e rfl (.e rfl (.z))), rfl⟩
      · cbv
        refine n_br hE h (fun hc h => ?_) (fun hc h => ?_)
        · cbv
          have h := ret_some h
          subst h
          exact ⟨_, ⟨rfl, rfl, hO⟩, .e rfl (.e rfl (.e rfl (.z))), rfl⟩
        · cbv
          have h := ret_some h
          subst h
          exact ⟨_, ⟨rfl, rfl, hO⟩, .e rfl (.e rfl (.e rfl (.z))), rfl⟩
    · clear hx
      rintro e l H ⟨rfl, rfl, hO⟩
      cbv
      refine n_br hE h (fun hc h => ?_) (fun hc h => ?_)
      · cbv
        refine n_ln hE ?_
        cbv
        have h := ret_some h
        subst h
        exact hK _ _ _ hO (.refl _)
      · cbv
        refine n_br hE h (fun hc h => ?_) (fun hc h => ?_)
        · cbv
          refine n_ln hE ?_
          cbv
          have h := ret_some h
          subst h
          exact hK _ _ _ hO (.refl _)
        · cbv
          refine n_ln hE ?_
          cbv
          have h := ret_some h
          subst h
          exact hK _ _ _ hO (.refl _)

def cf59 : Cf := ⟨[], [], [], [], [], []⟩
theorem c59 (N : Nat) (x_p : GPattern) (r : Bool) (h : ref09_Negates N x_p = some r) : CallP Tryd.prog 59 [.agg [.int .i64 x_p.Op, .sl (Ar.lst Encs.eGPattern x_p.Args) .ro, .int .i64 x_p.Typ, .int .i64 x_p.Var, .int .i64 x_p.Scope, .int .i64 x_p.Span, .int .i64 x_p.Cond.Op, .sl (Ar.lst Encs.eGExpr x_p.Cond.Args) .ro, .int .i64 x_p.Cond.Var, .int .i64 x_p.Cond.Field, .int .i64 x_p.Cond.Kind, .int .i64 x_p.Cond.Value.Kind, .int .i64 x_p.Cond.Value.Num, .str x_p.Cond.Value.Text]] (.bool r) := by
  unfold ref09_Negates at h
  refine callP_of_spec cf59 okP Tryd.func59 (by rfl) (by kernel_rfl) Tryd.call59 Tryd.ntmps59 (by rfl) (by rfl) ?_
  intro E H0 K hE hK
  have hO : Own Eq H0 [] H0 := .start stable_eq rfl
  cbv
  have h := ret_some h
  subst h
  exact hK _ _ _ hO (.refl _)

def cf58 : Cf := ⟨[], [], [], [], [], []⟩
theorem c58 (N : Nat) (x_p : GPattern) (r : Bool) (h : ref09_variable N x_p = some r) : CallP Tryd.prog 58 [.agg [.int .i64 x_p.Op, .sl (Ar.lst Encs.eGPattern x_p.Args) .ro, .int .i64 x_p.Typ, .int .i64 x_p.Var, .int .i64 x_p.Scope, .int .i64 x_p.Span, .int .i64 x_p.Cond.Op, .sl (Ar.lst Encs.eGExpr x_p.Cond.Args) .ro, .int .i64 x_p.Cond.Var, .int .i64 x_p.Cond.Field, .int .i64 x_p.Cond.Kind, .int .i64 x_p.Cond.Value.Kind, .int .i64 x_p.Cond.Value.Num, .str x_p.Cond.Value.Text]] (.bool r) := by
  unfold ref09_variable at h
  refine callP_of_spec cf58 okP Tryd.func58 (by rfl) (by kernel_rfl) Tryd.call58 Tryd.ntmps58 (by rfl) (by rfl) ?_
  intro E H0 K hE hK
  have hO : Own Eq H0 [] H0 := .start stable_eq rfl
  cbv
  refine n_br hE h (fun hc h => ?_) (fun hc h => ?_)
  · cbv
    have h := ret_some h
    subst h
    exact hK _ _ _ hO (.refl _)
  · cbv
    refine n_call hE (g := fun r1 => .bool r1) h (fun r1 hx => c59 N x_p r1 hx) (.refl _) fun r1 h => ?_
    cbv
    have h := ret_some h
    subst h
    exact hK _ _ _ hO (.refl _)

def cf60 : Cf := ⟨[], [], [], [], [], []⟩
theorem c60 (N : Nat) (x_p : GPattern) (r : Bool) (h : ref09_Times N x_p = some r) : CallP Tryd.prog 60 [.agg [.int .i64 x_p.Op, .sl (Ar.lst Encs.eGPattern x_p.Args) .ro, .int .i64 x_p.Typ, .int .i64 x_p.Var, .int .i64 x_p.Scope, .int .i64 x_p.Span, .int .i64 x_p.Cond.Op, .sl (Ar.lst Encs.eGExpr x_p.Cond.Args) .ro, .int .i64 x_p.Cond.Var, .int .i64 x_p.Cond.Field, .int .i64 x_p.Cond.Kind, .int .i64 x_p.Cond.Value.Kind, .int .i64 x_p.Cond.Value.Num, .str x_p.Cond.Value.Text]] (.bool r) := by
  unfold ref09_Times at h
  refine callP_of_spec cf60 okP Tryd.func60 (by rfl) (by kernel_rfl) Tryd.call60 Tryd.ntmps60 (by rfl) (by rfl) ?_
  intro E H0 K hE hK
  have hO : Own Eq H0 [] H0 := .start stable_eq rfl
  cbv
  have h := ret_some h
  subst h
  exact hK _ _ _ hO (.refl _)

def cf61 : Cf := ⟨[], [], [], [], [], []⟩
theorem c61 (N : Nat) (x_p : GPattern) (r : Bool) (h : ref09_condition N x_p = some r) : CallP Tryd.prog 61 [.agg [.int .i64 x_p.Op, .sl (Ar.lst Encs.eGPattern x_p.Args) .ro, .int .i64 x_p.Typ, .int .i64 x_p.Var, .int .i64 x_p.Scope, .int .i64 x_p.Span, .int .i64 x_p.Cond.Op, .sl (Ar.lst Encs.eGExpr x_p.Cond.Args) .ro, .int .i64 x_p.Cond.Var, .int .i64 x_p.Cond.Field, .int .i64 x_p.Cond.Kind, .int .i64 x_p.Cond.Value.Kind, .int .i64 x_p.Cond.Value.Num, .str x_p.Cond.Value.Text]] (.bool r) := by
  unfold ref09_condition at h
  refine callP_of_spec cf61 okP Tryd.func61 (by rfl) (by kernel_rfl) Tryd.call61 Tryd.ntmps61 (by rfl) (by rfl) ?_
  intro E H0 K hE hK
  have hO : Own Eq H0 [] H0 := .start stable_eq rfl
  cbv
  refine n_call hE (g := fun r1 => .bool r1) h (fun r1 hx => c58 N x_p r1 hx) (.refl _) fun r1 h => ?_
  cbv
  have h := ret_some h
  subst h
  exact hK _ _ _ hO (.refl _)

def cf62 : Cf := ⟨[], [], [], [], [], []⟩
theorem c62 (N : Nat) (x_used : Bool) (x_n : Int) (x_most : Int) (r : Bool) (h : ref09_bad N x_used x_n x_most = some r) : CallP Tryd.prog 62 [.bool x_used, .int .i64 x_n, .int .i64 x_most] (.bool r) := by
  unfold ref09_bad at h
  refine callP_of_spec cf62 okP Tryd.func62 (by rfl) (by kernel_rfl) Tryd.call62 Tryd.ntmps62 (by rfl) (by rfl) ?_
  intro E H0 K hE hK
  have hO : Own Eq H0 [] H0 := .start stable_eq rfl
  cbv
  have h := ret_some h
  subst h
  exact hK _ _ _ hO (.refl _)

def cf96 : Cf := ⟨[], [], [(4, 4)], [], [], []⟩
theorem c96 (N : Nat) (x_op : Int) (r : Int) (h : ref08_arity N x_op = some r) : CallP Tryd.prog 96 [.int .i64 x_op] (.int .i64 r) := by
  unfold ref08_arity at h
  refine callP_of_spec cf96 okP Tryd.func96 (by rfl) (by kernel_rfl) Tryd.call96 Tryd.ntmps96 (by rfl) (by rfl) ?_
  intro E H0 K hE hK
  have hO : Own Eq H0 [] H0 := .start stable_eq rfl
  cbv
  obtain ⟨s1, hx, h⟩ := bind_some h
  refine n_join cf96 hE okP (fun e l H1 => e = .normal ∧ l = [(3, .v (.int .i64 x_op)), (4, .v (.bool s1))] ∧ Own Eq H0 [] H1) (by kernel_rfl) ?_ ?_
  · clear h
    have h := hx
    clear hx
    cbv
    refine n_br hE h (fun hc h => ?_) (fun hc h => ?_)
    · cbv
      have h := ret_some h
      subst h
      exact ⟨_, ⟨rfl, rfl, hO⟩, .e rfl (.e rfl (.z)), rfl⟩
    · cbv
      refine n_br hE h (fun hc h => ?_) (fun hc h => ?_)
      · cbv
        have h := ret_some h
        subst h
        exact ⟨_, ⟨rfl, rfl, hO⟩, .e rfl (.e rfl (.z)), rfl⟩
      · cbv
        refine n_br hE h (fun hc h => ?_) (fun hc h => ?_)
        · cbv
          have h := ret_some h
          subst h
          exact ⟨_, ⟨rfl, rfl, hO⟩, .e rfl (.e rfl (.z)), rfl⟩
        · cbv
          refine n_br hE h (fun hc h => ?_) (fun hc h => ?_)
          · cbv
            have h := ret_some h
            subst h
            exact ⟨_, ⟨rfl, rfl, hO⟩, .e rfl (.e rfl (.z)), rfl⟩
          · cbv
            have h := ret_some h
            subst h
            exact ⟨_, ⟨rfl, rfl, hO⟩, .e rfl (.e rfl (.z)), rfl⟩
  · clear hx
    rintro e l H ⟨rfl, rfl, hO⟩
    cbv
    refine n_br hE h (fun hc h => ?_) (fun hc h => ?_)
    · cbv
      have h := ret_some h
      subst h
      exact hK _ _ _ hO (.refl _)
    · cbv
      refine n_br hE h (fun hc h => ?_) (fun hc h => ?_)
      · cbv
        have h := ret_some h
        subst h
        exact hK _ _ _ hO (.refl _)
      · cbv
        refine n_br hE h (fun hc h => ?_) (fun hc h => ?_)
        · cbv
          have h := ret_some h
          subst h
          exact hK _ _ _ hO (.refl _)
        · cbv
          refine n_br hE h (fun hc h => ?_) (fun hc h => ?_)
          · cbv
            have h := ret_some h
            subst h
            exact hK _ _ _ hO (.refl _)
          · cbv
            refine n_br hE h (fun hc h => ?_) (fun hc h => ?_)
            · cbv
              have h := ret_some h
              subst h
              exact hK _ _ _ hO (.refl _)
            · cbv
              refine n_br hE h (fun hc h => ?_) (fun hc h => ?_)
              · cbv
                have h := ret_some h
                subst h
                exact hK _ _ _ hO (.refl _)
              · cbv
                refine n_br hE h (fun hc h => ?_) (fun hc h => ?_)
                · cbv
                  have h := ret_some h
                  subst h
                  exact hK _ _ _ hO (.refl _)
                · cbv
                  refine n_br hE h (fun hc h => ?_) (fun hc h => ?_)
                  · cbv
                    have h := ret_some h
                    subst h
                    exact hK _ _ _ hO (.refl _)
                  · cbv
                    refine n_br hE h (fun hc h => ?_) (fun hc h => ?_)
                    · cbv
                      have h := ret_some h
                      subst h
                      exact hK _ _ _ hO (.refl _)
                    · cbv
                      have h := ret_some h
                      subst h
                      exact hK _ _ _ hO (.refl _)

def cf97 : Cf := ⟨[], [], [], [], [], []⟩
theorem c97 (N : Nat) (x_op : Int) (r : (Bool × Bool)) (h : ref08_uses N x_op = some r) : CallP Tryd.prog 97 [.int .i64 x_op] (.tup [.bool r.1, .bool r.2]) := by
  unfold ref08_uses at h
  refine callP_of_spec cf97 okP Tryd.func97 (by rfl) (by kernel_rfl) Tryd.call97 Tryd.ntmps97 (by rfl) (by rfl) ?_
  intro E H0 K hE hK
  have hO : Own Eq H0 [] H0 := .start stable_eq rfl
  cbv
  have h := ret_some h
  subst h
  exact hK _ _ _ hO (.refl _)

def cf98 : Cf := ⟨[], [], [], [], [], []⟩
theorem c98 (N : Nat) (x_v : GValue) (r : Int) (h : ref01_Check N x_v = some r) : CallP Tryd.prog 98 [.agg [.int .i64 x_v.Kind, .int .i64 x_v.Num, .str x_v.Text]] (.int .i64 r) := by
  unfold ref01_Check at h
  refine callP_of_spec cf98 okP Tryd.func98 (by rfl) (by kernel_rfl) Tryd.call98 Tryd.ntmps98 (by rfl) (by rfl) ?_
  intro E H0 K hE hK
  have hO : Own Eq H0 [] H0 := .start stable_eq rfl
  cbv
  refine n_br hE h (fun hc h => ?_) (fun hc h => ?_)
  · cbv
    have h := ret_some h
    subst h
    exact hK _ _ _ hO (.refl _)
  · cbv
    refine n_br hE h (fun hc h => ?_) (fun hc h => ?_)
    · cbv
      refine n_br hE h (fun hc h => ?_) (fun hc h => ?_)
      · cbv
        have h := ret_some h
        subst h
        exact hK _ _ _ hO (.refl _)
      · cbv
        refine n_br hE h (fun hc h => ?_) (fun hc h => ?_)
        · cbv
          have h := ret_some h
          subst h
          exact hK _ _ _ hO (.refl _)
        · cbv
          have h := ret_some h
          subst h
          exact hK _ _ _ hO (.refl _)
    · cbv
      refine n_br hE h (fun hc h => ?_) (fun hc h => ?_)
      · cbv
        have h := ret_some h
        subst h
        exact hK _ _ _ hO (.refl _)
      · cbv
        refine n_br hE h (fun hc h => ?_) (fun hc h => ?_)
        · cbv
          have h := ret_some h
          subst h
          exact hK _ _ _ hO (.refl _)
        · cbv
          have h := ret_some h
          subst h
          exact hK _ _ _ hO (.refl _)

def cf99 : Cf := ⟨[], [], [], [], [], []⟩
theorem c99 (N : Nat) (x_k : Int) (x_v : GValue) (r : Bool) (h : ref07_Suits N x_k x_v = some r) : CallP Tryd.prog 99 [.int .i64 x_k, .agg [.int .i64 x_v.Kind, .int .i64 x_v.Num, .str x_v.Text]] (.bool r) := by
  unfold ref07_Suits at h
  refine callP_of_spec cf99 okP Tryd.func99 (by rfl) (by kernel_rfl) Tryd.call99 Tryd.ntmps99 (by rfl) (by rfl) ?_
  intro E H0 K hE hK
  have hO : Own Eq H0 [] H0 := .start stable_eq rfl
  cbv
  have h := ret_some h
  subst h
  exact hK _ _ _ hO (.refl _)

def cf86 : Cf := ⟨[], [], [(69, 15)], [], [], []⟩
theorem c86 (N : Nat) (x_e : GExpr) (r : Int) (h : ref08_node N x_e = some r) : CallP Tryd.prog 86 [.agg [.int .i64 x_e.Op, .sl (Ar.lst Encs.eGExpr x_e.Args) .ro, .int .i64 x_e.Var, .int .i64 x_e.Field, .int .i64 x_e.Kind, .int .i64 x_e.Value.Kind, .int .i64 x_e.Value.Num, .str x_e.Value.Text]] (.int .i64 r) := by
  unfold ref08_node at h
  refine callP_of_spec cf86 okP Tryd.func86 (by rfl) (by kernel_rfl) Tryd.call86 Tryd.ntmps86 (by rfl) (by rfl) ?_
  intro E H0 K hE hK
  have hO : Own Eq H0 [] H0 := .start stable_eq rfl
  cbv
  refine n_call hE (g := fun r1 => .int .i64 r1) h (fun r1 hx => c96 N x_e.Op r1 hx) (.refl _) fun r1 h => ?_
  cbv
  refine n_br hE h (fun hc h => ?_) (fun hc h => ?_)
  · cbv
    have h := ret_some h
    subst h
    exact hK _ _ _ hO (.refl _)
  · cbv
    refine n_ln hE ?_
    cbv
    refine n_br hE h (fun hc h => ?_) (fun hc h => ?_)
    · cbv
      have h := ret_some h
      subst h
      exact hK _ _ _ hO (.refl _)
    · cbv
      refine n_call hE (g := fun r2 => .tup [.bool r2.1, .bool r2.2]) h (fun r2 hx => c97 N x_e.Op r2 hx) (.refl _) fun r2 h => ?_
      cbv
      refine n_br hE h (fun hc h => ?_) (fun hc h => ?_)
      · cbv
        have h := ret_some h
        subst h
        exact hK _ _ _ hO (.refl _)
      · cbv
        refine n_br hE h (fun hc h => ?_) (fun hc h => ?_)
        · cbv
          have h := ret_some h
          subst h
          exact hK _ _ _ hO (.refl _)
        · cbv
          obtain ⟨s3, hx, h⟩ := bind_some h
          refine n_join cf86 hE okP (fun e l H1 => match (generalizing := false) s3 with | .inl y => e = .normal ∧ l = [(1, .v (.eref [.int .i64 x_e.Op, .sl (Ar.lst Encs.eGExpr x_e.Args) .ro, .int .i64 x_e.Var, .int .i64 x_e.Field, .int .i64 x_e.Kind, .int .i64 x_e.Value.Kind, .int .i64 x_e.Value.Num, .str x_e.Value.Text] 0)), (4, .v (.bool r2.1)), (5, .v (.bool r2.2)), (6, .v (.bool (Ar.cmp .eql x_e.Op 4))), (7, .v (.bool (Ar.or (Ar.cmp .eql x_e.Op 4) (Ar.cmp .eql x_e.Op 0))))] ∧ Own Eq H0 [] H1 | .inr y => e = .ret ∧ l = [(2, .v (.int .i64 y))] ∧ Own Eq H0 [] H1) (by kernel_rfl) ?_ ?_
          · clear h
            have h := hx
            clear hx
            cbv
            refine n_br hE h (fun hc h => ?_) (fun hc h => ?_)
            · cbv
              refine n_call hE (g := fun r4 => .int .i64 r4) h (fun r4 hx => c98 N x_e.Value r4 hx) (.refl _) fun r4 h => ?_
              cbv
              refine n_br hE h (fun hc h => ?_) (fun hc h => ?_)
              · cbv
                have h := ret_some h
                subst h
                exact ⟨_, ⟨rfl, rfl, hO⟩, .e rfl (.z), rfl⟩
              · cbv
                have h := ret_some h
                subst h
                exact ⟨_, ⟨rfl, rfl, hO⟩, .e rfl (.e rfl (.e rfl (.e rfl (.e rfl (.z))))), rfl⟩
            · cbv
              have h := ret_some h
              subst h
              exact ⟨_, ⟨rfl, rfl, hO⟩, .e rfl (.e rfl (.e rfl (.e rfl (.e rfl (.z))))), rfl⟩
          · clear hx
            rcases s3 with y5 | y7
            · rintro e l H ⟨rfl, rfl, hO⟩
              cbv
              refine n_br hE h (fun hc h => ?_) (fun hc h => ?_)
              · cbv
                refine n_call hE (g := fun r6 => .bool r6) h (fun r6 hx => c99 N x_e.Kind x_e.Value r6 hx) (.refl _) fun r6 h => ?_
                cbv
                refine n_br hE h (fun hc h => ?_) (fun hc h => ?_)
                · cbv
                  have h := ret_some h
                  subst h
                  exact hK _ _ _ hO (.refl _)
                · cbv
                  refine n_br hE h (fun hc h => ?_) (fun hc h => ?_)
                  · cbv
                    have h := ret_some h
                    subst h
                    exact hK _ _ _ hO (.refl _)
                  · cbv
                    have h := ret_some h
                    subst h
                    exact hK _ _ _ hO (.refl _)
              · cbv
                refine n_br hE h (fun hc h => ?_) (fun hc h => ?_)
                · cbv
                  have h := ret_some h
                  subst h
                  exact hK _ _ _ hO (.refl _)
                · cbv
                  have h := ret_some h
                  subst h
                  exact hK _ _ _ hO (.refl _)
            · rintro e l H ⟨rfl, rfl, hO⟩
              cbv
              have h := ret_some h
              subst h
              exact hK _ _ _ hO (.refl _)

def cf74 : Cf := ⟨[], [], [], [], [], []⟩
theorem c74 (N : Nat) : ∀ (n : Nat) (x_e : GExpr) (r : Int), ref08_nodes N n x_e = some r → CallP Tryd.prog 74 [.agg [.int .i64 x_e.Op, .sl (Ar.lst Encs.eGExpr x_e.Args) .ro, .int .i64 x_e.Var, .int .i64 x_e.Field, .int .i64 x_e.Kind, .int .i64 x_e.Value.Kind, .int .i64 x_e.Value.Num, .str x_e.Value.Text]] (.int .i64 r) := by
  intro n
  induction n with
  | zero => intro x_e r h; cases h
  | succ n ih =>
  intro x_e r h
  unfold ref08_nodes at h
  refine callP_of_spec cf74 okP Tryd.func74 (by rfl) (by kernel_rfl) Tryd.call74 Tryd.ntmps74 (by rfl) (by rfl) ?_
  intro E H0 K hE hK
  have hO : Own Eq H0 [] H0 := .start stable_eq rfl
  cbv
  refine n_call hE (g := fun r1 => .int .i64 r1) h (fun r1 hx => c86 N x_e r1 hx) (.refl _) fun r1 h => ?_
  cbv
  refine n_br hE h (fun hc h => ?_) (fun hc h => ?_)
  · cbv
    have h := ret_some h
    subst h
    exact hK _ _ _ hO (.refl _)
  · cbv
    obtain ⟨s3, hx, h⟩ := bind_some h
    refine n_loopN cf74 hE okP (fun s2 => [(1, .v (.eref [.int .i64 x_e.Op, .sl (Ar.lst Encs.eGExpr x_e.Args) .ro, .int .i64 x_e.Var, .int .i64 x_e.Field, .int .i64 x_e.Kind, .int .i64 x_e.Value.Kind, .int .i64 x_e.Value.Num, .str x_e.Value.Text] 0)), (4, .v (.int .i64 s2))]) (fun s2 H1 => Own Eq H0 [] H1) (fun x e l H1 => match (generalizing := false) x with | .inl y => e = .exit 0 ∧ l = [] ∧ Own Eq H0 [] H1 | .inr y => e = .ret ∧ l = [(2, .v (.int .i64 y))] ∧ Own Eq H0 [] H1) (by kernel_rfl) ?_ hx ?_ hO ?_
    · intro s2 H o hO h
      clear hx
      cbv
      refine n_ln hE ?_
      cbv
      refine n_br hE h (fun hc h => ?_) (fun hc h => ?_)
      · cbv
        refine n_idx hE Encs.eGExpr_eq h fun x4 h => ?_
        cbv
        refine n_call hE (g := fun r5 => .int .i64 r5) h (fun r5 hx => ih x4 r5 hx) (.refl _) fun r5 h => ?_
        cbv
        refine n_br hE h (fun hc h => ?_) (fun hc h => ?_)
        · cbv
          have h := ret_some h
          subst h
          exact ⟨_, _, rfl, ⟨rfl, rfl, hO⟩, .e rfl (.z), rfl⟩
        · cbv
          have h := ret_some h
          subst h
          exact ⟨_, rfl, .e rfl (.e rfl (.z)), rfl, hO⟩
      · cbv
        have h := ret_some h
        subst h
        exact ⟨_, _, rfl, ⟨rfl, rfl, hO⟩, .z, rfl⟩
    · exact .e rfl (.e rfl (.z))
    · clear hx
      rcases s3 with y6 | y7
      · rintro e l H ⟨rfl, rfl, hO⟩
        cbv
        have h := ret_some h
        subst h
        exact hK _ _ _ hO (.refl _)
      · rintro e l H ⟨rfl, rfl, hO⟩
        cbv
        have h := ret_some h
        subst h
        exact hK _ _ _ hO (.refl _)

def cf63 : Cf := ⟨[], [], [], [], [], []⟩
theorem c63 (N : Nat) (x_e : GExpr) (r : Int) (h : ref08_Check N x_e = some r) : CallP Tryd.prog 63 [.agg [.int .i64 x_e.Op, .sl (Ar.lst Encs.eGExpr x_e.Args) .ro, .int .i64 x_e.Var, .int .i64 x_e.Field, .int .i64 x_e.Kind, .int .i64 x_e.Value.Kind, .int .i64 x_e.Value.Num, .str x_e.Value.Text]] (.int .i64 r) := by
  unfold ref08_Check at h
  refine callP_of_spec cf63 okP Tryd.func63 (by rfl) (by kernel_rfl) Tryd.call63 Tryd.ntmps63 (by rfl) (by rfl) ?_
  intro E H0 K hE hK
  have hO : Own Eq H0 [] H0 := .start stable_eq rfl
  cbv
  refine n_call hE (g := fun r1 => .int .i64 r1) h (fun r1 hx => c32 N N x_e 64 r1 hx) (.refl _) fun r1 h => ?_
  cbv
  refine n_br hE h (fun hc h => ?_) (fun hc h => ?_)
  · cbv
    have h := ret_some h
    subst h
    exact hK _ _ _ hO (.refl _)
  · cbv
    refine n_call hE (g := fun r2 => .int .i64 r2) h (fun r2 hx => c39 N N x_e r2 hx) (.refl _) fun r2 h => ?_
    cbv
    refine n_br hE h (fun hc h => ?_) (fun hc h => ?_)
    · cbv
      have h := ret_some h
      subst h
      exact hK _ _ _ hO (.refl _)
    · cbv
      refine n_call hE (g := fun r3 => .int .i64 r3) h (fun r3 hx => c74 N N x_e r3 hx) (.refl _) fun r3 h => ?_
      cbv
      have h := ret_some h
      subst h
      exact hK _ _ _ hO (.refl _)

def cf44 : Cf := ⟨[], [(5, 11), (6, 21)], [(51, 10)], [], [], []⟩
theorem c44 (N : Nat) (x_p : GPattern) (r : Int) (h : ref09_node N x_p = some r) : CallP Tryd.prog 44 [.agg [.int .i64 x_p.Op, .sl (Ar.lst Encs.eGPattern x_p.Args) .ro, .int .i64 x_p.Typ, .int .i64 x_p.Var, .int .i64 x_p.Scope, .int .i64 x_p.Span, .int .i64 x_p.Cond.Op, .sl (Ar.lst Encs.eGExpr x_p.Cond.Args) .ro, .int .i64 x_p.Cond.Var, .int .i64 x_p.Cond.Field, .int .i64 x_p.Cond.Kind, .int .i64 x_p.Cond.Value.Kind, .int .i64 x_p.Cond.Value.Num, .str x_p.Cond.Value.Text]] (.int .i64 r) := by
  unfold ref09_node at h
  refine callP_of_spec cf44 okP Tryd.func44 (by rfl) (by kernel_rfl) Tryd.call44 Tryd.ntmps44 (by rfl) (by rfl) ?_
  intro E H0 K hE hK
  have hO : Own Eq H0 [] H0 := .start stable_eq rfl
  cbv
  refine n_br hE h (fun hc h => ?_) (fun hc h => ?_)
  · cbv
    have h := ret_some h
    subst h
    exact hK _ _ _ hO (.refl _)
  · cbv
    refine n_call hE (g := fun r1 => .bool r1) h (fun r1 hx => c57 N x_p r1 hx) (.refl _) fun r1 h => ?_
    cbv
    refine n_br hE h (fun hc h => ?_) (fun hc h => ?_)
    · cbv
      have h := ret_some h
      subst h
      exact hK _ _ _ hO (.refl _)
    · cbv
      refine n_pcall hE (g := fun r2 => .bool r2) h (fun r2 hx => c58 N x_p r2 hx) (.refl _) fun r2 h => ?_
      cbv
      refine n_pcall hE (g := fun r3 => .bool r3) h (fun r3 hx => c59 N x_p r3 hx) (.refl _) fun r3 h => ?_
      cbv
      refine n_br hE h (fun hc h => ?_) (fun hc h => ?_)
      · cbv
        refine n_pcall hE (g := fun r4 => .bool r4) h (fun r4 hx => c61 N x_p r4 hx) (.refl _) fun r4 h => ?_
        cbv
        refine n_pcall hE (g := fun r5 => .bool r5) h (fun r5 hx => c62 N r2 x_p.Typ 15 r5 hx) (.refl _) fun r5 h => ?_
        cbv
        refine n_br hE h (fun hc h => ?_) (fun hc h => ?_)
        · cbv
          have h := ret_some h
          subst h
          exact hK _ _ _ hO (.refl _)
        · cbv
          refine n_pcall hE (g := fun r6 => .bool r6) h (fun r6 hx => c62 N r2 x_p.Var 15 r6 hx) (.refl _) fun r6 h => ?_
          cbv
          refine n_br hE h (fun hc h => ?_) (fun hc h => ?_)
          · cbv
            have h := ret_some h
            subst h
            exact hK _ _ _ hO (.refl _)
          · cbv
            refine n_pcall hE (g := fun r7 => .bool r7) h (fun r7 hx => c62 N true x_p.Scope 63 r7 hx) (.refl _) fun r7 h => ?_
            cbv
            refine n_br hE h (fun hc h => ?_) (fun hc h => ?_)
            · cbv
              have h := ret_some h
              subst h
              exact hK _ _ _ hO (.refl _)
            · cbv
              refine n_pcall hE (g := fun r8 => .bool r8) h (fun r8 hx => c60 N x_p r8 hx) (.refl _) fun r8 h => ?_
              cbv
              refine n_call hE (g := fun r9 => .bool r9) h (fun r9 hx => c62 N r8 x_p.Span 1099511627776 r9 hx) (.refl _) fun r9 h => ?_
              cbv
              refine n_br hE h (fun hc h => ?_) (fun hc h => ?_)
              · cbv
                have h := ret_some h
                subst h
                exact hK _ _ _ hO (.refl _)
              · cbv
                obtain ⟨s10, hx, h⟩ := bind_some h
                refine n_join cf44 hE okP (fun e l H1 => match (generalizing := false) s10 with | .inl y => e = .normal ∧ l = [(1, .v (.eref [.int .i64 x_p.Op, .sl (Ar.lst Encs.eGPattern x_p.Args) .ro, .int .i64 x_p.Typ, .int .i64 x_p.Var, .int .i64 x_p.Scope, .int .i64 x_p.Span, .int .i64 x_p.Cond.Op, .sl (Ar.lst Encs.eGExpr x_p.Cond.Args) .ro, .int .i64 x_p.Cond.Var, .int .i64 x_p.Cond.Field, .int .i64 x_p.Cond.Kind, .int .i64 x_p.Cond.Value.Kind, .int .i64 x_p.Cond.Value.Num, .str x_p.Cond.Value.Text] 0)), (3, .v (.bool r2)), (4, .b true), (5, .v (.bool r4))] ∧ Own Eq H0 [] H1 | .inr y => e = .ret ∧ l = [(2, .v (.int .i64 y))] ∧ Own Eq H0 [] H1) (by kernel_rfl) ?_ ?_
                · clear h
                  have h := hx
                  clear hx
                  cbv
                  refine n_br hE h (fun hc h => ?_) (fun hc h => ?_)
                  · cbv
                    refine n_call hE (g := fun r11 => .int .i64 r11) h (fun r11 hx => c63 N x_p.Cond r11 hx) (.refl _) fun r11 h => ?_
                    cbv
                    refine n_br hE h (fun hc h => ?_) (fun hc h => ?_)
                    · cbv
                      have h := ret_some h
                      subst h
                      exact ⟨_, ⟨rfl, rfl, hO⟩, .e rfl (.z), rfl⟩
                    · cbv
                      have h := ret_some h
                      subst h
                      exact ⟨_, ⟨rfl, rfl, hO⟩, .e rfl (.e rfl (.b rfl (.e rfl (.z)))), rfl⟩
                  · cbv
                    have h := ret_some h
                    subst h
                    exact ⟨_, ⟨rfl, rfl, hO⟩, .e rfl (.e rfl (.b rfl (.e rfl (.z)))), rfl⟩
                · clear hx
                  rcases s10 with y12 | y15
                  · rintro e l H ⟨rfl, rfl, hO⟩
                    cbv
                    refine n_br hE h (fun hc h => ?_) (fun hc h => ?_)
                    · cbv
                      have h := ret_some h
                      subst h
                      exact hK _ _ _ hO (.refl _)
                    · cbv
                      refine n_call hE (g := fun r13 => .bool r13) h (fun r13 hx => c60 N x_p r13 hx) (.refl _) fun r13 h => ?_
                      cbv
                      refine n_br hE h (fun hc h => ?_) (fun hc h => ?_)
                      · cbv
                        have h := ret_some h
                        subst h
                        exact hK _ _ _ hO (.refl _)
                      · cbv
                        refine n_br hE h (fun hc h => ?_) (fun hc h => ?_)
                        · cbv
                          refine n_call hE (g := fun r14 => .bool r14) h (fun r14 hx => c31 N N x_p.Cond (⟨0, [], 0, 0, 0, (⟨0, 0, ⟨#[]⟩⟩ : GValue)⟩ : GExpr) r14 hx) (.cons (.refl _) (.cons (.agg (.cons (.refl _) (.cons (.lit _ (lst_nil)) (.refl _)))) (.refl _))) fun r14 h => ?_
                          cbv
                          refine n_br hE h (fun hc h => ?_) (fun hc h => ?_)
                          · cbv
                            have h := ret_some h
                            subst h
                            exact hK _ _ _ hO (.refl _)
                          · cbv
                            have h := ret_some h
                            subst h
                            exact hK _ _ _ hO (.refl _)
                        · cbv
                          have h := ret_some h
                          subst h
                          exact hK _ _ _ hO (.refl _)
                  · rintro e l H ⟨rfl, rfl, hO⟩
                    cbv
                    have h := ret_some h
                    subst h
                    exact hK _ _ _ hO (.refl _)
      · cbv
        refine n_pcall hE (g := fun r16 => .bool r16) h (fun r16 hx => c60 N x_p r16 hx) (.refl _) fun r16 h => ?_
        cbv
        refine n_pcall hE (g := fun r17 => .bool r17) h (fun r17 hx => c61 N x_p r17 hx) (.refl _) fun r17 h => ?_
        cbv
        refine n_pcall hE (g := fun r18 => .bool r18) h (fun r18 hx => c62 N r2 x_p.Typ 15 r18 hx) (.refl _) fun r18 h => ?_
        cbv
        refine n_br hE h (fun hc h => ?_) (fun hc h => ?_)
        · cbv
          have h := ret_some h
          subst h
          exact hK _ _ _ hO (.refl _)
        · cbv
          refine n_pcall hE (g := fun r19 => .bool r19) h (fun r19 hx => c62 N r2 x_p.Var 15 r19 hx) (.refl _) fun r19 h => ?_
          cbv
          refine n_br hE h (fun hc h => ?_) (fun hc h => ?_)
          · cbv
            have h := ret_some h
            subst h
            exact hK _ _ _ hO (.refl _)
          · cbv
            refine n_pcall hE (g := fun r20 => .bool r20) h (fun r20 hx => c62 N r16 x_p.Scope 63 r20 hx) (.refl _) fun r20 h => ?_
            cbv
            refine n_br hE h (fun hc h => ?_) (fun hc h => ?_)
            · cbv
              have h := ret_some h
              subst h
              exact hK _ _ _ hO (.refl _)
            · cbv
              refine n_pcall hE (g := fun r21 => .bool r21) h (fun r21 hx => c60 N x_p r21 hx) (.refl _) fun r21 h => ?_
              cbv
              refine n_call hE (g := fun r22 => .bool r22) h (fun r22 hx => c62 N r21 x_p.Span 1099511627776 r22 hx) (.refl _) fun r22 h => ?_
              cbv
              refine n_br hE h (fun hc h => ?_) (fun hc h => ?_)
              · cbv
                have h := ret_some h
                subst h
                exact hK _ _ _ hO (.refl _)
              · cbv
                obtain ⟨s23, hx, h⟩ := bind_some h
                refine n_join cf44 hE okP (fun e l H1 => match (generalizing := false) s23 with | .inl y => e = .normal ∧ l = [(1, .v (.eref [.int .i64 x_p.Op, .sl (Ar.lst Encs.eGPattern x_p.Args) .ro, .int .i64 x_p.Typ, .int .i64 x_p.Var, .int .i64 x_p.Scope, .int .i64 x_p.Span, .int .i64 x_p.Cond.Op, .sl (Ar.lst Encs.eGExpr x_p.Cond.Args) .ro, .int .i64 x_p.Cond.Var, .int .i64 x_p.Cond.Field, .int .i64 x_p.Cond.Kind, .int .i64 x_p.Cond.Value.Kind, .int .i64 x_p.Cond.Value.Num, .str x_p.Cond.Value.Text] 0)), (3, .v (.bool r2)), (4, .v (.bool r16)), (5, .v (.bool r17))] ∧ Own Eq H0 [] H1 | .inr y => e = .ret ∧ l = [(2, .v (.int .i64 y))] ∧ Own Eq H0 [] H1) (by kernel_rfl) ?_ ?_
                · clear h
                  have h := hx
                  clear hx
                  cbv
                  refine n_br hE h (fun hc h => ?_) (fun hc h => ?_)
                  · cbv
                    refine n_call hE (g := fun r24 => .int .i64 r24) h (fun r24 hx => c63 N x_p.Cond r24 hx) (.refl _) fun r24 h => ?_
                    cbv
                    refine n_br hE h (fun hc h => ?_) (fun hc h => ?_)
                    · cbv
                      have h := ret_some h
                      subst h
                      exact ⟨_, ⟨rfl, rfl, hO⟩, .e rfl (.z), rfl⟩
                    · cbv
                      have h := ret_some h
                      subst h
                      exact ⟨_, ⟨rfl, rfl, hO⟩, .e rfl (.e rfl (.e rfl (.e rfl (.z)))), rfl⟩
                  · cbv
                    have h := ret_some h
                    subst h
                    exact ⟨_, ⟨rfl, rfl, hO⟩, .e rfl (.e rfl (.e rfl (.e rfl (.z)))), rfl⟩
                · clear hx
                  rcases s23 with y25 | y28
                  · rintro e l H ⟨rfl, rfl, hO⟩
                    cbv
                    refine n_br hE h (fun hc h => ?_) (fun hc h => ?_)
                    · cbv
                      have h := ret_some h
                      subst h
                      exact hK _ _ _ hO (.refl _)
                    · cbv
                      refine n_call hE (g := fun r26 => .bool r26) h (fun r26 hx => c60 N x_p r26 hx) (.refl _) fun r26 h => ?_
                      cbv
                      refine n_br hE h (fun hc h => ?_) (fun hc h => ?_)
                      · cbv
                        have h := ret_some h
                        subst h
                        exact hK _ _ _ hO (.refl _)
                      · cbv
                        refine n_br hE h (fun hc h => ?_) (fun hc h => ?_)
                        · cbv
                          refine n_call hE (g := fun r27 => .bool r27) h (fun r27 hx => c31 N N x_p.Cond (⟨0, [], 0, 0, 0, (⟨0, 0, ⟨#[]⟩⟩ : GValue)⟩ : GExpr) r27 hx) (.cons (.refl _) (.cons (.agg (.cons (.refl _) (.cons (.lit _ (lst_nil)) (.refl _)))) (.refl _))) fun r27 h => ?_
                          cbv
                          refine n_br hE h (fun hc h => ?_) (fun hc h => ?_)
                          · cbv
                            have h := ret_some h
                            subst h
                            exact hK _ _ _ hO (.refl _)
                          · cbv
                            have h := ret_some h
                            subst h
                            exact hK _ _ _ hO (.refl _)
                        · cbv
                          have h := ret_some h
                          subst h
                          exact hK _ _ _ hO (.refl _)
                  · rintro e l H ⟨rfl, rfl, hO⟩
                    cbv
                    have h := ret_some h
                    subst h
                    exact hK _ _ _ hO (.refl _)

end Go.Ab

