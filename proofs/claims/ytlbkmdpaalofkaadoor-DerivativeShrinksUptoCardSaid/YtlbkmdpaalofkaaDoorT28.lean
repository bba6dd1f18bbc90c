/- A part of the proof: GDCo5 AbG1. -/
import Derived.Test.YtlbkmdpaalofkaaDoorT27
import Derived.Test.YtlbkmdpaalofkaaDoorT21
import Derived.Deep.Slices
import Derived.Carry
set_option linter.unusedVariables false
set_option linter.unusedSimpArgs false
set_option linter.unusedSectionVars false

/- The contracts. By program. -/
namespace Go.Ab
open Go.RowKit Go.Proofs

variable [Ar] [Encs]
set_option maxRecDepth 100000

def cf29 : Cf := ⟨[], [], [], [], [], []⟩
theorem c29 (N : Nat) (x_p : GPattern) (r : Int) (h : ref09_CheckRest N x_p = some r) : CallP Tryd.prog 29 [.agg [.int .i64 x_p.Op, .sl (Ar.lst Encs.eGPattern x_p.Args) .ro, .int .i64 x_p.Typ, .int .i64 x_p.Var, .int .i64 x_p.Scope, .int .i64 x_p.Span, .int .i64 x_p.Cond.Op, .sl (Ar.lst Encs.eGExpr x_p.Cond.Args) .ro, .int .i64 x_p.Cond.Var, .int .i64 x_p.Cond.Field, .int .i64 x_p.Cond.Kind, .int .i64 x_p.Cond.Value.Kind, .int .i64 x_p.Cond.Value.Num, .str x_p.Cond.Value.Text]] (.int .i64 r) := by
  unfold ref09_CheckRest at h
  refine callP_of_spec cf29 okP Tryd.func29 (by rfl) (by kernel_rfl) Tryd.call29 Tryd.ntmps29 (by rfl) (by rfl) ?_
  intro E H0 K hE hK
  have hO : Own Eq H0 [] H0 := .start stable_eq rfl
  cbv
  refine n_call hE (g := fun r1 => .int .i64 r1) h (fun r1 hx => c20 N N x_p 64 r1 hx) (.refl _) fun r1 h => ?_
  cbv
  refine n_br hE h (fun hc h => ?_) (fun hc h => ?_)
  · cbv
    have h := ret_some h
    subst h
    exact hK _ _ _ hO (.refl _)
  · cbv
    refine n_call hE (g := fun r2 => .int .i64 r2) h (fun r2 hx => c21 N N x_p r2 hx) (.refl _) fun r2 h => ?_
    cbv
    refine n_br hE h (fun hc h => ?_) (fun hc h => ?_)
    · cbv
      have h := ret_some h
      subst h
      exact hK _ _ _ hO (.refl _)
    · cbv
      refine n_call hE (g := fun r3 => .sl (Ar.lst Encs.eGPattern r3) .ro) h (fun r3 hx => c13 N N x_p r3 hx) (.refl _) fun r3 h => ?_
      cbv
      obtain ⟨s5, hx, h⟩ := bind_some h
      refine n_loopN cf29 hE okP (fun s4 => [(3, .v (.sl (Ar.lst Encs.eGPattern r3) .ro)), (4, .v (.int .i64 s4))]) (fun s4 H1 => Own Eq H0 [] H1) (fun x e l H1 => match (generalizing := false) x with | .inl y => e = .exit 0 ∧ l = [] ∧ Own Eq H0 [] H1 | .inr y => e = .ret ∧ l = [(2, .v (.int .i64 y))] ∧ Own Eq H0 [] H1) (by kernel_rfl) ?_ hx ?_ hO ?_
      · intro s4 H o hO h
        clear hx
        cbv
        refine n_ln hE ?_
        cbv
        refine n_br hE h (fun hc h => ?_) (fun hc h => ?_)
        · cbv
          refine n_idx hE Encs.eGPattern_eq h fun x6 h => ?_
          cbv
          refine n_call hE (g := fun r7 => .int .i64 r7) h (fun r7 hx => c44 N x6 r7 hx) (.refl _) fun r7 h => ?_
          cbv
          refine n_br hE h (fun hc h => ?_) (fun hc h => ?_)
          · cbv
            have h := ret_some h
            subst h
            exact ⟨_, _, rfl, ⟨rfl, rfl, hO⟩, .e rfl (.z), rfl⟩
          · cbv
            have h := ret_some h
            subst h
            exact ⟨_, rfl, .e rfl (.e rfl (.z)), rfl, hO⟩
        · cbv
          have h := ret_some h
          subst h
          exact ⟨_, _, rfl, ⟨rfl, rfl, hO⟩, .z, rfl⟩
      · exact .e rfl (.e rfl (.z))
      · clear hx
        rcases s5 with y8 | y9
        · rintro e l H ⟨rfl, rfl, hO⟩
          cbv
          have h := ret_some h
          subst h
          exact hK _ _ _ hO (.refl _)
        · rintro e l H ⟨rfl, rfl, hO⟩
          cbv
          have h := ret_some h
          subst h
          exact hK _ _ _ hO (.refl _)

def cf30 : Cf := ⟨[], [], [(22, 9)], [0], [], []⟩
theorem c30 (N : Nat) : ∀ (n : Nat) (x_p : GPattern) (r : (List GGuard)), ref22_Active N n x_p = some r → CallP Tryd.prog 30 [.agg [.int .i64 x_p.Op, .sl (Ar.lst Encs.eGPattern x_p.Args) .ro, .int .i64 x_p.Typ, .int .i64 x_p.Var, .int .i64 x_p.Scope, .int .i64 x_p.Span, .int .i64 x_p.Cond.Op, .sl (Ar.lst Encs.eGExpr x_p.Cond.Args) .ro, .int .i64 x_p.Cond.Var, .int .i64 x_p.Cond.Field, .int .i64 x_p.Cond.Kind, .int .i64 x_p.Cond.Value.Kind, .int .i64 x_p.Cond.Value.Num, .str x_p.Cond.Value.Text]] (.sl (Ar.lst Encs.eGGuard r) .ro) := by
  intro n
  induction n with
  | zero => intro x_p r h; cases h
  | succ n ih =>
  intro x_p r h
  unfold ref22_Active at h
  refine callP_of_spec cf30 okP Tryd.func30 (by rfl) (by kernel_rfl) Tryd.call30 Tryd.ntmps30 (by rfl) (by rfl) ?_
  intro E H0 K hE hK
  have hO : Own Eq H0 [] H0 := .start stable_eq rfl
  cbv
  replace hO := hO.tl0 (t := .nil) rfl
  obtain ⟨s1, hx, h⟩ := bind_some h
  refine n_join cf30 hE okP (fun e l H1 => ∃ u1 : Tail, Appn u1 ∧ e = .normal ∧ l = [(1, .v (.eref [.int .i64 x_p.Op, .sl (Ar.lst Encs.eGPattern x_p.Args) .ro, .int .i64 x_p.Typ, .int .i64 x_p.Var, .int .i64 x_p.Scope, .int .i64 x_p.Span, .int .i64 x_p.Cond.Op, .sl (Ar.lst Encs.eGExpr x_p.Cond.Args) .ro, .int .i64 x_p.Cond.Var, .int .i64 x_p.Cond.Field, .int .i64 x_p.Cond.Kind, .int .i64 x_p.Cond.Value.Kind, .int .i64 x_p.Cond.Value.Num, .str x_p.Cond.Value.Text] 0)), (3, .v (.sl (Ar.lst Encs.eGGuard s1.1) u1)), (4, .v (.int .i64 s1.2))] ∧ Own Eq H0 [.tl u1] H1) (by kernel_rfl) ?_ ?_
  · clear h
    have h := hx
    clear hx
    cbv
    refine n_br hE h (fun hc h => ?_) (fun hc h => ?_)
    · cbv
      refine n_appn hE sz_GGuard (by decide) hO 0 rfl trivial (l := []) (m := [(⟨x_p.Scope, x_p.Typ, x_p.Var, x_p.Cond⟩ : GGuard)]) (.lst0) (.lstc (.eq (Encs.eGGuard_eq (⟨x_p.Scope, x_p.Typ, x_p.Var, x_p.Cond⟩ : GGuard)) (.refl _)) (.lst0)) h fun l3 t2 H hO ht2 h => ?_
      cbv
      have h := ret_some h
      subst h
      exact ⟨_, ⟨t2, ht2, rfl, rfl, hO⟩, .e rfl (.e rfl (.e rfl (.z))), rfl⟩
    · cbv
      obtain ⟨s4, hx, h⟩ := bind_some h
      refine n_join cf30 hE okP (fun e l H1 => e = .normal ∧ l = [(1, .v (.eref [.int .i64 x_p.Op, .sl (Ar.lst Encs.eGPattern x_p.Args) .ro, .int .i64 x_p.Typ, .int .i64 x_p.Var, .int .i64 x_p.Scope, .int .i64 x_p.Span, .int .i64 x_p.Cond.Op, .sl (Ar.lst Encs.eGExpr x_p.Cond.Args) .ro, .int .i64 x_p.Cond.Var, .int .i64 x_p.Cond.Field, .int .i64 x_p.Cond.Kind, .int .i64 x_p.Cond.Value.Kind, .int .i64 x_p.Cond.Value.Num, .str x_p.Cond.Value.Text] 0)), (3, .v (.sl [] .nil)), (4, .v (.int .i64 0)), (7, .v (.int .i64 x_p.Op)), (22, .v (.bool s4))] ∧ Own Eq H0 [.tl .nil] H1) (by kernel_rfl) ?_ ?_
      · clear h
        have h := hx
        clear hx
        cbv
        refine n_br hE h (fun hc h => ?_) (fun hc h => ?_)
        · cbv
          have h := ret_some h
          subst h
          exact ⟨_, ⟨rfl, rfl, hO⟩, .e rfl (.e rfl (.e rfl (.e rfl (.e rfl (.z))))), rfl⟩
        · cbv
          refine n_br hE h (fun hc h => ?_) (fun hc h => ?_)
          · cbv
            have h := ret_some h
            subst h
            exact ⟨_, ⟨rfl, rfl, hO⟩, .e rfl (.e rfl (.e rfl (.e rfl (.e rfl (.z))))), rfl⟩
          · cbv
            refine n_br hE h (fun hc h => ?_) (fun hc h => ?_)
            · cbv
              have h := ret_some h
              subst h
              exact ⟨_, ⟨rfl, rfl, hO⟩, .e rfl (.e rfl (.e rfl (.e rfl (.e rfl (.z))))), rfl⟩
            · cbv
              have h := ret_some h
              subst h
              exact ⟨_, ⟨rfl, rfl, hO⟩, .e rfl (.e rfl (.e rfl (.e rfl (.e rfl (.z))))), rfl⟩
      · clear hx
        rintro e l H ⟨rfl, rfl, hO⟩
        cbv
        refine n_br hE h (fun hc h => ?_) (fun hc h => ?_)
        · cbv
          have h := ret_some h
          subst h
          exact ⟨_, ⟨.nil, trivial, rfl, rfl, hO⟩, .e rfl (.v (.slt _ (.lst0)) (.e rfl (.z))), rfl⟩
        · cbv
          refine n_br hE h (fun hc h => ?_) (fun hc h => ?_)
          · cbv
            refine n_ln hE ?_
            cbv
            have h := ret_some h
            subst h
            exact ⟨_, ⟨.nil, trivial, rfl, rfl, hO⟩, .e rfl (.v (.slt _ (.lst0)) (.e rfl (.z))), rfl⟩
          · cbv
            have h := ret_some h
            subst h
            exact ⟨_, ⟨.nil, trivial, rfl, rfl, hO⟩, .e rfl (.v (.slt _ (.lst0)) (.e rfl (.z))), rfl⟩
  · clear hx
    rintro e l H ⟨t5, ht5, rfl, rfl, hO⟩
    cbv
    obtain ⟨s8, hx, h⟩ := bind_some h
    refine n_loopG cf30 hE okP (γ := Tail) (fun s6 g => [(1, .v (.eref [.int .i64 x_p.Op, .sl (Ar.lst Encs.eGPattern x_p.Args) .ro, .int .i64 x_p.Typ, .int .i64 x_p.Var, .int .i64 x_p.Scope, .int .i64 x_p.Span, .int .i64 x_p.Cond.Op, .sl (Ar.lst Encs.eGExpr x_p.Cond.Args) .ro, .int .i64 x_p.Cond.Var, .int .i64 x_p.Cond.Field, .int .i64 x_p.Cond.Kind, .int .i64 x_p.Cond.Value.Kind, .int .i64 x_p.Cond.Value.Num, .str x_p.Cond.Value.Text] 0)), (3, .v (.sl (Ar.lst Encs.eGGuard s6.1) g)), (4, .v (.int .i64 s1.2)), (5, .v (.int .i64 s6.2))]) (fun s6 g H1 => Appn g ∧ Own Eq H0 [.tl g] H1) (fun x e l H1 => ∃ u1 : Tail, Appn u1 ∧ e = .exit 1 ∧ l = [(3, .v (.sl (Ar.lst Encs.eGGuard x) u1))] ∧ Own Eq H0 [.tl u1] H1) (by kernel_rfl) ?_ t5 hx ?_ ?_ ?_
    · rintro s6 t7 H o ⟨ht7, hO⟩ h
      clear hx
      cbv
      refine n_br hE h (fun hc h => ?_) (fun hc h => ?_)
      · cbv
        refine n_idx hE Encs.eGPattern_eq h fun x9 h => ?_
        cbv
        refine n_call hE (g := fun r10 => .sl (Ar.lst Encs.eGGuard r10) .ro) h (fun r10 hx => ih x9 r10 hx) (.refl _) fun r10 h => ?_
        cbv
        refine n_appn hE sz_GGuard (by decide) hO 0 rfl ht7 (l := s6.1) (m := r10) (.refl _) (.refl _) h fun l12 t11 H hO ht11 h => ?_
        cbv
        have h := ret_some h
        subst h
        exact ⟨_, t11, rfl, .e rfl (.e rfl (.e rfl (.e rfl (.z)))), rfl, ht11, hO⟩
      · cbv
        have h := ret_some h
        subst h
        exact ⟨_, _, rfl, ⟨t7, ht7, rfl, rfl, hO⟩, .e rfl (.z), rfl⟩
    · exact .e rfl (.e rfl (.e rfl (.e rfl (.z))))
    · exact ⟨ht5, hO⟩
    · clear hx
      rintro e l H ⟨t13, ht13, rfl, rfl, hO⟩
      cbv
      have h := ret_some h
      subst h
      exact hK _ _ _ hO (.ro _ _)

def cf8 : Cf := ⟨[], [], [], [], [], []⟩
theorem c8 (N : Nat) (x_p : GPattern) (r : ((List GGuard) × Int)) (h : ref22_Guards N x_p = some r) : CallP Tryd.prog 8 [.agg [.int .i64 x_p.Op, .sl (Ar.lst Encs.eGPattern x_p.Args) .ro, .int .i64 x_p.Typ, .int .i64 x_p.Var, .int .i64 x_p.Scope, .int .i64 x_p.Span, .int .i64 x_p.Cond.Op, .sl (Ar.lst Encs.eGExpr x_p.Cond.Args) .ro, .int .i64 x_p.Cond.Var, .int .i64 x_p.Cond.Field, .int .i64 x_p.Cond.Kind, .int .i64 x_p.Cond.Value.Kind, .int .i64 x_p.Cond.Value.Num, .str x_p.Cond.Value.Text]] (.tup [.sl (Ar.lst Encs.eGGuard r.1) .ro, .int .i64 r.2]) := by
  unfold ref22_Guards at h
  refine callP_of_spec cf8 okP Tryd.func8 (by rfl) (by kernel_rfl) Tryd.call8 Tryd.ntmps8 (by rfl) (by rfl) ?_
  intro E H0 K hE hK
  have hO : Own Eq H0 [] H0 := .start stable_eq rfl
  cbv
  refine n_call hE (g := fun r1 => .int .i64 r1) h (fun r1 hx => c29 N x_p r1 hx) (.refl _) fun r1 h => ?_
  cbv
  refine n_br hE h (fun hc h => ?_) (fun hc h => ?_)
  · cbv
    have h := ret_some h
    subst h
    exact hK _ _ _ hO (.tup (.cons (.lit _ (lst_nil)) (.refl _)))
  · cbv
    refine n_call hE (g := fun r2 => .sl (Ar.lst Encs.eGGuard r2) .ro) h (fun r2 hx => c30 N N x_p r2 hx) (.refl _) fun r2 h => ?_
    cbv
    have h := ret_some h
    subst h
    exact hK _ _ _ hO (.refl _)

def cf9 : Cf := ⟨[], [(6, 48)], [], [], [], []⟩
theorem c9 (N : Nat) (x_a : List GGuard) (x_b : List GGuard) (r : Bool) (h : ref22_SameGuards N x_a x_b = some r) : CallP Tryd.prog 9 [.sl (Ar.lst Encs.eGGuard x_a) .ro, .sl (Ar.lst Encs.eGGuard x_b) .ro] (.bool r) := by
  unfold ref22_SameGuards at h
  refine callP_of_spec cf9 okP Tryd.func9 (by rfl) (by kernel_rfl) Tryd.call9 Tryd.ntmps9 (by rfl) (by rfl) ?_
  intro E H0 K hE hK
  have hO : Own Eq H0 [] H0 := .start stable_eq rfl
  cbv
  refine n_ln hE ?_
  cbv
  refine n_ln hE ?_
  cbv
  refine n_br hE h (fun hc h => ?_) (fun hc h => ?_)
  · cbv
    have h := ret_some h
    subst h
    exact hK _ _ _ hO (.refl _)
  · cbv
    obtain ⟨s2, hx, h⟩ := bind_some h
    refine n_loopN cf9 hE okP (fun s1 => [(0, .v (.sl (Ar.lst Encs.eGGuard x_a) .ro)), (1, .v (.sl (Ar.lst Encs.eGGuard x_b) .ro)), (5, .v (.int .i64 s1))]) (fun s1 H1 => Own Eq H0 [] H1) (fun x e l H1 => match (generalizing := false) x with | .inl y => e = .exit 0 ∧ l = [] ∧ Own Eq H0 [] H1 | .inr y => e = .ret ∧ l = [(4, .b false)] ∧ Own Eq H0 [] H1) (by kernel_rfl) ?_ hx ?_ hO ?_
    · intro s1 H o hO h
      clear hx
      cbv
      refine n_ln hE ?_
      cbv
      refine n_br hE h (fun hc h => ?_) (fun hc h => ?_)
      · cbv
        refine n_idx hE Encs.eGGuard_eq h fun x3 h => ?_
        cbv
        refine n_idx hE Encs.eGGuard_eq h fun x4 h => ?_
        cbv
        refine n_br hE h (fun hc h => ?_) (fun hc h => ?_)
        · cbv
          have h := ret_some h
          subst h
          exact ⟨_, _, rfl, ⟨rfl, rfl, hO⟩, .b rfl (.z), rfl⟩
        · cbv
          refine n_idx hE Encs.eGGuard_eq h fun x5 h => ?_
          cbv
          refine n_idx hE Encs.eGGuard_eq h fun x6 h => ?_
          cbv
          refine n_br hE h (fun hc h => ?_) (fun hc h => ?_)
          · cbv
            have h := ret_some h
            subst h
            exact ⟨_, _, rfl, ⟨rfl, rfl, hO⟩, .b rfl (.z), rfl⟩
          · cbv
            refine n_idx hE Encs.eGGuard_eq h fun x7 h => ?_
            cbv
            refine n_idx hE Encs.eGGuard_eq h fun x8 h => ?_
            cbv
            refine n_br hE h (fun hc h => ?_) (fun hc h => ?_)
            · cbv
              have h := ret_some h
              subst h
              exact ⟨_, _, rfl, ⟨rfl, rfl, hO⟩, .b rfl (.z), rfl⟩
            · cbv
              refine n_idx hE Encs.eGGuard_eq h fun x9 h => ?_
              cbv
              refine n_idx hE Encs.eGGuard_eq h fun x10 h => ?_
              cbv
              refine n_call hE (g := fun r11 => .bool r11) h (fun r11 hx => c31 N N x9.Cond x10.Cond r11 hx) (.refl _) fun r11 h => ?_
              cbv
              refine n_br hE h (fun hc h => ?_) (fun hc h => ?_)
              · cbv
                have h := ret_some h
                subst h
                exact ⟨_, _, rfl, ⟨rfl, rfl, hO⟩, .b rfl (.z), rfl⟩
              · cbv
                have h := ret_some h
                subst h
                exact ⟨_, rfl, .e rfl (.e rfl (.e rfl (.z))), rfl, hO⟩
      · cbv
        have h := ret_some h
        subst h
        exact ⟨_, _, rfl, ⟨rfl, rfl, hO⟩, .z, rfl⟩
    · exact .e rfl (.e rfl (.e rfl (.z)))
    · clear hx
      rcases s2 with y12 | y13
      · rintro e l H ⟨rfl, rfl, hO⟩
        cbv
        have h := ret_some h
        subst h
        exact hK _ _ _ hO (.refl _)
      · rintro e l H ⟨rfl, rfl, hO⟩
        cbv
        have h := ret_some h
        subst h
        exact hK _ _ _ hO (.refl _)

def cf3 : Cf := ⟨[], [], [], [], [], []⟩
theorem c3 (N : Nat) (x_p : GPattern) (r : Bool) (h : law22_DerivativeGuards N x_p = some r) : CallP Tryd.prog 3 [.agg [.int .i64 x_p.Op, .sl (Ar.lst Encs.eGPattern x_p.Args) .ro, .int .i64 x_p.Typ, .int .i64 x_p.Var, .int .i64 x_p.Scope, .int .i64 x_p.Span, .int .i64 x_p.Cond.Op, .sl (Ar.lst Encs.eGExpr x_p.Cond.Args) .ro, .int .i64 x_p.Cond.Var, .int .i64 x_p.Cond.Field, .int .i64 x_p.Cond.Kind, .int .i64 x_p.Cond.Value.Kind, .int .i64 x_p.Cond.Value.Num, .str x_p.Cond.Value.Text]] (.bool r) := by
  unfold law22_DerivativeGuards at h
  refine callP_of_spec cf3 okP Tryd.func3 (by rfl) (by kernel_rfl) Tryd.call3 Tryd.ntmps3 (by rfl) (by rfl) ?_
  intro E H0 K hE hK
  have hO : Own Eq H0 [] H0 := .start stable_eq rfl
  cbv
  refine n_call hE (g := fun r1 => .bool r1) h (fun r1 hx => c5 N x_p r1 hx) (.refl _) fun r1 h => ?_
  cbv
  refine n_br hE h (fun hc h => ?_) (fun hc h => ?_)
  · cbv
    refine n_call hE (g := fun r2 => .bool r2) h (fun r2 hx => c6 N  r2 hx) (.refl _) fun r2 h => ?_
    cbv
    have h := ret_some h
    subst h
    exact hK _ _ _ hO (.refl _)
  · cbv
    refine n_call hE (g := fun r3 => .tup [.sl (Ar.lst Encs.eGGuard r3.1) .ro, .int .i64 r3.2]) h (fun r3 hx => c7 N x_p r3 hx) (.refl _) fun r3 h => ?_
    cbv
    refine n_call hE (g := fun r4 => .tup [.sl (Ar.lst Encs.eGGuard r4.1) .ro, .int .i64 r4.2]) h (fun r4 hx => c8 N x_p r4 hx) (.refl _) fun r4 h => ?_
    cbv
    refine n_call hE (g := fun r5 => .bool r5) h (fun r5 hx => c9 N r3.1 r4.1 r5 hx) (.refl _) fun r5 h => ?_
    cbv
    refine n_br hE h (fun hc h => ?_) (fun hc h => ?_)
    · cbv
      refine n_call hE (g := fun r6 => .bool r6) h (fun r6 hx => c6 N  r6 hx) (.refl _) fun r6 h => ?_
      cbv
      have h := ret_some h
      subst h
      exact hK _ _ _ hO (.refl _)
    · cbv
      have h := ret_some h
      subst h
      exact hK _ _ _ hO (.refl _)

def cf10 : Cf := ⟨[], [], [], [], [], []⟩
theorem c10 (N : Nat) (x_p : GPattern) (r : Bool) (h : ref09_Small N x_p = some r) : CallP Tryd.prog 10 [.agg [.int .i64 x_p.Op, .sl (Ar.lst Encs.eGPattern x_p.Args) .ro, .int .i64 x_p.Typ, .int .i64 x_p.Var, .int .i64 x_p.Scope, .int .i64 x_p.Span, .int .i64 x_p.Cond.Op, .sl (Ar.lst Encs.eGExpr x_p.Cond.Args) .ro, .int .i64 x_p.Cond.Var, .int .i64 x_p.Cond.Field, .int .i64 x_p.Cond.Kind, .int .i64 x_p.Cond.Value.Kind, .int .i64 x_p.Cond.Value.Num, .str x_p.Cond.Value.Text]] (.bool r) := by
  unfold ref09_Small at h
  refine callP_of_spec cf10 okP Tryd.func10 (by rfl) (by kernel_rfl) Tryd.call10 Tryd.ntmps10 (by rfl) (by rfl) ?_
  intro E H0 K hE hK
  have hO : Own Eq H0 [] H0 := .start stable_eq rfl
  cbv
  refine n_call hE (g := fun r1 => .int .i64 r1) h (fun r1 hx => c20 N N x_p 9 r1 hx) (.refl _) fun r1 h => ?_
  cbv
  refine n_br hE h (fun hc h => ?_) (fun hc h => ?_)
  · cbv
    have h := ret_some h
    subst h
    exact hK _ _ _ hO (.refl _)
  · cbv
    refine n_call hE (g := fun r2 => .sl (Ar.lst Encs.eGPattern r2) .ro) h (fun r2 hx => c13 N N x_p r2 hx) (.refl _) fun r2 h => ?_
    cbv
    obtain ⟨s4, hx, h⟩ := bind_some h
    refine n_loopN cf10 hE okP (fun s3 => [(3, .v (.sl (Ar.lst Encs.eGPattern r2) .ro)), (4, .v (.int .i64 s3))]) (fun s3 H1 => Own Eq H0 [] H1) (fun x e l H1 => match (generalizing := false) x with | .inl y => e = .exit 0 ∧ l = [] ∧ Own Eq H0 [] H1 | .inr y => e = .ret ∧ l = [(2, .b false)] ∧ Own Eq H0 [] H1) (by kernel_rfl) ?_ hx ?_ hO ?_
    · intro s3 H o hO h
      clear hx
      cbv
      refine n_ln hE ?_
      cbv
      refine n_br hE h (fun hc h => ?_) (fun hc h => ?_)
      · cbv
        refine n_idx hE Encs.eGPattern_eq h fun x5 h => ?_
        cbv
        refine n_call hE (g := fun r6 => .int .i64 r6) h (fun r6 hx => c32 N N x5.Cond 20 r6 hx) (.refl _) fun r6 h => ?_
        cbv
        refine n_br hE h (fun hc h => ?_) (fun hc h => ?_)
        · cbv
          have h := ret_some h
          subst h
          exact ⟨_, _, rfl, ⟨rfl, rfl, hO⟩, .b rfl (.z), rfl⟩
        · cbv
          have h := ret_some h
          subst h
          exact ⟨_, rfl, .e rfl (.e rfl (.z)), rfl, hO⟩
      · cbv
        have h := ret_some h
        subst h
        exact ⟨_, _, rfl, ⟨rfl, rfl, hO⟩, .z, rfl⟩
    · exact .e rfl (.e rfl (.z))
    · clear hx
      rcases s4 with y7 | y8
      · rintro e l H ⟨rfl, rfl, hO⟩
        cbv
        have h := ret_some h
        subst h
        exact hK _ _ _ hO (.refl _)
      · rintro e l H ⟨rfl, rfl, hO⟩
        cbv
        have h := ret_some h
        subst h
        exact hK _ _ _ hO (.refl _)

def cf14 : Cf := ⟨[], [], [], [], [], []⟩
theorem c14 (N : Nat) (x_s : List GPattern) (v_f : V) (x_f : GPattern → Option Bool) (h_f : ∀ y1 q, x_f y1 = some q → CallVP Tryd.prog v_f [.agg [.int .i64 y1.Op, .sl (Ar.lst Encs.eGPattern y1.Args) .ro, .int .i64 y1.Typ, .int .i64 y1.Var, .int .i64 y1.Scope, .int .i64 y1.Span, .int .i64 y1.Cond.Op, .sl (Ar.lst Encs.eGExpr y1.Cond.Args) .ro, .int .i64 y1.Cond.Var, .int .i64 y1.Cond.Field, .int .i64 y1.Cond.Kind, .int .i64 y1.Cond.Value.Kind, .int .i64 y1.Cond.Value.Num, .str y1.Cond.Value.Text]] (.bool q)) (r : Bool) (h : slices_ContainsFunc_LPattern_Pattern N x_s x_f = some r) : CallP Tryd.prog 14 [.sl (Ar.lst Encs.eGPattern x_s) .ro, v_f] (.bool r) := by
  unfold slices_ContainsFunc_LPattern_Pattern at h
  refine callP_of_spec cf14 okP Tryd.func14 (by rfl) (by kernel_rfl) Tryd.call14 Tryd.ntmps14 (by rfl) (by rfl) ?_
  intro E H0 K hE hK
  have hO : Own Eq H0 [] H0 := .start stable_eq rfl
  cbv
  refine n_call hE (g := fun r1 => .int .i64 r1) h (fun r1 hx => c36 N x_s v_f x_f h_f r1 hx) (.refl _) fun r1 h => ?_
  cbv
  have h := ret_some h
  subst h
  exact hK _ _ _ hO (.refl _)

def cf15 : Cf := ⟨[], [], [], [], [], []⟩
theorem c15 (N : Nat) (x_q : GPattern) (r : Bool) (h : law22_DerivativeShrinks_1 N x_q = some r) : CallP Tryd.prog 15 [.agg [.int .i64 x_q.Op, .sl (Ar.lst Encs.eGPattern x_q.Args) .ro, .int .i64 x_q.Typ, .int .i64 x_q.Var, .int .i64 x_q.Scope, .int .i64 x_q.Span, .int .i64 x_q.Cond.Op, .sl (Ar.lst Encs.eGExpr x_q.Cond.Args) .ro, .int .i64 x_q.Cond.Var, .int .i64 x_q.Cond.Field, .int .i64 x_q.Cond.Kind, .int .i64 x_q.Cond.Value.Kind, .int .i64 x_q.Cond.Value.Num, .str x_q.Cond.Value.Text]] (.bool r) := by
  unfold law22_DerivativeShrinks_1 at h
  refine callP_of_spec cf15 okP Tryd.func15 (by rfl) (by kernel_rfl) Tryd.call15 Tryd.ntmps15 (by rfl) (by rfl) ?_
  intro E H0 K hE hK
  have hO : Own Eq H0 [] H0 := .start stable_eq rfl
  cbv
  have h := ret_some h
  subst h
  exact hK _ _ _ hO (.refl _)

def cf16 : Cf := ⟨[], [], [], [], [], []⟩
theorem c16 (N : Nat) (x_p : GPattern) (r : Int) (h : law22_events N x_p = some r) : CallP Tryd.prog 16 [.agg [.int .i64 x_p.Op, .sl (Ar.lst Encs.eGPattern x_p.Args) .ro, .int .i64 x_p.Typ, .int .i64 x_p.Var, .int .i64 x_p.Scope, .int .i64 x_p.Span, .int .i64 x_p.Cond.Op, .sl (Ar.lst Encs.eGExpr x_p.Cond.Args) .ro, .int .i64 x_p.Cond.Var, .int .i64 x_p.Cond.Field, .int .i64 x_p.Cond.Kind, .int .i64 x_p.Cond.Value.Kind, .int .i64 x_p.Cond.Value.Num, .str x_p.Cond.Value.Text]] (.int .i64 r) := by
  unfold law22_events at h
  refine callP_of_spec cf16 okP Tryd.func16 (by rfl) (by kernel_rfl) Tryd.call16 Tryd.ntmps16 (by rfl) (by rfl) ?_
  intro E H0 K hE hK
  have hO : Own Eq H0 [] H0 := .start stable_eq rfl
  cbv
  refine n_call hE (g := fun r1 => .sl (Ar.lst Encs.eGPattern r1) .ro) h (fun r1 hx => c13 N N x_p r1 hx) (.refl _) fun r1 h => ?_
  cbv
  refine n_ln hE ?_
  cbv
  obtain ⟨s3, hx, h⟩ := bind_some h
  refine n_loopN cf16 hE okP (fun s2 => [(3, .v (.int .i64 s2.1)), (7, .v (.sl (Ar.lst Encs.eGPattern r1) .ro)), (8, .v (.int .i64 (Ar.len r1))), (9, .v (.int .i64 s2.2))]) (fun s2 H1 => Own Eq H0 [] H1) (fun x e l H1 => e = .exit 0 ∧ l = [(3, .v (.int .i64 x))] ∧ Own Eq H0 [] H1) (by kernel_rfl) ?_ hx ?_ hO ?_
  · intro s2 H o hO h
    clear hx
    cbv
    refine n_br hE h (fun hc h => ?_) (fun hc h => ?_)
    · cbv
      refine n_idx hE Encs.eGPattern_eq h fun x4 h => ?_
      cbv
      refine n_br hE h (fun hc h => ?_) (fun hc h => ?_)
      · cbv
        have h := ret_some h
        subst h
        exact ⟨_, rfl, .e rfl (.e rfl (.e rfl (.e rfl (.z)))), rfl, hO⟩
      · cbv
        have h := ret_some h
        subst h
        exact ⟨_, rfl, .e rfl (.e rfl (.e rfl (.e rfl (.z)))), rfl, hO⟩
    · cbv
      have h := ret_some h
      subst h
      exact ⟨_, _, rfl, ⟨rfl, rfl, hO⟩, .e rfl (.z), rfl⟩
  · exact .e rfl (.e rfl (.e rfl (.e rfl (.z))))
  · clear hx
    rintro e l H ⟨rfl, rfl, hO⟩
    cbv
    have h := ret_some h
    subst h
    exact hK _ _ _ hO (.refl _)

def cf4 : Cf := ⟨[], [(11, 3)], [(39, 9)], [], [], []⟩
theorem c4 (N : Nat) (x_p : GPattern) (r : Bool) (h : law22_DerivativeShrinks N x_p = some r) : CallP Tryd.prog 4 [.agg [.int .i64 x_p.Op, .sl (Ar.lst Encs.eGPattern x_p.Args) .ro, .int .i64 x_p.Typ, .int .i64 x_p.Var, .int .i64 x_p.Scope, .int .i64 x_p.Span, .int .i64 x_p.Cond.Op, .sl (Ar.lst Encs.eGExpr x_p.Cond.Args) .ro, .int .i64 x_p.Cond.Var, .int .i64 x_p.Cond.Field, .int .i64 x_p.Cond.Kind, .int .i64 x_p.Cond.Value.Kind, .int .i64 x_p.Cond.Value.Num, .str x_p.Cond.Value.Text]] (.bool r) := by
  unfold law22_DerivativeShrinks at h
  refine callP_of_spec cf4 okP Tryd.func4 (by rfl) (by kernel_rfl) Tryd.call4 Tryd.ntmps4 (by rfl) (by rfl) ?_
  intro E H0 K hE hK
  have hO : Own Eq H0 [] H0 := .start stable_eq rfl
  cbv
  refine n_call hE (g := fun r1 => .bool r1) h (fun r1 hx => c10 N x_p r1 hx) (.refl _) fun r1 h => ?_
  cbv
  refine n_br hE h (fun hc h => ?_) (fun hc h => ?_)
  · cbv
    refine n_call hE (g := fun r2 => .bool r2) h (fun r2 hx => c6 N  r2 hx) (.refl _) fun r2 h => ?_
    cbv
    have h := ret_some h
    subst h
    exact hK _ _ _ hO (.refl _)
  · cbv
    refine n_call hE (g := fun r3 => .int .i64 r3) h (fun r3 hx => c11 N x_p r3 hx) (.refl _) fun r3 h => ?_
    cbv
    refine n_br hE h (fun hc h => ?_) (fun hc h => ?_)
    · cbv
      refine n_call hE (g := fun r4 => .bool r4) h (fun r4 hx => c6 N  r4 hx) (.refl _) fun r4 h => ?_
      cbv
      have h := ret_some h
      subst h
      exact hK _ _ _ hO (.refl _)
    · cbv
      refine n_call hE (g := fun r5 => .tup [.sl (Ar.lst Encs.eGEdge r5.1) .ro, .sl (Ar.lst Encs.eGPattern r5.2.1) .ro, .int .i64 r5.2.2]) h (fun r5 hx => c12 N x_p r5 hx) (.refl _) fun r5 h => ?_
      cbv
      refine n_br hE h (fun hc h => ?_) (fun hc h => ?_)
      · cbv
        refine n_br hE h (fun hc h => ?_) (fun hc h => ?_)
        · cbv
          refine n_call hE (g := fun r6 => .bool r6) h (fun r6 hx => c6 N  r6 hx) (.refl _) fun r6 h => ?_
          cbv
          have h := ret_some h
          subst h
          exact hK _ _ _ hO (.refl _)
        · cbv
          have h := ret_some h
          subst h
          exact hK _ _ _ hO (.refl _)
      · cbv
        refine n_call hE (g := fun r7 => .sl (Ar.lst Encs.eGPattern r7) .ro) h (fun r7 hx => c13 N N x_p r7 hx) (.refl _) fun r7 h => ?_
        cbv
        refine n_call hE (g := fun r8 => .bool r8) h (fun r8 hx => c14 N r7 (.func (.func 15) [] []) (fun y1 => law22_DerivativeShrinks_1 N y1) (fun y1 r hx => CallP.value (F := []) (C := []) (c15 N y1 r hx)) r8 hx) (.refl _) fun r8 h => ?_
        cbv
        obtain ⟨s9, hx, h⟩ := bind_some h
        refine n_join cf4 hE okP (fun e l H1 => match (generalizing := false) s9 with | .inl y => e = .normal ∧ l = [(1, .v (.eref [.int .i64 x_p.Op, .sl (Ar.lst Encs.eGPattern x_p.Args) .ro, .int .i64 x_p.Typ, .int .i64 x_p.Var, .int .i64 x_p.Scope, .int .i64 x_p.Span, .int .i64 x_p.Cond.Op, .sl (Ar.lst Encs.eGExpr x_p.Cond.Args) .ro, .int .i64 x_p.Cond.Var, .int .i64 x_p.Cond.Field, .int .i64 x_p.Cond.Kind, .int .i64 x_p.Cond.Value.Kind, .int .i64 x_p.Cond.Value.Num, .str x_p.Cond.Value.Text] 0))] ∧ Own Eq H0 [] H1 | .inr y => e = .ret ∧ l = [(2, .b false)] ∧ Own Eq H0 [] H1) (by kernel_rfl) ?_ ?_
        · clear h
          have h := hx
          clear hx
          cbv
          refine n_br hE h (fun hc h => ?_) (fun hc h => ?_)
          · cbv
            refine n_ln hE ?_
            cbv
            obtain ⟨s11, hx, h⟩ := bind_some h
            refine n_loopN cf4 hE okP (fun s10 => [(1, .v (.eref [.int .i64 x_p.Op, .sl (Ar.lst Encs.eGPattern x_p.Args) .ro, .int .i64 x_p.Typ, .int .i64 x_p.Var, .int .i64 x_p.Scope, .int .i64 x_p.Span, .int .i64 x_p.Cond.Op, .sl (Ar.lst Encs.eGExpr x_p.Cond.Args) .ro, .int .i64 x_p.Cond.Var, .int .i64 x_p.Cond.Field, .int .i64 x_p.Cond.Kind, .int .i64 x_p.Cond.Value.Kind, .int .i64 x_p.Cond.Value.Num, .str x_p.Cond.Value.Text] 0)), (40, .v (.sl (Ar.lst Encs.eGPattern r5.2.1) .ro)), (41, .v (.int .i64 (Ar.len r5.2.1))), (42, .v (.int .i64 s10))]) (fun s10 H1 => Own Eq H0 [] H1) (fun x e l H1 => match (generalizing := false) x with | .inl y => e = .exit 0 ∧ l = [(1, .v (.eref [.int .i64 x_p.Op, .sl (Ar.lst Encs.eGPattern x_p.Args) .ro, .int .i64 x_p.Typ, .int .i64 x_p.Var, .int .i64 x_p.Scope, .int .i64 x_p.Span, .int .i64 x_p.Cond.Op, .sl (Ar.lst Encs.eGExpr x_p.Cond.Args) .ro, .int .i64 x_p.Cond.Var, .int .i64 x_p.Cond.Field, .int .i64 x_p.Cond.Kind, .int .i64 x_p.Cond.Value.Kind, .int .i64 x_p.Cond.Value.Num, .str x_p.Cond.Value.Text] 0))] ∧ Own Eq H0 [] H1 | .inr y => e = .ret ∧ l = [(2, .b false)] ∧ Own Eq H0 [] H1) (by kernel_rfl) ?_ hx ?_ hO ?_
            · intro s10 H o hO h
              clear hx
              cbv
              refine n_br hE h (fun hc h => ?_) (fun hc h => ?_)
              · cbv
                refine n_idx hE Encs.eGPattern_eq h fun x12 h => ?_
                cbv
                refine n_pcall hE (g := fun r13 => .int .i64 r13) h (fun r13 hx => c16 N x12 r13 hx) (.refl _) fun r13 h => ?_
                cbv
                refine n_call hE (g := fun r14 => .int .i64 r14) h (fun r14 hx => c16 N x_p r14 hx) (.refl _) fun r14 h => ?_
                cbv
                refine n_br hE h (fun hc h => ?_) (fun hc h => ?_)
                · cbv
                  have h := ret_some h
                  subst h
                  exact ⟨_, _, rfl, ⟨rfl, rfl, hO⟩, .b rfl (.z), rfl⟩
                · cbv
                  have h := ret_some h
                  subst h
                  exact ⟨_, rfl, .e rfl (.e rfl (.e rfl (.e rfl (.z)))), rfl, hO⟩
              · cbv
                have h := ret_some h
                subst h
                exact ⟨_, _, rfl, ⟨rfl, rfl, hO⟩, .e rfl (.z), rfl⟩
            · exact .e rfl (.e rfl (.e rfl (.e rfl (.z))))
            · clear hx
              rcases s11 with y15 | y16
              · rintro e l H ⟨rfl, rfl, hO⟩
                cbv
                have h := ret_some h
                subst h
                exact ⟨_, ⟨rfl, rfl, hO⟩, .e rfl (.z), rfl⟩
              · rintro e l H ⟨rfl, rfl, hO⟩
                cbv
                have h := ret_some h
                subst h
                exact ⟨_, ⟨rfl, rfl, hO⟩, .b rfl (.z), rfl⟩
          · cbv
            have h := ret_some h
            subst h
            exact ⟨_, ⟨rfl, rfl, hO⟩, .e rfl (.z), rfl⟩
        · clear hx
          rcases s9 with y17 | y26
          · rintro e l H ⟨rfl, rfl, hO⟩
            cbv
            refine n_call hE (g := fun r18 => .agg [.int .i64 r18.Op, .sl (Ar.lst Encs.eGExpr r18.Args) .ro, .int .i64 r18.Var, .int .i64 r18.Field, .int .i64 r18.Kind, .int .i64 r18.Value.Kind, .int .i64 r18.Value.Num, .str r18.Value.Text]) h (fun r18 hx => c17 N  r18 hx) (.refl _) fun r18 h => ?_
            cbv
            refine n_call hE (g := fun r19 => .agg [.int .i64 r19.Op, .sl (Ar.lst Encs.eGPattern r19.Args) .ro, .int .i64 r19.Typ, .int .i64 r19.Var, .int .i64 r19.Scope, .int .i64 r19.Span, .int .i64 r19.Cond.Op, .sl (Ar.lst Encs.eGExpr r19.Cond.Args) .ro, .int .i64 r19.Cond.Var, .int .i64 r19.Cond.Field, .int .i64 r19.Cond.Kind, .int .i64 r19.Cond.Value.Kind, .int .i64 r19.Cond.Value.Num, .str r19.Cond.Value.Text]) h (fun r19 hx => c18 N 1 ([(⟨0, [], 1, 15, 0, 0, r18⟩ : GPattern), x_p]) r19 hx) (.cons (.refl _) (.cons (.sl _ (.lstc (.eq (Encs.eGPattern_eq (⟨0, [], 1, 15, 0, 0, r18⟩ : GPattern)) (.agg (.cons (.refl _) (.cons (.lit _ (lst_nil)) (.refl _))))) (.lstc (.eq (Encs.eGPattern_eq x_p) (.refl _)) (.lst0)))) (.refl _))) fun r19 h => ?_
            cbv
            refine n_call hE (g := fun r20 => .tup [.sl (Ar.lst Encs.eGEdge r20.1) .ro, .sl (Ar.lst Encs.eGPattern r20.2.1) .ro, .int .i64 r20.2.2]) h (fun r20 hx => c12 N r19 r20 hx) (.refl _) fun r20 h => ?_
            cbv
            refine n_ln hE ?_
            cbv
            refine n_br hE h (fun hc h => ?_) (fun hc h => ?_)
            · cbv
              refine n_idx hE Encs.eGEdge_eq h fun x21 h => ?_
              cbv
              refine n_br hE h (fun hc h => ?_) (fun hc h => ?_)
              · cbv
                refine n_idx hE Encs.eGEdge_eq h fun x22 h => ?_
                cbv
                refine n_br hE h (fun hc h => ?_) (fun hc h => ?_)
                · cbv
                  refine n_idx hE Encs.eGEdge_eq h fun x23 h => ?_
                  cbv
                  refine n_br hE h (fun hc h => ?_) (fun hc h => ?_)
                  · cbv
                    refine n_call hE (g := fun r24 => .bool r24) h (fun r24 hx => c19 N r20.2.1 ([x_p]) r24 hx) (.cons (.refl _) (.cons (.lit _ (lst_cons ((Encs.eGPattern_eq x_p).symm) (lst_nil))) (.refl _))) fun r24 h => ?_
                    cbv
                    refine n_br hE h (fun hc h => ?_) (fun hc h => ?_)
                    · cbv
                      refine n_call hE (g := fun r25 => .bool r25) h (fun r25 hx => c6 N  r25 hx) (.refl _) fun r25 h => ?_
                      cbv
                      have h := ret_some h
                      subst h
                      exact hK _ _ _ hO (.refl _)
                    · cbv
                      have h := ret_some h
                      subst h
                      exact hK _ _ _ hO (.refl _)
                  · cbv
                    have h := ret_some h
                    subst h
                    exact hK _ _ _ hO (.refl _)
                · cbv
                  have h := ret_some h
                  subst h
                  exact hK _ _ _ hO (.refl _)
              · cbv
                have h := ret_some h
                subst h
                exact hK _ _ _ hO (.refl _)
            · cbv
              have h := ret_some h
              subst h
              exact hK _ _ _ hO (.refl _)
          · rintro e l H ⟨rfl, rfl, hO⟩
            cbv
            have h := ret_some h
            subst h
            exact hK _ _ _ hO (.refl _)

end Go.Ab

/- From a claim's input to abstract values: the world at the start, and what reads as data there. -/
namespace Go.Ab
open Go.RowKit Go.ChangeShapes Go.WideShapes
variable [Glob]

/-- At the start nothing is owned, and nothing of what lies there is written. -/
def g0 (W : World) : Gh := ⟨fun _ => none, fun _ => ⟨0, 0, 0⟩, fun _ => none, fun b o => ∃ v, W.cell? ⟨b, o, none⟩ = some v, 0, W.heap.size⟩

theorem rl0 {W : World} (hg : ∀ n, VR (g0 W) W (.pointer (some ⟨n, 0, none⟩)) (Glob.gl n)) : Rl (g0 W) (fun _ => none) W :=
  ⟨fun id b h => (by cases h), fun id id' b h => (by simp [Gh.at] at h), fun b o h => h, fun id _ => ⟨rfl, rfl, rfl⟩, Nat.le_refl _, hg⟩

def RowV (g : Gh) (w : World) (cs : List Value) (xs : List V) : Prop :=
  cs.length = xs.length ∧ ∀ i, i < xs.length → (cs.getD i undef).oneCell' = true ∧ VR g w (cs.getD i undef) (xs.getD i .bad)

theorem RowV.nil (g : Gh) (w : World) : RowV g w [] [] := ⟨rfl, fun i hi => by simp at hi⟩

theorem RowV.one {g : Gh} {w : World} {v : Value} {x : V} (h1 : v.oneCell' = true) (h : VR g w v x) : RowV g w [v] [x] := by
  refine ⟨rfl, fun i hi => ?_⟩
  have : i = 0 := by simpa using hi
  subst this
  exact ⟨h1, h⟩

theorem RowV.append {g : Gh} {w : World} {cs ds : List Value} {xs ys : List V} (h : RowV g w cs xs) (k : RowV g w ds ys) : RowV g w (cs ++ ds) (xs ++ ys) := by
  refine ⟨by simp [h.1, k.1], fun i hi => ?_⟩
  have hl := h.1
  simp only [List.length_append] at hi
  by_cases hx : i < xs.length
  · have e1 : (cs ++ ds).getD i undef = cs.getD i undef := by simp [List.getD, List.getElem?_append_left (show i < cs.length by omega)]
    have e2 : (xs ++ ys).getD i .bad = xs.getD i .bad := by simp [List.getD, List.getElem?_append_left hx]
    rw [e1, e2]; exact h.2 i hx
  · have e1 : (cs ++ ds).getD i undef = ds.getD (i - xs.length) undef := by simp [List.getD, List.getElem?_append_right (show cs.length ≤ i by omega), hl]
    have e2 : (xs ++ ys).getD i .bad = ys.getD (i - xs.length) .bad := by simp [List.getD, List.getElem?_append_right (show xs.length ≤ i by omega)]
    rw [e1, e2]; exact k.2 _ (by omega)

/-- Two parts of a row that lie side by side. -/
theorem RowV.join {g : Gh} {w : World} {cs : List Value} {xs ys : List V} {a n m : Nat} (h : RowV g w ((cs.drop a).take n) xs) (k : RowV g w ((cs.drop (a + n)).take m) ys) : RowV g w ((cs.drop a).take (n + m)) (xs ++ ys) := by
  have := h.append k
  rwa [show (cs.drop (a + n)) = (cs.drop a).drop n by rw [List.drop_drop], ← List.take_add] at this

theorem RowV.agg {g : Gh} {w : World} {cs : Array Value} {xs : List V} (h : RowV g w cs.toList xs) : VR g w (.agg cs) (.agg xs) := by
  refine .agg (by simpa using h.1) (fun i hi => ?_) fun i hi => ?_
  · have := (h.2 i hi).1
    simpa [List.getD, Array.getD_eq_getD_getElem?] using this
  · have := (h.2 i hi).2
    simpa [List.getD, Array.getD_eq_getD_getElem?] using this

section
variable {H α : Type} {enc : TypeId × Value → H} {P : Program} {W : World} {base : Nat} {spare : Nat → Bool} {held : Bool} {t e : TypeId} {n : Nat}

/-- What reads as data of type t (with n steps) stands for a value of α. -/
def Opens (enc : TypeId × Value → H) (P : Program) (W : World) (base : Nat) (spare : Nat → Bool) (held : Bool) (t : TypeId) (f : α → V) (R : α → DataW H → Prop) (n : Nat) : Prop :=
  ∀ cs x, DataW.trod enc P W base spare held n t cs = some x → ∃ a, RowV (g0 W) W cs (f a).cells ∧ R a x.1

theorem opens_int {k : IntKind} (ht : P.underlying t = some (.int k)) : Opens enc P W base spare held t (V.int k) (fun a d => d = .lit (.int k a)) n := by
  intro cs x h
  obtain ⟨a, rfl, rfl, _⟩ := DataW.trod_int ht h
  exact ⟨a, .one rfl (.int _ _), rfl⟩
theorem opens_bool (ht : P.underlying t = some .bool) : Opens enc P W base spare held t V.bool (fun a d => d = .lit (.bool a)) n := by
  intro cs x h
  obtain ⟨a, rfl, rfl⟩ := DataW.trod_bool ht h
  exact ⟨a, .one rfl (.bool _), rfl⟩
theorem opens_str (ht : P.underlying t = some .string) : Opens enc P W base spare held t V.str (fun a d => d = .lit (.string a.data.toList) ∧ a.size ≤ maxLen) n := by
  intro cs x h
  obtain ⟨a, rfl, rfl, hl⟩ := DataW.trod_string ht h
  exact ⟨a, .one rfl (.str _), rfl, hl⟩

def RL (R : α → DataW H → Prop) (l : List α) (ds : List (DataW H)) : Prop := l.length = ds.length ∧ ∀ (i : Nat) a d, l[i]? = some a → ds[i]? = some d → R a d
def RS (R : α → DataW H → Prop) (l : List α) (d : DataW H) : Prop := l.length ≤ maxLen ∧ ((d = .nil ∧ l = []) ∨ ∃ es sp, d = .slice es sp ∧ RL R l es)

theorem opens_slice {f : α → V} {R : α → DataW H → Prop} (ht : P.underlying t = some (.slice e)) (hc : 0 < P.cellsOf e) (he : Opens enc P W base spare held e f R n) :
    Opens enc P W base spare held t (fun l : List α => .sl (l.map f) .ro) (RS R) (n + 1) := by
  intro cs x h
  rcases DataW.trod_slice ht h with ⟨rfl, rfl⟩ | ⟨a, len, cap, elems, rest, n', hn, rfl, rfl, hb, hl, hm, hlen, hel, hsp, hns⟩
  · exact ⟨[], .one rfl (.sl0 rfl), Nat.zero_le _, .inl ⟨rfl, rfl⟩⟩
  have hn' : n' = n := by omega
  subst hn'
  rcases Nat.eq_zero_or_pos len with h0 | h0
  · subst h0
    have : elems = [] := List.length_eq_zero_iff.1 hlen
    subst this
    exact ⟨[], .one rfl (.sle (.inl rfl)), Nat.zero_le _, .inr ⟨_, _, rfl, rfl, fun i a d hi => by simp at hi⟩⟩
  have one : ∀ i, i < len → ∃ cs' y b, W.cells? base (a.add (i * P.cellsOf e)) (P.cellsOf e) = some cs' ∧ elems[i]? = some y ∧ RowV (g0 W) W cs' (f b).cells ∧ R b y.1 := by
    intro i hi
    have h1 := hel i hi
    have h2 : elems[i]? = some (elems[i]'(by omega)) := by simp [hlen, hi]
    rw [h2] at h1
    obtain ⟨cs', hcs, hy⟩ := Option.bind_eq_some_iff.1 h1
    obtain ⟨b, hr, hR⟩ := he cs' _ hy
    exact ⟨cs', _, b, hcs, h2, hr, hR⟩
  obtain ⟨_, _, b0, _⟩ := one 0 h0
  haveI : Inhabited α := ⟨b0⟩
  obtain ⟨A, hA⟩ := Deep.choose_lt (α := α) (p := fun i b => ∃ cs' y, W.cells? base (a.add (i * P.cellsOf e)) (P.cellsOf e) = some cs' ∧ elems[i]? = some y ∧ RowV (g0 W) W cs' (f b).cells ∧ R b y.1)
    (fun i hi => let ⟨cs', y, b, h1, h2, h3, h4⟩ := one i hi; ⟨b, cs', y, h1, h2, h3, h4⟩)
  have hspot : a.spot = none := by
    obtain ⟨cs', y, h1, _, _, _⟩ := hA 0 h0
    obtain ⟨_, hcl, hcell⟩ := World.cells?_some h1
    have h2 := hcell 0 hc
    have e0 : (a.add (0 * P.cellsOf e)).add 0 = a := by simp [Addr.add]
    rw [e0] at h2
    have h3 : cs'[0]? = some (cs'[0]'(by omega)) := by simp [hcl, hc]
    rw [h3] at h2
    unfold World.cell? at h2
    split at h2
    · split at h2
      · cases h2
      · rename_i hs; simpa using hs
    · cases h2
  obtain ⟨b, o, s⟩ := a
  simp only at hspot
  subst hspot
  let l := (List.range len).map A
  have hll : l.length = len := by simp [l]
  have hg : ∀ i, i < len → (l.map f).getD i .bad = f (A i) := fun i hi => by simp [l, List.getD, hi]
  have cell : ∀ i j, i < len → j < P.cellsOf e → ∃ v, W.cell? ⟨b, o + i * P.cellsOf e + j, none⟩ = some v ∧ v.oneCell' = true ∧ VR (g0 W) W v ((f (A i)).cells.getD j .bad) := by
    intro i j hi hj
    obtain ⟨cs', y, h1, _, hr, _⟩ := hA i hi
    obtain ⟨_, hcl, hcell⟩ := World.cells?_some h1
    have h2 := hcell j hj
    rw [addr_add, addr_add] at h2
    have h3 : cs'[j]? = some (cs'.getD j undef) := by simp [List.getD, hcl, hj]
    rw [h3] at h2
    have := hr.2 j (by rw [← hr.1, hcl]; exact hj)
    exact ⟨_, h2, this.1, this.2⟩
  refine ⟨l, .one rfl ?_, by omega, .inr ⟨_, _, rfl, by simp [hll, hlen], fun i a' d hi hd => ?_⟩⟩
  · have hz : ∀ i, i < len → ((l.map f).getD i .bad).cells.length = P.cellsOf e := fun i hi => by
      obtain ⟨cs', y, h1, _, hr, _⟩ := hA i hi
      obtain ⟨_, hcl, _⟩ := World.cells?_some h1
      rw [hg i hi, ← hr.1, hcl]
    refine .sl (sz := P.cellsOf e) (fun i j => (W.cell? ⟨b, o + i * P.cellsOf e + j, none⟩).getD undef) (by simp [hll]) hl hz (fun i j hi hj => ?_) (fun i j hi hj => ?_) (fun i j hi hj => ?_) (fun i j hi hj => ?_) trivial
    · obtain ⟨v, h1, _⟩ := cell i j hi hj; exact ⟨v, h1⟩
    · obtain ⟨v, h1, _⟩ := cell i j hi hj; rw [h1]; rfl
    · obtain ⟨v, h1, h2, _⟩ := cell i j hi hj; rw [h1]; exact h2
    · obtain ⟨v, h1, h2, h3⟩ := cell i j hi hj; rw [h1, hg i hi]; exact h3
  · have hi' : i < len := by
      rcases Nat.lt_or_ge i l.length with h | h
      · omega
      · rw [List.getElem?_eq_none h] at hi; cases hi
    obtain ⟨cs', y, h1, h2, h3, h4⟩ := hA i hi'
    have e1 : a' = A i := by simp [l, hi'] at hi; exact hi.symm
    have e2 : d = y.1 := by simp [h2] at hd; exact hd.symm
    rw [e1, e2]; exact h4

/-- A field of what reads as a struct. -/
theorem field_some {fs : Array Field} {xs : List (DataW H × List MemPlace)} {cs : List Value} {n : Nat} (hl : xs.length = fs.size)
    (hf : ∀ (i : Nat) (f : Field), fs[i]? = some f → DataW.trod enc P W base spare held n f.type ((cs.drop f.offset).take (P.cellsOf f.type)) = xs[i]?) (i : Nat) {f : Field} (h : fs[i]? = some f) :
    ∃ y, xs[i]? = some y ∧ DataW.trod enc P W base spare held n f.type ((cs.drop f.offset).take (P.cellsOf f.type)) = some y := by
  have hi : i < fs.size := by
    rcases Nat.lt_or_ge i fs.size with h' | h'
    · exact h'
    · rw [Array.getElem?_eq_none h'] at h; cases h
  have h1 : xs[i]? = some (xs[i]'(by omega)) := by simp [hl, hi]
  exact ⟨_, h1, by rw [hf i f h, h1]⟩
end
end Go.Ab

