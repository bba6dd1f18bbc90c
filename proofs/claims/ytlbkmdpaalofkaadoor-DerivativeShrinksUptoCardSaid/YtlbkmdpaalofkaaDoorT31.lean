/- A part of the proof: GDM6 GDM7 GDM8 GDM9. -/
import Derived.Test.YtlbkmdpaalofkaaDoorT30
set_option linter.unusedVariables false
set_option linter.unusedSimpArgs false
set_option linter.unusedSectionVars false

/- The check of one node of a pattern: the program's and the reference's are the same. -/
namespace Go.Ab

def badB (u : Bool) (n m : Int) : Bool := u && (decide (n < 0) || decide (m < n))
def unusedB (u : Bool) (n : Int) : Bool := u || decide (n = 0)

theorem within_eq (N : Nat) (u : Bool) (n m : Int) : pattern_within N u n m = some (!badB u n m) := by
  unfold pattern_within
  simp only [or_def, an_def, nt_def, cmp_geq, cmp_leq, badB]
  cases u
  · rfl
  · by_cases h1 : n < 0 <;> by_cases h2 : m < n <;> simp [h1, h2] <;> omega
theorem unused_eq (N : Nat) (u : Bool) (n : Int) : pattern_unused N u n = some (unusedB u n) := rfl
theorem bad_eq (N : Nat) (u : Bool) (n m : Int) : ref09_bad N u n m = some (badB u n m) := rfl

/-- The check of one node, by its shape. -/
noncomputable def patBad (s : Gpattern_shape) (x : GPattern) (sz : Bool) : Int :=
  if badB s.typed x.Typ 15 = true then 2
  else if badB s.typed x.Var 15 = true then 2
  else if badB s.scope x.Scope 63 = true then 2
  else if badB s.span x.Span 1099511627776 = true then 2
  else if s.cond = true ∧ exprCheck x.Cond ≠ 0 then exprCheck x.Cond
  else if (s.cond || sz) = true ∧ unusedB s.typed x.Typ = true ∧ unusedB s.typed x.Var = true ∧ unusedB s.scope x.Scope = true ∧ unusedB s.span x.Span = true then 0 else 3

structure ShapeOk (N : Nat) (x : GPattern) (s : Gpattern_shape) (ng : Bool) : Prop where
  tab : idxL tab_pattern_shapes x.Op = some s
  var : ref09_variable N x = some s.typed
  neg : ref09_Negates N x = some ng
  tim : ref09_Times N x = some s.span
  con : ref09_condition N x = some s.cond
  sco : s.scope = (ng || s.span)
  ari : ref09_arity N x = some (decide (s.least ≤ x.Args.length ∧ (x.Args.length : Int) ≤ s.most))

theorem dec_eq (n k : Int) : decide (n = k) = (decide (k ≤ n) && decide (n ≤ k)) := by
  rw [← Bool.decide_and]
  exact decide_eq_decide.2 ⟨fun h => by omega, fun h => by omega⟩

theorem shape_ok (N : Nat) (x : GPattern) (h0 : 0 ≤ x.Op) (h1 : x.Op ≤ 10) (hl : x.Args.length ≤ 64) : ∃ s ng, ShapeOk N x s ng := by
  obtain ⟨op, args, typ, var, scope, span, c⟩ := x
  simp only at h0 h1 hl
  have h : op = 0 ∨ op = 1 ∨ op = 2 ∨ op = 3 ∨ op = 4 ∨ op = 5 ∨ op = 6 ∨ op = 7 ∨ op = 8 ∨ op = 9 ∨ op = 10 := by omega
  rcases h with h | h | h | h | h | h | h | h | h | h | h
  all_goals
    subst h
    refine ⟨_, _, rfl, rfl, rfl, rfl, rfl, rfl, ?_⟩
    unfold ref09_arity
    simp only [cmp_eql, cmp_geq, len_def]
    simp
    try first | omega | exact dec_eq _ _

theorem op_ok {x : GPattern} (h0 : 0 ≤ x.Op) (h1 : x.Op ≤ 10) : ¬ (Ar.or (Ar.cmp .lss x.Op 0) (Ar.cmp .geq x.Op 11) = true) := by
  simp only [or_def, cmp_lss, cmp_geq, Bool.or_eq_true, decide_eq_true_eq]; omega
theorem op_okr {x : GPattern} (h0 : 0 ≤ x.Op) (h1 : x.Op ≤ 10) : ¬ (Ar.or (Ar.cmp .lss x.Op 0) (Ar.cmp .gtr x.Op 10) = true) := by
  simp only [or_def, cmp_lss, cmp_gtr, Bool.or_eq_true, decide_eq_true_eq]; omega
theorem op_no {x : GPattern} (h : ¬ (0 ≤ x.Op ∧ x.Op ≤ 10)) : Ar.or (Ar.cmp .lss x.Op 0) (Ar.cmp .geq x.Op 11) = true ∧ Ar.or (Ar.cmp .lss x.Op 0) (Ar.cmp .gtr x.Op 10) = true := by
  simp only [or_def, cmp_lss, cmp_geq, cmp_gtr, Bool.or_eq_true, decide_eq_true_eq]; omega

theorem check_pat {N : Nat} (hN : 40000000 ≤ N) {x : GPattern} (hb : x.Cond.bulk ≤ 16777216) (h0 : 0 ≤ x.Op) (h1 : x.Op ≤ 10) {s : Gpattern_shape} {ng : Bool} (hs : ShapeOk N x s ng) {sz : Bool}
    (hz : ref08_Same N N x.Cond (⟨0, [], 0, 0, 0, (⟨0, 0, ⟨#[]⟩⟩ : GValue)⟩ : GExpr) = some sz) :
    pattern_check N x = some (if s.least ≤ x.Args.length ∧ (x.Args.length : Int) ≤ s.most then patBad s x sz else 15) := by
  unfold pattern_check
  rw [if_neg (op_ok h0 h1), hs.tab]
  simp only [Option.bind_some]
  by_cases ha : s.least ≤ x.Args.length ∧ (x.Args.length : Int) ≤ s.most
  · rw [if_pos ha, if_neg (by simp only [or_def, cmp_lss, cmp_gtr, len_def, Bool.or_eq_true, decide_eq_true_eq]; omega)]
    rw [within_eq, within_eq, within_eq, within_eq, check_eq8 hN hb, same_same, hz]
    simp only [unused_eq, Option.bind_some]
    unfold patBad
    generalize badB s.typed x.Typ 15 = b1
    generalize badB s.typed x.Var 15 = b2
    generalize badB s.scope x.Scope 63 = b3
    generalize badB s.span x.Span 1099511627776 = b4
    generalize unusedB s.typed x.Typ = c1
    generalize unusedB s.typed x.Var = c2
    generalize unusedB s.scope x.Scope = c3
    generalize unusedB s.span x.Span = c4
    generalize exprCheck x.Cond = ec
    cases b1 with
    | true => rfl
    | false =>
      cases b2 with
      | true => rfl
      | false =>
        cases b3 with
        | true => rfl
        | false =>
          cases b4 with
          | true => rfl
          | false =>
            cases s.cond with
            | false =>
              cases sz with
              | false => rfl
              | true =>
                cases c1 with
                | false => rfl
                | true =>
                  cases c2 with
                  | false => rfl
                  | true =>
                    cases c3 with
                    | false => rfl
                    | true =>
                      cases c4 <;> rfl
            | true =>
              by_cases he : ec = 0
              · subst he
                cases c1 with
                | false => cases sz <;> rfl
                | true =>
                  cases c2 with
                  | false => cases sz <;> rfl
                  | true =>
                    cases c3 with
                    | false => cases sz <;> rfl
                    | true =>
                      cases c4 <;> cases sz <;> rfl
              · simp [nt_def, ne_true he, he]
  · rw [if_neg ha, if_pos (by simp only [or_def, cmp_lss, cmp_gtr, len_def, Bool.or_eq_true, decide_eq_true_eq]; omega)]

theorem junk1_eq (u : Bool) (n : Int) : Ar.an (Ar.nt u) (Ar.cmp .neq n 0) = !unusedB u n := by
  simp only [an_def, nt_def, cmp_neq, unusedB, Bool.not_or]
theorem junk_eq (u w : Bool) (t v sc : Int) : Ar.or (Ar.an (Ar.nt u) (Ar.or (Ar.cmp .neq t 0) (Ar.cmp .neq v 0))) (Ar.an (Ar.nt w) (Ar.cmp .neq sc 0)) = ((!unusedB u t || !unusedB u v) || !unusedB w sc) := by
  rw [junk1_eq]
  simp only [or_def, an_def, nt_def, cmp_neq, unusedB]
  cases u <;> simp

theorem check_patr {N : Nat} (hN : 40000000 ≤ N) {x : GPattern} (hb : x.Cond.bulk ≤ 16777216) (h0 : 0 ≤ x.Op) (h1 : x.Op ≤ 10) {s : Gpattern_shape} {ng : Bool} (hs : ShapeOk N x s ng) {sz : Bool}
    (hz : ref08_Same N N x.Cond (⟨0, [], 0, 0, 0, (⟨0, 0, ⟨#[]⟩⟩ : GValue)⟩ : GExpr) = some sz) :
    ref09_node N x = some (if s.least ≤ x.Args.length ∧ (x.Args.length : Int) ≤ s.most then patBad s x sz else 15) := by
  unfold ref09_node
  rw [if_neg (op_okr h0 h1), hs.ari, hs.var, hs.neg, hs.tim, hs.con, check_eq8r hN hb, hz]
  simp only [Option.bind_some]
  by_cases ha : s.least ≤ x.Args.length ∧ (x.Args.length : Int) ≤ s.most
  · rw [if_pos ha, if_neg (by simp [nt_def, ha])]
    have sco := hs.sco
    simp only [bad_eq, Option.bind_some]
    cases ng
    · rw [if_neg (by simp)]
      simp only [Bool.false_or] at sco
      rw [junk_eq, junk1_eq]
      unfold patBad
      rw [sco]
      generalize badB s.typed x.Typ 15 = b1
      generalize badB s.typed x.Var 15 = b2
      generalize badB s.span x.Scope 63 = b3
      generalize badB s.span x.Span 1099511627776 = b4
      generalize unusedB s.typed x.Typ = c1
      generalize unusedB s.typed x.Var = c2
      generalize unusedB s.span x.Scope = c3
      generalize unusedB s.span x.Span = c4
      generalize exprCheck x.Cond = ec
      cases b1 with
      | true => rfl
      | false =>
        cases b2 with
        | true => rfl
        | false =>
          cases b3 with
          | true => rfl
          | false =>
            cases b4 with
            | true => rfl
            | false =>
              cases s.cond with
              | false => cases sz <;> cases c1 <;> cases c2 <;> cases c3 <;> cases c4 <;> rfl
              | true =>
                by_cases he : ec = 0
                · subst he; cases sz <;> cases c1 <;> cases c2 <;> cases c3 <;> cases c4 <;> rfl
                · simp [ne_true he, he]
    · rw [if_pos rfl]
      simp only [Bool.true_or] at sco
      rw [junk_eq, junk1_eq]
      unfold patBad
      rw [sco]
      generalize badB s.typed x.Typ 15 = b1
      generalize badB s.typed x.Var 15 = b2
      generalize badB true x.Scope 63 = b3
      generalize badB s.span x.Span 1099511627776 = b4
      generalize unusedB s.typed x.Typ = c1
      generalize unusedB s.typed x.Var = c2
      generalize unusedB true x.Scope = c3
      generalize unusedB s.span x.Span = c4
      generalize exprCheck x.Cond = ec
      cases b1 with
      | true => rfl
      | false =>
        cases b2 with
        | true => rfl
        | false =>
          cases b3 with
          | true => rfl
          | false =>
            cases b4 with
            | true => rfl
            | false =>
              cases s.cond with
              | false => cases sz <;> cases c1 <;> cases c2 <;> cases c3 <;> cases c4 <;> rfl
              | true =>
                by_cases he : ec = 0
                · subst he; cases sz <;> cases c1 <;> cases c2 <;> cases c3 <;> cases c4 <;> rfl
                · simp [ne_true he, he]
  · rw [if_neg ha, if_pos (by simp only [nt_def, decide_eq_false ha]; rfl)]

end Go.Ab

/- The checks of a pattern, whole. -/
namespace Go.Ab

mutual
theorem mem_pre : ∀ (x y : GPattern), y ∈ x.pre → y.bulk ≤ x.bulk ∧ y.pre.length ≤ x.pre.length
  | ⟨op, args, typ, var, scope, span, c⟩, y, h => by
    rw [GPattern.pre] at h
    rcases List.mem_cons.1 h with rfl | h
    · exact ⟨Nat.le_refl _, Nat.le_refl _⟩
    · have := mem_pres args y h
      simp only [GPattern.bulk, GPattern.pre, List.length_cons]
      omega
theorem mem_pres : ∀ (l : List GPattern) (y : GPattern), y ∈ GPattern.pres l → y.bulk ≤ GPattern.bulks l ∧ y.pre.length ≤ (GPattern.pres l).length
  | [], y, h => by simp [GPattern.pres] at h
  | a :: l, y, h => by
    rw [GPattern.pres] at h
    rcases List.mem_append.1 h with h | h
    · have := mem_pre a y h
      simp only [GPattern.bulks, GPattern.pres, List.length_append]; omega
    · have := mem_pres l y h
      simp only [GPattern.bulks, GPattern.pres, List.length_append]; omega
end
theorem args_pres : ∀ l : List GPattern, l.length ≤ (GPattern.pres l).length
  | [] => Nat.le_refl _
  | a :: l => by
    have := args_pres l
    simp only [GPattern.pres, GPattern.pre_eq a, List.length_append, List.length_cons]; omega
theorem args_pre (x : GPattern) : x.Args.length < x.pre.length := by
  rw [GPattern.pre_eq]; have := args_pres x.Args; simp only [List.length_cons]; omega

noncomputable def nodeBad (N : Nat) (y : GPattern) : Int := (ref09_node N y).getD 0

theorem node_both {N : Nat} (hN : 40000000 ≤ N) {y : GPattern} (hb : y.bulk ≤ 16777216) (hl : y.Args.length ≤ 64) : pattern_check N y = some (nodeBad N y) ∧ ref09_node N y = some (nodeBad N y) := by
  have hc : y.Cond.bulk ≤ 16777216 := by have := GPattern.bulk_eq y; omega
  have key : ∃ r, pattern_check N y = some r ∧ ref09_node N y = some r := by
    by_cases h : 0 ≤ y.Op ∧ y.Op ≤ 10
    · obtain ⟨s, ng, hs⟩ := shape_ok N y h.1 h.2 hl
      obtain ⟨sz, hz⟩ := same_zero hN y.Cond
      exact ⟨_, check_pat hN hc h.1 h.2 hs hz, check_patr hN hc h.1 h.2 hs hz⟩
    · obtain ⟨h1, h2⟩ := op_no h
      exact ⟨1, by unfold pattern_check; rw [if_pos h1], by unfold ref09_node; rw [if_pos h2]⟩
  obtain ⟨r, h1, h2⟩ := key
  have e : nodeBad N y = r := by unfold nodeBad; rw [h2]; rfl
  rw [e]; exact ⟨h1, h2⟩

/-- The check of a pattern. -/
noncomputable def restBad (N : Nat) (x : GPattern) : Int := if 64 < x.pre.length then 5 else if 12 < x.dep then 12 else bad1 (nodeBad N) x.pre

theorem preorder_eq {N : Nat} (hN : 40000000 ≤ N) {x : GPattern} (hb : x.bulk ≤ 16777216) : pattern_preorder N x = some x.pre := by
  unfold pattern_preorder pattern_preorder_1
  rw [walk_eq hN N x (by omega) hb]
  simp [thenE]

theorem rest_eq {N : Nat} (hN : 40000000 ≤ N) {x : GPattern} (hb : x.bulk ≤ 16777216) : pattern_CheckRest N x = some (restBad N x) := by
  unfold pattern_CheckRest restBad
  rw [size_eq hN N x (by omega) hb]
  simp only [Option.bind_some]
  by_cases h1 : 64 < x.pre.length
  · rw [if_pos h1, if_pos (gt_true (by omega))]
  · rw [if_neg h1, if_neg (gt_false (by omega))]
    by_cases h2 : 12 < x.dep
    · rw [if_pos h2, if_pos (gt_true (by omega))]
    · rw [if_neg h2, if_neg (gt_false (by omega)), preorder_eq hN hb]
      simp only [Option.bind_some]
      rw [range_bad (f := nodeBad N) fun y hy => (node_both hN (by have := mem_pre x y hy; omega) (by have := mem_pre x y hy; have := args_pre y; omega)).1]
      by_cases h3 : bad1 (nodeBad N) x.pre = 0
      · rw [if_pos h3]; simp [h3]
      · rw [if_neg h3]; rfl

theorem rest_eqr {N : Nat} (hN : 40000000 ≤ N) {x : GPattern} (hb : x.bulk ≤ 16777216) : ref09_CheckRest N x = some (restBad N x) := by
  unfold ref09_CheckRest restBad
  obtain ⟨r, h0, c1, c2, c3⟩ := total_eq hN 64 N x (by omega) hb
  rw [h0]
  simp only [Option.bind_some]
  by_cases h1 : 64 < x.pre.length
  · rw [if_pos h1, if_pos (gt_true (by omega))]
  · rw [if_neg h1, if_neg (gt_false (by omega)), depth_eq hN N x (by omega) hb]
    simp only [Option.bind_some]
    by_cases h2 : 12 < x.dep
    · rw [if_pos h2, if_pos (gt_true (by omega))]
    · rw [if_neg h2, if_neg (gt_false (by omega)), nodes_eq hN N x (by omega) hb]
      simp only [Option.bind_some]
      rw [loop_list x.pre (by omega) (mk := fun (_ : Unit) i => i) (body := stepBad (ref09_node N)) (fin := fun _ => .inl ()) (s := ()) (by omega) ?_ ?_]
      · rw [range_stepBad (f := nodeBad N) fun y hy => (node_both hN (by have := mem_pre x y hy; omega) (by have := mem_pre x y hy; have := args_pre y; omega)).2]
        by_cases h3 : bad1 (nodeBad N) x.pre = 0
        · simp [h3]
        · simp [h3]
      · intro s i a ha hi
        have e : Ar.ar .add .i64 (i : Int) 1 = i + 1 := add_i64 (by omega) (by omega)
        simp only [cmp_lss, len_def, hi, decide_true, if_true, idx_at, ha, Option.bind_some, e, stepBad, cmp_neq]
        cases ref09_node N a with
        | none => rfl
        | some r => by_cases h : r = 0 <;> simp [h]
      · intro s; simp [cmp_lss, len_def]

end Go.Ab

/- The active guards of a checked pattern: the program's and the reference's are the same. -/
namespace Go.Ab

def Good (N : Nat) (x : GPattern) : Prop := ∀ y ∈ x.pre, nodeBad N y = 0

theorem sub_pres_p {a y : GPattern} (hy : y ∈ a.pre) : ∀ l : List GPattern, a ∈ l → y ∈ GPattern.pres l
  | [], h => by simp at h
  | b :: l, h => by
    rcases List.mem_cons.1 h with rfl | h
    · simp [GPattern.pres, hy]
    · simp [GPattern.pres, sub_pres_p hy l h]
theorem Good.arg {N : Nat} {x a : GPattern} (h : Good N x) (ha : a ∈ x.Args) : Good N a := fun y hy => h y (by
  rw [GPattern.pre_eq]; exact List.mem_cons_of_mem _ (sub_pres_p hy _ ha))

theorem pre_arg {x a : GPattern} (ha : a ∈ x.Args) : a.pre.length < x.pre.length := by
  have := (mem_pres x.Args a (sub_pres_p (by rw [GPattern.pre_eq]; simp) _ ha)).2
  rw [GPattern.pre_eq x]; simp only [List.length_cons]; omega

/-- A checked node has the operands that its operator wants. -/
theorem arg0 {N : Nat} (hN : 40000000 ≤ N) {y : GPattern} (hb : y.bulk ≤ 16777216) (hl : y.Args.length ≤ 64) (h : nodeBad N y = 0) (ho : y.Op = 1 ∨ y.Op = 7 ∨ y.Op = 8 ∨ y.Op = 9 ∨ y.Op = 10) : ∃ a r, y.Args = a :: r := by
  have hc : y.Cond.bulk ≤ 16777216 := by have := GPattern.bulk_eq y; omega
  obtain ⟨s, ng, hs⟩ := shape_ok N y (by omega) (by omega) hl
  obtain ⟨sz, hz⟩ := same_zero hN y.Cond
  have h1 := check_patr hN hc (by omega) (by omega) hs hz
  rw [(node_both hN hb hl).2, h] at h1
  have h2 : s.least ≤ y.Args.length := by
    have h1 := Option.some.inj h1
    by_cases hc : s.least ≤ y.Args.length ∧ (y.Args.length : Int) ≤ s.most
    · exact hc.1
    · rw [if_neg hc] at h1; cases h1
  have h3 : 1 ≤ s.least := by
    have ht := hs.tab
    rcases ho with h | h | h | h | h <;> rw [h] at ht <;> cases ht <;> decide
  match he : y.Args, h2 with
  | [], h2 => simp at h2; omega
  | a :: r, _ => exact ⟨a, r, rfl⟩

noncomputable def stepApp (F : GPattern → Option (List GGuard)) (s : List GGuard) (a : GPattern) : Option (List GGuard ⊕ List GGuard) := (F a).bind fun r => (appL s r).bind fun l => some (.inl l)

theorem range_act {F G : GPattern → Option (List GGuard)} : ∀ (l : List GPattern) (s : List GGuard), s.length + (GPattern.pres l).length ≤ 40000000 → (∀ g ∈ s, g.Cond.bulk ≤ 16777216) →
    (∀ a ∈ l, ∃ r, F a = some r ∧ G a = some r ∧ r.length ≤ a.pre.length ∧ ∀ g ∈ r, g.Cond.bulk ≤ 16777216) →
    ∃ r, rangeL (stepApp F) l s = some (.inl r) ∧ rangeL (stepApp G) l s = some (.inl r) ∧ r.length ≤ s.length + (GPattern.pres l).length ∧ ∀ g ∈ r, g.Cond.bulk ≤ 16777216
  | [], s, _, hs, _ => ⟨s, rfl, rfl, by omega, hs⟩
  | a :: l, s, hb, hs, h => by
    obtain ⟨r, h1, h2, h3, h4⟩ := h a (by simp)
    simp only [GPattern.pres, List.length_append] at hb ⊢
    obtain ⟨r2, k1, k2, k3, k4⟩ := range_act l (s ++ r) (by simp only [List.length_append]; omega) (fun g hg => by rcases List.mem_append.1 hg with hg | hg; exact hs g hg; exact h4 g hg) fun b hb => h b (by simp [hb])
    simp only [List.length_append] at k3
    refine ⟨r2, ?_, ?_, by omega, k4⟩
    · unfold rangeL stepApp
      rw [h1]; simp only [Option.bind_some]; rw [appL_eq (by omega)]; exact k1
    · unfold rangeL stepApp
      rw [h2]; simp only [Option.bind_some]; rw [appL_eq (by omega)]; exact k2

theorem eql_true {a b : Int} (h : a = b) : Ar.cmp .eql a b = true := by rw [cmp_eql]; exact decide_eq_true h
theorem eql_false {a b : Int} (h : ¬ a = b) : Ar.cmp .eql a b = false := by rw [cmp_eql]; exact decide_eq_false h

/-- The reference's loop over the first places. -/
theorem ref_loop {N : Nat} (hN : 40000000 ≤ N) {F : GPattern → Option (List GGuard)} {x : GPattern} (hb : x.Args.length ≤ 16777216) (l : List GPattern) (k : Int) (hk : k = l.length) (hl : ∀ (i : Nat) a, l[i]? = some a → x.Args[i]? = some a) (hle : l.length ≤ x.Args.length) (s : List GGuard) :
    loopN (fun (s6 : List GGuard × Int) => if Ar.cmp .lss s6.2 k = true then (idxL x.Args s6.2).bind fun x9 => (F x9).bind fun r10 => (appL s6.1 r10).bind fun l12 => some (.inl (l12, Ar.ar .add .i64 s6.2 1)) else some (.inr s6.1)) N (s, 0) =
      (rangeL (stepApp F) l s).bind fun o => match o with | .inl s => some s | .inr r => some r := by
  subst hk
  rw [loop_list l (by omega) (mk := fun (s : List GGuard) i => (s, i)) (body := stepApp F) (fin := fun s => s) (s := s) (by omega) ?_ ?_]
  · cases rangeL (stepApp F) l s with
    | none => rfl
    | some o => cases o <;> rfl
  · intro s i a ha hi
    have e : Ar.ar .add .i64 (i : Int) 1 = i + 1 := add_i64 (by omega) (by omega)
    simp only [cmp_lss, hi, decide_true, if_true, idx_at, hl i a ha, Option.bind_some, e, stepApp]
    cases F a with
    | none => rfl
    | some r => simp only [Option.bind_some]; cases appL s r <;> rfl
  · intro s; simp [cmp_lss]

theorem active_both {N : Nat} (hN : 40000000 ≤ N) : ∀ (n : Nat) (x : GPattern), x.bulk ≤ n → x.bulk ≤ 16777216 → x.pre.length ≤ 64 → Good N x →
    ∃ r, derivative_active N n x = some r ∧ ref22_Active N n x = some r ∧ r.length ≤ x.pre.length ∧ ∀ g ∈ r, g.Cond.bulk ≤ 16777216 := by
  intro n
  induction n with
  | zero => intro x h; have := bulk_pos x; omega
  | succ n ih =>
    intro x hx hb hp hg
    have hl := len_bulk x
    have hap := args_pre x
    have hself : nodeBad N x = 0 := hg x (by rw [GPattern.pre_eq]; simp)
    have hxb := GPattern.bulk_eq x
    have hrec : ∀ a ∈ x.Args, ∃ r, derivative_active N n a = some r ∧ ref22_Active N n a = some r ∧ r.length ≤ a.pre.length ∧ ∀ g ∈ r, g.Cond.bulk ≤ 16777216 := fun a ha => by
      have := mem_bulk ha
      have := pre_arg ha
      exact ih a (by omega) (by omega) (by omega) (hg.arg ha)
    unfold derivative_active ref22_Active
    by_cases h9 : x.Op = 9
    · obtain ⟨a, l, he⟩ := arg0 hN hb (by omega) hself (by omega)
      obtain ⟨r, k1, k2, k3, k4⟩ := hrec a (by rw [he]; simp)
      have hpa := pre_arg (x := x) (a := a) (by rw [he]; simp)
      have hi : idxL x.Args 0 = some a := by rw [he]; rfl
      refine ⟨(⟨x.Scope, x.Typ, x.Var, x.Cond⟩ : GGuard) :: r, ?_, ?_, by simp only [List.length_cons]; omega, fun g hgm => ?_⟩
      · simp only [eql_false (show ¬ x.Op = 1 by omega), eql_false (show ¬ x.Op = 8 by omega), eql_false (show ¬ x.Op = 3 by omega), eql_true h9, Option.bind_some, Bool.false_eq_true, if_false, if_true, hi, k1]
        rw [appL_eq (by simp)]
        simp only [Option.bind_some]
        rw [appL_eq (by simp only [List.length_append, List.length_cons, List.length_nil]; omega)]
        rfl
      · simp only [eql_true h9, if_true]
        rw [appL_eq (by simp)]
        simp only [Option.bind_some, List.nil_append]
        rw [ref_loop hN (by omega) [a] 1 rfl (fun i b hi => by rw [he]; cases i with
          | zero => simpa using hi
          | succ i => simp at hi) (by rw [he]; simp)]
        unfold rangeL stepApp
        rw [k2]
        simp only [Option.bind_some]
        rw [appL_eq (by simp only [List.length_cons, List.length_nil]; omega)]
        rfl
      · rcases List.mem_cons.1 hgm with rfl | hgm
        · simp only; omega
        · exact k4 g hgm
    by_cases h3 : x.Op = 3
    · obtain ⟨r, k1, k2, k3, k4⟩ := range_act (F := derivative_active N n) (G := ref22_Active N n) x.Args [] (by have := pres_bulk_p x.Args; simp only [List.length_nil]; omega) (fun g h => by simp at h) hrec
      refine ⟨r, ?_, ?_, ?_, k4⟩
      · simp only [eql_false (show ¬ x.Op = 1 by omega), eql_false (show ¬ x.Op = 8 by omega), eql_true h3, Option.bind_some, Bool.false_eq_true, if_false, if_true]
        have := ref_loop (N := N) hN (F := derivative_active N n) (x := x) (by omega) x.Args (Ar.len x.Args) rfl (fun i a h => h) (Nat.le_refl _) []
        rw [this, k1]; rfl
      · simp only [eql_false (show ¬ x.Op = 9 by omega), eql_false (show ¬ x.Op = 1 by omega), eql_false (show ¬ x.Op = 8 by omega), eql_false (show ¬ x.Op = 10 by omega), eql_false (show ¬ x.Op = 7 by omega), eql_true h3, Option.bind_some, Bool.false_eq_true, if_false, if_true]
        rw [ref_loop hN (by omega) x.Args (Ar.len x.Args) rfl (fun i a h => h) (Nat.le_refl _), k2]; rfl
      · rw [GPattern.pre_eq]; simp only [List.length_cons, List.length_nil] at k3 ⊢; omega
    by_cases h1 : x.Op = 1 ∨ x.Op = 8 ∨ x.Op = 10 ∨ x.Op = 7
    · obtain ⟨a, l, he⟩ := arg0 hN hb (by omega) hself (by omega)
      obtain ⟨r, k1, k2, k3, k4⟩ := hrec a (by rw [he]; simp)
      have hpa := pre_arg (x := x) (a := a) (by rw [he]; simp)
      have hi : idxL x.Args 0 = some a := by rw [he]; rfl
      refine ⟨r, ?_, ?_, by omega, k4⟩
      · rcases h1 with h1 | h1 | h1 | h1
        · simp only [eql_true h1, if_true, Option.bind_some, hi, k1]
        · simp only [eql_false (show ¬ x.Op = 1 by omega), eql_true h1, if_true, Option.bind_some, hi, k1, Bool.false_eq_true, if_false]
        · simp only [eql_false (show ¬ x.Op = 1 by omega), eql_false (show ¬ x.Op = 8 by omega), eql_false (show ¬ x.Op = 3 by omega), eql_false (show ¬ x.Op = 9 by omega), eql_true h1, if_true, Option.bind_some, hi, k1, Bool.false_eq_true, if_false]
        · simp only [eql_false (show ¬ x.Op = 1 by omega), eql_false (show ¬ x.Op = 8 by omega), eql_false (show ¬ x.Op = 3 by omega), eql_false (show ¬ x.Op = 9 by omega), eql_false (show ¬ x.Op = 10 by omega), eql_true h1, if_true, Option.bind_some, hi, k1, Bool.false_eq_true, if_false]
      · have hloop := ref_loop (N := N) hN (F := ref22_Active N n) (x := x) (by omega) [a] 1 rfl (fun i b hi => by rw [he]; cases i with
          | zero => simpa using hi
          | succ i => simp at hi) (by rw [he]; simp) []
        have hr : rangeL (stepApp (ref22_Active N n)) [a] [] = some (.inl r) := by
          unfold rangeL stepApp
          rw [k2]
          simp only [Option.bind_some]
          rw [appL_eq (by simp only [List.length_nil]; omega)]
          rfl
        rw [hr] at hloop
        rcases h1 with h1 | h1 | h1 | h1
        · simp only [eql_false h9, eql_true h1, if_true, Option.bind_some, Bool.false_eq_true, if_false]; rw [hloop]; rfl
        · simp only [eql_false h9, eql_false (show ¬ x.Op = 1 by omega), eql_true h1, if_true, Option.bind_some, Bool.false_eq_true, if_false]; rw [hloop]; rfl
        · simp only [eql_false h9, eql_false (show ¬ x.Op = 1 by omega), eql_false (show ¬ x.Op = 8 by omega), eql_true h1, if_true, Option.bind_some, Bool.false_eq_true, if_false]; rw [hloop]; rfl
        · simp only [eql_false h9, eql_false (show ¬ x.Op = 1 by omega), eql_false (show ¬ x.Op = 8 by omega), eql_false (show ¬ x.Op = 10 by omega), eql_true h1, if_true, Option.bind_some, Bool.false_eq_true, if_false]; rw [hloop]; rfl
    · refine ⟨[], ?_, ?_, Nat.zero_le _, fun g h => by simp at h⟩
      · simp only [eql_false (show ¬ x.Op = 1 by omega), eql_false (show ¬ x.Op = 8 by omega), eql_false h3, eql_false h9, eql_false (show ¬ x.Op = 10 by omega), eql_false (show ¬ x.Op = 7 by omega), Option.bind_some, Bool.false_eq_true, if_false]
      · simp only [eql_false (show ¬ x.Op = 1 by omega), eql_false (show ¬ x.Op = 8 by omega), eql_false h3, eql_false h9, eql_false (show ¬ x.Op = 10 by omega), eql_false (show ¬ x.Op = 7 by omega), Option.bind_some, Bool.false_eq_true, if_false]
        have := ref_loop (N := N) hN (F := ref22_Active N n) (x := x) (by omega) [] 0 rfl (fun i b hi => by simp at hi) (by simp) []
        rw [this]; rfl

end Go.Ab

/- The law of guards, in plain terms. -/
namespace Go.Ab

theorem range_some {α σ R : Type} {step : σ → α → Option (σ ⊕ R)} (h : ∀ s a, ∃ o, step s a = some o) : ∀ (l : List α) (s : σ), ∃ o, rangeL step l s = some o
  | [], s => ⟨_, rfl⟩
  | a :: l, s => by
    obtain ⟨o, ho⟩ := h s a
    unfold rangeL
    rw [ho]
    cases o with
    | inl s' => exact range_some h l s'
    | inr r => exact ⟨_, rfl⟩

theorem few8 {N : Nat} (hN : 40000000 ≤ N) {x : GExpr} (hb : x.bulk ≤ 16777216) : ∃ b, ref08_Few N x = some b := by
  unfold ref08_Few
  obtain ⟨r, h0, _⟩ := count_eq hN 200 N x (by omega) hb
  rw [h0]
  simp only [Option.bind_some]
  split
  · rw [depth_eq_e hN N x (by omega) hb]; exact ⟨_, rfl⟩
  · exact ⟨_, rfl⟩

theorem range_some_mem {α : Type} {F : α → Option Bool} : ∀ (l : List α), (∀ a ∈ l, ∃ b, F a = some b) → ∃ o, rangeL (fun (_ : Unit) a => (F a).bind fun r => if Ar.nt r = true then some (Sum.inr (Sum.inr (α := Unit) ())) else some (.inl ())) l () = some o
  | [], _ => ⟨_, rfl⟩
  | a :: l, h => by
    obtain ⟨b, hb⟩ := h a (by simp)
    unfold rangeL
    rw [hb]
    cases b with
    | false => exact ⟨_, rfl⟩
    | true => exact range_some_mem l fun a ha => h a (by simp [ha])

theorem few9 {N : Nat} (hN : 40000000 ≤ N) {x : GPattern} (hb : x.bulk ≤ 16777216) : ∃ b, ref09_Few N x = some b := by
  unfold ref09_Few
  obtain ⟨r, h0, _⟩ := total_eq hN 150 N x (by omega) hb
  rw [h0]
  simp only [Option.bind_some]
  split
  · exact ⟨_, rfl⟩
  · rw [depth_eq hN N x (by omega) hb]
    simp only [Option.bind_some]
    split
    · exact ⟨_, rfl⟩
    · rw [nodes_eq hN N x (by omega) hb]
      simp only [Option.bind_some]
      have hp := pre_bulk_p x
      rw [loop_list x.pre (by omega) (mk := fun (_ : Unit) i => i) (body := fun (_ : Unit) a => (ref08_Few N a.Cond).bind fun r => if Ar.nt r = true then some (.inr (.inr ())) else some (.inl ())) (fin := fun _ => .inl ()) (s := ()) (by omega) ?_ ?_]
      · obtain ⟨o, ho⟩ := range_some_mem (F := fun (a : GPattern) => ref08_Few N a.Cond) x.pre fun a ha => few8 hN (by have := (mem_pre x a ha).1; have := GPattern.bulk_eq a; omega)
        rw [ho]
        cases o with
        | inl _ => exact ⟨_, rfl⟩
        | inr o => cases o <;> exact ⟨_, rfl⟩
      · intro s i a ha hi
        have e : Ar.ar .add .i64 (i : Int) 1 = i + 1 := add_i64 (by omega) (by omega)
        simp only [cmp_lss, len_def, hi, decide_true, if_true, idx_at, ha, Option.bind_some, e]
        cases ref08_Few N a.Cond with
        | none => rfl
        | some r => cases r <;> rfl
      · intro s; simp [cmp_lss, len_def]

theorem same_guards {N : Nat} (hN : 40000000 ≤ N) {r : List GGuard} (hl : r.length ≤ 16777216) (hc : ∀ g ∈ r, g.Cond.bulk ≤ 16777216) : ref22_SameGuards N r r = some true := by
  unfold ref22_SameGuards
  rw [if_neg (ne_false rfl)]
  rw [loop_list r (by omega) (mk := fun (_ : Unit) i => i) (body := fun (_ : Unit) g => (ref08_Same N N g.Cond g.Cond).bind fun r => if Ar.nt r = true then some (.inr (.inr ())) else some (.inl ())) (fin := fun _ => .inl ()) (s := ()) (by omega) ?_ ?_]
  · obtain ⟨s', k1, k2⟩ := range_run (R := Unit ⊕ Unit) (step := fun (_ : Unit) (g : GGuard) => (ref08_Same N N g.Cond g.Cond).bind fun r => if Ar.nt r = true then some (.inr (.inr ())) else some (.inl ())) (fun l s => ∀ a ∈ l, a ∈ r) (fun a l s h1 => by
      have hm := hc a (h1 a (by simp))
      refine ⟨(), by rw [same_refl hN N a.Cond (by omega) hm]; rfl, fun b hb => h1 b (by simp [hb])⟩) (l := r) (s := ()) (fun a h => h)
    rw [k1]; rfl
  · intro s i a ha hi
    have e : Ar.ar .add .i64 (i : Int) 1 = i + 1 := add_i64 (by omega) (by omega)
    simp only [cmp_lss, len_def, hi, decide_true, if_true, idx_at, ha, Option.bind_some, e, cmp_neq, Bool.not_true, Bool.false_eq_true, if_false]
    cases ref08_Same N N a.Cond a.Cond with
    | none => rfl
    | some r => cases r <;> rfl
  · intro s; simp [cmp_lss, len_def]

theorem guards_law {N : Nat} (hN : 40000000 ≤ N) (awake : law22_awake N = some true) {x : GPattern} (hb : x.bulk ≤ 16777216) : law22_DerivativeGuards N x = some true := by
  unfold law22_DerivativeGuards
  obtain ⟨b, h0⟩ := few9 hN hb
  rw [h0]
  simp only [Option.bind_some]
  cases b
  · rw [if_pos (show Ar.nt false = true from rfl), awake]; rfl
  · rw [if_neg (by simp [nt_def])]
    unfold derivative_Guards ref22_Guards
    rw [rest_eq hN hb, rest_eqr hN hb]
    simp only [Option.bind_some]
    by_cases hz : restBad N x = 0
    · rw [if_neg (ne_false hz), if_neg (ne_false hz)]
      have hp : x.pre.length ≤ 64 := by
        by_cases h : 64 < x.pre.length
        · rw [restBad, if_pos h] at hz; cases hz
        · omega
      have hd : ¬ 12 < x.dep := fun h => by rw [restBad, if_neg (by omega), if_pos h] at hz; cases hz
      have hg : Good N x := by
        rw [restBad, if_neg (by omega), if_neg hd] at hz
        exact bad1_zero.1 hz
      obtain ⟨r, k1, k2, k3, k4⟩ := active_both hN N x (by omega) hb hp hg
      rw [k1, k2]
      simp only [Option.bind_some]
      rw [same_guards hN (by omega) k4]
      simp only [Option.bind_some]
      rw [if_pos (by simp [an_def, cmp_eql]), awake]; rfl
    · rw [if_pos (ne_true hz), if_pos (ne_true hz)]
      simp only [Option.bind_some]
      rw [same_guards hN (by simp) (fun g h => by simp at h)]
      simp only [Option.bind_some]
      rw [if_pos (by simp [an_def, cmp_eql]), awake]; rfl

end Go.Ab

