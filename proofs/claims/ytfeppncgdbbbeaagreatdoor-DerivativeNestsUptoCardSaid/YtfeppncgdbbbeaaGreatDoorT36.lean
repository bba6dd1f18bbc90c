/- GNM6 GNM7 GNN1 GND1 -/
import Derived.Test.YtfeppncgdbbbeaaGreatDoorT35
set_option linter.all false

namespace Go.Ab
def badB (u : Bool) (n m : Int) : Bool := u && (decide (n < 0) || decide (m < n))
def unusedB (u : Bool) (n : Int) : Bool := u || decide (n = 0)
theorem within_eq (N : Nat) (u : Bool) (n m : Int) : pattern_within N u n m = some (!badB u n m) := by
 unfold pattern_within
 simp only [or_def, an_def, nt_def, cmp_geq, cmp_leq, badB]
 cases u
 ·rfl
 by_cases h1 : n < 0 <;> by_cases h2 : m < n <;> simp [h1, h2] <;> omega
theorem unused_eq (N : Nat) (u : Bool) (n : Int) : pattern_unused N u n = some (unusedB u n) := rfl
theorem bad_eq (N : Nat) (u : Bool) (n m : Int) : ref09_bad N u n m = some (badB u n m) := rfl
noncomputable def patBad (s : Gpattern_shape) (x : GPattern) (sz : Bool) : Int :=
 if badB s.typed x.Typ 15 = true then 2
 else if badB s.typed x.Var 15 = true then 2
 else if badB s.scope x.Scope 63 = true then 2
 else if badB s.span x.Span 1099511627776 = true then 2
 else if s.cond = true ∧ exprCheck x.Cond ≠ 0 then exprCheck x.Cond
 else if (s.cond || sz) = true ∧ unusedB s.typed x.Typ = true ∧ unusedB s.typed x.Var = true ∧ unusedB s.scope x.Scope = true ∧ unusedB s.span x.Span = true then 0 else 3
structure ShapeOk (N : Nat) (x : GPattern) (s : Gpattern_shape) (ng : Bool) : Prop where
 tab : idxL tab_pattern_shapes x.Op = some s
 var : ref09_variable N x = some s.typed
 neg : ref09_Negates N x = some ng
 tim : ref09_Times N x = some s.span
 con : ref09_condition N x = some s.cond
 sco : s.scope = (ng || s.span)
 ari : ref09_arity N x = some (decide (s.least ≤ x.Args.length ∧ (x.Args.length : Int) ≤ s.most))
theorem dec_eq (n k : Int) : decide (n = k) = (decide (k ≤ n) && decide (n ≤ k)) := by
 rw [← Bool.decide_and]
 exact decide_eq_decide.2 ⟨fun h => by omega, fun h => by omega⟩
theorem shape_ok (N : Nat) (x : GPattern) (h0 : 0 ≤ x.Op) (h1 : x.Op ≤ 10) (hl : x.Args.length ≤ 64) : ∃ s ng, ShapeOk N x s ng := by
 obtain ⟨op, args, typ, var, scope, span, c⟩ := x
 simp only at h0 h1 hl
 have h : op = 0 ∨ op = 1 ∨ op = 2 ∨ op = 3 ∨ op = 4 ∨ op = 5 ∨ op = 6 ∨ op = 7 ∨ op = 8 ∨ op = 9 ∨ op = 10 := by omega
 rcases h with h | h | h | h | h | h | h | h | h | h | h
 all_goals
  subst h
  refine ⟨_, _, rfl, rfl, rfl, rfl, rfl, rfl, ?_⟩
  unfold ref09_arity
  simp only [cmp_eql, cmp_geq, len_def]
  simp
  try first | omega | exact dec_eq _ _
theorem op_ok {x : GPattern} (h0 : 0 ≤ x.Op) (h1 : x.Op ≤ 10) : ¬ (Ar.or (Ar.cmp .lss x.Op 0) (Ar.cmp .geq x.Op 11) = true) := by
 simp only [or_def, cmp_lss, cmp_geq, Bool.or_eq_true, decide_eq_true_eq]; omega
theorem op_okr {x : GPattern} (h0 : 0 ≤ x.Op) (h1 : x.Op ≤ 10) : ¬ (Ar.or (Ar.cmp .lss x.Op 0) (Ar.cmp .gtr x.Op 10) = true) := by
 simp only [or_def, cmp_lss, cmp_gtr, Bool.or_eq_true, decide_eq_true_eq]; omega
theorem op_no {x : GPattern} (h : ¬ (0 ≤ x.Op ∧ x.Op ≤ 10)) : Ar.or (Ar.cmp .lss x.Op 0) (Ar.cmp .geq x.Op 11) = true ∧ Ar.or (Ar.cmp .lss x.Op 0) (Ar.cmp .gtr x.Op 10) = true := by
 simp only [or_def, cmp_lss, cmp_geq, cmp_gtr, Bool.or_eq_true, decide_eq_true_eq]; omega
theorem check_pat {N : Nat} (hN : 40000000 ≤ N) {x : GPattern} (hb : x.Cond.bulk ≤ 16777216) (h0 : 0 ≤ x.Op) (h1 : x.Op ≤ 10) {s : Gpattern_shape} {ng : Bool} (hs : ShapeOk N x s ng) {sz : Bool}
 (hz : ref08_Same N N x.Cond (⟨0, [], 0, 0, 0, (⟨0, 0, ⟨#[]⟩⟩ : GValue)⟩ : GExpr) = some sz) :
 pattern_check N x = some (if s.least ≤ x.Args.length ∧ (x.Args.length : Int) ≤ s.most then patBad s x sz else 15) := by
 unfold pattern_check
 rw [if_neg (op_ok h0 h1), hs.tab]
 simp only [Option.bind_some]
 by_cases ha : s.least ≤ x.Args.length ∧ (x.Args.length : Int) ≤ s.most
 ·rw [if_pos ha, if_neg (by simp only [or_def, cmp_lss, cmp_gtr, len_def, Bool.or_eq_true, decide_eq_true_eq]; omega)]
  rw [within_eq, within_eq, within_eq, within_eq, check_eq8 hN hb, same_same, hz]
  simp only [unused_eq, Option.bind_some]
  unfold patBad
  generalize badB s.typed x.Typ 15 = b1
  generalize badB s.typed x.Var 15 = b2
  generalize badB s.scope x.Scope 63 = b3
  generalize badB s.span x.Span 1099511627776 = b4
  generalize unusedB s.typed x.Typ = c1
  generalize unusedB s.typed x.Var = c2
  generalize unusedB s.scope x.Scope = c3
  generalize unusedB s.span x.Span = c4
  generalize exprCheck x.Cond = ec
  cases b1 with
  | true => rfl
  | false =>
   cases b2 with
   | true => rfl
   | false =>
    cases b3 with
    | true => rfl
    | false =>
     cases b4 with
     | true => rfl
     | false =>
      cases s.cond with
      | false =>
       cases sz with
       | false => rfl
       | true =>
        cases c1 with
        | false => rfl
        | true =>
         cases c2 with
         | false => rfl
         | true =>
          cases c3 with
          | false => rfl
          | true =>
           cases c4 <;> rfl
      | true =>
       by_cases he : ec = 0
       ·subst he
        cases c1 with
        | false => cases sz <;> rfl
        | true =>
         cases c2 with
         | false => cases sz <;> rfl
         | true =>
          cases c3 with
          | false => cases sz <;> rfl
          | true =>
           cases c4 <;> cases sz <;> rfl
       simp [nt_def, ne_true he, he]
 rw [if_neg ha, if_pos (by simp only [or_def, cmp_lss, cmp_gtr, len_def, Bool.or_eq_true, decide_eq_true_eq]; omega)]
theorem junk1_eq (u : Bool) (n : Int) : Ar.an (Ar.nt u) (Ar.cmp .neq n 0) = !unusedB u n := by
 simp only [an_def, nt_def, cmp_neq, unusedB, Bool.not_or]
theorem junk_eq (u w : Bool) (t v sc : Int) : Ar.or (Ar.an (Ar.nt u) (Ar.or (Ar.cmp .neq t 0) (Ar.cmp .neq v 0))) (Ar.an (Ar.nt w) (Ar.cmp .neq sc 0)) = ((!unusedB u t || !unusedB u v) || !unusedB w sc) := by
 rw [junk1_eq]
 simp only [or_def, an_def, nt_def, cmp_neq, unusedB]
 cases u <;> simp
theorem check_patr {N : Nat} (hN : 40000000 ≤ N) {x : GPattern} (hb : x.Cond.bulk ≤ 16777216) (h0 : 0 ≤ x.Op) (h1 : x.Op ≤ 10) {s : Gpattern_shape} {ng : Bool} (hs : ShapeOk N x s ng) {sz : Bool}
 (hz : ref08_Same N N x.Cond (⟨0, [], 0, 0, 0, (⟨0, 0, ⟨#[]⟩⟩ : GValue)⟩ : GExpr) = some sz) :
 ref09_node N x = some (if s.least ≤ x.Args.length ∧ (x.Args.length : Int) ≤ s.most then patBad s x sz else 15) := by
 unfold ref09_node
 rw [if_neg (op_okr h0 h1), hs.ari, hs.var, hs.neg, hs.tim, hs.con, check_eq8r hN hb, hz]
 simp only [Option.bind_some]
 by_cases ha : s.least ≤ x.Args.length ∧ (x.Args.length : Int) ≤ s.most
 ·rw [if_pos ha, if_neg (by simp [nt_def, ha])]
  have sco := hs.sco
  simp only [bad_eq, Option.bind_some]
  cases ng
  ·rw [if_neg (by simp)]
   simp only [Bool.false_or] at sco
   rw [junk_eq, junk1_eq]
   unfold patBad
   rw [sco]
   generalize badB s.typed x.Typ 15 = b1
   generalize badB s.typed x.Var 15 = b2
   generalize badB s.span x.Scope 63 = b3
   generalize badB s.span x.Span 1099511627776 = b4
   generalize unusedB s.typed x.Typ = c1
   generalize unusedB s.typed x.Var = c2
   generalize unusedB s.span x.Scope = c3
   generalize unusedB s.span x.Span = c4
   generalize exprCheck x.Cond = ec
   cases b1 with
   | true => rfl
   | false =>
    cases b2 with
    | true => rfl
    | false =>
     cases b3 with
     | true => rfl
     | false =>
      cases b4 with
      | true => rfl
      | false =>
       cases s.cond with
       | false => cases sz <;> cases c1 <;> cases c2 <;> cases c3 <;> cases c4 <;> rfl
       | true =>
        by_cases he : ec = 0
        ·subst he; cases sz <;> cases c1 <;> cases c2 <;> cases c3 <;> cases c4 <;> rfl
        simp [ne_true he, he]
  rw [if_pos rfl]
  simp only [Bool.true_or] at sco
  rw [junk_eq, junk1_eq]
  unfold patBad
  rw [sco]
  generalize badB s.typed x.Typ 15 = b1
  generalize badB s.typed x.Var 15 = b2
  generalize badB true x.Scope 63 = b3
  generalize badB s.span x.Span 1099511627776 = b4
  generalize unusedB s.typed x.Typ = c1
  generalize unusedB s.typed x.Var = c2
  generalize unusedB true x.Scope = c3
  generalize unusedB s.span x.Span = c4
  generalize exprCheck x.Cond = ec
  cases b1 with
  | true => rfl
  | false =>
   cases b2 with
   | true => rfl
   | false =>
    cases b3 with
    | true => rfl
    | false =>
     cases b4 with
     | true => rfl
     | false =>
      cases s.cond with
      | false => cases sz <;> cases c1 <;> cases c2 <;> cases c3 <;> cases c4 <;> rfl
      | true =>
       by_cases he : ec = 0
       ·subst he; cases sz <;> cases c1 <;> cases c2 <;> cases c3 <;> cases c4 <;> rfl
       simp [ne_true he, he]
 rw [if_neg ha, if_pos (by simp only [nt_def, decide_eq_false ha]; rfl)]
end Go.Ab

namespace Go.Ab
mutual
theorem mem_pre : ∀ (x y : GPattern), y ∈ x.pre → y.bulk ≤ x.bulk ∧ y.pre.length ≤ x.pre.length
 | ⟨op, args, typ, var, scope, span, c⟩, y, h => by
  rw [GPattern.pre] at h
  rcases List.mem_cons.1 h with rfl | h
  ·exact ⟨Nat.le_refl _, Nat.le_refl _⟩
  have := mem_pres args y h
  simp only [GPattern.bulk, GPattern.pre, List.length_cons]
  omega
theorem mem_pres : ∀ (l : List GPattern) (y : GPattern), y ∈ GPattern.pres l → y.bulk ≤ GPattern.bulks l ∧ y.pre.length ≤ (GPattern.pres l).length
 | [], y, h => by simp [GPattern.pres] at h
 | a :: l, y, h => by
  rw [GPattern.pres] at h
  rcases List.mem_append.1 h with h | h
  ·have := mem_pre a y h
   simp only [GPattern.bulks, GPattern.pres, List.length_append]; omega
  have := mem_pres l y h
  simp only [GPattern.bulks, GPattern.pres, List.length_append]; omega
end
theorem args_pres : ∀ l : List GPattern, l.length ≤ (GPattern.pres l).length
 | [] => Nat.le_refl _
 | a :: l => by
  have := args_pres l
  simp only [GPattern.pres, GPattern.pre_eq a, List.length_append, List.length_cons]; omega
theorem args_pre (x : GPattern) : x.Args.length < x.pre.length := by
 rw [GPattern.pre_eq]; have := args_pres x.Args; simp only [List.length_cons]; omega
noncomputable def nodeBad (N : Nat) (y : GPattern) : Int := (ref09_node N y).getD 0
theorem node_both {N : Nat} (hN : 40000000 ≤ N) {y : GPattern} (hb : y.bulk ≤ 16777216) (hl : y.Args.length ≤ 64) : pattern_check N y = some (nodeBad N y) ∧ ref09_node N y = some (nodeBad N y) := by
 have hc : y.Cond.bulk ≤ 16777216 := by have := GPattern.bulk_eq y; omega
 have key : ∃ r, pattern_check N y = some r ∧ ref09_node N y = some r := by
  by_cases h : 0 ≤ y.Op ∧ y.Op ≤ 10
  ·obtain ⟨s, ng, hs⟩ := shape_ok N y h.1 h.2 hl
   obtain ⟨sz, hz⟩ := same_zero hN y.Cond
   exact ⟨_, check_pat hN hc h.1 h.2 hs hz, check_patr hN hc h.1 h.2 hs hz⟩
  obtain ⟨h1, h2⟩ := op_no h
  exact ⟨1, by unfold pattern_check; rw [if_pos h1], by unfold ref09_node; rw [if_pos h2]⟩
 obtain ⟨r, h1, h2⟩ := key
 have e : nodeBad N y = r := by unfold nodeBad; rw [h2]; rfl
 rw [e]; exact ⟨h1, h2⟩
noncomputable def restBad (N : Nat) (x : GPattern) : Int := if 64 < x.pre.length then 5 else if 12 < x.dep then 12 else bad1 (nodeBad N) x.pre
theorem preorder_eq {N : Nat} (hN : 40000000 ≤ N) {x : GPattern} (hb : x.bulk ≤ 16777216) : pattern_preorder N x = some x.pre := by
 unfold pattern_preorder pattern_preorder_1
 rw [walk_eq hN N x (by omega) hb]
 simp [thenE]
theorem rest_eq {N : Nat} (hN : 40000000 ≤ N) {x : GPattern} (hb : x.bulk ≤ 16777216) : pattern_CheckRest N x = some (restBad N x) := by
 unfold pattern_CheckRest restBad
 rw [size_eq hN N x (by omega) hb]
 simp only [Option.bind_some]
 by_cases h1 : 64 < x.pre.length
 ·rw [if_pos h1, if_pos (gt_true (by omega))]
 rw [if_neg h1, if_neg (gt_false (by omega))]
 by_cases h2 : 12 < x.dep
 ·rw [if_pos h2, if_pos (gt_true (by omega))]
 rw [if_neg h2, if_neg (gt_false (by omega)), preorder_eq hN hb]
 simp only [Option.bind_some]
 rw [range_bad (f := nodeBad N) fun y hy => (node_both hN (by have := mem_pre x y hy; omega) (by have := mem_pre x y hy; have := args_pre y; omega)).1]
 by_cases h3 : bad1 (nodeBad N) x.pre = 0
 ·rw [if_pos h3]; simp [h3]
 rw [if_neg h3]; rfl
end Go.Ab

namespace Go.Ab
def Good (N : Nat) (x : GPattern) : Prop := ∀ y ∈ x.pre, nodeBad N y = 0
theorem sub_pres_p {a y : GPattern} (hy : y ∈ a.pre) : ∀ l : List GPattern, a ∈ l → y ∈ GPattern.pres l
 | [], h => by simp at h
 | b :: l, h => by
  rcases List.mem_cons.1 h with rfl | h
  ·simp [GPattern.pres, hy]
  simp [GPattern.pres, sub_pres_p hy l h]
theorem Good.arg {N : Nat} {x a : GPattern} (h : Good N x) (ha : a ∈ x.Args) : Good N a := fun y hy => h y (by
 rw [GPattern.pre_eq]; exact List.mem_cons_of_mem _ (sub_pres_p hy _ ha))
theorem pre_arg {x a : GPattern} (ha : a ∈ x.Args) : a.pre.length < x.pre.length := by
 have := (mem_pres x.Args a (sub_pres_p (by rw [GPattern.pre_eq]; simp) _ ha)).2
 rw [GPattern.pre_eq x]; simp only [List.length_cons]; omega
theorem arg0 {N : Nat} (hN : 40000000 ≤ N) {y : GPattern} (hb : y.bulk ≤ 16777216) (hl : y.Args.length ≤ 64) (h : nodeBad N y = 0) (ho : y.Op = 1 ∨ y.Op = 7 ∨ y.Op = 8 ∨ y.Op = 9 ∨ y.Op = 10) : ∃ a r, y.Args = a :: r := by
 have hc : y.Cond.bulk ≤ 16777216 := by have := GPattern.bulk_eq y; omega
 obtain ⟨s, ng, hs⟩ := shape_ok N y (by omega) (by omega) hl
 obtain ⟨sz, hz⟩ := same_zero hN y.Cond
 have h1 := check_patr hN hc (by omega) (by omega) hs hz
 rw [(node_both hN hb hl).2, h] at h1
 have h2 : s.least ≤ y.Args.length := by
  have h1 := Option.some.inj h1
  by_cases hc : s.least ≤ y.Args.length ∧ (y.Args.length : Int) ≤ s.most
  ·exact hc.1
  rw [if_neg hc] at h1; cases h1
 have h3 : 1 ≤ s.least := by
  have ht := hs.tab
  rcases ho with h | h | h | h | h <;> rw [h] at ht <;> cases ht <;> decide
 match he : y.Args, h2 with
 | [], h2 => simp at h2; omega
 | a :: r, _ => exact ⟨a, r, rfl⟩
theorem eql_true {a b : Int} (h : a = b) : Ar.cmp .eql a b = true := by rw [cmp_eql]; exact decide_eq_true h
theorem eql_false {a b : Int} (h : ¬ a = b) : Ar.cmp .eql a b = false := by rw [cmp_eql]; exact decide_eq_false h
end Go.Ab

namespace Go.Ab
theorem loop_inv {S R : Type} {step : S → Option (S ⊕ R)} (I : Nat → S → Prop) (Q : R → Prop) : ∀ (k i : Nat) (s : S) (N : Nat), k < N → I i s →
 (∀ j s, i ≤ j → j < i + k → I j s → ∃ o, step s = some o ∧ (match o with | .inl s' => I (j + 1) s' | .inr r => Q r)) →
 (∀ s, I (i + k) s → ∃ r, step s = some (.inr r) ∧ Q r) → ∃ r, loopN step N s = some r ∧ Q r
 | 0, i, s, N, hN, h0, _, he => by
  obtain ⟨N, rfl⟩ : ∃ M, N = M + 1 := ⟨N - 1, by omega⟩
  obtain ⟨r, h1, h2⟩ := he s h0
  exact ⟨r, by simp only [loopN, h1], h2⟩
 | k + 1, i, s, N, hN, h0, hs, he => by
  obtain ⟨N, rfl⟩ : ∃ M, N = M + 1 := ⟨N - 1, by omega⟩
  obtain ⟨o, h1, h2⟩ := hs i s (Nat.le_refl _) (by omega) h0
  cases o with
  | inl s' =>
   obtain ⟨r, h3, h4⟩ := loop_inv I Q k (i + 1) s' N (by omega) h2 (fun j s a b c => hs j s (by omega) (by omega) c) (fun s h => he s (by rw [show i + (k + 1) = i + 1 + k by omega]; exact h))
   exact ⟨r, by simp only [loopN, h1, h3], h4⟩
  | inr r => exact ⟨r, by simp only [loopN, h1], h2⟩
theorem loop_seq {S R : Type} {step : S → Option (S ⊕ R)} (st : Nat → S) (k : Nat) (r : R) {N : Nat} (hN : k < N) (hs : ∀ j, j < k → step (st j) = some (.inl (st (j + 1)))) (he : step (st k) = some (.inr r)) : loopN step N (st 0) = some r := by
 obtain ⟨r', h1, h2⟩ := loop_inv (step := step) (fun i s => s = st i) (fun r' => r' = r) k 0 (st 0) N hN rfl (fun j s _ h h2 => by subst h2; exact ⟨_, hs j (by omega), rfl⟩) (fun s h => by subst h; exact ⟨r, by rw [Nat.zero_add]; exact he, rfl⟩)
 rw [h1, h2]
theorem loopE_seq {β S R : Type} {step : S → Option (List β × (S ⊕ R))} (st : Nat → S) (f : Nat → List β) (w : List β) (r : R) : ∀ (k i : Nat) {N : Nat}, k < N → (∀ j, i ≤ j → j < i + k → step (st j) = some (f j, .inl (st (j + 1)))) → step (st (i + k)) = some (w, .inr r) →
 loopE step N (st i) = some ((List.range' i k).flatMap f ++ w, r)
 | 0, i, N, hN, _, he => by
  obtain ⟨N, rfl⟩ : ∃ M, N = M + 1 := ⟨N - 1, by omega⟩
  simp only [Nat.add_zero] at he
  simp [loopE, he]
 | k + 1, i, N, hN, hs, he => by
  obtain ⟨N, rfl⟩ : ∃ M, N = M + 1 := ⟨N - 1, by omega⟩
  have := loopE_seq st f w r k (i + 1) (N := N) (by omega) (fun j a b => hs j (by omega) (by omega)) (by rw [show i + 1 + k = i + (k + 1) by omega]; exact he)
  simp only [loopE, hs i (Nat.le_refl _) (by omega), this, List.range'_succ, List.flatMap_cons, List.append_assoc]
theorem rangeE_map {α β : Type} {R : Type} {step : Unit → α → Option (List β × (Unit ⊕ R))} (f : α → List β) : ∀ {l : List α}, (∀ x ∈ l, step () x = some (f x, .inl ())) → rangeE step l () = some (l.flatMap f, .inl ())
 | [], _ => rfl
 | x :: l, h => by
  have := rangeE_map f (l := l) fun y hy => h y (by simp [hy])
  simp only [rangeE, h x (by simp), this, List.flatMap_cons]
noncomputable instance : DecidableEq GExpr := Classical.typeDecidableEq _
noncomputable instance : DecidableEq GPattern := Classical.typeDecidableEq _
noncomputable instance : DecidableEq GEdge := Classical.typeDecidableEq _
noncomputable instance : DecidableEq GLimit := Classical.typeDecidableEq _
noncomputable instance : DecidableEq Gderivative_rest := Classical.typeDecidableEq _
theorem inc_i64 {i : Nat} (h : i < 1000000000000) : Ar.ar .add .i64 (i : Int) 1 = ((i + 1 : Nat) : Int) := by rw [add_i64 (by omega) (by omega)]; omega
theorem eq_loop {α : Type} [DecidableEq α] {N : Nat} (l m : List α) (hl : l.length = m.length) (hs : l.length < 1000000000000) (f : α → α → Option Bool) (hf : ∀ x ∈ l, ∀ y ∈ m, f x y = some (decide (x = y))) (hN : l.length < N) :
 loopN (fun (i : Int) => if Ar.cmp .lss i (Ar.len l) = true then (idxL l i).bind fun x => (idxL m i).bind fun y => (f x y).bind fun r => if Ar.nt r = true then some (Sum.inr (Sum.inr (α := Unit) ())) else some (.inl (Ar.ar .add .i64 i 1)) else some (.inr (.inl ()))) N 0 = some (if l = m then .inl () else .inr ()) := by
 obtain ⟨r, h1, h2⟩ := loop_inv (step := fun (i : Int) => if Ar.cmp .lss i (Ar.len l) = true then (idxL l i).bind fun x => (idxL m i).bind fun y => (f x y).bind fun r => if Ar.nt r = true then some (Sum.inr (Sum.inr (α := Unit) ())) else some (.inl (Ar.ar .add .i64 i 1)) else some (.inr (.inl ())))
  (fun j s => s = (j : Int) ∧ l.take j = m.take j) (fun r => r = if l = m then .inl () else .inr ()) l.length 0 0 N hN ⟨rfl, by simp⟩
  (fun j s _ hj ⟨e, ht⟩ => by
   subst e
   simp only [Nat.zero_add] at hj
   have hj2 : j < m.length := by omega
   have e1 : l[j]? = some l[j] := by simp [hj]
   have e2 : m[j]? = some m[j] := by simp [hj2]
   simp only [cmp_lss, len_def, show ((j : Int) < (l.length : Int)) by omega, decide_true, if_true, idx_at, e1, e2, Option.bind_some, hf _ (List.getElem_mem hj) _ (List.getElem_mem hj2)]
   by_cases h : l[j] = m[j]
   ·simp only [h, decide_true, nt_def, Bool.not_true, Bool.false_eq_true, if_false]
    refine ⟨_, rfl, inc_i64 (by omega), ?_⟩
    rw [List.take_add_one, List.take_add_one, ht, e1, e2, h]
   simp only [h, decide_false, nt_def, Bool.not_false, if_true]
   refine ⟨_, rfl, ?_⟩
   rw [if_neg fun he => h (by subst he; rfl)])
  (fun s ⟨e, ht⟩ => by
   subst e
   simp only [Nat.zero_add] at ht ⊢
   refine ⟨.inl (), by simp [cmp_lss, len_def], ?_⟩
   rw [List.take_length, hl, List.take_length] at ht
   rw [if_pos ht])
 rw [h1, h2]
theorem gexpr_eq {a b : GExpr} : a = b ↔ (a.Op = b.Op ∧ a.Var = b.Var ∧ a.Field = b.Field ∧ a.Kind = b.Kind ∧ a.Value = b.Value) ∧ a.Args = b.Args := by
 cases a; cases b; simp; constructor
 ·rintro ⟨h1, h2, h3, h4, h5, h6⟩; exact ⟨⟨h1, h3, h4, h5, h6⟩, h2⟩
 rintro ⟨⟨h1, h3, h4, h5, h6⟩, h2⟩; exact ⟨h1, h2, h3, h4, h5, h6⟩
theorem gvalue_eq {a b : GValue} : a = b ↔ a.Kind = b.Kind ∧ a.Num = b.Num ∧ a.Text = b.Text := by cases a; cases b; simp
theorem gpattern_eq {a b : GPattern} : a = b ↔ (a.Op = b.Op ∧ a.Typ = b.Typ ∧ a.Var = b.Var ∧ a.Scope = b.Scope ∧ a.Span = b.Span) ∧ a.Cond = b.Cond ∧ a.Args = b.Args := by
 cases a; cases b; simp; constructor
 ·rintro ⟨h1, h2, h3, h4, h5, h6, h7⟩; exact ⟨⟨h1, h3, h4, h5, h6⟩, h7, h2⟩
 rintro ⟨⟨h1, h3, h4, h5, h6⟩, h7, h2⟩; exact ⟨h1, h2, h3, h4, h5, h6, h7⟩
theorem headB_iff (a b : GExpr) : headB a b = true ↔ ¬ ((a.Op = b.Op ∧ a.Var = b.Var ∧ a.Field = b.Field ∧ a.Kind = b.Kind ∧ a.Value = b.Value) ∧ a.Args.length = b.Args.length) := by
 simp only [headB, or_def, an_def, nt_def, cmp_neq, cmp_eql, scmp_eql, len_def, gvalue_eq, Bool.or_eq_true, Bool.not_eq_true', decide_eq_false_iff_not, Bool.and_eq_false_iff, Bool.and_true, decide_eq_true_eq, Classical.not_and_iff_not_or_not]
 constructor
 ·rintro (((((h | h) | h) | h) | h) | h)
  ·simp [h]
  ·simp [h]
  ·simp [h]
  ·simp [h]
  ·rcases h with h | h | h <;> simp [h]
  right; omega
 rintro ((h | h | h | h | h) | h)
 ·simp [h]
 ·simp [h]
 ·simp [h]
 ·simp [h]
 ·rcases h with h | h | h <;> simp [h]
 right; omega
theorem same8 {N : Nat} (hN : 40000000 ≤ N) : ∀ (n : Nat) (a b : GExpr), a.bulk ≤ n → a.bulk ≤ 16777216 → ref08_Same N n a b = some (decide (a = b)) := by
 intro n
 induction n with
 | zero => intro a b h; have := bulk_pos_e a; omega
 | succ n ih =>
  intro a b hx hb
  have hl := len_bulk_e a
  unfold ref08_Same
  change (if headB a b = true then some false else _) = _
  by_cases h : headB a b = true
  ·rw [if_pos h]
   rw [headB_iff] at h
   rw [decide_eq_false]
   intro e
   exact h ⟨(gexpr_eq.1 e).1, by rw [(gexpr_eq.1 e).2]⟩
  rw [if_neg h]
  rw [headB_iff, Classical.not_not] at h
  rw [eq_loop a.Args b.Args h.2 (by omega) _ (fun x hx y hy => ih x y (by have := mem_bulk_e hx; omega) (by have := mem_bulk_e hx; omega)) (by omega)]
  simp only [Option.bind_some]
  by_cases he : a.Args = b.Args
  ·rw [if_pos he, decide_eq_true (gexpr_eq.2 ⟨h.1, he⟩)]
  rw [if_neg he, decide_eq_false fun e => he (gexpr_eq.1 e).2]
theorem sameP {N : Nat} (hN : 40000000 ≤ N) : ∀ (n : Nat) (a b : GPattern), a.bulk ≤ n → a.bulk ≤ 16777216 → pattern_Same N n a b = some (decide (a = b)) := by
 intro n
 induction n with
 | zero => intro a b h; have := bulk_pos a; omega
 | succ n ih =>
  intro a b hx hb
  have hl := len_bulk a
  have hc := GPattern.bulk_eq a
  unfold pattern_Same
  by_cases h : a.Op = b.Op ∧ a.Typ = b.Typ ∧ a.Var = b.Var ∧ a.Scope = b.Scope ∧ a.Span = b.Span
  ·rw [if_neg (by obtain ⟨h1, h2, h3, h4, h5⟩ := h; simp [or_def, cmp_neq, h1, h2, h3, h4, h5]), same_same, same8 hN N a.Cond b.Cond (by omega) (by omega)]
   simp only [Option.bind_some]
   by_cases hq : a.Cond = b.Cond
   ·rw [if_neg (by simp [nt_def, hq])]
    unfold slices_EqualFunc_LPattern_LPattern_Pattern_Pattern
    by_cases hq2 : a.Args.length = b.Args.length
    ·rw [if_neg (by simp [cmp_neq, len_def, hq2]), eq_loop a.Args b.Args hq2 (by omega) _ (fun x hx y hy => ih x y (by have := mem_bulk hx; omega) (by have := mem_bulk hx; omega)) (by omega)]
     simp only [Option.bind_some]
     by_cases he : a.Args = b.Args
     ·rw [if_pos he, decide_eq_true (gpattern_eq.2 ⟨h, hq, he⟩)]; rfl
     rw [if_neg he, decide_eq_false fun e => he (gpattern_eq.1 e).2.2]; rfl
    rw [if_pos (by simp only [cmp_neq, len_def, Bool.not_eq_true', decide_eq_false_iff_not]; omega), decide_eq_false fun e => hq2 (by rw [(gpattern_eq.1 e).2.2])]; rfl
   rw [if_pos (by simp [nt_def, hq]), decide_eq_false fun e => hq (gpattern_eq.1 e).2.1]
  rw [if_pos, decide_eq_false fun e => h (gpattern_eq.1 e).1]
  simp only [or_def, cmp_neq, Bool.or_eq_true, Bool.not_eq_true', decide_eq_false_iff_not]
  omega
structure Arity (y : GPattern) : Prop where
 op : 0 ≤ y.Op ∧ y.Op ≤ 10
 ev : y.Op = 0 → y.Args = []
 two : 1 ≤ y.Op → y.Op ≤ 3 → 2 ≤ y.Args.length
 one : 4 ≤ y.Op → y.Op ≠ 8 → ∃ a, y.Args = [a]
 more : y.Op = 8 → ∃ a b, y.Args = [a, b]
theorem list_one {α : Type} {l : List α} (h : l.length = 1) : ∃ a, l = [a] := List.length_eq_one_iff.1 h
theorem list_two {α : Type} {l : List α} (h : l.length = 2) : ∃ a b, l = [a, b] := by
 match l, h with
 | [a, b], _ => exact ⟨a, b, rfl⟩
theorem arity_ok {N : Nat} (hN : 40000000 ≤ N) {y : GPattern} (hb : y.bulk ≤ 16777216) (hl : y.Args.length ≤ 64) (h : nodeBad N y = 0) : Arity y := by
 have hc : y.Cond.bulk ≤ 16777216 := by have := GPattern.bulk_eq y; omega
 by_cases hop : 0 ≤ y.Op ∧ y.Op ≤ 10
 ·obtain ⟨s, ng, hs⟩ := shape_ok N y hop.1 hop.2 hl
  obtain ⟨sz, hz⟩ := same_zero hN y.Cond
  have h1 := check_patr hN hc hop.1 hop.2 hs hz
  rw [(node_both hN hb hl).2, h] at h1
  have h2 : s.least ≤ y.Args.length ∧ (y.Args.length : Int) ≤ s.most := by
   have h1 := Option.some.inj h1
   by_cases hc : s.least ≤ y.Args.length ∧ (y.Args.length : Int) ≤ s.most
   ·exact hc
   rw [if_neg hc] at h1; cases h1
  have ht := hs.tab
  refine ⟨hop, fun ho => ?_, fun ha hb => ?_, fun ha hb => ?_, fun ho => ?_⟩
  ·rw [ho] at ht; cases ht
   simp only at h2
   exact List.eq_nil_of_length_eq_zero (by omega)
  ·have ho : y.Op = 1 ∨ y.Op = 2 ∨ y.Op = 3 := by omega
   rcases ho with ho | ho | ho <;> rw [ho] at ht <;> cases ht <;> simp only at h2 <;> omega
  ·have ho : y.Op = 4 ∨ y.Op = 5 ∨ y.Op = 6 ∨ y.Op = 7 ∨ y.Op = 9 ∨ y.Op = 10 := by omega
   apply list_one
   rcases ho with ho | ho | ho | ho | ho | ho <;> rw [ho] at ht <;> cases ht <;> simp only at h2 <;> omega
  apply list_two
  rw [ho] at ht; cases ht; simp only at h2; omega
 obtain ⟨h1, h2⟩ := op_no hop
 exfalso
 unfold nodeBad ref09_node at h
 rw [if_pos h2] at h
 cases h
end Go.Ab

