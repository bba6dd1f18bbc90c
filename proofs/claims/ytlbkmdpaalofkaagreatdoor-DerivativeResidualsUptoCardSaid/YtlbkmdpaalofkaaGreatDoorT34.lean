/- GZD1 GZD2 GZD3 -/
import Derived.Test.YtlbkmdpaalofkaaGreatDoorT33
set_option linter.all false

namespace Go.Ab
theorem loop_inv {S R : Type} {step : S → Option (S ⊕ R)} (I : Nat → S → Prop) (Q : R → Prop) : ∀ (k i : Nat) (s : S) (N : Nat), k < N → I i s →
 (∀ j s, i ≤ j → j < i + k → I j s → ∃ o, step s = some o ∧ (match o with | .inl s' => I (j + 1) s' | .inr r => Q r)) →
 (∀ s, I (i + k) s → ∃ r, step s = some (.inr r) ∧ Q r) → ∃ r, loopN step N s = some r ∧ Q r
 | 0, i, s, N, hN, h0, _, he => by
  obtain ⟨N, rfl⟩ : ∃ M, N = M + 1 := ⟨N - 1, by omega⟩
  obtain ⟨r, h1, h2⟩ := he s h0
  exact ⟨r, by simp only [loopN, h1], h2⟩
 | k + 1, i, s, N, hN, h0, hs, he => by
  obtain ⟨N, rfl⟩ : ∃ M, N = M + 1 := ⟨N - 1, by omega⟩
  obtain ⟨o, h1, h2⟩ := hs i s (Nat.le_refl _) (by omega) h0
  cases o with
  | inl s' =>
   obtain ⟨r, h3, h4⟩ := loop_inv I Q k (i + 1) s' N (by omega) h2 (fun j s a b c => hs j s (by omega) (by omega) c) (fun s h => he s (by rw [show i + (k + 1) = i + 1 + k by omega]; exact h))
   exact ⟨r, by simp only [loopN, h1, h3], h4⟩
  | inr r => exact ⟨r, by simp only [loopN, h1], h2⟩
theorem loop_seq {S R : Type} {step : S → Option (S ⊕ R)} (st : Nat → S) (k : Nat) (r : R) {N : Nat} (hN : k < N) (hs : ∀ j, j < k → step (st j) = some (.inl (st (j + 1)))) (he : step (st k) = some (.inr r)) : loopN step N (st 0) = some r := by
 obtain ⟨r', h1, h2⟩ := loop_inv (step := step) (fun i s => s = st i) (fun r' => r' = r) k 0 (st 0) N hN rfl (fun j s _ h h2 => by subst h2; exact ⟨_, hs j (by omega), rfl⟩) (fun s h => by subst h; exact ⟨r, by rw [Nat.zero_add]; exact he, rfl⟩)
 rw [h1, h2]
theorem loopE_seq {β S R : Type} {step : S → Option (List β × (S ⊕ R))} (st : Nat → S) (f : Nat → List β) (w : List β) (r : R) : ∀ (k i : Nat) {N : Nat}, k < N → (∀ j, i ≤ j → j < i + k → step (st j) = some (f j, .inl (st (j + 1)))) → step (st (i + k)) = some (w, .inr r) →
 loopE step N (st i) = some ((List.range' i k).flatMap f ++ w, r)
 | 0, i, N, hN, _, he => by
  obtain ⟨N, rfl⟩ : ∃ M, N = M + 1 := ⟨N - 1, by omega⟩
  simp only [Nat.add_zero] at he
  simp [loopE, he]
 | k + 1, i, N, hN, hs, he => by
  obtain ⟨N, rfl⟩ : ∃ M, N = M + 1 := ⟨N - 1, by omega⟩
  have := loopE_seq st f w r k (i + 1) (N := N) (by omega) (fun j a b => hs j (by omega) (by omega)) (by rw [show i + 1 + k = i + (k + 1) by omega]; exact he)
  simp only [loopE, hs i (Nat.le_refl _) (by omega), this, List.range'_succ, List.flatMap_cons, List.append_assoc]
theorem rangeE_map {α β : Type} {R : Type} {step : Unit → α → Option (List β × (Unit ⊕ R))} (f : α → List β) : ∀ {l : List α}, (∀ x ∈ l, step () x = some (f x, .inl ())) → rangeE step l () = some (l.flatMap f, .inl ())
 | [], _ => rfl
 | x :: l, h => by
  have := rangeE_map f (l := l) fun y hy => h y (by simp [hy])
  simp only [rangeE, h x (by simp), this, List.flatMap_cons]
noncomputable instance : DecidableEq GExpr := Classical.typeDecidableEq _
noncomputable instance : DecidableEq GPattern := Classical.typeDecidableEq _
noncomputable instance : DecidableEq GEdge := Classical.typeDecidableEq _
noncomputable instance : DecidableEq GLimit := Classical.typeDecidableEq _
noncomputable instance : DecidableEq Gderivative_rest := Classical.typeDecidableEq _
theorem inc_i64 {i : Nat} (h : i < 1000000000000) : Ar.ar .add .i64 (i : Int) 1 = ((i + 1 : Nat) : Int) := by rw [add_i64 (by omega) (by omega)]; omega
theorem eq_loop {α : Type} [DecidableEq α] {N : Nat} (l m : List α) (hl : l.length = m.length) (hs : l.length < 1000000000000) (f : α → α → Option Bool) (hf : ∀ x ∈ l, ∀ y ∈ m, f x y = some (decide (x = y))) (hN : l.length < N) :
 loopN (fun (i : Int) => if Ar.cmp .lss i (Ar.len l) = true then (idxL l i).bind fun x => (idxL m i).bind fun y => (f x y).bind fun r => if Ar.nt r = true then some (Sum.inr (Sum.inr (α := Unit) ())) else some (.inl (Ar.ar .add .i64 i 1)) else some (.inr (.inl ()))) N 0 = some (if l = m then .inl () else .inr ()) := by
 obtain ⟨r, h1, h2⟩ := loop_inv (step := fun (i : Int) => if Ar.cmp .lss i (Ar.len l) = true then (idxL l i).bind fun x => (idxL m i).bind fun y => (f x y).bind fun r => if Ar.nt r = true then some (Sum.inr (Sum.inr (α := Unit) ())) else some (.inl (Ar.ar .add .i64 i 1)) else some (.inr (.inl ())))
  (fun j s => s = (j : Int) ∧ l.take j = m.take j) (fun r => r = if l = m then .inl () else .inr ()) l.length 0 0 N hN ⟨rfl, by simp⟩
  (fun j s _ hj ⟨e, ht⟩ => by
   subst e
   simp only [Nat.zero_add] at hj
   have hj2 : j < m.length := by omega
   have e1 : l[j]? = some l[j] := by simp [hj]
   have e2 : m[j]? = some m[j] := by simp [hj2]
   simp only [cmp_lss, len_def, show ((j : Int) < (l.length : Int)) by omega, decide_true, if_true, idx_at, e1, e2, Option.bind_some, hf _ (List.getElem_mem hj) _ (List.getElem_mem hj2)]
   by_cases h : l[j] = m[j]
   ·simp only [h, decide_true, nt_def, Bool.not_true, Bool.false_eq_true, if_false]
    refine ⟨_, rfl, inc_i64 (by omega), ?_⟩
    rw [List.take_add_one, List.take_add_one, ht, e1, e2, h]
   ·simp only [h, decide_false, nt_def, Bool.not_false, if_true]
    refine ⟨_, rfl, ?_⟩
    rw [if_neg fun he => h (by subst he; rfl)])
  (fun s ⟨e, ht⟩ => by
   subst e
   simp only [Nat.zero_add] at ht ⊢
   refine ⟨.inl (), by simp [cmp_lss, len_def], ?_⟩
   rw [List.take_length, hl, List.take_length] at ht
   rw [if_pos ht])
 rw [h1, h2]
theorem gexpr_eq {a b : GExpr} : a = b ↔ (a.Op = b.Op ∧ a.Var = b.Var ∧ a.Field = b.Field ∧ a.Kind = b.Kind ∧ a.Value = b.Value) ∧ a.Args = b.Args := by
 cases a; cases b; simp; constructor
 ·rintro ⟨h1, h2, h3, h4, h5, h6⟩; exact ⟨⟨h1, h3, h4, h5, h6⟩, h2⟩
 ·rintro ⟨⟨h1, h3, h4, h5, h6⟩, h2⟩; exact ⟨h1, h2, h3, h4, h5, h6⟩
theorem gvalue_eq {a b : GValue} : a = b ↔ a.Kind = b.Kind ∧ a.Num = b.Num ∧ a.Text = b.Text := by cases a; cases b; simp
theorem gpattern_eq {a b : GPattern} : a = b ↔ (a.Op = b.Op ∧ a.Typ = b.Typ ∧ a.Var = b.Var ∧ a.Scope = b.Scope ∧ a.Span = b.Span) ∧ a.Cond = b.Cond ∧ a.Args = b.Args := by
 cases a; cases b; simp; constructor
 ·rintro ⟨h1, h2, h3, h4, h5, h6, h7⟩; exact ⟨⟨h1, h3, h4, h5, h6⟩, h7, h2⟩
 ·rintro ⟨⟨h1, h3, h4, h5, h6⟩, h7, h2⟩; exact ⟨h1, h2, h3, h4, h5, h6, h7⟩
theorem headB_iff (a b : GExpr) : headB a b = true ↔ ¬ ((a.Op = b.Op ∧ a.Var = b.Var ∧ a.Field = b.Field ∧ a.Kind = b.Kind ∧ a.Value = b.Value) ∧ a.Args.length = b.Args.length) := by
 simp only [headB, or_def, an_def, nt_def, cmp_neq, cmp_eql, scmp_eql, len_def, gvalue_eq, Bool.or_eq_true, Bool.not_eq_true', decide_eq_false_iff_not, Bool.and_eq_false_iff, Bool.and_true, decide_eq_true_eq, Classical.not_and_iff_not_or_not]
 constructor
 ·rintro (((((h | h) | h) | h) | h) | h)
  ·simp [h]
  ·simp [h]
  ·simp [h]
  ·simp [h]
  ·rcases h with h | h | h <;> simp [h]
  ·right; omega
 ·rintro ((h | h | h | h | h) | h)
  ·simp [h]
  ·simp [h]
  ·simp [h]
  ·simp [h]
  ·rcases h with h | h | h <;> simp [h]
  ·right; omega
theorem same8 {N : Nat} (hN : 40000000 ≤ N) : ∀ (n : Nat) (a b : GExpr), a.bulk ≤ n → a.bulk ≤ 16777216 → ref08_Same N n a b = some (decide (a = b)) := by
 intro n
 induction n with
 | zero => intro a b h; have := bulk_pos_e a; omega
 | succ n ih =>
  intro a b hx hb
  have hl := len_bulk_e a
  unfold ref08_Same
  change (if headB a b = true then some false else _) = _
  by_cases h : headB a b = true
  ·rw [if_pos h]
   rw [headB_iff] at h
   rw [decide_eq_false]
   intro e
   exact h ⟨(gexpr_eq.1 e).1, by rw [(gexpr_eq.1 e).2]⟩
  ·rw [if_neg h]
   rw [headB_iff, Classical.not_not] at h
   rw [eq_loop a.Args b.Args h.2 (by omega) _ (fun x hx y hy => ih x y (by have := mem_bulk_e hx; omega) (by have := mem_bulk_e hx; omega)) (by omega)]
   simp only [Option.bind_some]
   by_cases he : a.Args = b.Args
   ·rw [if_pos he, decide_eq_true (gexpr_eq.2 ⟨h.1, he⟩)]
   ·rw [if_neg he, decide_eq_false fun e => he (gexpr_eq.1 e).2]
theorem same9 {N : Nat} (hN : 40000000 ≤ N) : ∀ (n : Nat) (a b : GPattern), a.bulk ≤ n → a.bulk ≤ 16777216 → ref09_Same N n a b = some (decide (a = b)) := by
 intro n
 induction n with
 | zero => intro a b h; have := bulk_pos a; omega
 | succ n ih =>
  intro a b hx hb
  have hl := len_bulk a
  have hc := GPattern.bulk_eq a
  unfold ref09_Same
  by_cases h : a.Op = b.Op ∧ a.Typ = b.Typ ∧ a.Var = b.Var ∧ a.Scope = b.Scope ∧ a.Span = b.Span
  ·rw [if_neg (by obtain ⟨h1, h2, h3, h4, h5⟩ := h; simp [or_def, cmp_neq, h1, h2, h3, h4, h5]), same8 hN N a.Cond b.Cond (by omega) (by omega)]
   simp only [Option.bind_some]
   by_cases hq : a.Cond = b.Cond ∧ a.Args.length = b.Args.length
   ·rw [if_neg (by simp [or_def, nt_def, cmp_neq, len_def, hq.1, hq.2]), eq_loop a.Args b.Args hq.2 (by omega) _ (fun x hx y hy => ih x y (by have := mem_bulk hx; omega) (by have := mem_bulk hx; omega)) (by omega)]
    simp only [Option.bind_some]
    by_cases he : a.Args = b.Args
    ·rw [if_pos he, decide_eq_true (gpattern_eq.2 ⟨h, hq.1, he⟩)]
    ·rw [if_neg he, decide_eq_false fun e => he (gpattern_eq.1 e).2.2]
   ·rw [if_pos, decide_eq_false fun e => hq ⟨(gpattern_eq.1 e).2.1, by rw [(gpattern_eq.1 e).2.2]⟩]
    simp only [or_def, nt_def, cmp_neq, len_def, Bool.or_eq_true, Bool.not_eq_true', decide_eq_false_iff_not]
    by_cases hc : a.Cond = b.Cond
    ·right; intro hx; exact hq ⟨hc, by omega⟩
    ·left; exact hc
  ·rw [if_pos, decide_eq_false fun e => h (gpattern_eq.1 e).1]
   simp only [or_def, cmp_neq, Bool.or_eq_true, Bool.not_eq_true', decide_eq_false_iff_not]
   omega
theorem sameP {N : Nat} (hN : 40000000 ≤ N) : ∀ (n : Nat) (a b : GPattern), a.bulk ≤ n → a.bulk ≤ 16777216 → pattern_Same N n a b = some (decide (a = b)) := by
 intro n
 induction n with
 | zero => intro a b h; have := bulk_pos a; omega
 | succ n ih =>
  intro a b hx hb
  have hl := len_bulk a
  have hc := GPattern.bulk_eq a
  unfold pattern_Same
  by_cases h : a.Op = b.Op ∧ a.Typ = b.Typ ∧ a.Var = b.Var ∧ a.Scope = b.Scope ∧ a.Span = b.Span
  ·rw [if_neg (by obtain ⟨h1, h2, h3, h4, h5⟩ := h; simp [or_def, cmp_neq, h1, h2, h3, h4, h5]), same_same, same8 hN N a.Cond b.Cond (by omega) (by omega)]
   simp only [Option.bind_some]
   by_cases hq : a.Cond = b.Cond
   ·rw [if_neg (by simp [nt_def, hq])]
    unfold slices_EqualFunc_LPattern_LPattern_Pattern_Pattern
    by_cases hq2 : a.Args.length = b.Args.length
    ·rw [if_neg (by simp [cmp_neq, len_def, hq2]), eq_loop a.Args b.Args hq2 (by omega) _ (fun x hx y hy => ih x y (by have := mem_bulk hx; omega) (by have := mem_bulk hx; omega)) (by omega)]
     simp only [Option.bind_some]
     by_cases he : a.Args = b.Args
     ·rw [if_pos he, decide_eq_true (gpattern_eq.2 ⟨h, hq, he⟩)]; rfl
     ·rw [if_neg he, decide_eq_false fun e => he (gpattern_eq.1 e).2.2]; rfl
    ·rw [if_pos (by simp only [cmp_neq, len_def, Bool.not_eq_true', decide_eq_false_iff_not]; omega), decide_eq_false fun e => hq2 (by rw [(gpattern_eq.1 e).2.2])]; rfl
   ·rw [if_pos (by simp [nt_def, hq]), decide_eq_false fun e => hq (gpattern_eq.1 e).2.1]
  ·rw [if_pos, decide_eq_false fun e => h (gpattern_eq.1 e).1]
   simp only [or_def, cmp_neq, Bool.or_eq_true, Bool.not_eq_true', decide_eq_false_iff_not]
   omega
structure Arity (y : GPattern) : Prop where
 op : 0 ≤ y.Op ∧ y.Op ≤ 10
 ev : y.Op = 0 → y.Args = []
 two : 1 ≤ y.Op → y.Op ≤ 3 → 2 ≤ y.Args.length
 one : 4 ≤ y.Op → y.Op ≠ 8 → ∃ a, y.Args = [a]
 more : y.Op = 8 → ∃ a b, y.Args = [a, b]
theorem list_one {α : Type} {l : List α} (h : l.length = 1) : ∃ a, l = [a] := List.length_eq_one_iff.1 h
theorem list_two {α : Type} {l : List α} (h : l.length = 2) : ∃ a b, l = [a, b] := by
 match l, h with
 | [a, b], _ => exact ⟨a, b, rfl⟩
theorem arity_ok {N : Nat} (hN : 40000000 ≤ N) {y : GPattern} (hb : y.bulk ≤ 16777216) (hl : y.Args.length ≤ 64) (h : nodeBad N y = 0) : Arity y := by
 have hc : y.Cond.bulk ≤ 16777216 := by have := GPattern.bulk_eq y; omega
 by_cases hop : 0 ≤ y.Op ∧ y.Op ≤ 10
 ·obtain ⟨s, ng, hs⟩ := shape_ok N y hop.1 hop.2 hl
  obtain ⟨sz, hz⟩ := same_zero hN y.Cond
  have h1 := check_patr hN hc hop.1 hop.2 hs hz
  rw [(node_both hN hb hl).2, h] at h1
  have h2 : s.least ≤ y.Args.length ∧ (y.Args.length : Int) ≤ s.most := by
   have h1 := Option.some.inj h1
   by_cases hc : s.least ≤ y.Args.length ∧ (y.Args.length : Int) ≤ s.most
   ·exact hc
   ·rw [if_neg hc] at h1; cases h1
  have ht := hs.tab
  refine ⟨hop, fun ho => ?_, fun ha hb => ?_, fun ha hb => ?_, fun ho => ?_⟩
  ·rw [ho] at ht; cases ht
   simp only at h2
   exact List.eq_nil_of_length_eq_zero (by omega)
  ·have ho : y.Op = 1 ∨ y.Op = 2 ∨ y.Op = 3 := by omega
   rcases ho with ho | ho | ho <;> rw [ho] at ht <;> cases ht <;> simp only at h2 <;> omega
  ·have ho : y.Op = 4 ∨ y.Op = 5 ∨ y.Op = 6 ∨ y.Op = 7 ∨ y.Op = 9 ∨ y.Op = 10 := by omega
   apply list_one
   rcases ho with ho | ho | ho | ho | ho | ho <;> rw [ho] at ht <;> cases ht <;> simp only at h2 <;> omega
  ·apply list_two
   rw [ho] at ht; cases ht; simp only at h2; omega
 ·obtain ⟨h1, h2⟩ := op_no hop
  exfalso
  unfold nodeBad ref09_node at h
  rw [if_pos h2] at h
  cases h
end Go.Ab

namespace Go.Ab
theorem loopE_run {β S R : Type} {step : S → Option (List β × (S ⊕ R))} (st : Nat → S) (f : Nat → List β) (w : List β) (r : R) (k : Nat) {s0 : S} {N : Nat} (h0 : s0 = st 0) (hN : k < N) (hs : ∀ j, j < k → step (st j) = some (f j, .inl (st (j + 1)))) (he : step (st k) = some (w, .inr r)) :
 loopE step N s0 = some ((List.range k).flatMap f ++ w, r) := by
 rw [h0, loopE_seq st f w r k 0 hN (fun j _ h => hs j (by omega)) (by rw [Nat.zero_add]; exact he), List.range_eq_range']
theorem loop_run {S R : Type} {step : S → Option (S ⊕ R)} (st : Nat → S) (k : Nat) (r : R) {s0 : S} {N : Nat} (h0 : s0 = st 0) (hN : k < N) (hs : ∀ j, j < k → step (st j) = some (.inl (st (j + 1)))) (he : step (st k) = some (.inr r)) : loopN step N s0 = some r := by
 rw [h0]; exact loop_seq st k r hN hs he
abbrev Pr := GEdge × Gderivative_rest
def zE : GExpr := ⟨0, [], 0, 0, 0, ⟨0, 0, ⟨#[]⟩⟩⟩
def zP : GPattern := ⟨0, [], 0, 0, 0, 0, zE⟩
def nd (op : Int) (args : List GPattern) : GPattern := ⟨op, args, 0, 0, 0, 0, zE⟩
def doneR : Gderivative_rest := ⟨true, zP⟩
def listP (op : Int) (l : List GPattern) : GPattern := match l with | [x] => x | l => nd op l
theorem list_eqD (N : Nat) (op : Int) (l : List GPattern) : derivative_list N op l = some (listP op l) := by
 unfold derivative_list
 match l with
 | [] => rfl
 | [x] => rfl
 | x :: y :: l => rw [if_neg (by simp only [cmp_eql, len_def, List.length_cons, decide_eq_true_eq]; omega)]; rfl
def contR (r : Gderivative_rest) (more : List GPattern) : Gderivative_rest :=
 match (if r.done = true then more else r.p :: more) with
 | [] => doneR
 | l => ⟨false, listP 1 l⟩
theorem cont_eq (N : Nat) (r : Gderivative_rest) (more : List GPattern) (h : more.length ≤ 1000000) : derivative_continued N r more = some (contR r more) := by
 unfold derivative_continued slices_Clone_LPattern_Pattern slices_Insert_LPattern_Pattern contR
 rw [appL_eq (by simp; omega)]
 simp only [Option.bind_some, List.nil_append, nt_def, list_eqD]
 cases hr : r.done with
 | true =>
  simp only [Bool.not_true, Bool.false_eq_true, if_false, Option.bind_some, if_true]
  cases more with
  | nil => rfl
  | cons x l => rw [if_neg (by simp only [cmp_eql, len_def, List.length_cons, decide_eq_true_eq]; omega)]
 | false =>
  have e : insertL more 0 [r.p] = some (r.p :: more) := by
   unfold insertL
   rw [if_pos (by simp; omega)]
   simp
  simp only [Bool.not_false, if_true, e, Option.bind_some, Bool.false_eq_true, if_false]
  rw [if_neg (by simp only [cmp_eql, len_def, List.length_cons, decide_eq_true_eq]; omega)]
def joinR (args : List GPattern) (i : Nat) (r : Gderivative_rest) : Gderivative_rest :=
 ⟨false, listP 3 (if r.done = true then args.take i ++ args.drop (i + 1) else args.set i r.p)⟩
theorem join_eq (N : Nat) (args : List GPattern) (i : Nat) (r : Gderivative_rest) (hi : i < args.length) (h : args.length ≤ 1000000) : derivative_joined N args (i : Int) r = some (joinR args i r) := by
 unfold derivative_joined slices_Clone_LPattern_Pattern slices_Delete_LPattern_Pattern joinR
 rw [appL_eq (by simp; omega)]
 simp only [Option.bind_some, List.nil_append, list_eqD]
 cases hr : r.done with
 | true =>
  have e : deleteL args (i : Int) (Ar.ar .add .i64 (i : Int) 1) = some (args.take i ++ args.drop (i + 1)) := by
   rw [inc_i64 (by omega)]
   unfold deleteL
   rw [if_pos (by omega)]
   simp
  simp only [if_true, e, Option.bind_some]
 | false =>
  have e : updL args (i : Int) (fun _ => r.p) = some (args.set i r.p) := by
   unfold updL
   rw [idx_at, List.getElem?_eq_getElem hi]
   simp
  have e2 : inR args (i : Int) = true := by unfold inR; exact decide_eq_true (by omega)
  simp only [Bool.false_eq_true, if_false, e, e2, req, if_true, Option.bind_some]
def Esz (e : GEdge) (k : Nat) : Prop := e.Opens.length ≤ k ∧ e.Closes.length ≤ k ∧ e.Checks.length ≤ k ∧ e.Limits.length ≤ k ∧ e.Inside.length ≤ k
theorem concat_two {α : Type} {N : Nat} (hN : 3 ≤ N) (l m : List α) (h : l.length + m.length ≤ 1000000000) (grow : List α → Int → Option (List α)) (hg : ∀ n, 0 ≤ n → n ≤ 1073741824 → grow [] n = some []) :
 ((loopN (fun (s1 : Int × Int) => (if Ar.cmp .lss s1.2 (Ar.len [l, m]) = true then (idxL [l, m] s1.2).bind fun x3 => if Ar.cmp .lss (Ar.ar .add .i64 s1.1 (Ar.len x3)) 0 = true then none else some (.inl (Ar.ar .add .i64 s1.1 (Ar.len x3), Ar.ar .add .i64 s1.2 1)) else some (.inr s1.1) : Option ((Int × Int) ⊕ Int))) N (0, 0)).bind fun s2 =>
  (grow [] s2).bind fun l4 => (loopN (fun (s6 : Int × List α) => (if Ar.cmp .lss s6.1 (Ar.len [l, m]) = true then (idxL [l, m] s6.1).bind fun x9 => (appL s6.2 x9).bind fun l11 => some (.inl (Ar.ar .add .i64 s6.1 1, l11)) else some (.inr s6.2) : Option ((Int × List α) ⊕ List α))) N (0, l4)).bind fun s8 => some s8) = some (l ++ m) := by
 have e1 : Ar.ar .add .i64 0 (l.length : Int) = l.length := by rw [add_i64 (by omega) (by omega)]; omega
 have e2 : Ar.ar .add .i64 (l.length : Int) (m.length : Int) = l.length + m.length := by rw [add_i64 (by omega) (by omega)]
 have e3 : Ar.ar .add .i64 0 1 = 1 := by rw [add_i64 (by omega) (by omega)]; rfl
 have e4 : Ar.ar .add .i64 1 1 = 2 := by rw [add_i64 (by omega) (by omega)]; rfl
 obtain ⟨N, rfl⟩ : ∃ M, N = M + 3 := ⟨N - 3, by omega⟩
 have i0 : idxL [l, m] 0 = some l := rfl
 have i1 : idxL [l, m] 1 = some m := rfl
 have c0 : Ar.cmp .lss 0 (Ar.len [l, m]) = true := rfl
 have c1 : Ar.cmp .lss 1 (Ar.len [l, m]) = true := rfl
 have c2 : Ar.cmp .lss 2 (Ar.len [l, m]) = false := rfl
 have n1 : Ar.cmp .lss (l.length : Int) 0 = false := by rw [cmp_lss]; exact decide_eq_false (by omega)
 have n2 : Ar.cmp .lss ((l.length : Int) + m.length) 0 = false := by rw [cmp_lss]; exact decide_eq_false (by omega)
 have hl : ∀ x : List α, Ar.len x = (x.length : Int) := fun x => rfl
 simp only [loopN, c0, if_true, i0, Option.bind_some, hl l, e1, n1, Bool.false_eq_true, if_false, e3, c1, i1, hl m, e2, n2, e4, c2]
 rw [hg _ (by omega) (by omega)]
 simp only [Option.bind_some]
 rw [appL_eq (by simp; omega)]
 simp only [Option.bind_some, e3, c1, if_true, i1, List.nil_append]
 rw [appL_eq (by omega)]
 simp only [Option.bind_some, e4, c2, Bool.false_eq_true, if_false]
theorem grow_nil {α : Type} (n : Int) (h0 : 0 ≤ n) (h1 : n ≤ 1073741824) : growL ([] : List α) n = some [] := by unfold growL; rw [if_pos ⟨h0, h1⟩]
theorem concatE {N : Nat} (hN : 3 ≤ N) (l m : List GExpr) (h : l.length + m.length ≤ 1000000000) : slices_Concat_LExpr_Expr N [l, m] = some (l ++ m) := concat_two hN l m h _ fun n a b => grow_nil n a b
theorem concatI {N : Nat} (hN : 3 ≤ N) (l m : List Int) (h : l.length + m.length ≤ 1000000000) : slices_Concat_Lint_int N [l, m] = some (l ++ m) := concat_two hN l m h _ fun n a b => grow_nil n a b
theorem concatL {N : Nat} (hN : 3 ≤ N) (l m : List GLimit) (h : l.length + m.length ≤ 1000000000) : slices_Concat_LLimit_Limit N [l, m] = some (l ++ m) := concat_two hN l m h _ fun n a b => grow_nil n a b
def scopE (p : GPattern) (x : GEdge) (done opens : Bool) : GEdge :=
 { x with
  Opens := if opens = true then p.Scope :: x.Opens else x.Opens
  Inside := if p.Op = 5 ∨ p.Op = 9 then p.Scope :: x.Inside else x.Inside
  Limits := if p.Op = 5 ∨ p.Op = 9 then x.Limits else ⟨p.Scope, p.Span⟩ :: x.Limits
  Closes := if done = true then x.Closes ++ [p.Scope] else x.Closes }
theorem scop_eq {N : Nat} (hN : 3 ≤ N) (p : GPattern) (x : GEdge) (done opens : Bool) (h : Esz x 1000) : derivative_scoped N p x done opens = some (scopE p x done opens) := by
 obtain ⟨h1, h2, h3, h4, h5⟩ := h
 unfold derivative_scoped scopE
 simp only [or_def, cmp_eql, ← Bool.decide_or, decide_eq_true_eq]
 cases opens <;> cases done <;> by_cases h : p.Op = 5 ∨ p.Op = 9
 all_goals
  simp only [h, if_true, Bool.false_eq_true, if_false, Option.bind_some]
  try rw [concatI (by omega) [p.Scope] x.Opens (by simp; omega)]
  try simp only [Option.bind_some]
  try rw [concatI (by omega) [p.Scope] x.Inside (by simp; omega)]
  try rw [concatL (by omega) [⟨p.Scope, p.Span⟩] x.Limits (by simp; omega)]
  try simp only [Option.bind_some]
  try rw [concatI (by omega) x.Closes [p.Scope] (by simp; omega)]
  rfl
def rep (again : GPattern) (y : Pr) : List Pr :=
 if y.2.done = true then [y, (y.1, ⟨false, again⟩)] else match again.Args with | b :: _ => [(y.1, ⟨false, nd 8 [y.2.p, b]⟩)] | [] => []
def innE (x : GPattern) (y : Pr) : GEdge :=
 if x.Op = 7 then (if y.2.done = true then { y.1 with Checks := y.1.Checks ++ [x.Cond] } else y.1)
 else scopE x y.1 y.2.done (if x.Op = 5 ∨ x.Op = 9 then decide (x.Op = 5) else decide (x.Op = 6))
def innOp (x : GPattern) : Int := if x.Op = 7 then 7 else if x.Op = 5 ∨ x.Op = 9 then 9 else 10
def innR (x : GPattern) (r : Gderivative_rest) : Gderivative_rest := if r.done = true then r else { r with p := { x with Op := innOp x, Args := [r.p] } }
def inn (x : GPattern) (y : Pr) : Pr := (innE x y, innR x y.2)
def comb (x : GPattern) (ls : List (List Pr)) : List Pr :=
 if x.Op = 0 then [(⟨0, 0, x.Var, x.Typ, x.Cond, [], [], [], [], []⟩, doneR)]
 else if x.Op = 1 then (ls.headD []).map fun y => (y.1, contR y.2 (x.Args.drop 1))
 else if x.Op = 2 then (List.range x.Args.length).flatMap fun i => ls.getD i []
 else if x.Op = 3 then (List.range x.Args.length).flatMap fun i => (ls.getD i []).map fun y => (y.1, joinR x.Args i y.2)
 else if x.Op = 4 then (ls.headD []).flatMap (rep x)
 else if x.Op = 8 then (ls.headD []).flatMap (rep (nd 4 (x.Args.drop 1)))
 else (ls.headD []).map (inn x)
mutual
def raw : GPattern → List Pr
 | ⟨op, args, typ, var, scope, span, c⟩ => comb ⟨op, args, typ, var, scope, span, c⟩ (raws args)
def raws : List GPattern → List (List Pr)
 | [] => []
 | a :: l => raw a :: raws l
end
theorem raws_map : ∀ l : List GPattern, raws l = l.map raw
 | [] => rfl
 | a :: l => by simp [raws, raws_map l]
theorem raw_eq (x : GPattern) : raw x = comb x (x.Args.map raw) := by cases x; simp only [raw, raws_map]
theorem Esz.mono {e : GEdge} {k m : Nat} (h : Esz e k) (hm : k ≤ m) : Esz e m := by obtain ⟨h1, h2, h3, h4, h5⟩ := h; exact ⟨by omega, by omega, by omega, by omega, by omega⟩
theorem scopE_sz {p : GPattern} {x : GEdge} {k : Nat} (h : Esz x k) (d o : Bool) : Esz (scopE p x d o) (k + 1) := by
 obtain ⟨h1, h2, h3, h4, h5⟩ := h
 unfold scopE
 refine ⟨?_, ?_, ?_, ?_, ?_⟩ <;> simp only
 ·split <;> (try simp only [List.length_cons, List.length_append, List.length_nil]) <;> omega
 ·split <;> (try simp only [List.length_cons, List.length_append, List.length_nil]) <;> omega
 ·omega
 ·split <;> (try simp only [List.length_cons, List.length_append, List.length_nil]) <;> omega
 ·split <;> (try simp only [List.length_cons, List.length_append, List.length_nil]) <;> omega
theorem innE_sz {x : GPattern} {y : Pr} {k : Nat} (h : Esz y.1 k) : Esz (innE x y) (k + 1) := by
 unfold innE
 split
 ·split
  ·obtain ⟨h1, h2, h3, h4, h5⟩ := h
   refine ⟨?_, ?_, ?_, ?_, ?_⟩ <;> simp <;> omega
  ·exact h.mono (by omega)
 ·exact scopE_sz h _ _
theorem rep_mem {a : GPattern} {y z : Pr} (h : z ∈ rep a y) : z.1 = y.1 := by
 unfold rep at h
 split at h
 ·rcases List.mem_cons.1 h with rfl | h
  ·rfl
  ·rw [List.mem_singleton.1 h]
 ·split at h
  ·rw [List.mem_singleton.1 h]
  ·simp at h
theorem dep_mem {x a : GPattern} (h : a ∈ x.Args) : a.dep < x.dep := by
 rw [GPattern.dep_eq x]
 have key : ∀ l : List GPattern, a ∈ l → a.dep ≤ GPattern.deps l := fun l => by
  induction l with
  | nil => intro h; simp at h
  | cons b l ih =>
   intro h
   simp only [GPattern.deps]
   rcases List.mem_cons.1 h with rfl | h
   ·omega
   ·have := ih h; omega
 have := key _ h
 omega
theorem getD_map_raw {l : List GPattern} {i : Nat} {y : Pr} (h : y ∈ (l.map raw).getD i []) : ∃ a ∈ l, y ∈ raw a := by
 by_cases hi : i < l.length
 ·rw [List.getD_eq_getElem?_getD, List.getElem?_map, List.getElem?_eq_getElem hi] at h
  exact ⟨l[i], List.getElem_mem hi, h⟩
 ·rw [List.getD_eq_getElem?_getD, List.getElem?_map, List.getElem?_eq_none (by omega)] at h
  simp at h
theorem headD_map_raw {l : List GPattern} {y : Pr} (h : y ∈ (l.map raw).headD []) : ∃ a ∈ l, y ∈ raw a := by
 cases l with
 | nil => simp at h
 | cons a l => exact ⟨a, by simp, h⟩
theorem raw_sz : ∀ (d : Nat) (x : GPattern), x.dep ≤ d → ∀ y ∈ raw x, Esz y.1 d := by
 intro d
 induction d with
 | zero => intro x h; rw [GPattern.dep_eq] at h; omega
 | succ d ih =>
  intro x hd y hy
  rw [raw_eq] at hy
  have hrec : ∀ a ∈ x.Args, ∀ y ∈ raw a, Esz y.1 d := fun a ha => ih a (by have := dep_mem ha; omega)
  unfold comb at hy
  split at hy
  ·rw [List.mem_singleton.1 hy]; exact ⟨by simp, by simp, by simp, by simp, by simp⟩
  split at hy
  ·obtain ⟨z, hz, rfl⟩ := List.mem_map.1 hy
   obtain ⟨a, ha, hz⟩ := headD_map_raw hz
   exact (hrec a ha z hz).mono (by omega)
  split at hy
  ·obtain ⟨i, _, hz⟩ := List.mem_flatMap.1 hy
   obtain ⟨a, ha, hz⟩ := getD_map_raw hz
   exact (hrec a ha y hz).mono (by omega)
  split at hy
  ·obtain ⟨i, _, hz⟩ := List.mem_flatMap.1 hy
   obtain ⟨z, hz2, rfl⟩ := List.mem_map.1 hz
   obtain ⟨a, ha, hz⟩ := getD_map_raw hz2
   exact (hrec a ha z hz).mono (by omega)
  split at hy
  ·obtain ⟨z, hz, hy⟩ := List.mem_flatMap.1 hy
   obtain ⟨a, ha, hz⟩ := headD_map_raw hz
   rw [rep_mem hy]
   exact (hrec a ha z hz).mono (by omega)
  split at hy
  ·obtain ⟨z, hz, hy⟩ := List.mem_flatMap.1 hy
   obtain ⟨a, ha, hz⟩ := headD_map_raw hz
   rw [rep_mem hy]
   exact (hrec a ha z hz).mono (by omega)
  ·obtain ⟨z, hz, rfl⟩ := List.mem_map.1 hy
   obtain ⟨a, ha, hz⟩ := headD_map_raw hz
   exact innE_sz (hrec a ha z hz)
theorem slice_tail {α : Type} {l : List α} (h : 1 ≤ l.length) : sliceL l (some 1) none none = some (l.drop 1) := by
 unfold sliceL
 rw [if_pos (by simp; omega)]
 simp only [Option.getD_some, Option.getD_none, Int.toNat_one, Int.toNat_natCast]
 rw [List.take_of_length_le (by simp)]
end Go.Ab

namespace Go.Ab
theorem or3 {x : GPattern} : ((if Ar.cmp .eql x.Op 1 = true then some true else if Ar.cmp .eql x.Op 2 = true then some true else some (Ar.cmp .eql x.Op 3)) : Option Bool) = some (decide (x.Op = 1 ∨ x.Op = 2 ∨ x.Op = 3)) := by
 simp only [cmp_eql, decide_eq_true_eq]
 by_cases h1 : x.Op = 1
 ·simp [h1]
 ·by_cases h2 : x.Op = 2
  ·simp [h2]
  ·simp [h1, h2]
theorem flatMap_one {α β : Type} (f : α → β) : ∀ l : List α, l.flatMap (fun x => [f x]) = l.map f
 | [] => rfl
 | x :: l => by rw [List.flatMap_cons, flatMap_one f l]; rfl
theorem getD_map_at {l : List GPattern} {j : Nat} (h : j < l.length) : (l.map raw).getD j [] = raw l[j] := by
 rw [List.getD_eq_getElem?_getD, List.getElem?_map, List.getElem?_eq_getElem h]; rfl
theorem rep_eq {y : Pr} {ag : GPattern} {b : GPattern} {l : List GPattern} (h : ag.Args = b :: l) :
 (if Ar.nt y.2.done = true then (idxL ag.Args 0).bind fun x11 => thenE (some ([(y.1, (⟨false, (⟨8, [y.2.p, x11], 0, 0, 0, 0, (⟨0, [], 0, 0, 0, (⟨0, 0, ⟨#[]⟩⟩ : GValue)⟩ : GExpr)⟩ : GPattern)⟩ : Gderivative_rest))], ())) fun _ => some ([], .inl ())
  else thenE (some ([(y.1, y.2)], ())) fun _ => thenE (some ([(y.1, (⟨false, ag⟩ : Gderivative_rest))], ())) fun _ => some ([], .inl ()) : Option (List Pr × (Unit ⊕ Unit))) = some (rep ag y, .inl ()) := by
 unfold rep
 rw [h]
 cases hy : y.2.done with
 | true => simp [thenE, nt_def]
 | false => simp [thenE, nt_def, idxL]; rfl
theorem range_loop1 (N : Nat) (x1 x2 : GPattern) (n : Nat) {l : List Pr} {b : GPattern} {k : List GPattern} (hb : x2.Args = b :: k) (hp : derivative_pairs N n x1 = some l) : derivative_repeated_1 N (n + 1) x1 x2 = some (l.flatMap (rep x2)) := by
 unfold derivative_repeated_1
 rw [hp]
 simp only [Option.bind_some]
 rw [rangeE_map (fun y => rep x2 y) fun y _ => rep_eq hb]
 simp [thenE]
theorem inn_eq {N : Nat} (hN : 3 ≤ N) (x : GPattern) (y : Pr) (h : Esz y.1 1000) :
 (thenE ((if Ar.cmp .eql x.Op 7 = true then (if y.2.done = true then (slices_Concat_LExpr_Expr N ([y.1.Checks, [x.Cond]])).bind fun r17 => some ([], (x.Op, { y.1 with Checks := r17 })) else some ([], (x.Op, y.1)))
  else thenE ((if Ar.cmp .eql x.Op 5 = true then some ([], true) else some ([], Ar.cmp .eql x.Op 9)) : Option (List Pr × Bool)) fun s18 =>
   if s18 = true then (derivative_scoped N x y.1 y.2.done (Ar.cmp .eql x.Op 5)).bind fun r21 => some ([], (9, r21))
   else (derivative_scoped N x y.1 y.2.done (Ar.cmp .eql x.Op 6)).bind fun r22 => some ([], (10, r22))) : Option (List Pr × (Int × GEdge))) fun s14 =>
  thenE ((if Ar.nt y.2.done = true then (derivative_within N x s14.1 y.2.p).bind fun r26 => some ([], { y.2 with p := r26 }) else some ([], y.2)) : Option (List Pr × Gderivative_rest)) fun s23 =>
  thenE (some ([(s14.2, s23)], ())) fun _ => some ([], .inl ()) : Option (List Pr × (Unit ⊕ Unit))) = some ([inn x y], .inl ()) := by
 obtain ⟨h1, h2, h3, h4, h5⟩ := id h
 unfold inn innE innR innOp derivative_within
 simp only [cmp_eql, decide_eq_true_eq, nt_def]
 by_cases h7 : x.Op = 7
 ·cases hy : y.2.done with
  | true =>
   rw [if_pos h7, if_pos rfl, concatE hN _ _ (by simp; omega)]
   simp [thenE, h7]
  | false =>
   rw [if_pos h7, if_neg (by simp)]
   simp [thenE, h7]
 ·rw [if_neg h7, if_neg h7, if_neg h7]
  by_cases h59 : x.Op = 5 ∨ x.Op = 9
  ·have e : ((if x.Op = 5 then some ([], true) else some ([], decide (x.Op = 9))) : Option (List Pr × Bool)) = some ([], true) := by
    rcases h59 with h | h <;> simp [h]
   rw [e, if_pos h59, if_pos h59]
   simp only [thenE, Option.bind_some, if_true, scop_eq hN _ _ _ _ h]
   cases hy : y.2.done <;> simp
  ·have e : ((if x.Op = 5 then some ([], true) else some ([], decide (x.Op = 9))) : Option (List Pr × Bool)) = some ([], false) := by
    rw [not_or] at h59; simp [h59.1, h59.2]
   rw [e, if_neg h59, if_neg h59]
   simp only [thenE, Option.bind_some, Bool.false_eq_true, if_false, scop_eq hN _ _ _ _ h]
   cases hy : y.2.done <;> simp
theorem pairs_eq {N : Nat} (hN : 40000000 ≤ N) : ∀ (d : Nat) (x : GPattern) (n : Nat), x.dep ≤ d → d ≤ 100 → 3 * d ≤ n + 2 → x.bulk ≤ 16777216 → x.pre.length ≤ 64 → Good N x → derivative_pairs N n x = some (raw x) := by
 intro d
 induction d with
 | zero => intro x n h; rw [GPattern.dep_eq] at h; omega
 | succ d ih =>
  intro x n hd hd100 hn hb hp hg
  have hap := args_pre x
  have hself : nodeBad N x = 0 := hg x (by rw [GPattern.pre_eq]; simp)
  have ha := arity_ok hN hb (by omega) hself
  have hrec : ∀ a ∈ x.Args, ∀ m, 3 * d ≤ m + 2 → derivative_pairs N m a = some (raw a) := fun a ham m hm => by
   have := mem_bulk ham
   have := pre_arg ham
   have := dep_mem ham
   exact ih a m (by omega) (by omega) hm (by omega) (by omega) (hg.arg ham)
  have hsz : ∀ a ∈ x.Args, ∀ y ∈ raw a, Esz y.1 1000 := fun a ham y hy => (raw_sz d a (by have := dep_mem ham; omega) y hy).mono (by omega)
  obtain ⟨n, rfl⟩ : ∃ m, n = m + 1 := ⟨n - 1, by omega⟩
  rw [raw_eq]
  unfold derivative_pairs comb
  by_cases h0 : x.Op = 0
  ·rw [if_pos (eql_true h0), if_pos h0]
   unfold derivative_pairs_1
   simp [thenE]; rfl
  rw [if_neg (by rw [eql_false h0]; simp), if_neg h0, or3]
  simp only [Option.bind_some, decide_eq_true_eq]
  have hop := ha.op
  have hd1 : 1 ≤ d := by
   have : x.Args ≠ [] := by
    by_cases h3 : x.Op ≤ 3
    ·have := ha.two (by omega) h3; intro e; rw [e] at this; simp at this
    ·by_cases h8 : x.Op = 8
     ·obtain ⟨a, b, e⟩ := ha.more h8; rw [e]; simp
     ·obtain ⟨a, e⟩ := ha.one (by omega) h8; rw [e]; simp
   obtain ⟨a, hm⟩ := List.exists_mem_of_ne_nil _ this
   have := dep_mem hm
   have := GPattern.dep_eq a
   omega
  obtain ⟨n, rfl⟩ : ∃ m, n = m + 2 := ⟨n - 2, by omega⟩
  by_cases h123 : x.Op = 1 ∨ x.Op = 2 ∨ x.Op = 3
  ·rw [if_pos h123]
   have htwo := ha.two (by omega) (by omega)
   unfold derivative_branches derivative_branches_1
   by_cases h1 : x.Op = 1
   ·rw [if_pos h1]
    rw [loopE_run (s0 := (0 : Int)) (st := fun j => (j : Int)) (f := fun j => (raw (x.Args.getD j zP)).map fun y => (y.1, contR y.2 (x.Args.drop 1))) (w := []) (r := (Sum.inr () : Unit ⊕ Unit)) (k := 1) rfl (by omega) ?_ ?_]
    ·match he : x.Args, htwo with
     | a :: l, _ => simp [thenE]
    ·intro j hj
     obtain rfl : j = 0 := by omega
     match he : x.Args, htwo with
     | a :: l, htwo =>
      have hm : a ∈ x.Args := by rw [he]; simp
      rw [if_pos (by simp only [cmp_lss, len_def]; exact decide_eq_true (by omega))]
      have e : idxL (a :: l) ((0 : Nat) : Int) = some a := rfl
      rw [e]
      simp only [Option.bind_some]
      rw [if_neg (by simp [an_def, cmp_gtr]), hrec a hm n (by omega)]
      simp only [Option.bind_some]
      rw [rangeE_map (fun y => [(y.1, contR y.2 l)]) fun y _ => by
       rw [if_pos (eql_true h1), slice_tail (by simp)]
       simp only [Option.bind_some, List.drop_succ_cons, List.drop_zero]
       rw [cont_eq _ _ _ (by rw [he] at hap; simp only [List.length_cons] at hap; omega)]
       simp [thenE]]
      simp [thenE, flatMap_one]
      exact inc_i64 (i := 0) (by omega)
    ·rw [if_pos (by simp only [cmp_lss, len_def]; exact decide_eq_true (by omega))]
     have e : ∃ b, idxL x.Args ((1 : Nat) : Int) = some b := by
      rw [idx_at, List.getElem?_eq_getElem (by omega)]; exact ⟨_, rfl⟩
     obtain ⟨b, e⟩ := e
     rw [e]
     simp only [Option.bind_some]
     rw [if_pos (by simp [an_def, cmp_gtr, cmp_eql, h1])]
   ·rw [if_neg h1]
    by_cases h2 : x.Op = 2
    ·rw [if_pos h2]
     rw [loopE_run (s0 := (0 : Int)) (st := fun j => (j : Int)) (f := fun j => (x.Args.map raw).getD j []) (w := []) (r := (Sum.inl () : Unit ⊕ Unit)) (k := x.Args.length) rfl (by omega) ?_ ?_]
     ·simp [thenE]
     ·intro j hj
      have e : idxL x.Args (j : Int) = some x.Args[j] := by rw [idx_at, List.getElem?_eq_getElem hj]
      have hm := List.getElem_mem hj
      simp only [e, Option.bind_some]
      rw [if_pos (by simp only [cmp_lss, len_def]; exact decide_eq_true (by omega)), if_neg (by simp [an_def, cmp_eql, h1]), hrec _ hm n (by omega)]
      simp only [Option.bind_some]
      rw [rangeE_map (fun y => [y]) fun y _ => by
       rw [if_neg (by simp [cmp_eql, h1]), if_neg (by simp [cmp_eql, h2])]
       simp [thenE]]
      rw [getD_map_at hj, flatMap_one (fun y => y)]
      simp [thenE, inc_i64 (i := j) (by omega)]
     ·rw [if_neg (by simp [cmp_lss, len_def])]
    ·have h3 : x.Op = 3 := by omega
     rw [if_neg h2, if_pos h3]
     rw [loopE_run (s0 := (0 : Int)) (st := fun j => (j : Int)) (f := fun j => ((x.Args.map raw).getD j []).map fun y => (y.1, joinR x.Args j y.2)) (w := []) (r := (Sum.inl () : Unit ⊕ Unit)) (k := x.Args.length) rfl (by omega) ?_ ?_]
     ·simp [thenE]
     ·intro j hj
      have e : idxL x.Args (j : Int) = some x.Args[j] := by rw [idx_at, List.getElem?_eq_getElem hj]
      have hm := List.getElem_mem hj
      simp only [e, Option.bind_some]
      rw [if_pos (by simp only [cmp_lss, len_def]; exact decide_eq_true (by omega)), if_neg (by simp [an_def, cmp_eql, h1]), hrec _ hm n (by omega)]
      simp only [Option.bind_some]
      rw [rangeE_map (fun y => [(y.1, joinR x.Args j y.2)]) fun y _ => by
       rw [if_neg (by simp [cmp_eql, h1]), if_pos (eql_true h3), join_eq _ _ _ _ hj (by omega)]
       simp [thenE]]
      rw [getD_map_at hj, flatMap_one]
      simp [thenE, inc_i64 (i := j) (by omega)]
     ·rw [if_neg (by simp [cmp_lss, len_def])]
  ·rw [if_neg h123, if_neg (show ¬ x.Op = 1 by omega), if_neg (show ¬ x.Op = 2 by omega), if_neg (show ¬ x.Op = 3 by omega)]
   simp only [cmp_eql, decide_eq_true_eq]
   by_cases h4 : x.Op = 4
   ·rw [if_pos h4, if_pos h4]
    obtain ⟨a, e⟩ := ha.one (by omega) (by omega)
    have e0 : idxL x.Args 0 = some a := by rw [e]; rfl
    rw [e0]
    simp only [Option.bind_some]
    unfold derivative_repeated
    rw [range_loop1 N a x n (b := a) (k := []) e (hrec a (by rw [e]; simp) n (by omega))]
    rw [e]; rfl
   ·rw [if_neg h4, if_neg h4]
    by_cases h8 : x.Op = 8
    ·rw [if_pos h8, if_pos h8]
     obtain ⟨a, b, e⟩ := ha.more h8
     have e0 : idxL x.Args 0 = some a := by rw [e]; rfl
     have e1 : sliceL x.Args (some 1) (some 2) (some 2) = some [b] := by rw [e]; rfl
     rw [e0, e1]
     simp only [Option.bind_some]
     unfold derivative_repeated
     rw [range_loop1 N a _ n (b := b) (k := []) rfl (hrec a (by rw [e]; simp) n (by omega))]
     rw [e]; rfl
    ·rw [if_neg h8, if_neg h8]
     obtain ⟨a, e⟩ := ha.one (by omega) (by omega)
     have e0 : idxL x.Args 0 = some a := by rw [e]; rfl
     have hma : a ∈ x.Args := by rw [e]; simp
     unfold derivative_inner derivative_inner_1
     rw [e0]
     simp only [Option.bind_some]
     rw [hrec a hma n (by omega)]
     simp only [Option.bind_some]
     rw [rangeE_map (fun y => [inn x y]) fun y hy => inn_eq (by omega) x y (hsz a hma y hy)]
     rw [e, flatMap_one]
     simp [thenE]
end Go.Ab

