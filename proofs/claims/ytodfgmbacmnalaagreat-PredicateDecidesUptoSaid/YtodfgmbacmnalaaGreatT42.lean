/- GQL15 GQL16 GQL17 -/
import Derived.Test.YtodfgmbacmnalaaGreatT41
import Derived.Test.YtodfgmbacmnalaaGreatT26
import Derived.Test.YtodfgmbacmnalaaGreatT39
set_option linter.all false

namespace Go.Ab
open Go.Lib
theorem compact_asc {zs : List Int} (h : zs.Pairwise (· ≤ ·)) : (Lib.compact zs).Pairwise (· < ·) := by
 have at_ : ∀ i, (hi : i < zs.length) → zs.toArray[i]! = zs[i] := fun i hi => by simp [hi]
 have key : ∀ m, m ≤ zs.length → (compactUpTo zs.toArray m).Pairwise (· < ·) ∧ ∀ x ∈ compactUpTo zs.toArray m, 0 < m ∧ x ≤ zs.toArray[m - 1]! := by
  intro m
  induction m with
  | zero => intro _; exact ⟨by simp [compactUpTo], fun x hx => by simp [compactUpTo] at hx⟩
  | succ m ih =>
   intro hm
   obtain ⟨h1, h2⟩ := ih (by omega)
   have hle : 0 < m → zs.toArray[m - 1]! ≤ zs.toArray[m]! := fun h0 => by
    rw [at_ (m - 1) (by omega), at_ m (by omega)]
    exact (List.pairwise_iff_getElem.1 h) (m - 1) m (by omega) (by omega) (by omega)
   rw [compactUpTo_succ]
   by_cases hk : keeps zs.toArray m = true
   ·rw [if_pos hk]
    have hlt : ∀ x ∈ compactUpTo zs.toArray m, x < zs.toArray[m]! := fun x hx => by
     obtain ⟨h0, h3⟩ := h2 x hx
     have h4 := hle h0
     have : zs.toArray[m]! ≠ zs.toArray[m - 1]! := fun e => by
      rw [keeps_neg h0 e] at hk; cases hk
     omega
    refine ⟨List.pairwise_append.2 ⟨h1, by simp, fun x hx y hy => ?_⟩, fun x hx => ⟨by omega, ?_⟩⟩
    ·simp only [List.mem_singleton] at hy; subst hy; exact hlt x hx
    ·rw [Nat.add_sub_cancel]
     rcases List.mem_append.1 hx with hx | hx
     ·have := hlt x hx; omega
     ·simp only [List.mem_singleton] at hx; subst hx; exact Int.le_refl _
   ·rw [if_neg hk, List.append_nil]
    refine ⟨h1, fun x hx => ⟨by omega, ?_⟩⟩
    obtain ⟨h0, h3⟩ := h2 x hx
    have := hle h0
    rw [Nat.add_sub_cancel]; omega
 exact (key zs.length (Nat.le_refl _)).1
theorem cpt_len (zs : List Int) : (Lib.compact zs).length ≤ zs.length := by
 unfold Lib.compact Lib.compactUpTo
 rw [List.length_map]
 exact Nat.le_trans (List.length_filter_le ..) (by simp)
theorem mem_compact {zs : List Int} {x : Int} : x ∈ Lib.compact zs ↔ x ∈ zs := by
 unfold Lib.compact Lib.compactUpTo
 rw [List.mem_map]
 constructor
 ·rintro ⟨j, hj, rfl⟩
  have hj := List.mem_range.1 (List.mem_filter.1 hj).1
  simp [hj]
 ·intro hx
  obtain ⟨i, hi, rfl⟩ := List.mem_iff_getElem.1 hx
  have key : ∀ (n i : Nat) (hi : i < zs.length), i ≤ n → ∃ a, a ∈ (List.range zs.length).filter (keeps zs.toArray) ∧ zs.toArray[a]! = zs[i] := fun n => by
   induction n with
   | zero =>
    intro i hi h
    have : i = 0 := by omega
    subst this
    exact ⟨0, List.mem_filter.2 ⟨List.mem_range.2 hi, keeps_lt_one _ 0 (by omega)⟩, by simp [hi]⟩
   | succ n ih =>
    intro i hi h
    by_cases hk : keeps zs.toArray i = true
    ·exact ⟨i, List.mem_filter.2 ⟨List.mem_range.2 hi, hk⟩, by simp [hi]⟩
    ·by_cases h0 : i = 0
     ·subst h0; exact absurd (keeps_lt_one _ 0 (by omega)) hk
     ·obtain ⟨a, ha, e⟩ := ih (i - 1) (by omega) (by omega)
      refine ⟨a, ha, e.trans ?_⟩
      have h2 : zs.toArray[i]! = zs.toArray[i - 1]! := Classical.not_not.1 fun hne => hk (keeps_pos hne)
      have e1 : zs.toArray[i]! = zs[i] := by simp [hi]
      have e2 : zs.toArray[i - 1]! = zs[i - 1] := by simp [show i - 1 < zs.length by omega]
      rw [← e1, ← e2, h2]
  exact key i i hi (Nat.le_refl _)
theorem mem_sortL {l r : List Int} (h : sortL l = some r) {x : Int} : x ∈ r ↔ x ∈ l := by
 obtain ⟨_, rfl⟩ := sortL_some h
 exact (List.mergeSort_perm l _).mem_iff
theorem asc_sortL {l r : List Int} (h : sortL l = some r) : r.Pairwise (· ≤ ·) ∧ r.length = l.length := by
 obtain ⟨_, rfl⟩ := sortL_some h
 have hs := List.pairwise_mergeSort (le := fun x y : Int => decide (x ≤ y)) (fun a b c => by simp; omega) (fun a b => by simp; omega) l
 exact ⟨hs.imp fun h => by simpa using h, List.length_mergeSort ..⟩
def ends (l : List GInterval) : List Int := l.flatMap fun x => [x.Low, x.High + 1]
theorem mem_ends {l : List GInterval} {n : Int} : n ∈ ends l ↔ ∃ x ∈ l, n = x.Low ∨ n = x.High + 1 := by
 unfold ends; simp
theorem ends_len (l : List GInterval) : (ends l).length = 2 * l.length := by
 induction l with
 | nil => rfl
 | cons x l ih => unfold ends at *; simp at *; omega
theorem concat2_eq {N : Nat} {a b : List GInterval} (h : a.length + b.length ≤ 100000) (hN : 10 < N) : slices_Concat_LInterval_Interval N [a, b] = some (a ++ b) := by
 obtain ⟨M, rfl⟩ : ∃ M, N = M + 3 := ⟨N - 3, by omega⟩
 have e0 : Ar.ar .add .i64 (0 : Int) 1 = 1 := rfl
 have e1 : Ar.ar .add .i64 (1 : Int) 1 = 2 := rfl
 have e2 : Ar.ar .add .i64 (0 : Int) (a.length : Int) = (a.length : Int) := by rw [add_i64 (by omega) (by omega)]; omega
 have e3 : Ar.ar .add .i64 (a.length : Int) (b.length : Int) = ((a.length + b.length : Nat) : Int) := by rw [add_i64 (by omega) (by omega)]; omega
 have i0 : idxL [a, b] 0 = some a := rfl
 have i1 : idxL [a, b] 1 = some b := rfl
 have l2 : Ar.len [a, b] = (2 : Int) := rfl
 have g : slices_Grow_LInterval_Interval (M + 3) [] ((a.length + b.length : Nat) : Int) = some [] := by
  unfold slices_Grow_LInterval_Interval growL
  rw [if_pos (by omega)]
 unfold slices_Concat_LInterval_Interval
 simp only [loopN, l2, cmp_lss, i0, i1, e0, e1, e2, e3, len_def, Option.bind_some, show decide ((0 : Int) < 2) = true from rfl, show decide ((1 : Int) < 2) = true from rfl, show decide ((2 : Int) < 2) = false from rfl, if_true, Bool.false_eq_true, if_false,
  show decide ((a.length : Int) < 0) = false from decide_eq_false (by omega), show decide (((a.length + b.length : Nat) : Int) < 0) = false from decide_eq_false (by omega), g, app_ok (l := ([] : List GInterval)) (m := a) (by simp; omega), List.nil_append, app_ok (l := a) (m := b) (by omega)]
theorem ends_loop {N : Nat} {l : List GInterval} (hb : ∀ x ∈ l, Bnd x) (hl : l.length ≤ 100000) (hN : l.length < N) : loopN
 (fun (s3 : Int × (List Int)) =>
  (
   if Ar.cmp .lss s3.1 (Ar.len l) = true then
    (idxL l s3.1).bind fun x6 =>
    (appL s3.2 ([x6.Low, Ar.ar .add .i64 x6.High 1])).bind fun l8 =>
    some (.inl (Ar.ar .add .i64 s3.1 1, l8))
   else
    some (.inr s3.2)
   : Option ((Int × (List Int)) ⊕ (((List Int))))))
 N (0, ([] : List Int)) = some (ends l) := by
 obtain ⟨r, h1, h2⟩ := loop_inv (N := N) (l := l) (Q := fun (r : List Int) => r = ends l)
  (I := fun i (t : Int × List Int) => t.1 = (i : Int) ∧ t.2 = ends (l.take i))
  (s0 := ((0 : Int), ([] : List Int)))
  (step := fun (s3 : Int × (List Int)) =>
   (
    if Ar.cmp .lss s3.1 (Ar.len l) = true then
     (idxL l s3.1).bind fun x6 =>
     (appL s3.2 ([x6.Low, Ar.ar .add .i64 x6.High 1])).bind fun l8 =>
     some (.inl (Ar.ar .add .i64 s3.1 1, l8))
    else
     some (.inr s3.2)
    : Option ((Int × (List Int)) ⊕ (((List Int))))))
  (fun i x t hx hi ⟨e1, e2⟩ => by
   obtain ⟨j, acc⟩ := t
   simp only at e1 e2
   subst e1; subst e2
   have hxb := hb x (List.mem_of_getElem? hx)
   unfold Bnd at hxb
   have hln : (ends (l.take i)).length ≤ 200000 := by rw [ends_len, List.length_take]; omega
   simp only [cmp_lss, len_def, idx_at, hx, Option.bind_some, decide_eq_true_eq]
   rw [if_pos (by omega), inc_i64 hi (by omega), app_ok (by simp; omega), add_i64 (by omega) (by omega)]
   refine ⟨_, rfl, rfl, ?_⟩
   have e : l.take (i + 1) = l.take i ++ [x] := by rw [List.take_add_one, hx]; rfl
   rw [e]; simp [ends])
  (fun t ⟨e1, e2⟩ => by
   obtain ⟨j, acc⟩ := t
   simp only at e1 e2
   subst e1; subst e2
   simp only [cmp_lss, len_def, decide_eq_true_eq]
   rw [if_neg (by omega), List.take_length]
   exact ⟨_, rfl, rfl⟩) ⟨rfl, by simp [ends]⟩ hN
 rw [h1, h2]
theorem inL_step {l : List GInterval} {E : List Int} {i : Nat} {p q n : Int} (hE : ∀ x ∈ l, x.Low ∈ E ∧ x.High + 1 ∈ E) (hasc : E.Pairwise (· < ·)) (hp : E[i]? = some p) (hq : E[i + 1]? = some q) (h1 : p ≤ n) (h2 : n < q) : InL l n ↔ InL l p := by
 have gap : ∀ m ∈ E, m ≤ n ↔ m ≤ p := fun m hm => by
  obtain ⟨k, hk⟩ := List.getElem?_of_mem hm
  have hkl := (List.getElem?_eq_some_iff.1 hk)
  have hpl := (List.getElem?_eq_some_iff.1 hp)
  have hql := (List.getElem?_eq_some_iff.1 hq)
  obtain ⟨a1, a2⟩ := hkl; obtain ⟨b1, b2⟩ := hpl; obtain ⟨c1, c2⟩ := hql
  constructor
  ·intro h
   rcases Nat.lt_or_ge i k with h' | h'
   ·have : q ≤ m := by
     by_cases e : k = i + 1
     ·subst e; omega
     ·have := (List.pairwise_iff_getElem.1 hasc) (i + 1) k c1 a1 (by omega)
      omega
    omega
   ·by_cases e : k = i
    ·subst e; omega
    ·have := (List.pairwise_iff_getElem.1 hasc) k i a1 b1 (by omega)
     omega
  ·intro h; omega
 unfold InL
 constructor
 ·rintro ⟨x, hx, k1, k2⟩
  obtain ⟨g1, g2⟩ := hE x hx
  refine ⟨x, hx, (gap _ g1).1 k1, ?_⟩
  have := gap _ g2
  omega
 ·rintro ⟨x, hx, k1, k2⟩
  obtain ⟨g1, g2⟩ := hE x hx
  refine ⟨x, hx, (gap _ g1).2 k1, ?_⟩
  have := gap _ g2
  omega
theorem sweep_eq {N : Nat} {a b : List GInterval} {bel : Bool → Bool → Option Bool} {f : Bool → Bool → Bool} (hf : ∀ x y, bel x y = some (f x y)) (hff : f false false = false)
 (ha : Srt a) (hb : Srt b) (hN : 2000 < N) {P : Int → Prop} (hP : ∀ n x y, (x = true ↔ InL a n) → (y = true ↔ InL b n) → (f x y = true ↔ P n)) :
 ∃ r, interval_sweep N a b bel = some r ∧ Ord r ∧ r.length ≤ 2 * (a.length + b.length) ∧ ∀ n, InL r n ↔ P n := by
 have hal := ha.1
 have hbl := hb.1
 have hbd : ∀ x ∈ a ++ b, Bnd x := fun x hx => by
  rcases List.mem_append.1 hx with hx | hx
  ·exact ha.2.1 x hx
  ·exact hb.2.1 x hx
 unfold interval_sweep
 rw [concat2_eq (by omega) (by omega)]
 simp only [Option.bind_some]
 rw [ends_loop hbd (by simp; omega) (by simp; omega)]
 simp only [Option.bind_some]
 have hel : (ends (a ++ b)).length = 2 * (a.length + b.length) := by rw [ends_len, List.length_append]
 obtain ⟨S, hS⟩ : ∃ S, sortL (ends (a ++ b)) = some S := ⟨_, by unfold sortL; rw [if_pos (by omega)]⟩
 obtain ⟨hasc, hSl⟩ := asc_sortL hS
 have hC : compactL S = some (Lib.compact S) := by unfold compactL; rw [if_pos (by omega)]
 unfold slices_Sort_Lint_int slices_Compact_Lint_int
 rw [hS]
 simp only [Option.bind_some, hC]
 have hEasc := compact_asc hasc
 have hEl := cpt_len S
 have hEm : ∀ m, m ∈ Lib.compact S ↔ m ∈ ends (a ++ b) := fun m => mem_compact.trans (mem_sortL hS)
 generalize Lib.compact S = E at hEasc hEl hEm
 have hEa : ∀ x ∈ a, x.Low ∈ E ∧ x.High + 1 ∈ E := fun x hx => ⟨(hEm _).2 (mem_ends.2 ⟨x, by simp [hx], .inl rfl⟩), (hEm _).2 (mem_ends.2 ⟨x, by simp [hx], .inr rfl⟩)⟩
 have hEb : ∀ x ∈ b, x.Low ∈ E ∧ x.High + 1 ∈ E := fun x hx => ⟨(hEm _).2 (mem_ends.2 ⟨x, by simp [hx], .inl rfl⟩), (hEm _).2 (mem_ends.2 ⟨x, by simp [hx], .inr rfl⟩)⟩
 have hEbd : ∀ m ∈ E, -1099511627776 ≤ m ∧ m ≤ 1099511627777 := fun m hm => by
  obtain ⟨x, hx, e⟩ := mem_ends.1 ((hEm m).1 hm)
  have := hbd x hx
  unfold Bnd at this
  omega
 have noB : ∀ n, ¬ InL a n → ¬ InL b n → ¬ P n := fun n h1 h2 h => by
  have := (hP n false false (by simp [h1]) (by simp [h2])).2 h
  rw [hff] at this; cases this
 obtain ⟨r, h1, h2⟩ := loop_inv (N := N) (l := List.range (E.length - 1)) (Q := fun (r : List GInterval) => Ord r ∧ r.length ≤ E.length ∧ ∀ n, InL r n ↔ P n)
  (I := fun i (t : Int × List GInterval) => t.1 = (i : Int) ∧ Ord t.2 ∧ t.2.length ≤ i ∧ (∀ y ∈ t.2, ∀ p, E[i]? = some p → y.Low ≤ p) ∧ ∀ n, InL t.2 n ↔ (P n ∧ ∃ p, E[i]? = some p ∧ n < p))
  (s0 := ((0 : Int), ([] : List GInterval)))
  (step := fun (s14 : Int × (List GInterval)) =>
   (
    if Ar.cmp .lss (Ar.ar .add .i64 s14.1 1) (Ar.len E) = true then
     (req (inR E s14.1)).bind fun _ =>
     (idxL E s14.1).bind fun x17 =>
     (interval_has N a x17).bind fun r18 =>
     (req (inR E s14.1)).bind fun _ =>
     (idxL E s14.1).bind fun x19 =>
     (interval_has N b x19).bind fun r20 =>
     (bel r18 r20).bind fun r21 =>
     if r21 = true then
      (req (inR E s14.1)).bind fun _ =>
      (idxL E s14.1).bind fun x22 =>
      (req (inR E (Ar.ar .add .i64 s14.1 1))).bind fun _ =>
      (idxL E (Ar.ar .add .i64 s14.1 1)).bind fun x23 =>
      (interval_push N s14.2 (⟨x22, Ar.ar .sub .i64 x23 1⟩ : GInterval)).bind fun l24 =>
      some (.inl (Ar.ar .add .i64 s14.1 1, l24))
     else
      some (.inl (Ar.ar .add .i64 s14.1 1, s14.2))
    else
     some (.inr s14.2)
    : Option ((Int × (List GInterval)) ⊕ (((List GInterval))))))
  (fun i x t hx hi ⟨e1, e2, e3, e4, e5⟩ => by
   obtain ⟨j, acc⟩ := t
   simp only at e1 e2 e3 e4 e5
   subst e1
   rw [List.length_range] at hi
   have hp := List.getElem?_eq_getElem (show i < E.length by omega)
   have hq := List.getElem?_eq_getElem (show i + 1 < E.length by omega)
   have hpq := (List.pairwise_iff_getElem.1 hEasc) i (i + 1) (by omega) (by omega) (by omega)
   have bp := hEbd _ (List.getElem_mem (show i < E.length by omega))
   have bq := hEbd _ (List.getElem_mem (show i + 1 < E.length by omega))
   generalize E[i] = p at hp hpq bp
   generalize E[i + 1] = q at hq hpq bq
   have in1 : inR E (i : Int) = true := by unfold inR; simp only [decide_eq_true_eq]; omega
   have in2 : inR E ((i + 1 : Nat) : Int) = true := by unfold inR; simp only [decide_eq_true_eq]; omega
   obtain ⟨va, k1, k2⟩ := has_eq (N := N) (n := p) ha (by omega)
   obtain ⟨vb, k3, k4⟩ := has_eq (N := N) (n := p) hb (by omega)
   have hstep : ∀ n, p ≤ n → n < q → (P n ↔ P p) := fun n g1 g2 => by
    have := hP n va vb (k2.trans (inL_step hEa hEasc hp hq g1 g2).symm) (k4.trans (inL_step hEb hEasc hp hq g1 g2).symm)
    exact this.symm.trans (hP p va vb k2 k4)
   simp only [cmp_lss, len_def, decide_eq_true_eq]
   rw [inc_i64 hi (by omega), if_pos (by omega)]
   simp only [in1, in2, req, if_true, Option.bind_some, idx_at, hp, hq, k1, k3, hf]
   by_cases hc : f va vb = true
   ·have hPp := (hP p va vb k2 k4).1 hc
    rw [if_pos hc]
    have hsub : Ar.ar .sub .i64 q 1 = q - 1 := wrap_i64 (by omega) (by omega)
    rw [hsub]
    obtain ⟨out, o1, o2⟩ := push_step (N := N) (acc := acc) (x := ⟨p, q - 1⟩) e2 ⟨by simp only; omega, by simp only; omega, by simp only; omega⟩ (fun y hy => e4 y hy p hp) (by omega)
    rw [o1]
    refine ⟨_, rfl, rfl, o2.ord, by have := o2.len; simp only; omega, fun y hy z hz => ?_, fun n => ?_⟩
    ·cases hz
     have := o2.low y hy
     simp only at this; omega
    ·rw [o2.inl, e5]
     simp only [hp, hq, Option.some.injEq, exists_eq_left']
     constructor
     ·rintro (⟨g1, g2⟩ | ⟨g1, g2⟩)
      ·exact ⟨g1, by omega⟩
      ·exact ⟨(hstep n g1 (by omega)).2 hPp, by omega⟩
     ·rintro ⟨g1, g2⟩
      by_cases h : n < p
      ·exact .inl ⟨g1, h⟩
      ·exact .inr ⟨by omega, by omega⟩
   ·rw [if_neg hc]
    have hPp : ¬ P p := fun h => hc ((hP p va vb k2 k4).2 h)
    refine ⟨_, rfl, rfl, e2, by simp only; omega, fun y hy z hz => ?_, fun n => ?_⟩
    ·cases hz
     have := e4 y hy p hp
     omega
    ·rw [e5]
     simp only [hp, hq, Option.some.injEq, exists_eq_left']
     constructor
     ·rintro ⟨g1, g2⟩; exact ⟨g1, by omega⟩
     ·rintro ⟨g1, g2⟩
      refine ⟨g1, ?_⟩
      rcases Int.lt_or_le n p with h | h
      ·exact h
      ·exact absurd ((hstep n h g2).1 g1) hPp)
  (fun t ⟨e1, e2, e3, e4, e5⟩ => by
   obtain ⟨j, acc⟩ := t
   simp only at e1 e2 e3 e4 e5
   rw [List.length_range] at e1 e3 e4 e5
   subst e1
   have hinc : Ar.ar .add .i64 ((E.length - 1 : Nat) : Int) 1 = ((E.length - 1 + 1 : Nat) : Int) := inc_i64 (n := E.length + 1) (by omega) (by omega)
   simp only [cmp_lss, len_def, hinc, decide_eq_true_eq]
   rw [if_neg (by omega)]
   refine ⟨_, rfl, e2, by omega, fun n => (e5 n).trans ⟨fun h => h.1, fun h => ⟨h, ?_⟩⟩⟩
   have above : ∀ x, x ∈ a ∨ x ∈ b → x.Low ≤ n → n ≤ x.High → ∃ p, E[E.length - 1]? = some p ∧ n < p := fun x hx g1 g2 => by
    have hm : x.High + 1 ∈ E := by rcases hx with hx | hx; exact (hEa x hx).2; exact (hEb x hx).2
    obtain ⟨k, hk⟩ := List.getElem?_of_mem hm
    obtain ⟨a1, a2⟩ := List.getElem?_eq_some_iff.1 hk
    refine ⟨_, List.getElem?_eq_getElem (show E.length - 1 < E.length by omega), ?_⟩
    by_cases e : k = E.length - 1
    ·subst e; omega
    ·have := (List.pairwise_iff_getElem.1 hEasc) k (E.length - 1) a1 (by omega) (by omega)
     omega
   by_cases g : InL a n
   ·obtain ⟨x, hx, g1, g2⟩ := g
    exact above x (.inl hx) g1 g2
   ·by_cases g' : InL b n
    ·obtain ⟨x, hx, g1, g2⟩ := g'
     exact above x (.inr hx) g1 g2
    ·exact absurd h (noB n g g'))
  ⟨rfl, trivial, by simp, fun y hy => by simp at hy, fun n => by
   simp only [inL_nil, false_iff, not_and]
   rintro h ⟨p, hp, hn⟩
   have first : ∀ m ∈ E, p ≤ m := fun m hm => by
    obtain ⟨k, hk⟩ := List.getElem?_of_mem hm
    obtain ⟨a1, a2⟩ := List.getElem?_eq_some_iff.1 hk
    obtain ⟨b1, b2⟩ := List.getElem?_eq_some_iff.1 hp
    by_cases e : k = 0
    ·subst e; omega
    ·have := (List.pairwise_iff_getElem.1 hEasc) 0 k b1 a1 (by omega)
     omega
   refine noB n ?_ ?_ h
   ·rintro ⟨x, hx, g1, g2⟩; have := first _ (hEa x hx).1; omega
   ·rintro ⟨x, hx, g1, g2⟩; have := first _ (hEb x hx).1; omega⟩ (by rw [List.length_range]; omega)
 rw [h1]
 obtain ⟨h2, h3, h4⟩ := h2
 exact ⟨r, rfl, h2, by omega, h4⟩
end Go.Ab

namespace Go.Ab
def Cn (P : Int → Prop) (l : List GInterval) : Prop := Ord l ∧ l.length ≤ 256 ∧ ∀ n, InL l n ↔ P n
theorem Cn.ext {P Q : Int → Prop} {l m : List GInterval} (h : Cn P l) (k : Cn Q m) (e : ∀ n, P n ↔ Q n) : l = m := ord_ext h.1 k.1 fun n => (h.2.2 n).trans ((e n).trans (k.2.2 n).symm)
theorem icombine_eq {N : Nat} {a b : List GInterval} {bel : Bool → Bool → Option Bool} {f : Bool → Bool → Bool} (hf : ∀ x y, bel x y = some (f x y)) (hff : f false false = false)
 (ha : ck a = 0) (hb : ck b = 0) (hl : a.length + b.length ≤ 100) (hN : 2000 < N) {P : Int → Prop} (hP : ∀ n x y, (x = true ↔ InL a n) → (y = true ↔ InL b n) → (f x y = true ↔ P n)) :
 ∃ r, interval_combine N a b bel = some (r, 0) ∧ Cn P r ∧ r.length ≤ 2 * (a.length + b.length) := by
 obtain ⟨r, h1, h2, h3, h4⟩ := sweep_eq hf hff (ck_zero ha) (ck_zero hb) hN hP
 refine ⟨r, ?_, ⟨h2, by omega, h4⟩, h3⟩
 unfold interval_combine interval_both interval_limited
 simp only [icheck_eq (show 256 < N by omega), Option.bind_some, ha, hb, cmp_neq, decide_true, Bool.not_true, Bool.false_eq_true, if_false, h1, cmp_gtr, len_def, decide_eq_true_eq]
 rw [if_neg (by omega)]
 rfl
theorem intersect_eq {N : Nat} {a b : List GInterval} (ha : ck a = 0) (hb : ck b = 0) (hl : a.length + b.length ≤ 100) (hN : 100000 < N) :
 ∃ r, interval_Intersect N a b = some (r, 0) ∧ ref02_Both N a b = some r ∧ Cn (fun n => InL a n ∧ InL b n) r ∧ r.length ≤ 2 * (a.length + b.length) := by
 obtain ⟨r, h1, h2, h3⟩ := icombine_eq (N := N) (bel := fun y1 y2 => interval_Intersect_1 N y1 y2) (f := fun x y => x && y) (fun x y => rfl) rfl ha hb hl (by omega) (P := fun n => InL a n ∧ InL b n) (fun n x y h k => by
  rw [← h, ← k, Bool.and_eq_true])
 have hal : a.length ≤ 100 := by omega
 have hbl : b.length ≤ 100 := by omega
 have hm : a.length * b.length ≤ 100 * 100 := Nat.mul_le_mul hal hbl
 obtain ⟨s, k1, k2, k3, k4⟩ := both_eq (N := N) (ck_zero ha).ord (ck_zero hb).ord (by omega) (by omega) (by omega) (by omega)
 have e : r = s := ord_ext h2.1 k2 fun n => (h2.2.2 n).trans (k4 n).symm
 subst e
 refine ⟨r, ?_, k1, h2, h3⟩
 unfold interval_Intersect
 rw [h1]; rfl
def Sm (k : Nat) (p : GPredicate) : Prop := ∀ x ∈ p.Sets, x.length ≤ k
def Bi (P : (Int → Prop) → (Int → Prop) → Int → Prop) (k : Nat) (p q r : GPredicate) : Prop :=
 r.Sets.length = p.Sets.length ∧ ∀ (i : Nat) a b c, p.Sets[i]? = some a → q.Sets[i]? = some b → r.Sets[i]? = some c → Cn (P (InL a) (InL b)) c ∧ c.length ≤ k
def Un (k : Nat) (p r : GPredicate) : Prop :=
 r.Sets.length = p.Sets.length ∧ ∀ (i : Nat) a c, p.Sets[i]? = some a → r.Sets[i]? = some c → Cn (fun n => -1099511627776 ≤ n ∧ n ≤ 1099511627776 ∧ ¬ InL a n) c ∧ c.length ≤ k
end Go.Ab

namespace Go.Ab
set_option maxRecDepth 100000
theorem zero_fm {x : GInterval} (h : -1099511627776 ≤ x.Low ∧ x.Low ≤ x.High ∧ x.High ≤ 1099511627776) : fm x = 0 := by
 unfold fm
 rw [if_neg (by omega), if_neg (by omega)]
theorem zero_ck {l : List GInterval} (h : Srt l) : ck l = 0 := by
 unfold ck
 rw [if_neg (by have := h.1; omega)]
 refine fb_zero.2 fun k x hx => ?_
 unfold fi
 have hxb := h.2.1 x (List.mem_of_getElem? hx)
 rw [if_pos (zero_fm hxb)]
 split
 ·rename_i hk
  split
  ·rename_i y hy
   have := h.2.2 (k - 1) y x (by simpa using hy) (by rw [← hx]; congr 1; omega)
   have hyb := h.2.1 y (List.mem_of_getElem? hy)
   rw [add_i64 (by omega) (by omega), if_neg (by omega)]
  ·rfl
 ·rfl
theorem zero_own {p : GPredicate} (h0 : 1 ≤ p.Sets.length ∧ p.Sets.length ≤ 16) (h : ∀ x ∈ p.Sets, Srt x) : own1 p = 0 := by
 unfold own1 pck
 rw [if_neg (by omega), if_neg (by simp)]
 exact fb_zero.2 fun k x hx => zero_ck (h x (List.mem_of_getElem? hx))
theorem Cn.srt {P : Int → Prop} {l : List GInterval} (h : Cn P l) : Srt l := h.1.srt h.2.1
theorem Bi.own {P : (Int → Prop) → (Int → Prop) → Int → Prop} {k : Nat} {p q r : GPredicate} (h : Bi P k p q r) (hl : p.Sets.length = q.Sets.length) (h0 : 1 ≤ p.Sets.length ∧ p.Sets.length ≤ 16) : own1 r = 0 ∧ Sm k r := by
 have at_ : ∀ x ∈ r.Sets, Srt x ∧ x.length ≤ k := fun x hx => by
  obtain ⟨i, hi⟩ := List.getElem?_of_mem hx
  have hil := (List.getElem?_eq_some_iff.1 hi).1
  have hr := h.1
  have := h.2 i _ _ x (List.getElem?_eq_getElem (show i < p.Sets.length by omega)) (List.getElem?_eq_getElem (show i < q.Sets.length by omega)) hi
  exact ⟨this.1.srt, this.2⟩
 exact ⟨zero_own (by rw [h.1]; exact h0) fun x hx => (at_ x hx).1, fun x hx => (at_ x hx).2⟩
theorem Un.own {k : Nat} {p r : GPredicate} (h : Un k p r) (h0 : 1 ≤ p.Sets.length ∧ p.Sets.length ≤ 16) : own1 r = 0 ∧ Sm k r := by
 have at_ : ∀ x ∈ r.Sets, Srt x ∧ x.length ≤ k := fun x hx => by
  obtain ⟨i, hi⟩ := List.getElem?_of_mem hx
  have hil := (List.getElem?_eq_some_iff.1 hi).1
  have hr := h.1
  have := h.2 i _ x (List.getElem?_eq_getElem (show i < p.Sets.length by omega)) hi
  exact ⟨this.1.srt, this.2⟩
 exact ⟨zero_own (by rw [h.1]; exact h0) fun x hx => (at_ x hx).1, fun x hx => (at_ x hx).2⟩
end Go.Ab

