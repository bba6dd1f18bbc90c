/- GQL1 GQL2 GQL3 GQL4 GQL5 GQT1 -/
import Derived.Test.YtodfgmbacmnalaaGreatT37
import Derived.Test.YtodfgmbacmnalaaGreatT30
import Derived.KernelRfl
import Derived.Test.YtodfgmbacmnalaaGreatT38
set_option linter.all false

namespace Go.Ab
def fb {α : Type} (f : Nat → α → Int) : Nat → List α → Int
 | _, [] => 0
 | i, x :: r => if f i x = 0 then fb f (i + 1) r else f i x
theorem fb_zero {α : Type} {f : Nat → α → Int} : ∀ {l : List α} {i : Nat}, fb f i l = 0 ↔ ∀ (k : Nat) x, l[k]? = some x → f (i + k) x = 0
 | [], i => by simp [fb]
 | y :: r, i => by
  unfold fb
  split
  ·rename_i h
   rw [fb_zero]
   refine ⟨fun H k x hk => ?_, fun H k x hk => ?_⟩
   ·cases k with
    | zero => simp at hk; subst hk; exact h
    | succ k => rw [show i + (k + 1) = i + 1 + k by omega]; exact H k x (by simpa using hk)
   ·have := H (k + 1) x (by simpa using hk)
    rwa [show i + (k + 1) = i + 1 + k by omega] at this
  ·rename_i h
   exact ⟨fun e => absurd e h, fun H => absurd (H 0 y (by simp)) h⟩
theorem inc_i64 {i : Nat} {n : Nat} (hi : i < n) (hn : n < 1000000000000) : Ar.ar .add .i64 (i : Int) 1 = ((i + 1 : Nat) : Int) := by
 rw [add_i64 (by omega) (by omega)]; omega
theorem chk_loop {α R : Type} {l : List α} {step : Int → Option (Int ⊕ R)} {f : Nat → α → Int} {e : R} {b : Int → R}
 (hs : ∀ (i : Nat) x, l[i]? = some x → i < l.length → step (i : Int) = if f i x = 0 then some (.inl ((i + 1 : Nat) : Int)) else some (.inr (b (f i x))))
 (he : step (l.length : Int) = some (.inr e)) : ∀ {N : Nat}, l.length < N → loopN step N 0 = some (if fb f 0 l = 0 then e else b (fb f 0 l)) := by
 have key : ∀ (k i N : Nat), i + k = l.length → k < N → loopN step N (i : Int) = some (if fb f i (l.drop i) = 0 then e else b (fb f i (l.drop i))) := by
  intro k
  induction k with
  | zero =>
   intro i N hi hN
   obtain ⟨N, rfl⟩ : ∃ M, N = M + 1 := ⟨N - 1, by omega⟩
   rw [show i = l.length by omega, List.drop_length]
   simp [loopN, he, fb]
  | succ k ih =>
   intro i N hi hN
   obtain ⟨N, rfl⟩ : ∃ M, N = M + 1 := ⟨N - 1, by omega⟩
   have hlt : i < l.length := by omega
   rw [List.drop_eq_getElem_cons hlt]
   simp only [loopN, hs i _ (List.getElem?_eq_getElem hlt) hlt, fb]
   by_cases h : f i l[i] = 0
   ·simp only [h, if_true]
    exact ih (i + 1) N (by omega) (by omega)
   ·simp only [h, if_false]
 intro N hN
 have := key l.length 0 N (by omega) hN
 simpa using this
def fm (x : GInterval) : Int :=
 if x.Low < -1099511627776 ∨ 1099511627776 < x.Low ∨ x.High < -1099511627776 ∨ 1099511627776 < x.High then 2 else if x.High < x.Low then 3 else 0
theorem fm_zero {x : GInterval} (h : fm x = 0) : -1099511627776 ≤ x.Low ∧ x.Low ≤ x.High ∧ x.High ≤ 1099511627776 := by
 unfold fm at h
 split at h
 ·cases h
 ·split at h
  ·cases h
  ·omega
theorem formed_eq (N : Nat) (x : GInterval) : interval_formed N x = some (fm x) := by
 unfold interval_formed fm
 simp only [cmp_lss, cmp_gtr, or_def, Bool.or_eq_true, decide_eq_true_eq, or_assoc]
 split
 ·rfl
 ·split <;> rfl
noncomputable def fi (l : List GInterval) (i : Nat) (x : GInterval) : Int :=
 if fm x = 0 then (if 0 < i then match l[i - 1]? with | some y => if x.Low < Ar.ar .add .i64 y.High 2 then 14 else 0 | none => 0 else 0) else fm x
noncomputable def ck (l : List GInterval) : Int := if 256 < l.length then 5 else fb (fi l) 0 l
theorem dec_at {α : Type} {l : List α} {i : Nat} (hi : 0 < i) (hl : i < l.length) (hn : l.length < 1000000000000) : idxL l (Ar.ar .sub .i64 (i : Int) 1) = l[i - 1]? := by
 have e : Ar.ar .sub .i64 (i : Int) 1 = ((i - 1 : Nat) : Int) := by
  show IntKind.wrap .i64 ((i : Int) - 1) = _
  rw [wrap_i64 (by omega) (by omega)]; omega
 rw [e, idx_at]
theorem icheck_eq {N : Nat} {l : List GInterval} (hN : 256 < N) : interval_Check N l = some (ck l) := by
 unfold interval_Check ck
 simp only [cmp_gtr, len_def, decide_eq_true_eq]
 by_cases hl : 256 < l.length
 ·rw [if_pos (by omega), if_pos hl]
 ·rw [if_neg (by omega), if_neg hl]
  rw [chk_loop (l := l) (f := fi l) (e := .inl ()) (b := .inr) (N := N) ?_ ?_ (by omega)]
  ·simp only [Option.bind_some]
   by_cases h : fb (fi l) 0 l = 0
   ·simp [h]
   ·simp [h]
  ·intro i x hx hi
   simp only [cmp_lss, cmp_neq, formed_eq, idx_at, hx, Option.bind_some, decide_eq_true_eq]
   rw [if_pos (by omega), inc_i64 hi (by omega)]
   unfold fi
   by_cases h0 : fm x = 0
   ·simp only [h0, decide_true, Bool.not_true, Bool.false_eq_true, if_false, if_true]
    by_cases hp : 0 < i
    ·rw [if_pos (by omega), dec_at hp hi (by omega)]
     cases hy : l[i - 1]? with
     | none => rw [List.getElem?_eq_none_iff] at hy; omega
     | some y =>
      simp only [Option.bind_some, hp, if_true]
      by_cases hh : x.Low < Ar.ar .add .i64 y.High 2
      ·rw [if_pos hh, if_pos hh]; rfl
      ·rw [if_neg hh, if_neg hh]; rfl
    ·rw [if_neg (by omega)]; simp [hp]
   ·simp [h0]
  ·simp [cmp_lss]
def Srt (l : List GInterval) : Prop := l.length ≤ 256 ∧ (∀ x ∈ l, -1099511627776 ≤ x.Low ∧ x.Low ≤ x.High ∧ x.High ≤ 1099511627776) ∧ ∀ (i : Nat) x y, l[i]? = some x → l[i + 1]? = some y → x.High + 2 ≤ y.Low
theorem ck_zero {l : List GInterval} (h : ck l = 0) : Srt l := by
 unfold ck at h
 split at h
 ·cases h
 ·rename_i hl
  have h := fb_zero.1 h
  have hm : ∀ (k : Nat) x, l[k]? = some x → fm x = 0 := fun k x hx => by
   have := h k x hx
   unfold fi at this
   by_cases h0 : fm x = 0
   ·exact h0
   ·rw [if_neg h0] at this; exact this
  refine ⟨by omega, fun x hx => ?_, fun i x y hx hy => ?_⟩
  ·obtain ⟨k, hk⟩ := List.getElem?_of_mem hx
   exact fm_zero (hm k x hk)
  ·have h1 := fm_zero (hm _ _ hx)
   have := h (i + 1) y hy
   simp only [Nat.zero_add] at this
   unfold fi at this
   rw [if_pos (hm _ _ hy), if_pos (by omega), show i + 1 - 1 = i by omega, hx] at this
   simp only at this
   rw [add_i64 (by omega) (by omega)] at this
   split at this
   ·cases this
   ·omega
end Go.Ab

namespace Go.Ab
theorem wrap_u64 {n : Int} (h0 : 0 ≤ n) (h1 : n < 18446744073709551616) : IntKind.wrap .u64 n = n := by
 have e : IntKind.wrap .u64 n = n % 18446744073709551616 := by
  unfold IntKind.wrap
  simp [IntKind.bits, IntKind.signed]
 rw [e]; omega
theorem mid_eq {i j : Nat} (h : i + j < 1000000000000) : Ar.wr .i64 (Ar.sh .shr .u64 (Ar.wr .u64 (Ar.ar .add .i64 (i : Int) (j : Int))) 1) = (((i + j) / 2 : Nat) : Int) := by
 rw [add_i64 (by omega) (by omega)]
 show IntKind.wrap .i64 (shI .shr .u64 (IntKind.wrap .u64 ((i : Int) + j)) 1) = _
 rw [wrap_u64 (by omega) (by omega)]
 have e : shI .shr .u64 ((i : Int) + j) 1 = ((i : Int) + j) / 2 := by
  show ((i : Int) + j).fdiv (2 ^ (min (1 : Int).toNat 64)) = _
  rw [show (2 : Int) ^ (min (1 : Int).toNat 64) = 2 from rfl, Int.fdiv_eq_ediv_of_nonneg _ (by decide)]
 rw [e, wrap_i64 (by omega) (by omega)]; omega
def whr3 (x : GInterval) (n : Int) : Int := if x.High < n then -1 else if n < x.Low then 1 else 0
theorem has1_eq (N : Nat) (x : GInterval) (n : Int) : interval_has_1 N x n = some (whr3 x n) := by
 unfold interval_has_1 whr3
 simp only [cmp_lss, cmp_gtr, decide_eq_true_eq]
 repeat' split
 all_goals rfl
def InL (l : List GInterval) (n : Int) : Prop := ∃ x ∈ l, x.Low ≤ n ∧ n ≤ x.High
theorem srt_le {l : List GInterval} (hs : Srt l) : ∀ (d i : Nat) x y, l[i]? = some x → l[i + d + 1]? = some y → x.High + 2 ≤ y.Low
 | 0, i, x, y, hx, hy => hs.2.2 i x y hx hy
 | d + 1, i, x, y, hx, hy => by
  have hlt : i + d + 1 < l.length := by
   rcases Nat.lt_or_ge (i + d + 1) l.length with h | h
   ·exact h
   ·rw [List.getElem?_eq_none (by omega)] at hy; cases hy
  have h1 := srt_le hs d i x _ hx (List.getElem?_eq_getElem hlt)
  have h2 := hs.2.2 (i + d + 1) _ y (List.getElem?_eq_getElem hlt) hy
  have h3 := hs.2.1 _ (List.getElem_mem hlt)
  omega
theorem bs_loop {N0 : Nat} {l : List GInterval} {n : Int} (hs : Srt l) : ∀ (k i j N : Nat), j - i ≤ k → i ≤ j → j ≤ l.length → k < N →
 (∀ m x, m < i → l[m]? = some x → x.High < n) → (∀ m x, j ≤ m → l[m]? = some x → n ≤ x.High) →
 ∃ r : Nat, r ≤ l.length ∧ (∀ m x, m < r → l[m]? = some x → x.High < n) ∧ (∀ m x, r ≤ m → l[m]? = some x → n ≤ x.High) ∧
  loopN (fun (s1 : Int × Int) => (
   if Ar.cmp .lss s1.1 s1.2 = true then
    (idxL l (Ar.wr .i64 (Ar.sh .shr .u64 (Ar.wr .u64 (Ar.ar .add .i64 s1.1 s1.2)) 1))).bind fun x3 =>
    (interval_has_1 N0 x3 n).bind fun r4 =>
    if Ar.cmp .lss r4 0 = true then
     some (.inl (Ar.ar .add .i64 (Ar.wr .i64 (Ar.sh .shr .u64 (Ar.wr .u64 (Ar.ar .add .i64 s1.1 s1.2)) 1)) 1, s1.2))
    else
     some (.inl (s1.1, Ar.wr .i64 (Ar.sh .shr .u64 (Ar.wr .u64 (Ar.ar .add .i64 s1.1 s1.2)) 1)))
   else
    some (.inr s1.1) : Option ((Int × Int) ⊕ (Int)))) N ((i : Int), (j : Int)) = some (r : Int) := by
 intro k
 have hl := hs.1
 induction k with
 | zero =>
  intro i j N hk hij hj hN h1 h2
  obtain ⟨N, rfl⟩ : ∃ M, N = M + 1 := ⟨N - 1, by omega⟩
  refine ⟨i, by omega, h1, fun m x hm hx => h2 m x (by omega) hx, ?_⟩
  unfold loopN
  simp only [cmp_lss, decide_eq_true_eq]
  rw [if_neg (by omega)]
 | succ k ih =>
  intro i j N hk hij hj hN h1 h2
  obtain ⟨N, rfl⟩ : ∃ M, N = M + 1 := ⟨N - 1, by omega⟩
  by_cases hlt : i < j
  ·have hm : (i + j) / 2 < l.length := by omega
   have hx := List.getElem?_eq_getElem hm
   have step := mid_eq (i := i) (j := j) (by omega)
   by_cases hc : l[(i + j) / 2].High < n
   ·obtain ⟨r, r1, r2, r3, r4⟩ := ih ((i + j) / 2 + 1) j N (by omega) (by omega) hj (by omega) (fun m x hm' hx' => by
     by_cases e : m = (i + j) / 2
     ·subst e; rw [hx] at hx'; cases hx'; exact hc
     ·have := srt_le hs ((i + j) / 2 - m - 1) m x l[(i + j) / 2] hx' (by rw [← hx]; congr 1; omega)
      have := hs.2.1 _ (List.getElem_mem hm)
      omega) h2
    refine ⟨r, r1, r2, r3, ?_⟩
    rw [← r4]
    conv => lhs; unfold loopN
    simp only [cmp_lss, decide_eq_true_eq, step, idx_at, hx, Option.bind_some, has1_eq]
    rw [if_pos (by omega), if_pos (by unfold whr3; rw [if_pos hc]; decide)]
    simp only [inc_i64 hm (by omega)]
   ·obtain ⟨r, r1, r2, r3, r4⟩ := ih i ((i + j) / 2) N (by omega) (by omega) (by omega) (by omega) h1 (fun m x hm' hx' => by
     by_cases e : m = (i + j) / 2
     ·subst e; rw [hx] at hx'; cases hx'; omega
     ·have := srt_le hs (m - (i + j) / 2 - 1) ((i + j) / 2) l[(i + j) / 2] x hx (by rw [← hx']; congr 1; omega)
      have := hs.2.1 x (List.mem_of_getElem? hx')
      omega)
    refine ⟨r, r1, r2, r3, ?_⟩
    rw [← r4]
    conv => lhs; unfold loopN
    simp only [cmp_lss, decide_eq_true_eq, step, idx_at, hx, Option.bind_some, has1_eq]
    rw [if_pos (by omega), if_neg (by unfold whr3; rw [if_neg hc]; split <;> decide)]
  ·refine ⟨i, by omega, h1, fun m x hm hx => h2 m x (by omega) hx, ?_⟩
   unfold loopN
   simp only [cmp_lss, decide_eq_true_eq]
   rw [if_neg (by omega)]
theorem has_eq {N : Nat} {l : List GInterval} {n : Int} (hs : Srt l) (hN : 300 < N) : ∃ b, interval_has N l n = some b ∧ (b = true ↔ InL l n) := by
 have hl := hs.1
 obtain ⟨r, r1, r2, r3, r4⟩ := bs_loop (N0 := N) (n := n) hs l.length 0 l.length N (by omega) (by omega) (by omega) (by omega) (fun m x h => by omega) (fun m x h hx => by rw [List.getElem?_eq_none h] at hx; cases hx)
 unfold interval_has slices_BinarySearchFunc_LInterval_Interval_int
 simp only [len_def]
 rw [show ((0 : Int), ((l.length : Nat) : Int)) = (((0 : Nat) : Int), ((l.length : Nat) : Int)) from rfl, r4]
 simp only [Option.bind_some, cmp_lss, decide_eq_true_eq]
 by_cases hr : r < l.length
 ·have hx := List.getElem?_eq_getElem hr
  rw [if_pos (by omega), idx_at, hx]
  simp only [Option.bind_some, has1_eq]
  refine ⟨_, rfl, ?_⟩
  simp only [cmp_eql, decide_eq_true_eq]
  have h3 := r3 r _ (by omega) hx
  unfold whr3
  rw [if_neg (by omega)]
  constructor
  ·intro h
   split at h
   ·cases h
   ·exact ⟨_, List.getElem_mem hr, by omega, h3⟩
  ·rintro ⟨x, hx', h1, h2⟩
   obtain ⟨m, hm⟩ := List.getElem?_of_mem hx'
   have hmr : ¬ m < r := fun h => by have := r2 m x h hm; omega
   by_cases e : m = r
   ·subst e; rw [hx] at hm; cases hm; rw [if_neg (by omega)]
   ·have := srt_le hs (m - r - 1) r l[r] x hx (by rw [← hm]; congr 1; omega)
    omega
 ·rw [if_neg (by omega)]
  refine ⟨_, rfl, ?_⟩
  simp only [Bool.false_eq_true, false_iff]
  rintro ⟨x, hx', h1, h2⟩
  obtain ⟨m, hm⟩ := List.getElem?_of_mem hx'
  have hml : m < l.length := (List.getElem?_eq_some_iff.1 hm).1
  have := r2 m x (by omega) hm
  omega
end Go.Ab

namespace Go.Ab
noncomputable def pck (types : Int) (p : GPredicate) : Int := if types < 1 ∨ 16 < types then 2 else if (p.Sets.length : Int) ≠ types then 15 else fb (fun _ x => ck x) 0 p.Sets
theorem pck_eq {N : Nat} {types : Int} {p : GPredicate} (hN : 256 < N) : predicate_Check N types p = some (pck types p) := by
 unfold predicate_Check pck
 simp only [cmp_lss, cmp_gtr, cmp_neq, or_def, len_def, Bool.or_eq_true, Bool.not_eq_true', decide_eq_true_eq, decide_eq_false_iff_not]
 by_cases h1 : types < 1 ∨ 16 < types
 ·rw [if_pos h1, if_pos h1]
 ·rw [if_neg h1, if_neg h1]
  by_cases h2 : (p.Sets.length : Int) = types
  ·rw [if_neg (by simpa using h2), if_neg (by simpa using h2)]
   rw [chk_loop (l := p.Sets) (f := fun _ x => ck x) (e := .inl ()) (b := .inr) (N := N) ?_ ?_ (by omega)]
   ·simp only [Option.bind_some]
    by_cases h : fb (fun _ x => ck x) 0 p.Sets = 0
    ·simp [h]
    ·simp [h]
   ·intro i x hx hi
    simp only [idx_at, hx, Option.bind_some, icheck_eq hN]
    rw [if_pos (by omega), inc_i64 hi (by omega)]
    by_cases h : ck x = 0
    ·simp [h]
    ·simp [h]
   ·rw [if_neg (by omega)]
  ·rw [if_pos (by simpa using h2), if_pos (by simpa using h2)]
noncomputable abbrev own1 (p : GPredicate) : Int := pck (p.Sets.length : Int) p
theorem checked_eq {N : Nat} {l : List GPredicate} (hN : 256 < N) (hl : l.length < N) (hb : l.length < 1000000000) : predicate_checked N l = some (fb (fun _ x => own1 x) 0 l) := by
 unfold predicate_checked
 rw [chk_loop (l := l) (f := fun _ x => own1 x) (e := .inl ()) (b := .inr) (N := N) ?_ ?_ hl]
 ·simp only [Option.bind_some]
  by_cases h : fb (fun _ x => own1 x) 0 l = 0
  ·simp [h]
  ·simp [h]
 ·intro i x hx hi
  simp only [cmp_lss, cmp_neq, len_def, idx_at, hx, Option.bind_some, pck_eq hN, decide_eq_true_eq]
  rw [if_pos (by omega), inc_i64 hi (by omega)]
  by_cases h : own1 x = 0
  ·simp [h]
  ·simp [h]
 ·simp [cmp_lss, len_def]
theorem checked_one {N : Nat} {p : GPredicate} (hN : 256 < N) : predicate_checked N [p] = some (own1 p) := by
 rw [checked_eq hN (by simp; omega) (by simp)]
 unfold fb fb
 split
 ·rename_i h; rw [h]
 ·rfl
end Go.Ab

namespace Go.Ab
def fnd {α : Type} (p : α → Bool) : Nat → List α → Option (Nat × α)
 | _, [] => none
 | i, x :: r => if p x then some (i, x) else fnd p (i + 1) r
theorem find_loop {α R : Type} {l : List α} {step : Int → Option (Int ⊕ R)} {p : α → Bool} {e : R} {b : Nat → α → R}
 (hs : ∀ (i : Nat) x, l[i]? = some x → i < l.length → step (i : Int) = if p x then some (.inr (b i x)) else some (.inl ((i + 1 : Nat) : Int)))
 (he : step (l.length : Int) = some (.inr e)) : ∀ {N : Nat}, l.length < N → loopN step N 0 = some (match fnd p 0 l with | some q => b q.1 q.2 | none => e) := by
 have key : ∀ (k i N : Nat), i + k = l.length → k < N → loopN step N (i : Int) = some (match fnd p i (l.drop i) with | some q => b q.1 q.2 | none => e) := by
  intro k
  induction k with
  | zero =>
   intro i N hi hN
   obtain ⟨N, rfl⟩ : ∃ M, N = M + 1 := ⟨N - 1, by omega⟩
   rw [show i = l.length by omega, List.drop_length]
   simp [loopN, he, fnd]
  | succ k ih =>
   intro i N hi hN
   obtain ⟨N, rfl⟩ : ∃ M, N = M + 1 := ⟨N - 1, by omega⟩
   have hlt : i < l.length := by omega
   rw [List.drop_eq_getElem_cons hlt]
   simp only [loopN, hs i _ (List.getElem?_eq_getElem hlt) hlt, fnd]
   by_cases h : p l[i]
   ·simp only [h, if_true]
   ·simp only [h, if_false]
    exact ih (i + 1) N (by omega) (by omega)
 intro N hN
 have := key l.length 0 N (by omega) hN
 simpa using this
theorem fnd_some {α : Type} {p : α → Bool} : ∀ {l : List α} {i k : Nat} {x : α}, fnd p i l = some (k, x) → i ≤ k ∧ l[k - i]? = some x ∧ p x = true ∧ ∀ (j : Nat) y, j < k - i → l[j]? = some y → p y = false
 | [], _, _, _, h => by cases h
 | y :: r, i, k, x, h => by
  unfold fnd at h
  split at h
  ·rename_i hp
   cases h
   exact ⟨by omega, by simp, hp, fun j y hj => by omega⟩
  ·rename_i hp
   obtain ⟨h1, h2, h3, h4⟩ := fnd_some h
   refine ⟨by omega, by rw [show k - i = (k - (i + 1)) + 1 by omega]; simpa using h2, h3, fun j z hj hz => ?_⟩
   cases j with
   | zero => simp at hz; subst hz; simpa using hp
   | succ j => exact h4 j z (by omega) (by simpa using hz)
end Go.Ab

namespace Go.Ab
set_option maxRecDepth 100000
theorem beq_self (a : Bool) : Ar.beq a a = true := by cases a <;> rfl
end Go.Ab

namespace Go.Ab
theorem bind_of1' {α β : Type} {m : Option α} {x : α} {F : α → Option β} {r : Option β} (h : m = some x) (k : F x = r) : m.bind F = r := by rw [h]; exact k
theorem loop_tot {R : Type} {step : Int → Option (Int ⊕ R)} {n : Nat} (hs : ∀ i : Nat, i < n → ∃ o, step (i : Int) = some o ∧ (o = .inl ((i + 1 : Nat) : Int) ∨ ∃ r, o = .inr r)) (he : ∃ r, step (n : Int) = some (.inr r)) {N : Nat} (hN : n < N) : ∃ r, loopN step N 0 = some r := by
 have key : ∀ (k i N : Nat), i + k = n → k < N → ∃ r, loopN step N (i : Int) = some r := by
  intro k
  induction k with
  | zero =>
   intro i N hi hN
   obtain ⟨N, rfl⟩ : ∃ M, N = M + 1 := ⟨N - 1, by omega⟩
   obtain ⟨r, hr⟩ := he
   rw [show i = n by omega]
   exact ⟨r, by simp only [loopN, hr]⟩
  | succ k ih =>
   intro i N hi hN
   obtain ⟨N, rfl⟩ : ∃ M, N = M + 1 := ⟨N - 1, by omega⟩
   obtain ⟨o, h1, h2⟩ := hs i (by omega)
   rcases h2 with rfl | ⟨r, rfl⟩
   ·obtain ⟨r, hr⟩ := ih (i + 1) N (by omega) (by omega)
    exact ⟨r, by simp only [loopN, h1]; exact hr⟩
   ·exact ⟨r, by simp only [loopN, h1]⟩
 exact key n 0 N (by omega) hN
theorem chk_loopS {α S R : Type} {l : List α} {step : Int × S → Option ((Int × S) ⊕ R)} {f : Nat → α → Int} (st : Nat → S) {e : S → R} {b : Int → S → R}
 (hs : ∀ (i : Nat) x, l[i]? = some x → i < l.length → step ((i : Int), st i) = if f i x = 0 then some (.inl (((i + 1 : Nat) : Int), st (i + 1))) else some (.inr (b (f i x) (st i))))
 (he : step ((l.length : Int), st l.length) = some (.inr (e (st l.length)))) {N : Nat} (hN : l.length < N) : ∃ s, loopN step N (0, st 0) = some (if fb f 0 l = 0 then e s else b (fb f 0 l) s) := by
 have key : ∀ (k i N : Nat), i + k = l.length → k < N → ∃ s, loopN step N ((i : Int), st i) = some (if fb f i (l.drop i) = 0 then e s else b (fb f i (l.drop i)) s) := by
  intro k
  induction k with
  | zero =>
   intro i N hi hN
   obtain ⟨N, rfl⟩ : ∃ M, N = M + 1 := ⟨N - 1, by omega⟩
   rw [show i = l.length by omega, List.drop_length]
   exact ⟨st l.length, by simp only [loopN, he, fb, if_true]⟩
  | succ k ih =>
   intro i N hi hN
   obtain ⟨N, rfl⟩ : ∃ M, N = M + 1 := ⟨N - 1, by omega⟩
   have hlt : i < l.length := by omega
   have h1 := hs i _ (List.getElem?_eq_getElem hlt) hlt
   rw [List.drop_eq_getElem_cons hlt]
   by_cases h : f i l[i] = 0
   ·rw [if_pos h] at h1
    obtain ⟨s, h2⟩ := ih (i + 1) N (by omega) (by omega)
    refine ⟨s, ?_⟩
    have e1 : fb f i (l[i] :: l.drop (i + 1)) = fb f (i + 1) (l.drop (i + 1)) := by simp only [fb]; rw [if_pos h]
    rw [e1]
    simp only [loopN, h1]
    exact h2
   ·rw [if_neg h] at h1
    have e1 : fb f i (l[i] :: l.drop (i + 1)) = f i l[i] := by simp only [fb]; rw [if_neg h]
    refine ⟨st i, ?_⟩
    rw [e1, if_neg h]
    simp only [loopN, h1]
 exact key l.length 0 N (by omega) hN
def digB (c : Int) : Bool := decide (48 ≤ c) && decide (c ≤ 57)
def letB (c : Int) : Bool := decide (c = 95) || (decide (97 ≤ c) && decide (c ≤ 122)) || (decide (65 ≤ c) && decide (c ≤ 90))
theorem digit_eq (N : Nat) (c : Int) : schema_digit N c = some (digB c) := rfl
theorem letter_eq (N : Nat) (c : Int) : schema_letter N c = some (letB c) := rfl
theorem rletter_eq (N : Nat) (c : Int) : ref03_letter N c = some (letB c) := by
 unfold letB
 rw [Bool.or_assoc, Bool.or_comm]
 rfl
theorem let_not_dig {c : Int} (h : letB c = true) : digB c = false := by
 simp only [letB, digB, Bool.or_eq_true, Bool.and_eq_true, decide_eq_true_eq, Bool.and_eq_false_iff, decide_eq_false_iff_not] at h ⊢
 omega
noncomputable def nmStep (x : ByteArray) (s : Int) : Option (Int ⊕ (Unit ⊕ Unit)) :=
 if s < (x.size : Int) then (if 0 ≤ s then (if letB (Ar.sat x s) || digB (Ar.sat x s) then some (.inl (Ar.ar .add .i64 s 1)) else some (.inr (.inr ()))) else none) else some (.inr (.inl ()))
theorem nm1 (N : Nat) (x : ByteArray) : (fun (s2 : Int) =>
 (
  if Ar.cmp .lss s2 (Ar.slen x) = true then
   (req (Ar.an (Ar.cmp .geq s2 0) (Ar.cmp .lss s2 (Ar.slen x)))).bind fun _ =>
   (schema_letter N (Ar.sat x s2)).bind fun r4 =>
   if Ar.nt r4 = true then
    (req (Ar.an (Ar.cmp .geq s2 0) (Ar.cmp .lss s2 (Ar.slen x)))).bind fun _ =>
    (schema_digit N (Ar.sat x s2)).bind fun r5 =>
    if Ar.nt r5 = true then
     some (.inr (.inr ()))
    else
     some (.inl (Ar.ar .add .i64 s2 1))
   else
    some (.inl (Ar.ar .add .i64 s2 1))
  else
   some (.inr (.inl ()))
  : Option ((Int) ⊕ (Unit ⊕ Unit)))) = nmStep x := by
 funext s
 unfold nmStep
 simp only [cmp_lss, cmp_geq, an_def, slen_def, letter_eq, digit_eq, nt_def, decide_eq_true_eq]
 by_cases h1 : s < (x.size : Int)
 ·by_cases h0 : 0 ≤ s
  ·simp only [h1, h0, decide_true, Bool.and_self, req, if_true, Option.bind_some]
   cases letB (Ar.sat x s) <;> cases digB (Ar.sat x s) <;> rfl
  ·simp [h1, h0, req]
 ·simp [h1]
theorem nm2 (N : Nat) (x : ByteArray) : (fun (s2 : Int) =>
 (
  if Ar.cmp .lss s2 (Ar.slen x) = true then
   (req (Ar.an (Ar.cmp .geq s2 0) (Ar.cmp .lss s2 (Ar.slen x)))).bind fun _ =>
   (ref03_letter N (Ar.sat x s2)).bind fun r4 =>
   if Ar.nt r4 = true then
    (req (Ar.an (Ar.cmp .geq s2 0) (Ar.cmp .lss s2 (Ar.slen x)))).bind fun _ =>
    if Ar.cmp .lss (Ar.sat x s2) 48 = true then
     some (.inr (.inr ()))
    else
     (req (Ar.an (Ar.cmp .geq s2 0) (Ar.cmp .lss s2 (Ar.slen x)))).bind fun _ =>
     if Ar.cmp .gtr (Ar.sat x s2) 57 = true then
      some (.inr (.inr ()))
     else
      some (.inl (Ar.ar .add .i64 s2 1))
   else
    some (.inl (Ar.ar .add .i64 s2 1))
  else
   some (.inr (.inl ()))
  : Option ((Int) ⊕ (Unit ⊕ Unit)))) = nmStep x := by
 funext s
 unfold nmStep
 simp only [cmp_lss, cmp_geq, cmp_gtr, an_def, slen_def, rletter_eq, nt_def, decide_eq_true_eq]
 by_cases h1 : s < (x.size : Int)
 ·by_cases h0 : 0 ≤ s
  ·simp only [h1, h0, decide_true, Bool.and_self, req, if_true, Option.bind_some]
   cases letB (Ar.sat x s) with
   | true => rfl
   | false =>
    simp only [Bool.not_false, if_true, Bool.false_or, digB, Bool.and_eq_true, decide_eq_true_eq]
    by_cases a : Ar.sat x s < 48
    ·rw [if_pos a, if_neg (by omega)]
    ·rw [if_neg a]
     by_cases b : 57 < Ar.sat x s
     ·rw [if_pos b, if_neg (by omega)]
     ·rw [if_neg b, if_pos (by omega)]
  ·simp [h1, h0, req]
 ·simp [h1]
theorem name_tot {N : Nat} (hN : 30 < N) (x : ByteArray) : ∃ b, schema_name N x = some b ∧ ref03_Name N x = some b := by
 unfold schema_name ref03_Name
 rw [nm1, nm2]
 simp only [digit_eq, rletter_eq, Option.bind_some, cmp_eql, cmp_gtr, cmp_geq, cmp_lss, or_def, an_def, slen_def, nt_def, Bool.or_eq_true, decide_eq_true_eq]
 by_cases h : ((x.size : Int) = 0 ∨ 24 < (x.size : Int))
 ·rw [if_pos h, if_pos h]; exact ⟨_, rfl, rfl⟩
 ·rw [if_neg h, if_neg h]
  have hr : req (decide ((0 : Int) ≤ 0) && decide ((0 : Int) < (x.size : Int))) = some () := by
   unfold req
   rw [if_pos (by simp; omega)]
  rw [hr]
  simp only [Option.bind_some]
  obtain ⟨r, hL⟩ := loop_tot (N := N) (step := nmStep x) (n := x.size) (fun i hi => by
   unfold nmStep
   rw [if_pos (by omega), if_pos (by omega), inc_i64 hi (by omega)]
   split
   ·exact ⟨_, rfl, .inl rfl⟩
   ·exact ⟨_, rfl, .inr ⟨_, rfl⟩⟩) ⟨_, by unfold nmStep; rw [if_neg (by omega)]⟩ (by omega)
  by_cases hl : letB (Ar.sat x 0) = true
  ·rw [let_not_dig hl, hl, hL]
   simp only [Bool.false_eq_true, if_false, Bool.not_true, Option.bind_some]
   cases r <;> exact ⟨_, rfl, rfl⟩
  ·have hl' : letB (Ar.sat x 0) = false := by simpa using hl
   rw [hl']
   simp only [Bool.not_false, if_true]
   by_cases hd : digB (Ar.sat x 0) = true
   ·rw [if_pos hd]; exact ⟨_, rfl, rfl⟩
   ·rw [if_neg hd]
    have hd' : digB (Ar.sat x 0) = false := by simpa using hd
    obtain ⟨M, rfl⟩ : ∃ M, N = M + 1 := ⟨N - 1, by omega⟩
    have : nmStep x 0 = some (.inr (.inr ())) := by
     unfold nmStep
     rw [if_pos (by omega), if_pos (by omega), hl', hd']
     rfl
    simp only [loopN, this, Option.bind_some]
    exact ⟨_, rfl, rfl⟩
noncomputable def nmB (N : Nat) (x : ByteArray) : Bool := (schema_name N x).getD false
theorem name_eq {N : Nat} (hN : 30 < N) (x : ByteArray) : schema_name N x = some (nmB N x) := by
 obtain ⟨b, h, _⟩ := name_tot hN x
 unfold nmB; rw [h]; rfl
open Classical in
theorem getM_nm (L : List ByteArray) (k : ByteArray) : getM (L.map fun y => (y, true)) k false = some (decide (k ∈ L), decide (k ∈ L)) := by
 unfold getM
 congr 1
 induction L with
 | nil => simp
 | cons y L ih =>
  simp only [List.map_cons, List.find?_cons]
  by_cases h : y = k
  ·subst h; simp
  ·simp only [h, decide_false]
   rw [ih]
   have : (k ∈ y :: L) ↔ k ∈ L := by simp [List.mem_cons, Ne.symm h]
   simp [this]
theorem setM_nm {L : List ByteArray} {k : ByteArray} (h : k ∉ L) : setM (L.map fun y => (y, true)) k true = some ((L ++ [k]).map fun y => (y, true)) := by
 unfold setM
 rw [if_neg]
 ·simp
 ·simp only [List.any_eq_true, List.mem_map, decide_eq_true_eq, not_exists]
  rintro p ⟨⟨y, hy, rfl⟩, e⟩
  exact h (by simpa using e ▸ hy)
def fstI {α : Type} (p : α → Bool) (l : List α) : Int := match fnd p 0 l with | some q => (q.1 : Int) | none => -1
end Go.Ab

