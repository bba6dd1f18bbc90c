/- GPL1 GPL2 GPL3 GPL4 GPL5 GPL6 -/
import Derived.Test.YtpapabjndpgcnaaGreatT36
import Derived.Test.YtpapabjndpgcnaaGreatT28
import Derived.KernelRfl
set_option linter.all false

namespace Go.Ab
def fb {α : Type} (f : Nat → α → Int) : Nat → List α → Int
 | _, [] => 0
 | i, x :: r => if f i x = 0 then fb f (i + 1) r else f i x
theorem fb_zero {α : Type} {f : Nat → α → Int} : ∀ {l : List α} {i : Nat}, fb f i l = 0 ↔ ∀ (k : Nat) x, l[k]? = some x → f (i + k) x = 0
 | [], i => by simp [fb]
 | y :: r, i => by
  unfold fb
  split
  ·rename_i h
   rw [fb_zero]
   refine ⟨fun H k x hk => ?_, fun H k x hk => ?_⟩
   ·cases k with
    | zero => simp at hk; subst hk; exact h
    | succ k => rw [show i + (k + 1) = i + 1 + k by omega]; exact H k x (by simpa using hk)
   ·have := H (k + 1) x (by simpa using hk)
    rwa [show i + (k + 1) = i + 1 + k by omega] at this
  ·rename_i h
   exact ⟨fun e => absurd e h, fun H => absurd (H 0 y (by simp)) h⟩
theorem inc_i64 {i : Nat} {n : Nat} (hi : i < n) (hn : n < 1000000000000) : Ar.ar .add .i64 (i : Int) 1 = ((i + 1 : Nat) : Int) := by
 rw [add_i64 (by omega) (by omega)]; omega
theorem chk_loop {α R : Type} {l : List α} {step : Int → Option (Int ⊕ R)} {f : Nat → α → Int} {e : R} {b : Int → R}
 (hs : ∀ (i : Nat) x, l[i]? = some x → i < l.length → step (i : Int) = if f i x = 0 then some (.inl ((i + 1 : Nat) : Int)) else some (.inr (b (f i x))))
 (he : step (l.length : Int) = some (.inr e)) : ∀ {N : Nat}, l.length < N → loopN step N 0 = some (if fb f 0 l = 0 then e else b (fb f 0 l)) := by
 have key : ∀ (k i N : Nat), i + k = l.length → k < N → loopN step N (i : Int) = some (if fb f i (l.drop i) = 0 then e else b (fb f i (l.drop i))) := by
  intro k
  induction k with
  | zero =>
   intro i N hi hN
   obtain ⟨N, rfl⟩ : ∃ M, N = M + 1 := ⟨N - 1, by omega⟩
   rw [show i = l.length by omega, List.drop_length]
   simp [loopN, he, fb]
  | succ k ih =>
   intro i N hi hN
   obtain ⟨N, rfl⟩ : ∃ M, N = M + 1 := ⟨N - 1, by omega⟩
   have hlt : i < l.length := by omega
   rw [List.drop_eq_getElem_cons hlt]
   simp only [loopN, hs i _ (List.getElem?_eq_getElem hlt) hlt, fb]
   by_cases h : f i l[i] = 0
   ·simp only [h, if_true]
    exact ih (i + 1) N (by omega) (by omega)
   ·simp only [h, if_false]
 intro N hN
 have := key l.length 0 N (by omega) hN
 simpa using this
def fm (x : GInterval) : Int :=
 if x.Low < -1099511627776 ∨ 1099511627776 < x.Low ∨ x.High < -1099511627776 ∨ 1099511627776 < x.High then 2 else if x.High < x.Low then 3 else 0
theorem fm_zero {x : GInterval} (h : fm x = 0) : -1099511627776 ≤ x.Low ∧ x.Low ≤ x.High ∧ x.High ≤ 1099511627776 := by
 unfold fm at h
 split at h
 ·cases h
 ·split at h
  ·cases h
  ·omega
theorem formed_eq (N : Nat) (x : GInterval) : interval_formed N x = some (fm x) := by
 unfold interval_formed fm
 simp only [cmp_lss, cmp_gtr, or_def, Bool.or_eq_true, decide_eq_true_eq, or_assoc]
 split
 ·rfl
 ·split <;> rfl
theorem one_eq (N : Nat) (x : GInterval) : ref02_one N x = some (fm x) := by
 unfold ref02_one ref02_in fm
 simp only [cmp_geq, cmp_leq, cmp_gtr, an_def, nt_def, Option.bind_some, Bool.not_eq_true', Bool.and_eq_false_iff, decide_eq_false_iff_not, decide_eq_true_eq]
 repeat' split
 all_goals first | rfl | (exfalso; omega)
noncomputable def fi (l : List GInterval) (i : Nat) (x : GInterval) : Int :=
 if fm x = 0 then (if 0 < i then match l[i - 1]? with | some y => if x.Low < Ar.ar .add .i64 y.High 2 then 14 else 0 | none => 0 else 0) else fm x
noncomputable def ck (l : List GInterval) : Int := if 256 < l.length then 5 else fb (fi l) 0 l
theorem dec_at {α : Type} {l : List α} {i : Nat} (hi : 0 < i) (hl : i < l.length) (hn : l.length < 1000000000000) : idxL l (Ar.ar .sub .i64 (i : Int) 1) = l[i - 1]? := by
 have e : Ar.ar .sub .i64 (i : Int) 1 = ((i - 1 : Nat) : Int) := by
  show IntKind.wrap .i64 ((i : Int) - 1) = _
  rw [wrap_i64 (by omega) (by omega)]; omega
 rw [e, idx_at]
theorem icheck_eq {N : Nat} {l : List GInterval} (hN : 256 < N) : interval_Check N l = some (ck l) := by
 unfold interval_Check ck
 simp only [cmp_gtr, len_def, decide_eq_true_eq]
 by_cases hl : 256 < l.length
 ·rw [if_pos (by omega), if_pos hl]
 ·rw [if_neg (by omega), if_neg hl]
  rw [chk_loop (l := l) (f := fi l) (e := .inl ()) (b := .inr) (N := N) ?_ ?_ (by omega)]
  ·simp only [Option.bind_some]
   by_cases h : fb (fi l) 0 l = 0
   ·simp [h]
   ·simp [h]
  ·intro i x hx hi
   simp only [cmp_lss, cmp_neq, formed_eq, idx_at, hx, Option.bind_some, decide_eq_true_eq]
   rw [if_pos (by omega), inc_i64 hi (by omega)]
   unfold fi
   by_cases h0 : fm x = 0
   ·simp only [h0, decide_true, Bool.not_true, Bool.false_eq_true, if_false, if_true]
    by_cases hp : 0 < i
    ·rw [if_pos (by omega), dec_at hp hi (by omega)]
     cases hy : l[i - 1]? with
     | none => rw [List.getElem?_eq_none_iff] at hy; omega
     | some y =>
      simp only [Option.bind_some, hp, if_true]
      by_cases hh : x.Low < Ar.ar .add .i64 y.High 2
      ·rw [if_pos hh, if_pos hh]; rfl
      ·rw [if_neg hh, if_neg hh]; rfl
    ·rw [if_neg (by omega)]; simp [hp]
   ·simp [h0]
  ·simp [cmp_lss]
theorem rcheck_eq {N : Nat} {l : List GInterval} (hN : 256 < N) : ref02_Check N l = some (ck l) := by
 unfold ref02_Check ck
 simp only [cmp_gtr, len_def, decide_eq_true_eq]
 by_cases hl : 256 < l.length
 ·rw [if_pos (by omega), if_pos hl]
 ·rw [if_neg (by omega), if_neg hl]
  rw [chk_loop (l := l) (f := fi l) (e := .inl ()) (b := .inr) (N := N) ?_ ?_ (by omega)]
  ·simp only [Option.bind_some]
   by_cases h : fb (fi l) 0 l = 0
   ·simp [h]
   ·simp [h]
  ·intro i x hx hi
   simp only [cmp_lss, cmp_neq, one_eq, idx_at, hx, Option.bind_some, decide_eq_true_eq]
   rw [if_pos (by omega), inc_i64 hi (by omega)]
   unfold fi
   by_cases h0 : fm x = 0
   ·simp only [h0, decide_true, Bool.not_true, Bool.false_eq_true, if_false, if_true]
    by_cases hp : 0 < i
    ·rw [if_pos (by omega), dec_at hp hi (by omega)]
     cases hy : l[i - 1]? with
     | none => rw [List.getElem?_eq_none_iff] at hy; omega
     | some y =>
      simp only [Option.bind_some, hp, if_true]
      by_cases hh : x.Low < Ar.ar .add .i64 y.High 2
      ·rw [if_pos hh, if_pos hh]; rfl
      ·rw [if_neg hh, if_neg hh]; rfl
    ·rw [if_neg (by omega)]; simp [hp]
   ·simp [h0]
  ·simp [cmp_lss]
def Srt (l : List GInterval) : Prop := l.length ≤ 256 ∧ (∀ x ∈ l, -1099511627776 ≤ x.Low ∧ x.Low ≤ x.High ∧ x.High ≤ 1099511627776) ∧ ∀ (i : Nat) x y, l[i]? = some x → l[i + 1]? = some y → x.High + 2 ≤ y.Low
theorem ck_zero {l : List GInterval} (h : ck l = 0) : Srt l := by
 unfold ck at h
 split at h
 ·cases h
 ·rename_i hl
  have h := fb_zero.1 h
  have hm : ∀ (k : Nat) x, l[k]? = some x → fm x = 0 := fun k x hx => by
   have := h k x hx
   unfold fi at this
   by_cases h0 : fm x = 0
   ·exact h0
   ·rw [if_neg h0] at this; exact this
  refine ⟨by omega, fun x hx => ?_, fun i x y hx hy => ?_⟩
  ·obtain ⟨k, hk⟩ := List.getElem?_of_mem hx
   exact fm_zero (hm k x hk)
  ·have h1 := fm_zero (hm _ _ hx)
   have := h (i + 1) y hy
   simp only [Nat.zero_add] at this
   unfold fi at this
   rw [if_pos (hm _ _ hy), if_pos (by omega), show i + 1 - 1 = i by omega, hx] at this
   simp only at this
   rw [add_i64 (by omega) (by omega)] at this
   split at this
   ·cases this
   ·omega
end Go.Ab

namespace Go.Ab
theorem wrap_u64 {n : Int} (h0 : 0 ≤ n) (h1 : n < 18446744073709551616) : IntKind.wrap .u64 n = n := by
 have e : IntKind.wrap .u64 n = n % 18446744073709551616 := by
  unfold IntKind.wrap
  simp [IntKind.bits, IntKind.signed]
 rw [e]; omega
theorem mid_eq {i j : Nat} (h : i + j < 1000000000000) : Ar.wr .i64 (Ar.sh .shr .u64 (Ar.wr .u64 (Ar.ar .add .i64 (i : Int) (j : Int))) 1) = (((i + j) / 2 : Nat) : Int) := by
 rw [add_i64 (by omega) (by omega)]
 show IntKind.wrap .i64 (shI .shr .u64 (IntKind.wrap .u64 ((i : Int) + j)) 1) = _
 rw [wrap_u64 (by omega) (by omega)]
 have e : shI .shr .u64 ((i : Int) + j) 1 = ((i : Int) + j) / 2 := by
  show ((i : Int) + j).fdiv (2 ^ (min (1 : Int).toNat 64)) = _
  rw [show (2 : Int) ^ (min (1 : Int).toNat 64) = 2 from rfl, Int.fdiv_eq_ediv_of_nonneg _ (by decide)]
 rw [e, wrap_i64 (by omega) (by omega)]; omega
def whr3 (x : GInterval) (n : Int) : Int := if x.High < n then -1 else if n < x.Low then 1 else 0
theorem has1_eq (N : Nat) (x : GInterval) (n : Int) : interval_has_1 N x n = some (whr3 x n) := by
 unfold interval_has_1 whr3
 simp only [cmp_lss, cmp_gtr, decide_eq_true_eq]
 repeat' split
 all_goals rfl
def InL (l : List GInterval) (n : Int) : Prop := ∃ x ∈ l, x.Low ≤ n ∧ n ≤ x.High
theorem srt_le {l : List GInterval} (hs : Srt l) : ∀ (d i : Nat) x y, l[i]? = some x → l[i + d + 1]? = some y → x.High + 2 ≤ y.Low
 | 0, i, x, y, hx, hy => hs.2.2 i x y hx hy
 | d + 1, i, x, y, hx, hy => by
  have hlt : i + d + 1 < l.length := by
   rcases Nat.lt_or_ge (i + d + 1) l.length with h | h
   ·exact h
   ·rw [List.getElem?_eq_none (by omega)] at hy; cases hy
  have h1 := srt_le hs d i x _ hx (List.getElem?_eq_getElem hlt)
  have h2 := hs.2.2 (i + d + 1) _ y (List.getElem?_eq_getElem hlt) hy
  have h3 := hs.2.1 _ (List.getElem_mem hlt)
  omega
theorem bs_loop {N0 : Nat} {l : List GInterval} {n : Int} (hs : Srt l) : ∀ (k i j N : Nat), j - i ≤ k → i ≤ j → j ≤ l.length → k < N →
 (∀ m x, m < i → l[m]? = some x → x.High < n) → (∀ m x, j ≤ m → l[m]? = some x → n ≤ x.High) →
 ∃ r : Nat, r ≤ l.length ∧ (∀ m x, m < r → l[m]? = some x → x.High < n) ∧ (∀ m x, r ≤ m → l[m]? = some x → n ≤ x.High) ∧
  loopN (fun (s1 : Int × Int) => (
   if Ar.cmp .lss s1.1 s1.2 = true then
    (idxL l (Ar.wr .i64 (Ar.sh .shr .u64 (Ar.wr .u64 (Ar.ar .add .i64 s1.1 s1.2)) 1))).bind fun x3 =>
    (interval_has_1 N0 x3 n).bind fun r4 =>
    if Ar.cmp .lss r4 0 = true then
     some (.inl (Ar.ar .add .i64 (Ar.wr .i64 (Ar.sh .shr .u64 (Ar.wr .u64 (Ar.ar .add .i64 s1.1 s1.2)) 1)) 1, s1.2))
    else
     some (.inl (s1.1, Ar.wr .i64 (Ar.sh .shr .u64 (Ar.wr .u64 (Ar.ar .add .i64 s1.1 s1.2)) 1)))
   else
    some (.inr s1.1) : Option ((Int × Int) ⊕ (Int)))) N ((i : Int), (j : Int)) = some (r : Int) := by
 intro k
 have hl := hs.1
 induction k with
 | zero =>
  intro i j N hk hij hj hN h1 h2
  obtain ⟨N, rfl⟩ : ∃ M, N = M + 1 := ⟨N - 1, by omega⟩
  refine ⟨i, by omega, h1, fun m x hm hx => h2 m x (by omega) hx, ?_⟩
  unfold loopN
  simp only [cmp_lss, decide_eq_true_eq]
  rw [if_neg (by omega)]
 | succ k ih =>
  intro i j N hk hij hj hN h1 h2
  obtain ⟨N, rfl⟩ : ∃ M, N = M + 1 := ⟨N - 1, by omega⟩
  by_cases hlt : i < j
  ·have hm : (i + j) / 2 < l.length := by omega
   have hx := List.getElem?_eq_getElem hm
   have step := mid_eq (i := i) (j := j) (by omega)
   by_cases hc : l[(i + j) / 2].High < n
   ·obtain ⟨r, r1, r2, r3, r4⟩ := ih ((i + j) / 2 + 1) j N (by omega) (by omega) hj (by omega) (fun m x hm' hx' => by
     by_cases e : m = (i + j) / 2
     ·subst e; rw [hx] at hx'; cases hx'; exact hc
     ·have := srt_le hs ((i + j) / 2 - m - 1) m x l[(i + j) / 2] hx' (by rw [← hx]; congr 1; omega)
      have := hs.2.1 _ (List.getElem_mem hm)
      omega) h2
    refine ⟨r, r1, r2, r3, ?_⟩
    rw [← r4]
    conv => lhs; unfold loopN
    simp only [cmp_lss, decide_eq_true_eq, step, idx_at, hx, Option.bind_some, has1_eq]
    rw [if_pos (by omega), if_pos (by unfold whr3; rw [if_pos hc]; decide)]
    simp only [inc_i64 hm (by omega)]
   ·obtain ⟨r, r1, r2, r3, r4⟩ := ih i ((i + j) / 2) N (by omega) (by omega) (by omega) (by omega) h1 (fun m x hm' hx' => by
     by_cases e : m = (i + j) / 2
     ·subst e; rw [hx] at hx'; cases hx'; omega
     ·have := srt_le hs (m - (i + j) / 2 - 1) ((i + j) / 2) l[(i + j) / 2] x hx (by rw [← hx']; congr 1; omega)
      have := hs.2.1 x (List.mem_of_getElem? hx')
      omega)
    refine ⟨r, r1, r2, r3, ?_⟩
    rw [← r4]
    conv => lhs; unfold loopN
    simp only [cmp_lss, decide_eq_true_eq, step, idx_at, hx, Option.bind_some, has1_eq]
    rw [if_pos (by omega), if_neg (by unfold whr3; rw [if_neg hc]; split <;> decide)]
  ·refine ⟨i, by omega, h1, fun m x hm hx => h2 m x (by omega) hx, ?_⟩
   unfold loopN
   simp only [cmp_lss, decide_eq_true_eq]
   rw [if_neg (by omega)]
theorem has_eq {N : Nat} {l : List GInterval} {n : Int} (hs : Srt l) (hN : 300 < N) : ∃ b, interval_has N l n = some b ∧ (b = true ↔ InL l n) := by
 have hl := hs.1
 obtain ⟨r, r1, r2, r3, r4⟩ := bs_loop (N0 := N) (n := n) hs l.length 0 l.length N (by omega) (by omega) (by omega) (by omega) (fun m x h => by omega) (fun m x h hx => by rw [List.getElem?_eq_none h] at hx; cases hx)
 unfold interval_has slices_BinarySearchFunc_LInterval_Interval_int
 simp only [len_def]
 rw [show ((0 : Int), ((l.length : Nat) : Int)) = (((0 : Nat) : Int), ((l.length : Nat) : Int)) from rfl, r4]
 simp only [Option.bind_some, cmp_lss, decide_eq_true_eq]
 by_cases hr : r < l.length
 ·have hx := List.getElem?_eq_getElem hr
  rw [if_pos (by omega), idx_at, hx]
  simp only [Option.bind_some, has1_eq]
  refine ⟨_, rfl, ?_⟩
  simp only [cmp_eql, decide_eq_true_eq]
  have h3 := r3 r _ (by omega) hx
  unfold whr3
  rw [if_neg (by omega)]
  constructor
  ·intro h
   split at h
   ·cases h
   ·exact ⟨_, List.getElem_mem hr, by omega, h3⟩
  ·rintro ⟨x, hx', h1, h2⟩
   obtain ⟨m, hm⟩ := List.getElem?_of_mem hx'
   have hmr : ¬ m < r := fun h => by have := r2 m x h hm; omega
   by_cases e : m = r
   ·subst e; rw [hx] at hm; cases hm; rw [if_neg (by omega)]
   ·have := srt_le hs (m - r - 1) r l[r] x hx (by rw [← hm]; congr 1; omega)
    omega
 ·rw [if_neg (by omega)]
  refine ⟨_, rfl, ?_⟩
  simp only [Bool.false_eq_true, false_iff]
  rintro ⟨x, hx', h1, h2⟩
  obtain ⟨m, hm⟩ := List.getElem?_of_mem hx'
  have hml : m < l.length := (List.getElem?_eq_some_iff.1 hm).1
  have := r2 m x (by omega) hm
  omega
end Go.Ab

namespace Go.Ab
noncomputable def pck (types : Int) (p : GPredicate) : Int := if types < 1 ∨ 16 < types then 2 else if (p.Sets.length : Int) ≠ types then 15 else fb (fun _ x => ck x) 0 p.Sets
theorem pck_eq {N : Nat} {types : Int} {p : GPredicate} (hN : 256 < N) : predicate_Check N types p = some (pck types p) := by
 unfold predicate_Check pck
 simp only [cmp_lss, cmp_gtr, cmp_neq, or_def, len_def, Bool.or_eq_true, Bool.not_eq_true', decide_eq_true_eq, decide_eq_false_iff_not]
 by_cases h1 : types < 1 ∨ 16 < types
 ·rw [if_pos h1, if_pos h1]
 ·rw [if_neg h1, if_neg h1]
  by_cases h2 : (p.Sets.length : Int) = types
  ·rw [if_neg (by simpa using h2), if_neg (by simpa using h2)]
   rw [chk_loop (l := p.Sets) (f := fun _ x => ck x) (e := .inl ()) (b := .inr) (N := N) ?_ ?_ (by omega)]
   ·simp only [Option.bind_some]
    by_cases h : fb (fun _ x => ck x) 0 p.Sets = 0
    ·simp [h]
    ·simp [h]
   ·intro i x hx hi
    simp only [idx_at, hx, Option.bind_some, icheck_eq hN]
    rw [if_pos (by omega), inc_i64 hi (by omega)]
    by_cases h : ck x = 0
    ·simp [h]
    ·simp [h]
   ·rw [if_neg (by omega)]
  ·rw [if_pos (by simpa using h2), if_pos (by simpa using h2)]
theorem rpck_eq {N : Nat} {types : Int} {p : GPredicate} (hN : 256 < N) : ref27_Check N types p = some (pck types p) := by
 unfold ref27_Check pck
 simp only [cmp_lss, cmp_gtr, cmp_neq, or_def, len_def, Bool.or_eq_true, Bool.not_eq_true', decide_eq_true_eq, decide_eq_false_iff_not]
 by_cases h1 : types < 1 ∨ 16 < types
 ·rw [if_pos h1, if_pos h1]
 ·rw [if_neg h1, if_neg h1]
  by_cases h2 : (p.Sets.length : Int) = types
  ·rw [if_neg (by simpa using h2), if_neg (by simpa using h2)]
   subst h2
   rw [chk_loop (l := p.Sets) (f := fun _ x => ck x) (e := .inl ()) (b := .inr) (N := N) ?_ ?_ (by omega)]
   ·simp only [Option.bind_some]
    by_cases h : fb (fun _ x => ck x) 0 p.Sets = 0
    ·simp [h]
    ·simp [h]
   ·intro i x hx hi
    simp only [idx_at, hx, Option.bind_some, rcheck_eq hN]
    rw [if_pos (by omega), inc_i64 hi (by omega)]
    by_cases h : ck x = 0
    ·simp [h]
    ·simp [h]
   ·rw [if_neg (by omega)]
  ·rw [if_pos (by simpa using h2), if_pos (by simpa using h2)]
noncomputable abbrev own1 (p : GPredicate) : Int := pck (p.Sets.length : Int) p
theorem own1_zero {p : GPredicate} (h : own1 p = 0) : (1 ≤ p.Sets.length ∧ p.Sets.length ≤ 16) ∧ ∀ x ∈ p.Sets, Srt x := by
 unfold own1 pck at h
 split at h
 ·cases h
 ·rw [if_neg (by simp)] at h
  refine ⟨by omega, fun x hx => ?_⟩
  obtain ⟨k, hk⟩ := List.getElem?_of_mem hx
  exact ck_zero (fb_zero.1 h k x hk)
theorem rown_eq {N : Nat} {p : GPredicate} (hN : 256 < N) : ref27_own N p = some (own1 p) := by
 unfold ref27_own
 simp only [len_def, rpck_eq hN, Option.bind_some]
theorem checked_eq {N : Nat} {l : List GPredicate} (hN : 256 < N) (hl : l.length < N) (hb : l.length < 1000000000) : predicate_checked N l = some (fb (fun _ x => own1 x) 0 l) := by
 unfold predicate_checked
 rw [chk_loop (l := l) (f := fun _ x => own1 x) (e := .inl ()) (b := .inr) (N := N) ?_ ?_ hl]
 ·simp only [Option.bind_some]
  by_cases h : fb (fun _ x => own1 x) 0 l = 0
  ·simp [h]
  ·simp [h]
 ·intro i x hx hi
  simp only [cmp_lss, cmp_neq, len_def, idx_at, hx, Option.bind_some, pck_eq hN, decide_eq_true_eq]
  rw [if_pos (by omega), inc_i64 hi (by omega)]
  by_cases h : own1 x = 0
  ·simp [h]
  ·simp [h]
 ·simp [cmp_lss, len_def]
end Go.Ab

namespace Go.Ab
def fnd {α : Type} (p : α → Bool) : Nat → List α → Option (Nat × α)
 | _, [] => none
 | i, x :: r => if p x then some (i, x) else fnd p (i + 1) r
theorem find_loop {α R : Type} {l : List α} {step : Int → Option (Int ⊕ R)} {p : α → Bool} {e : R} {b : Nat → α → R}
 (hs : ∀ (i : Nat) x, l[i]? = some x → i < l.length → step (i : Int) = if p x then some (.inr (b i x)) else some (.inl ((i + 1 : Nat) : Int)))
 (he : step (l.length : Int) = some (.inr e)) : ∀ {N : Nat}, l.length < N → loopN step N 0 = some (match fnd p 0 l with | some q => b q.1 q.2 | none => e) := by
 have key : ∀ (k i N : Nat), i + k = l.length → k < N → loopN step N (i : Int) = some (match fnd p i (l.drop i) with | some q => b q.1 q.2 | none => e) := by
  intro k
  induction k with
  | zero =>
   intro i N hi hN
   obtain ⟨N, rfl⟩ : ∃ M, N = M + 1 := ⟨N - 1, by omega⟩
   rw [show i = l.length by omega, List.drop_length]
   simp [loopN, he, fnd]
  | succ k ih =>
   intro i N hi hN
   obtain ⟨N, rfl⟩ : ∃ M, N = M + 1 := ⟨N - 1, by omega⟩
   have hlt : i < l.length := by omega
   rw [List.drop_eq_getElem_cons hlt]
   simp only [loopN, hs i _ (List.getElem?_eq_getElem hlt) hlt, fnd]
   by_cases h : p l[i]
   ·simp only [h, if_true]
   ·simp only [h, if_false]
    exact ih (i + 1) N (by omega) (by omega)
 intro N hN
 have := key l.length 0 N (by omega) hN
 simpa using this
theorem fnd_some {α : Type} {p : α → Bool} : ∀ {l : List α} {i k : Nat} {x : α}, fnd p i l = some (k, x) → i ≤ k ∧ l[k - i]? = some x ∧ p x = true ∧ ∀ (j : Nat) y, j < k - i → l[j]? = some y → p y = false
 | [], _, _, _, h => by cases h
 | y :: r, i, k, x, h => by
  unfold fnd at h
  split at h
  ·rename_i hp
   cases h
   exact ⟨by omega, by simp, hp, fun j y hj => by omega⟩
  ·rename_i hp
   obtain ⟨h1, h2, h3, h4⟩ := fnd_some h
   refine ⟨by omega, by rw [show k - i = (k - (i + 1)) + 1 by omega]; simpa using h2, h3, fun j z hj hz => ?_⟩
   cases j with
   | zero => simp at hz; subst hz; simpa using hp
   | succ j => exact h4 j z (by omega) (by simpa using hz)
theorem fnd_none {α : Type} {p : α → Bool} : ∀ {l : List α} {i : Nat}, fnd p i l = none → ∀ x ∈ l, p x = false
 | [], _, _ => fun x hx => by cases hx
 | y :: r, i, h => by
  unfold fnd at h
  split at h
  ·cases h
  ·rename_i hp
   intro x hx
   rcases List.mem_cons.1 hx with rfl | hx
   ·simpa using hp
   ·exact fnd_none h x hx
end Go.Ab

namespace Go.Ab
set_option maxRecDepth 100000
end Go.Ab

namespace Go.Ab
def Ord : List GInterval → Prop
 | [] => True
 | x :: l => (-1099511627776 ≤ x.Low ∧ x.Low ≤ x.High ∧ x.High ≤ 1099511627776) ∧ (∀ y ∈ l, x.High + 2 ≤ y.Low) ∧ Ord l
theorem inL_cons {x : GInterval} {l : List GInterval} {n : Int} : InL (x :: l) n ↔ (x.Low ≤ n ∧ n ≤ x.High) ∨ InL l n := by
 constructor
 ·rintro ⟨y, hy, h⟩
  rcases List.mem_cons.1 hy with rfl | hy
  ·exact .inl h
  ·exact .inr ⟨y, hy, h⟩
 ·rintro (h | ⟨y, hy, h⟩)
  ·exact ⟨x, by simp, h⟩
  ·exact ⟨y, by simp [hy], h⟩
theorem inL_nil {n : Int} : ¬ InL [] n := fun ⟨_, h, _⟩ => by cases h
theorem inL_app {l m : List GInterval} {n : Int} : InL (l ++ m) n ↔ InL l n ∨ InL m n := by
 induction l with
 | nil => simp [inL_nil]
 | cons x l ih => rw [List.cons_append, inL_cons, inL_cons, ih, or_assoc]
theorem Srt.ord : ∀ {l : List GInterval}, Srt l → Ord l := by
 intro l
 induction l with
 | nil => exact fun _ => trivial
 | cons x l ih =>
  intro hs
  refine ⟨hs.2.1 x (by simp), fun y hy => ?_, ih ⟨by have := hs.1; simp at this; omega, fun z hz => hs.2.1 z (by simp [hz]), fun i a b ha hb => hs.2.2 (i + 1) a b (by simpa using ha) (by simpa using hb)⟩⟩
  obtain ⟨k, hk⟩ := List.getElem?_of_mem hy
  exact srt_le hs k 0 x y rfl (by simpa [Nat.add_comm] using hk)
theorem Ord.srt' : ∀ {l : List GInterval}, Ord l → ∀ x ∈ l, -1099511627776 ≤ x.Low ∧ x.Low ≤ x.High ∧ x.High ≤ 1099511627776
 | _ :: _, h, x, hx => by
  rcases List.mem_cons.1 hx with rfl | hx
  ·exact h.1
  ·exact Ord.srt' h.2.2 x hx
theorem Ord.srt : ∀ {l : List GInterval}, Ord l → l.length ≤ 256 → Srt l := by
 intro l
 induction l with
 | nil => exact fun _ _ => ⟨by simp, fun x hx => (by cases hx), fun i x y hx => by simp at hx⟩
 | cons x l ih =>
  rintro ⟨h1, h2, h3⟩ hl
  obtain ⟨k1, k2, k3⟩ := ih h3 (by simp at hl; omega)
  refine ⟨hl, fun y hy => ?_, fun i a b ha hb => ?_⟩
  ·rcases List.mem_cons.1 hy with rfl | hy
   ·exact h1
   ·exact k2 y hy
  ·cases i with
   | zero => simp at ha hb; subst ha; exact h2 b (List.mem_of_getElem? hb)
   | succ i => exact k3 i a b (by simpa using ha) (by simpa using hb)
theorem Ord.lo {x : GInterval} {l : List GInterval} (h : Ord (x :: l)) {n : Int} (hn : InL (x :: l) n) : x.Low ≤ n := by
 rcases inL_cons.1 hn with h' | ⟨y, hy, h'⟩
 ·exact h'.1
 ·have := h.2.1 y hy; have := h.1; omega
theorem Ord.above {x : GInterval} {l : List GInterval} (h : Ord (x :: l)) {n : Int} (hn : InL l n) : x.High + 2 ≤ n := by
 obtain ⟨y, hy, h'⟩ := hn
 have := h.2.1 y hy; omega
theorem ord_ext : ∀ {l m : List GInterval}, Ord l → Ord m → (∀ n, InL l n ↔ InL m n) → l = m
 | [], [], _, _, _ => rfl
 | [], y :: m, _, hm, h => absurd ((h y.Low).2 (inL_cons.2 (.inl ⟨by omega, hm.1.2.1⟩))) inL_nil
 | x :: l, [], hl, _, h => absurd ((h x.Low).1 (inL_cons.2 (.inl ⟨by omega, hl.1.2.1⟩))) inL_nil
 | x :: l, y :: m, hl, hm, h => by
  have a1 := hm.lo ((h x.Low).1 (inL_cons.2 (.inl ⟨by omega, hl.1.2.1⟩)))
  have a2 := hl.lo ((h y.Low).2 (inL_cons.2 (.inl ⟨by omega, hm.1.2.1⟩)))
  have hx := hl.1; have hy := hm.1
  have a3 : ¬ x.High < y.High := fun hlt => by
   rcases inL_cons.1 ((h (x.High + 1)).2 (inL_cons.2 (.inl ⟨by omega, by omega⟩))) with h' | h'
   ·omega
   ·have := hl.above h'; omega
  have a4 : ¬ y.High < x.High := fun hlt => by
   rcases inL_cons.1 ((h (y.High + 1)).1 (inL_cons.2 (.inl ⟨by omega, by omega⟩))) with h' | h'
   ·omega
   ·have := hm.above h'; omega
  have e : x = y := by
   cases x; cases y
   simp only at a1 a2 a3 a4
   rw [show _ = _ from Int.le_antisymm a2 a1]
   rw [show _ = _ from Int.le_antisymm (Int.not_lt.1 a4) (Int.not_lt.1 a3)]
  subst e
  rw [ord_ext hl.2.2 hm.2.2 fun n => ?_]
  constructor
  ·intro hn
   have := hl.above hn
   rcases inL_cons.1 ((h n).1 (inL_cons.2 (.inr hn))) with h' | h'
   ·omega
   ·exact h'
  ·intro hn
   have := hm.above hn
   rcases inL_cons.1 ((h n).2 (inL_cons.2 (.inr hn))) with h' | h'
   ·omega
   ·exact h'
end Go.Ab

