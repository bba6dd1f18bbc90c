/- GPL2 GPL3 GPL4 GPL5 GPL6 GPL7 GPL8 -/
import Derived.Test.YtpapabjndpgcnaaGreatT36
import Derived.KernelRfl
set_option linter.all false

namespace Go.Ab
theorem wrap_u64 {n : Int} (h0 : 0 ≤ n) (h1 : n < 18446744073709551616) : IntKind.wrap .u64 n = n := by
 have e : IntKind.wrap .u64 n = n % 18446744073709551616 := by
  unfold IntKind.wrap
  simp [IntKind.bits, IntKind.signed]
 rw [e]; omega
theorem mid_eq {i j : Nat} (h : i + j < 1000000000000) : Ar.wr .i64 (Ar.sh .shr .u64 (Ar.wr .u64 (Ar.ar .add .i64 (i : Int) (j : Int))) 1) = (((i + j) / 2 : Nat) : Int) := by
 rw [add_i64 (by omega) (by omega)]
 show IntKind.wrap .i64 (shI .shr .u64 (IntKind.wrap .u64 ((i : Int) + j)) 1) = _
 rw [wrap_u64 (by omega) (by omega)]
 have e : shI .shr .u64 ((i : Int) + j) 1 = ((i : Int) + j) / 2 := by
  show ((i : Int) + j).fdiv (2 ^ (min (1 : Int).toNat 64)) = _
  rw [show (2 : Int) ^ (min (1 : Int).toNat 64) = 2 from rfl, Int.fdiv_eq_ediv_of_nonneg _ (by decide)]
 rw [e, wrap_i64 (by omega) (by omega)]; omega
def whr3 (x : GInterval) (n : Int) : Int := if x.High < n then -1 else if n < x.Low then 1 else 0
theorem has1_eq (N : Nat) (x : GInterval) (n : Int) : interval_has_1 N x n = some (whr3 x n) := by
 unfold interval_has_1 whr3
 simp only [cmp_lss, cmp_gtr, decide_eq_true_eq]
 repeat' split
 all_goals rfl
def InL (l : List GInterval) (n : Int) : Prop := ∃ x ∈ l, x.Low ≤ n ∧ n ≤ x.High
theorem srt_le {l : List GInterval} (hs : Srt l) : ∀ (d i : Nat) x y, l[i]? = some x → l[i + d + 1]? = some y → x.High + 2 ≤ y.Low
 | 0, i, x, y, hx, hy => hs.2.2 i x y hx hy
 | d + 1, i, x, y, hx, hy => by
  have hlt : i + d + 1 < l.length := by
   rcases Nat.lt_or_ge (i + d + 1) l.length with h | h
   ·exact h
   ·rw [List.getElem?_eq_none (by omega)] at hy; cases hy
  have h1 := srt_le hs d i x _ hx (List.getElem?_eq_getElem hlt)
  have h2 := hs.2.2 (i + d + 1) _ y (List.getElem?_eq_getElem hlt) hy
  have h3 := hs.2.1 _ (List.getElem_mem hlt)
  omega
theorem bs_loop {N0 : Nat} {l : List GInterval} {n : Int} (hs : Srt l) : ∀ (k i j N : Nat), j - i ≤ k → i ≤ j → j ≤ l.length → k < N →
 (∀ m x, m < i → l[m]? = some x → x.High < n) → (∀ m x, j ≤ m → l[m]? = some x → n ≤ x.High) →
 ∃ r : Nat, r ≤ l.length ∧ (∀ m x, m < r → l[m]? = some x → x.High < n) ∧ (∀ m x, r ≤ m → l[m]? = some x → n ≤ x.High) ∧
  loopN (fun (s1 : Int × Int) => (
   if Ar.cmp .lss s1.1 s1.2 = true then
    (idxL l (Ar.wr .i64 (Ar.sh .shr .u64 (Ar.wr .u64 (Ar.ar .add .i64 s1.1 s1.2)) 1))).bind fun x3 =>
    (interval_has_1 N0 x3 n).bind fun r4 =>
    if Ar.cmp .lss r4 0 = true then
     some (.inl (Ar.ar .add .i64 (Ar.wr .i64 (Ar.sh .shr .u64 (Ar.wr .u64 (Ar.ar .add .i64 s1.1 s1.2)) 1)) 1, s1.2))
    else
     some (.inl (s1.1, Ar.wr .i64 (Ar.sh .shr .u64 (Ar.wr .u64 (Ar.ar .add .i64 s1.1 s1.2)) 1)))
   else
    some (.inr s1.1) : Option ((Int × Int) ⊕ (Int)))) N ((i : Int), (j : Int)) = some (r : Int) := by
 intro k
 have hl := hs.1
 induction k with
 | zero =>
  intro i j N hk hij hj hN h1 h2
  obtain ⟨N, rfl⟩ : ∃ M, N = M + 1 := ⟨N - 1, by omega⟩
  refine ⟨i, by omega, h1, fun m x hm hx => h2 m x (by omega) hx, ?_⟩
  unfold loopN
  simp only [cmp_lss, decide_eq_true_eq]
  rw [if_neg (by omega)]
 | succ k ih =>
  intro i j N hk hij hj hN h1 h2
  obtain ⟨N, rfl⟩ : ∃ M, N = M + 1 := ⟨N - 1, by omega⟩
  by_cases hlt : i < j
  ·have hm : (i + j) / 2 < l.length := by omega
   have hx := List.getElem?_eq_getElem hm
   have step := mid_eq (i := i) (j := j) (by omega)
   by_cases hc : l[(i + j) / 2].High < n
   ·obtain ⟨r, r1, r2, r3, r4⟩ := ih ((i + j) / 2 + 1) j N (by omega) (by omega) hj (by omega) (fun m x hm' hx' => by
     by_cases e : m = (i + j) / 2
     ·subst e; rw [hx] at hx'; cases hx'; exact hc
     ·have := srt_le hs ((i + j) / 2 - m - 1) m x l[(i + j) / 2] hx' (by rw [← hx]; congr 1; omega)
      have := hs.2.1 _ (List.getElem_mem hm)
      omega) h2
    refine ⟨r, r1, r2, r3, ?_⟩
    rw [← r4]
    conv => lhs; unfold loopN
    simp only [cmp_lss, decide_eq_true_eq, step, idx_at, hx, Option.bind_some, has1_eq]
    rw [if_pos (by omega), if_pos (by unfold whr3; rw [if_pos hc]; decide)]
    simp only [inc_i64 hm (by omega)]
   ·obtain ⟨r, r1, r2, r3, r4⟩ := ih i ((i + j) / 2) N (by omega) (by omega) (by omega) (by omega) h1 (fun m x hm' hx' => by
     by_cases e : m = (i + j) / 2
     ·subst e; rw [hx] at hx'; cases hx'; omega
     ·have := srt_le hs (m - (i + j) / 2 - 1) ((i + j) / 2) l[(i + j) / 2] x hx (by rw [← hx']; congr 1; omega)
      have := hs.2.1 x (List.mem_of_getElem? hx')
      omega)
    refine ⟨r, r1, r2, r3, ?_⟩
    rw [← r4]
    conv => lhs; unfold loopN
    simp only [cmp_lss, decide_eq_true_eq, step, idx_at, hx, Option.bind_some, has1_eq]
    rw [if_pos (by omega), if_neg (by unfold whr3; rw [if_neg hc]; split <;> decide)]
  ·refine ⟨i, by omega, h1, fun m x hm hx => h2 m x (by omega) hx, ?_⟩
   unfold loopN
   simp only [cmp_lss, decide_eq_true_eq]
   rw [if_neg (by omega)]
theorem has_eq {N : Nat} {l : List GInterval} {n : Int} (hs : Srt l) (hN : 300 < N) : ∃ b, interval_has N l n = some b ∧ (b = true ↔ InL l n) := by
 have hl := hs.1
 obtain ⟨r, r1, r2, r3, r4⟩ := bs_loop (N0 := N) (n := n) hs l.length 0 l.length N (by omega) (by omega) (by omega) (by omega) (fun m x h => by omega) (fun m x h hx => by rw [List.getElem?_eq_none h] at hx; cases hx)
 unfold interval_has slices_BinarySearchFunc_LInterval_Interval_int
 simp only [len_def]
 rw [show ((0 : Int), ((l.length : Nat) : Int)) = (((0 : Nat) : Int), ((l.length : Nat) : Int)) from rfl, r4]
 simp only [Option.bind_some, cmp_lss, decide_eq_true_eq]
 by_cases hr : r < l.length
 ·have hx := List.getElem?_eq_getElem hr
  rw [if_pos (by omega), idx_at, hx]
  simp only [Option.bind_some, has1_eq]
  refine ⟨_, rfl, ?_⟩
  simp only [cmp_eql, decide_eq_true_eq]
  have h3 := r3 r _ (by omega) hx
  unfold whr3
  rw [if_neg (by omega)]
  constructor
  ·intro h
   split at h
   ·cases h
   ·exact ⟨_, List.getElem_mem hr, by omega, h3⟩
  ·rintro ⟨x, hx', h1, h2⟩
   obtain ⟨m, hm⟩ := List.getElem?_of_mem hx'
   have hmr : ¬ m < r := fun h => by have := r2 m x h hm; omega
   by_cases e : m = r
   ·subst e; rw [hx] at hm; cases hm; rw [if_neg (by omega)]
   ·have := srt_le hs (m - r - 1) r l[r] x hx (by rw [← hm]; congr 1; omega)
    omega
 ·rw [if_neg (by omega)]
  refine ⟨_, rfl, ?_⟩
  simp only [Bool.false_eq_true, false_iff]
  rintro ⟨x, hx', h1, h2⟩
  obtain ⟨m, hm⟩ := List.getElem?_of_mem hx'
  have hml : m < l.length := (List.getElem?_eq_some_iff.1 hm).1
  have := r2 m x (by omega) hm
  omega
theorem rhas_eq {N : Nat} {l : List GInterval} {n : Int} (hl : l.length < 1000000000) (hN : l.length < N) : ∃ b, ref02_Has N l n = some b ∧ (b = true ↔ InL l n) := by
 unfold ref02_Has
 simp only [len_def]
 rw [chk_loop (l := l) (f := fun _ x => if x.Low ≤ n ∧ n ≤ x.High then 1 else 0) (e := .inl ()) (b := fun _ => .inr ()) (N := N) ?_ ?_ hN]
 ·simp only [Option.bind_some]
  by_cases h : fb (fun _ (x : GInterval) => if x.Low ≤ n ∧ n ≤ x.High then (1 : Int) else 0) 0 l = 0
  ·rw [if_pos h]
   refine ⟨false, rfl, ?_⟩
   simp only [Bool.false_eq_true, false_iff]
   rintro ⟨x, hx, h1⟩
   obtain ⟨k, hk⟩ := List.getElem?_of_mem hx
   have := fb_zero.1 h k x hk
   rw [if_pos h1] at this; cases this
  ·rw [if_neg h]
   refine ⟨true, rfl, ?_⟩
   simp only [true_iff]
   refine Classical.byContradiction fun hn => h (fb_zero.2 fun k x hk => ?_)
   rw [if_neg fun h1 => hn ⟨x, List.mem_of_getElem? hk, h1⟩]
 ·intro i x hx hi
  simp only [cmp_lss, cmp_leq, idx_at, hx, Option.bind_some, decide_eq_true_eq]
  rw [if_pos (by omega), inc_i64 hi (by omega)]
  by_cases h1 : x.Low ≤ n
  ·rw [if_pos h1]
   by_cases h2 : n ≤ x.High
   ·rw [if_pos h2, if_neg (by rw [if_pos ⟨h1, h2⟩]; decide)]
   ·rw [if_neg h2, if_pos (by rw [if_neg (by omega)])]
  ·rw [if_neg h1, if_pos (by rw [if_neg (by omega)])]
 ·simp [cmp_lss]
end Go.Ab

namespace Go.Ab
noncomputable def pck (types : Int) (p : GPredicate) : Int := if types < 1 ∨ 16 < types then 2 else if (p.Sets.length : Int) ≠ types then 15 else fb (fun _ x => ck x) 0 p.Sets
theorem pck_eq {N : Nat} {types : Int} {p : GPredicate} (hN : 256 < N) : predicate_Check N types p = some (pck types p) := by
 unfold predicate_Check pck
 simp only [cmp_lss, cmp_gtr, cmp_neq, or_def, len_def, Bool.or_eq_true, Bool.not_eq_true', decide_eq_true_eq, decide_eq_false_iff_not]
 by_cases h1 : types < 1 ∨ 16 < types
 ·rw [if_pos h1, if_pos h1]
 ·rw [if_neg h1, if_neg h1]
  by_cases h2 : (p.Sets.length : Int) = types
  ·rw [if_neg (by simpa using h2), if_neg (by simpa using h2)]
   rw [chk_loop (l := p.Sets) (f := fun _ x => ck x) (e := .inl ()) (b := .inr) (N := N) ?_ ?_ (by omega)]
   ·simp only [Option.bind_some]
    by_cases h : fb (fun _ x => ck x) 0 p.Sets = 0
    ·simp [h]
    ·simp [h]
   ·intro i x hx hi
    simp only [idx_at, hx, Option.bind_some, icheck_eq hN]
    rw [if_pos (by omega), inc_i64 hi (by omega)]
    by_cases h : ck x = 0
    ·simp [h]
    ·simp [h]
   ·rw [if_neg (by omega)]
  ·rw [if_pos (by simpa using h2), if_pos (by simpa using h2)]
theorem rpck_eq {N : Nat} {types : Int} {p : GPredicate} (hN : 256 < N) : ref27_Check N types p = some (pck types p) := by
 unfold ref27_Check pck
 simp only [cmp_lss, cmp_gtr, cmp_neq, or_def, len_def, Bool.or_eq_true, Bool.not_eq_true', decide_eq_true_eq, decide_eq_false_iff_not]
 by_cases h1 : types < 1 ∨ 16 < types
 ·rw [if_pos h1, if_pos h1]
 ·rw [if_neg h1, if_neg h1]
  by_cases h2 : (p.Sets.length : Int) = types
  ·rw [if_neg (by simpa using h2), if_neg (by simpa using h2)]
   subst h2
   rw [chk_loop (l := p.Sets) (f := fun _ x => ck x) (e := .inl ()) (b := .inr) (N := N) ?_ ?_ (by omega)]
   ·simp only [Option.bind_some]
    by_cases h : fb (fun _ x => ck x) 0 p.Sets = 0
    ·simp [h]
    ·simp [h]
   ·intro i x hx hi
    simp only [idx_at, hx, Option.bind_some, rcheck_eq hN]
    rw [if_pos (by omega), inc_i64 hi (by omega)]
    by_cases h : ck x = 0
    ·simp [h]
    ·simp [h]
   ·rw [if_neg (by omega)]
  ·rw [if_pos (by simpa using h2), if_pos (by simpa using h2)]
noncomputable abbrev own1 (p : GPredicate) : Int := pck (p.Sets.length : Int) p
theorem own1_zero {p : GPredicate} (h : own1 p = 0) : (1 ≤ p.Sets.length ∧ p.Sets.length ≤ 16) ∧ ∀ x ∈ p.Sets, Srt x := by
 unfold own1 pck at h
 split at h
 ·cases h
 ·rw [if_neg (by simp)] at h
  refine ⟨by omega, fun x hx => ?_⟩
  obtain ⟨k, hk⟩ := List.getElem?_of_mem hx
  exact ck_zero (fb_zero.1 h k x hk)
theorem rown_eq {N : Nat} {p : GPredicate} (hN : 256 < N) : ref27_own N p = some (own1 p) := by
 unfold ref27_own
 simp only [len_def, rpck_eq hN, Option.bind_some]
theorem checked_eq {N : Nat} {l : List GPredicate} (hN : 256 < N) (hl : l.length < N) (hb : l.length < 1000000000) : predicate_checked N l = some (fb (fun _ x => own1 x) 0 l) := by
 unfold predicate_checked
 rw [chk_loop (l := l) (f := fun _ x => own1 x) (e := .inl ()) (b := .inr) (N := N) ?_ ?_ hl]
 ·simp only [Option.bind_some]
  by_cases h : fb (fun _ x => own1 x) 0 l = 0
  ·simp [h]
  ·simp [h]
 ·intro i x hx hi
  simp only [cmp_lss, cmp_neq, len_def, idx_at, hx, Option.bind_some, pck_eq hN, decide_eq_true_eq]
  rw [if_pos (by omega), inc_i64 hi (by omega)]
  by_cases h : own1 x = 0
  ·simp [h]
  ·simp [h]
 ·simp [cmp_lss, len_def]
theorem checked_one {N : Nat} {p : GPredicate} (hN : 256 < N) : predicate_checked N [p] = some (own1 p) := by
 rw [checked_eq hN (by simp; omega) (by simp)]
 unfold fb fb
 split
 ·rename_i h; rw [h]
 ·rfl
def InP (p : GPredicate) (s : GSymbol) : Prop := 0 ≤ s.Typ ∧ ∃ l, p.Sets[s.Typ.toNat]? = some l ∧ InL l s.Num
noncomputable def sck (types : Int) (s : GSymbol) : Int := if s.Typ < 0 ∨ types ≤ s.Typ then 6 else if s.Num < -1099511627776 ∨ 1099511627776 < s.Num then 2 else 0
theorem rsck_eq {N : Nat} {types : Int} {s : GSymbol} : ref27_CheckSymbol N types s = some (sck types s) := by
 unfold ref27_CheckSymbol sck
 simp only [cmp_lss, cmp_gtr, cmp_geq, or_def, Bool.or_eq_true, decide_eq_true_eq]
 repeat' split
 all_goals rfl
theorem bool_ext {a b : Bool} {P : Prop} (h : a = true ↔ P) (k : b = true ↔ P) : a = b := by
 cases a <;> cases b <;> simp_all
theorem contains_eq {N : Nat} {p : GPredicate} {s : GSymbol} (hN : 300 < N) : ∃ r, predicate_Contains N p s = some r ∧ ref27_Contains N p s = some r ∧
 r.2 = (if own1 p = 0 then sck (p.Sets.length : Int) s else own1 p) ∧ (r.2 = 0 → (r.1 = true ↔ InP p s)) := by
 unfold predicate_Contains ref27_Contains
 simp only [checked_one (show 256 < N by omega), rown_eq (show 256 < N by omega), Option.bind_some, cmp_neq, cmp_lss, cmp_geq, cmp_gtr, or_def, len_def, rsck_eq, Bool.or_eq_true, Bool.not_eq_true', decide_eq_true_eq, decide_eq_false_iff_not]
 by_cases h0 : own1 p = 0
 ·simp only [h0, not_true_eq_false, if_false, if_true]
  obtain ⟨hlen, hsrt⟩ := own1_zero h0
  unfold sck
  by_cases h1 : s.Typ < 0 ∨ (p.Sets.length : Int) ≤ s.Typ
  ·simp only [if_pos h1]
   rw [if_pos (by decide)]
   exact ⟨_, rfl, rfl, rfl, fun h => by cases h⟩
  ·simp only [if_neg h1]
   by_cases h2 : s.Num < -1099511627776 ∨ 1099511627776 < s.Num
   ·simp only [if_pos h2]
    rw [if_pos (by decide)]
    exact ⟨_, rfl, rfl, rfl, fun h => by cases h⟩
   ·simp only [if_neg h2, not_true_eq_false, if_false]
    obtain ⟨k, hk⟩ : ∃ k : Nat, s.Typ = (k : Int) := ⟨s.Typ.toNat, by omega⟩
    have hkl : k < p.Sets.length := by omega
    have hx := List.getElem?_eq_getElem hkl
    have hsx := hsrt _ (List.getElem_mem hkl)
    have hcx : ck p.Sets[k] = 0 := by
     have := h0
     unfold own1 pck at this
     rw [if_neg (by omega), if_neg (by simp)] at this
     have := fb_zero.1 this k _ hx
     exact this
    obtain ⟨b, e1, e2⟩ := has_eq (N := N) (n := s.Num) hsx (by omega)
    obtain ⟨b', e3, e4⟩ := rhas_eq (N := N) (l := p.Sets[k]) (n := s.Num) (by have := hsx.1; omega) (by have := hsx.1; omega)
    have hbb := bool_ext e2 e4
    subst hbb
    rw [hk, idx_at, hx]
    unfold interval_Contains ref27_Has
    simp only [Option.bind_some, icheck_eq (show 256 < N by omega), hcx, cmp_neq, cmp_geq, cmp_lss, an_def, len_def, hk, idx_at, hx, e1, e3, decide_true, Bool.not_true, Bool.false_eq_true, if_false, Bool.and_eq_true, decide_eq_true_eq]
    rw [if_pos (by omega)]
    refine ⟨_, rfl, rfl, rfl, fun _ => ?_⟩
    rw [e2]
    unfold InP
    rw [hk]
    constructor
    ·intro h; exact ⟨by omega, _, hx, h⟩
    ·rintro ⟨_, l, hl, h⟩
     rw [show (k : Int).toNat = k by omega, hx] at hl; cases hl; exact h
 ·simp only [h0, not_false_eq_true, if_true, if_false]
  exact ⟨_, rfl, rfl, rfl, fun h => absurd h h0⟩
end Go.Ab

namespace Go.Ab
def fnd {α : Type} (p : α → Bool) : Nat → List α → Option (Nat × α)
 | _, [] => none
 | i, x :: r => if p x then some (i, x) else fnd p (i + 1) r
theorem find_loop {α R : Type} {l : List α} {step : Int → Option (Int ⊕ R)} {p : α → Bool} {e : R} {b : Nat → α → R}
 (hs : ∀ (i : Nat) x, l[i]? = some x → i < l.length → step (i : Int) = if p x then some (.inr (b i x)) else some (.inl ((i + 1 : Nat) : Int)))
 (he : step (l.length : Int) = some (.inr e)) : ∀ {N : Nat}, l.length < N → loopN step N 0 = some (match fnd p 0 l with | some q => b q.1 q.2 | none => e) := by
 have key : ∀ (k i N : Nat), i + k = l.length → k < N → loopN step N (i : Int) = some (match fnd p i (l.drop i) with | some q => b q.1 q.2 | none => e) := by
  intro k
  induction k with
  | zero =>
   intro i N hi hN
   obtain ⟨N, rfl⟩ : ∃ M, N = M + 1 := ⟨N - 1, by omega⟩
   rw [show i = l.length by omega, List.drop_length]
   simp [loopN, he, fnd]
  | succ k ih =>
   intro i N hi hN
   obtain ⟨N, rfl⟩ : ∃ M, N = M + 1 := ⟨N - 1, by omega⟩
   have hlt : i < l.length := by omega
   rw [List.drop_eq_getElem_cons hlt]
   simp only [loopN, hs i _ (List.getElem?_eq_getElem hlt) hlt, fnd]
   by_cases h : p l[i]
   ·simp only [h, if_true]
   ·simp only [h, if_false]
    exact ih (i + 1) N (by omega) (by omega)
 intro N hN
 have := key l.length 0 N (by omega) hN
 simpa using this
def fl : Nat → List (List GInterval) → List (Int × List GInterval)
 | _, [] => []
 | i, x :: r => if 0 < x.length then ((i : Int), x) :: fl (i + 1) r else fl (i + 1) r
abbrev ne1 (x : List GInterval) : Bool := decide (0 < x.length)
theorem fl_head : ∀ (l : List (List GInterval)) (i : Nat), (fl i l).head? = (fnd ne1 i l).map fun q => ((q.1 : Int), q.2)
 | [], i => rfl
 | x :: r, i => by
  unfold fl fnd
  by_cases h : 0 < x.length
  ·simp [h, ne1]
  ·simp only [h, if_false, ne1, decide_false, Bool.false_eq_true]; exact fl_head r (i + 1)
theorem filled_eq {N : Nat} {p : GPredicate} (hb : p.Sets.length < 1000000000) (hN : p.Sets.length < N) : predicate_filled N p = some (fl 0 p.Sets) := by
 unfold predicate_filled predicate_filled_1
 have key : ∀ (k i N : Nat), i + k = p.Sets.length → k < N → loopE
  (fun (s1 : Int) =>
   (
    if Ar.cmp .lss s1 (Ar.len p.Sets) = true then
     (idxL p.Sets s1).bind fun x7 =>
     if Ar.cmp .gtr (Ar.len x7) 0 = true then
      thenE (some ([(s1, x7)], ())) fun _ =>
      some ([], .inl (Ar.ar .add .i64 s1 1))
     else
      some ([], .inl (Ar.ar .add .i64 s1 1))
    else
     some ([], .inr ())
    : Option (List (Int × (List GInterval)) × ((Int) ⊕ (Unit))))) N (i : Int) = some (fl i (p.Sets.drop i), ()) := by
  intro k
  induction k with
  | zero =>
   intro i N hi hN
   obtain ⟨N, rfl⟩ : ∃ M, N = M + 1 := ⟨N - 1, by omega⟩
   rw [show i = p.Sets.length by omega, List.drop_length]
   simp [loopE, fl, cmp_lss, len_def]
  | succ k ih =>
   intro i N hi hN
   obtain ⟨N, rfl⟩ : ∃ M, N = M + 1 := ⟨N - 1, by omega⟩
   have hlt : i < p.Sets.length := by omega
   have hx := List.getElem?_eq_getElem hlt
   have h1 := ih (i + 1) N (by omega) (by omega)
   rw [List.drop_eq_getElem_cons hlt]
   unfold loopE
   simp only [cmp_lss, cmp_gtr, len_def, idx_at, hx, Option.bind_some, decide_eq_true_eq, thenE, List.append_nil] at h1 ⊢
   rw [if_pos (by omega), inc_i64 hlt (by omega)]
   unfold fl
   by_cases h : 0 < p.Sets[i].length
   ·rw [if_pos (by omega), if_pos h]
    simp only [h1]; rfl
   ·rw [if_neg (by omega), if_neg h]
    simp only [h1]; rfl
 have := key p.Sets.length 0 N (by omega) hN
 rw [show ((0 : Nat) : Int) = 0 from rfl] at this
 rw [this]
 simp [thenE]
abbrev fst1 (p : GPredicate) : Option (Nat × List GInterval) := fnd ne1 0 p.Sets
theorem fnd_some {α : Type} {p : α → Bool} : ∀ {l : List α} {i k : Nat} {x : α}, fnd p i l = some (k, x) → i ≤ k ∧ l[k - i]? = some x ∧ p x = true ∧ ∀ (j : Nat) y, j < k - i → l[j]? = some y → p y = false
 | [], _, _, _, h => by cases h
 | y :: r, i, k, x, h => by
  unfold fnd at h
  split at h
  ·rename_i hp
   cases h
   exact ⟨by omega, by simp, hp, fun j y hj => by omega⟩
  ·rename_i hp
   obtain ⟨h1, h2, h3, h4⟩ := fnd_some h
   refine ⟨by omega, by rw [show k - i = (k - (i + 1)) + 1 by omega]; simpa using h2, h3, fun j z hj hz => ?_⟩
   cases j with
   | zero => simp at hz; subst hz; simpa using hp
   | succ j => exact h4 j z (by omega) (by simpa using hz)
theorem fnd_none {α : Type} {p : α → Bool} : ∀ {l : List α} {i : Nat}, fnd p i l = none → ∀ x ∈ l, p x = false
 | [], _, _ => fun x hx => by cases hx
 | y :: r, i, h => by
  unfold fnd at h
  split at h
  ·cases h
  ·rename_i hp
   intro x hx
   rcases List.mem_cons.1 hx with rfl | hx
   ·simpa using hp
   ·exact fnd_none h x hx
theorem void_eq {N : Nat} {p : GPredicate} (hb : p.Sets.length < 1000000000) (hN : p.Sets.length < N) : ref27_Void N p = some (fst1 p).isNone := by
 unfold ref27_Void
 rw [find_loop (l := p.Sets) (p := ne1) (e := .inl ()) (b := fun _ _ => .inr ()) (N := N) ?_ ?_ hN]
 ·simp only [Option.bind_some]
  unfold fst1
  cases fnd ne1 0 p.Sets <;> rfl
 ·intro i x hx hi
  simp only [cmp_lss, cmp_gtr, len_def, idx_at, hx, Option.bind_some, decide_eq_true_eq]
  rw [if_pos (by omega), inc_i64 hi (by omega)]
  by_cases h : 0 < x.length
  ·rw [if_pos (by omega), if_pos h]
  ·rw [if_neg (by omega), if_neg h]
 ·simp [cmp_lss, len_def]
theorem least_eq {N : Nat} {p : GPredicate} (hb : p.Sets.length < 1000000000) (hN : p.Sets.length < N) : ref27_Least N p = some (match fst1 p with | some (k, x :: _) => ⟨(k : Int), x.Low⟩ | _ => ⟨0, 0⟩) := by
 unfold ref27_Least
 rw [find_loop (l := p.Sets) (p := ne1) (e := .inl ()) (b := fun i x => match x with | y :: _ => .inr ⟨(i : Int), y.Low⟩ | [] => .inl ()) (N := N) ?_ ?_ hN]
 ·simp only [Option.bind_some]
  unfold fst1
  cases h : fnd ne1 0 p.Sets with
  | none => rfl
  | some q =>
   obtain ⟨k, x⟩ := q
   cases x with
   | nil => rfl
   | cons y r => rfl
 ·intro i x hx hi
  simp only [cmp_lss, cmp_gtr, len_def, idx_at, hx, Option.bind_some, decide_eq_true_eq]
  rw [if_pos (by omega), inc_i64 hi (by omega)]
  cases x with
  | nil => simp
  | cons y r =>
   rw [if_pos (by simp), if_pos (by simp)]
   rfl
 ·simp [cmp_lss, len_def]
theorem empty_eq {N : Nat} {p : GPredicate} (hN : 300 < N) : ∃ r, predicate_Empty N p = some r ∧ ref27_Empty N p = some r ∧ r.2 = own1 p ∧ (r.2 = 0 → r.1 = (fst1 p).isNone) := by
 unfold predicate_Empty ref27_Empty
 simp only [checked_one (show 256 < N by omega), rown_eq (show 256 < N by omega), Option.bind_some, cmp_neq, Bool.not_eq_true', decide_eq_false_iff_not]
 by_cases h0 : own1 p = 0
 ·simp only [h0, not_true_eq_false, if_false]
  obtain ⟨hlen, _⟩ := own1_zero h0
  rw [filled_eq (by omega) (by omega), void_eq (by omega) (by omega)]
  simp only [Option.bind_some]
  have hh := fl_head p.Sets 0
  cases hf : fl 0 p.Sets with
  | nil =>
   rw [hf] at hh
   cases hq : fst1 p with
   | none => exact ⟨_, rfl, rfl, rfl, fun _ => rfl⟩
   | some q => rw [show fnd ne1 0 p.Sets = some q from hq] at hh; cases hh
  | cons y r =>
   rw [hf] at hh
   cases hq : fst1 p with
   | none => rw [show fnd ne1 0 p.Sets = none from hq] at hh; cases hh
   | some q => exact ⟨_, rfl, rfl, rfl, fun _ => rfl⟩
 ·simp only [h0, not_false_eq_true, if_true]
  exact ⟨_, rfl, rfl, rfl, fun h => absurd h h0⟩
def least1 (p : GPredicate) : GSymbol := match fst1 p with | some (k, x :: _) => ⟨(k : Int), x.Low⟩ | _ => ⟨0, 0⟩
theorem witness_eq {N : Nat} {p : GPredicate} (hN : 300 < N) : ∃ r, predicate_Witness N p = some r ∧ ref27_Witness N p = some r ∧ r.2 = (if own1 p = 0 then (if (fst1 p).isNone then 6 else 0) else own1 p) ∧ (r.2 = 0 → r.1 = least1 p) := by
 unfold predicate_Witness ref27_Witness
 simp only [checked_one (show 256 < N by omega), rown_eq (show 256 < N by omega), Option.bind_some, cmp_neq, Bool.not_eq_true', decide_eq_false_iff_not]
 by_cases h0 : own1 p = 0
 ·simp only [h0, not_true_eq_false, if_false, if_true]
  obtain ⟨hlen, _⟩ := own1_zero h0
  rw [filled_eq (by omega) (by omega), void_eq (by omega) (by omega), least_eq (by omega) (by omega)]
  simp only [Option.bind_some]
  have hh := fl_head p.Sets 0
  unfold least1
  cases hf : fl 0 p.Sets with
  | nil =>
   rw [hf] at hh
   cases hq : fst1 p with
   | none => exact ⟨_, rfl, rfl, rfl, fun h => by cases h⟩
   | some q => rw [show fnd ne1 0 p.Sets = some q from hq] at hh; cases hh
  | cons y r =>
   rw [hf] at hh
   cases hq : fst1 p with
   | none => rw [show fnd ne1 0 p.Sets = none from hq] at hh; cases hh
   | some q =>
    obtain ⟨k, x⟩ := q
    have hq' : fnd ne1 0 p.Sets = some (k, x) := hq
    rw [hq'] at hh
    simp only [List.head?_cons, Option.map_some, Option.some.injEq] at hh
    subst hh
    obtain ⟨_, _, hx, _⟩ := fnd_some hq'
    cases x with
    | nil => cases hx
    | cons z zs => exact ⟨_, rfl, rfl, rfl, fun _ => rfl⟩
 ·simp only [h0, not_false_eq_true, if_true, if_false]
  exact ⟨_, rfl, rfl, rfl, fun h => absurd h h0⟩
end Go.Ab

namespace Go.Ab
set_option maxRecDepth 100000
theorem few_eq {N : Nat} {p : GPredicate} (hN : 10 < N) : ∃ b, ref27_Few N p = some b ∧ (b = true → p.Sets.length ≤ 4 ∧ ∀ x ∈ p.Sets, x.length ≤ 12) := by
 unfold ref27_Few
 rw [chk_loop (l := p.Sets.take 5) (f := fun _ x => if x.length ≤ 12 then 0 else 1) (e := .inl ()) (b := fun _ => .inr ()) (N := N) ?_ ?_ (by simp; omega)]
 ·simp only [Option.bind_some]
  by_cases h : fb (fun _ (x : List GInterval) => if x.length ≤ 12 then (0 : Int) else 1) 0 (p.Sets.take 5) = 0
  ·rw [if_pos h]
   refine ⟨_, rfl, fun hb => ?_⟩
   simp only [cmp_leq, len_def, decide_eq_true_eq] at hb
   refine ⟨by omega, fun x hx => ?_⟩
   obtain ⟨k, hk⟩ := List.getElem?_of_mem hx
   have hkl := (List.getElem?_eq_some_iff.1 hk).1
   have := fb_zero.1 h k x (by rw [List.getElem?_take]; rw [if_pos (by omega)]; exact hk)
   split at this
   ·assumption
   ·cases this
  ·rw [if_neg h]
   exact ⟨_, rfl, fun h => by cases h⟩
 ·intro i x hx hi
  rw [List.getElem?_take] at hx
  have hi5 : i < 5 ∧ i < p.Sets.length := by simp at hi; omega
  rw [if_pos hi5.1] at hx
  unfold ref02_Few
  simp only [cmp_lss, cmp_leq, an_def, nt_def, len_def, idx_at, hx, Option.bind_some, Bool.and_eq_true, decide_eq_true_eq, Bool.not_eq_true', decide_eq_false_iff_not]
  rw [if_pos (by omega), inc_i64 hi5.1 (by omega)]
  by_cases h : x.length ≤ 12
  ·rw [if_neg (by omega), if_pos (by rw [if_pos h])]
  ·rw [if_pos (by omega), if_neg (by rw [if_neg h]; decide)]
 ·simp only [cmp_lss, an_def, len_def, Bool.and_eq_true, decide_eq_true_eq, List.length_take]
  rw [if_neg (by omega)]
end Go.Ab

namespace Go.Ab
def Ord : List GInterval → Prop
 | [] => True
 | x :: l => (-1099511627776 ≤ x.Low ∧ x.Low ≤ x.High ∧ x.High ≤ 1099511627776) ∧ (∀ y ∈ l, x.High + 2 ≤ y.Low) ∧ Ord l
theorem inL_cons {x : GInterval} {l : List GInterval} {n : Int} : InL (x :: l) n ↔ (x.Low ≤ n ∧ n ≤ x.High) ∨ InL l n := by
 constructor
 ·rintro ⟨y, hy, h⟩
  rcases List.mem_cons.1 hy with rfl | hy
  ·exact .inl h
  ·exact .inr ⟨y, hy, h⟩
 ·rintro (h | ⟨y, hy, h⟩)
  ·exact ⟨x, by simp, h⟩
  ·exact ⟨y, by simp [hy], h⟩
theorem inL_nil {n : Int} : ¬ InL [] n := fun ⟨_, h, _⟩ => by cases h
theorem inL_app {l m : List GInterval} {n : Int} : InL (l ++ m) n ↔ InL l n ∨ InL m n := by
 induction l with
 | nil => simp [inL_nil]
 | cons x l ih => rw [List.cons_append, inL_cons, inL_cons, ih, or_assoc]
theorem Srt.ord : ∀ {l : List GInterval}, Srt l → Ord l := by
 intro l
 induction l with
 | nil => exact fun _ => trivial
 | cons x l ih =>
  intro hs
  refine ⟨hs.2.1 x (by simp), fun y hy => ?_, ih ⟨by have := hs.1; simp at this; omega, fun z hz => hs.2.1 z (by simp [hz]), fun i a b ha hb => hs.2.2 (i + 1) a b (by simpa using ha) (by simpa using hb)⟩⟩
  obtain ⟨k, hk⟩ := List.getElem?_of_mem hy
  exact srt_le hs k 0 x y rfl (by simpa [Nat.add_comm] using hk)
theorem Ord.srt' : ∀ {l : List GInterval}, Ord l → ∀ x ∈ l, -1099511627776 ≤ x.Low ∧ x.Low ≤ x.High ∧ x.High ≤ 1099511627776
 | _ :: _, h, x, hx => by
  rcases List.mem_cons.1 hx with rfl | hx
  ·exact h.1
  ·exact Ord.srt' h.2.2 x hx
theorem Ord.srt : ∀ {l : List GInterval}, Ord l → l.length ≤ 256 → Srt l := by
 intro l
 induction l with
 | nil => exact fun _ _ => ⟨by simp, fun x hx => (by cases hx), fun i x y hx => by simp at hx⟩
 | cons x l ih =>
  rintro ⟨h1, h2, h3⟩ hl
  obtain ⟨k1, k2, k3⟩ := ih h3 (by simp at hl; omega)
  refine ⟨hl, fun y hy => ?_, fun i a b ha hb => ?_⟩
  ·rcases List.mem_cons.1 hy with rfl | hy
   ·exact h1
   ·exact k2 y hy
  ·cases i with
   | zero => simp at ha hb; subst ha; exact h2 b (List.mem_of_getElem? hb)
   | succ i => exact k3 i a b (by simpa using ha) (by simpa using hb)
theorem Ord.lo {x : GInterval} {l : List GInterval} (h : Ord (x :: l)) {n : Int} (hn : InL (x :: l) n) : x.Low ≤ n := by
 rcases inL_cons.1 hn with h' | ⟨y, hy, h'⟩
 ·exact h'.1
 ·have := h.2.1 y hy; have := h.1; omega
theorem Ord.above {x : GInterval} {l : List GInterval} (h : Ord (x :: l)) {n : Int} (hn : InL l n) : x.High + 2 ≤ n := by
 obtain ⟨y, hy, h'⟩ := hn
 have := h.2.1 y hy; omega
theorem ord_ext : ∀ {l m : List GInterval}, Ord l → Ord m → (∀ n, InL l n ↔ InL m n) → l = m
 | [], [], _, _, _ => rfl
 | [], y :: m, _, hm, h => absurd ((h y.Low).2 (inL_cons.2 (.inl ⟨by omega, hm.1.2.1⟩))) inL_nil
 | x :: l, [], hl, _, h => absurd ((h x.Low).1 (inL_cons.2 (.inl ⟨by omega, hl.1.2.1⟩))) inL_nil
 | x :: l, y :: m, hl, hm, h => by
  have a1 := hm.lo ((h x.Low).1 (inL_cons.2 (.inl ⟨by omega, hl.1.2.1⟩)))
  have a2 := hl.lo ((h y.Low).2 (inL_cons.2 (.inl ⟨by omega, hm.1.2.1⟩)))
  have hx := hl.1; have hy := hm.1
  have a3 : ¬ x.High < y.High := fun hlt => by
   rcases inL_cons.1 ((h (x.High + 1)).2 (inL_cons.2 (.inl ⟨by omega, by omega⟩))) with h' | h'
   ·omega
   ·have := hl.above h'; omega
  have a4 : ¬ y.High < x.High := fun hlt => by
   rcases inL_cons.1 ((h (y.High + 1)).1 (inL_cons.2 (.inl ⟨by omega, by omega⟩))) with h' | h'
   ·omega
   ·have := hm.above h'; omega
  have e : x = y := by
   cases x; cases y
   simp only at a1 a2 a3 a4
   rw [show _ = _ from Int.le_antisymm a2 a1]
   rw [show _ = _ from Int.le_antisymm (Int.not_lt.1 a4) (Int.not_lt.1 a3)]
  subst e
  rw [ord_ext hl.2.2 hm.2.2 fun n => ?_]
  constructor
  ·intro hn
   have := hl.above hn
   rcases inL_cons.1 ((h n).1 (inL_cons.2 (.inr hn))) with h' | h'
   ·omega
   ·exact h'
  ·intro hn
   have := hm.above hn
   rcases inL_cons.1 ((h n).2 (inL_cons.2 (.inr hn))) with h' | h'
   ·omega
   ·exact h'
end Go.Ab

namespace Go.Ab
end Go.Ab

namespace Go.Ab
theorem loop_inv {S R α : Type} {l : List α} {step : S → Option (S ⊕ R)} {Q : R → Prop} (I : Nat → S → Prop)
 (hs : ∀ (i : Nat) x s, l[i]? = some x → i < l.length → I i s → ∃ s', step s = some (.inl s') ∧ I (i + 1) s')
 (he : ∀ s, I l.length s → ∃ r, step s = some (.inr r) ∧ Q r) {s0 : S} (h0 : I 0 s0) {N : Nat} (hN : l.length < N) : ∃ r, loopN step N s0 = some r ∧ Q r := by
 have key : ∀ (k i N : Nat) (s : S), i + k = l.length → k < N → I i s → ∃ r, loopN step N s = some r ∧ Q r := by
  intro k
  induction k with
  | zero =>
   intro i N s hi hN hI
   obtain ⟨N, rfl⟩ : ∃ M, N = M + 1 := ⟨N - 1, by omega⟩
   rw [show i = l.length by omega] at hI
   obtain ⟨r, h1, h2⟩ := he s hI
   exact ⟨r, by simp only [loopN, h1], h2⟩
  | succ k ih =>
   intro i N s hi hN hI
   obtain ⟨N, rfl⟩ : ∃ M, N = M + 1 := ⟨N - 1, by omega⟩
   have hlt : i < l.length := by omega
   obtain ⟨s', h1, h2⟩ := hs i _ s (List.getElem?_eq_getElem hlt) hlt hI
   obtain ⟨r, h3, h4⟩ := ih (i + 1) N s' (by omega) (by omega) h2
   exact ⟨r, by simp only [loopN, h1]; exact h3, h4⟩
 exact key l.length 0 N s0 (by omega) hN h0
theorem app_ok {α : Type} {l m : List α} (h : l.length + m.length ≤ 1073741824) : appL l m = some (l ++ m) := by unfold appL; rw [if_pos h]
end Go.Ab

