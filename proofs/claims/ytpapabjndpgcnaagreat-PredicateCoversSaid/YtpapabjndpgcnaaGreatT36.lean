/- GPL3 GPL4 GPL5 GPL6 GPL7 GPL8 GPL9 GPL10 GPL11 -/
import Derived.Test.YtpapabjndpgcnaaGreatT35
import Derived.KernelRfl
set_option linter.all false

namespace Go.Ab
noncomputable def pck (types : Int) (p : GPredicate) : Int := if types < 1 ∨ 16 < types then 2 else if (p.Sets.length : Int) ≠ types then 15 else fb (fun _ x => ck x) 0 p.Sets
theorem pck_eq {N : Nat} {types : Int} {p : GPredicate} (hN : 256 < N) : predicate_Check N types p = some (pck types p) := by
 unfold predicate_Check pck
 simp only [cmp_lss, cmp_gtr, cmp_neq, or_def, len_def, Bool.or_eq_true, Bool.not_eq_true', decide_eq_true_eq, decide_eq_false_iff_not]
 by_cases h1 : types < 1 ∨ 16 < types
 ·rw [if_pos h1, if_pos h1]
 ·rw [if_neg h1, if_neg h1]
  by_cases h2 : (p.Sets.length : Int) = types
  ·rw [if_neg (by simpa using h2), if_neg (by simpa using h2)]
   rw [chk_loop (l := p.Sets) (f := fun _ x => ck x) (e := .inl ()) (b := .inr) (N := N) ?_ ?_ (by omega)]
   ·simp only [Option.bind_some]
    by_cases h : fb (fun _ x => ck x) 0 p.Sets = 0
    ·simp [h]
    ·simp [h]
   ·intro i x hx hi
    simp only [idx_at, hx, Option.bind_some, icheck_eq hN]
    rw [if_pos (by omega), inc_i64 hi (by omega)]
    by_cases h : ck x = 0
    ·simp [h]
    ·simp [h]
   ·rw [if_neg (by omega)]
  ·rw [if_pos (by simpa using h2), if_pos (by simpa using h2)]
theorem rpck_eq {N : Nat} {types : Int} {p : GPredicate} (hN : 256 < N) : ref27_Check N types p = some (pck types p) := by
 unfold ref27_Check pck
 simp only [cmp_lss, cmp_gtr, cmp_neq, or_def, len_def, Bool.or_eq_true, Bool.not_eq_true', decide_eq_true_eq, decide_eq_false_iff_not]
 by_cases h1 : types < 1 ∨ 16 < types
 ·rw [if_pos h1, if_pos h1]
 ·rw [if_neg h1, if_neg h1]
  by_cases h2 : (p.Sets.length : Int) = types
  ·rw [if_neg (by simpa using h2), if_neg (by simpa using h2)]
   subst h2
   rw [chk_loop (l := p.Sets) (f := fun _ x => ck x) (e := .inl ()) (b := .inr) (N := N) ?_ ?_ (by omega)]
   ·simp only [Option.bind_some]
    by_cases h : fb (fun _ x => ck x) 0 p.Sets = 0
    ·simp [h]
    ·simp [h]
   ·intro i x hx hi
    simp only [idx_at, hx, Option.bind_some, rcheck_eq hN]
    rw [if_pos (by omega), inc_i64 hi (by omega)]
    by_cases h : ck x = 0
    ·simp [h]
    ·simp [h]
   ·rw [if_neg (by omega)]
  ·rw [if_pos (by simpa using h2), if_pos (by simpa using h2)]
noncomputable abbrev own1 (p : GPredicate) : Int := pck (p.Sets.length : Int) p
theorem own1_zero {p : GPredicate} (h : own1 p = 0) : (1 ≤ p.Sets.length ∧ p.Sets.length ≤ 16) ∧ ∀ x ∈ p.Sets, Srt x := by
 unfold own1 pck at h
 split at h
 ·cases h
 ·rw [if_neg (by simp)] at h
  refine ⟨by omega, fun x hx => ?_⟩
  obtain ⟨k, hk⟩ := List.getElem?_of_mem hx
  exact ck_zero (fb_zero.1 h k x hk)
theorem rown_eq {N : Nat} {p : GPredicate} (hN : 256 < N) : ref27_own N p = some (own1 p) := by
 unfold ref27_own
 simp only [len_def, rpck_eq hN, Option.bind_some]
theorem checked_eq {N : Nat} {l : List GPredicate} (hN : 256 < N) (hl : l.length < N) (hb : l.length < 1000000000) : predicate_checked N l = some (fb (fun _ x => own1 x) 0 l) := by
 unfold predicate_checked
 rw [chk_loop (l := l) (f := fun _ x => own1 x) (e := .inl ()) (b := .inr) (N := N) ?_ ?_ hl]
 ·simp only [Option.bind_some]
  by_cases h : fb (fun _ x => own1 x) 0 l = 0
  ·simp [h]
  ·simp [h]
 ·intro i x hx hi
  simp only [cmp_lss, cmp_neq, len_def, idx_at, hx, Option.bind_some, pck_eq hN, decide_eq_true_eq]
  rw [if_pos (by omega), inc_i64 hi (by omega)]
  by_cases h : own1 x = 0
  ·simp [h]
  ·simp [h]
 ·simp [cmp_lss, len_def]
theorem checked_one {N : Nat} {p : GPredicate} (hN : 256 < N) : predicate_checked N [p] = some (own1 p) := by
 rw [checked_eq hN (by simp; omega) (by simp)]
 unfold fb fb
 split
 ·rename_i h; rw [h]
 ·rfl
end Go.Ab

namespace Go.Ab
def fnd {α : Type} (p : α → Bool) : Nat → List α → Option (Nat × α)
 | _, [] => none
 | i, x :: r => if p x then some (i, x) else fnd p (i + 1) r
theorem find_loop {α R : Type} {l : List α} {step : Int → Option (Int ⊕ R)} {p : α → Bool} {e : R} {b : Nat → α → R}
 (hs : ∀ (i : Nat) x, l[i]? = some x → i < l.length → step (i : Int) = if p x then some (.inr (b i x)) else some (.inl ((i + 1 : Nat) : Int)))
 (he : step (l.length : Int) = some (.inr e)) : ∀ {N : Nat}, l.length < N → loopN step N 0 = some (match fnd p 0 l with | some q => b q.1 q.2 | none => e) := by
 have key : ∀ (k i N : Nat), i + k = l.length → k < N → loopN step N (i : Int) = some (match fnd p i (l.drop i) with | some q => b q.1 q.2 | none => e) := by
  intro k
  induction k with
  | zero =>
   intro i N hi hN
   obtain ⟨N, rfl⟩ : ∃ M, N = M + 1 := ⟨N - 1, by omega⟩
   rw [show i = l.length by omega, List.drop_length]
   simp [loopN, he, fnd]
  | succ k ih =>
   intro i N hi hN
   obtain ⟨N, rfl⟩ : ∃ M, N = M + 1 := ⟨N - 1, by omega⟩
   have hlt : i < l.length := by omega
   rw [List.drop_eq_getElem_cons hlt]
   simp only [loopN, hs i _ (List.getElem?_eq_getElem hlt) hlt, fnd]
   by_cases h : p l[i]
   ·simp only [h, if_true]
   ·simp only [h, if_false]
    exact ih (i + 1) N (by omega) (by omega)
 intro N hN
 have := key l.length 0 N (by omega) hN
 simpa using this
def fl : Nat → List (List GInterval) → List (Int × List GInterval)
 | _, [] => []
 | i, x :: r => if 0 < x.length then ((i : Int), x) :: fl (i + 1) r else fl (i + 1) r
abbrev ne1 (x : List GInterval) : Bool := decide (0 < x.length)
theorem fl_head : ∀ (l : List (List GInterval)) (i : Nat), (fl i l).head? = (fnd ne1 i l).map fun q => ((q.1 : Int), q.2)
 | [], i => rfl
 | x :: r, i => by
  unfold fl fnd
  by_cases h : 0 < x.length
  ·simp [h, ne1]
  ·simp only [h, if_false, ne1, decide_false, Bool.false_eq_true]; exact fl_head r (i + 1)
theorem filled_eq {N : Nat} {p : GPredicate} (hb : p.Sets.length < 1000000000) (hN : p.Sets.length < N) : predicate_filled N p = some (fl 0 p.Sets) := by
 unfold predicate_filled predicate_filled_1
 have key : ∀ (k i N : Nat), i + k = p.Sets.length → k < N → loopE
  (fun (s1 : Int) =>
   (
    if Ar.cmp .lss s1 (Ar.len p.Sets) = true then
     (idxL p.Sets s1).bind fun x7 =>
     if Ar.cmp .gtr (Ar.len x7) 0 = true then
      thenE (some ([(s1, x7)], ())) fun _ =>
      some ([], .inl (Ar.ar .add .i64 s1 1))
     else
      some ([], .inl (Ar.ar .add .i64 s1 1))
    else
     some ([], .inr ())
    : Option (List (Int × (List GInterval)) × ((Int) ⊕ (Unit))))) N (i : Int) = some (fl i (p.Sets.drop i), ()) := by
  intro k
  induction k with
  | zero =>
   intro i N hi hN
   obtain ⟨N, rfl⟩ : ∃ M, N = M + 1 := ⟨N - 1, by omega⟩
   rw [show i = p.Sets.length by omega, List.drop_length]
   simp [loopE, fl, cmp_lss, len_def]
  | succ k ih =>
   intro i N hi hN
   obtain ⟨N, rfl⟩ : ∃ M, N = M + 1 := ⟨N - 1, by omega⟩
   have hlt : i < p.Sets.length := by omega
   have hx := List.getElem?_eq_getElem hlt
   have h1 := ih (i + 1) N (by omega) (by omega)
   rw [List.drop_eq_getElem_cons hlt]
   unfold loopE
   simp only [cmp_lss, cmp_gtr, len_def, idx_at, hx, Option.bind_some, decide_eq_true_eq, thenE, List.append_nil] at h1 ⊢
   rw [if_pos (by omega), inc_i64 hlt (by omega)]
   unfold fl
   by_cases h : 0 < p.Sets[i].length
   ·rw [if_pos (by omega), if_pos h]
    simp only [h1]; rfl
   ·rw [if_neg (by omega), if_neg h]
    simp only [h1]; rfl
 have := key p.Sets.length 0 N (by omega) hN
 rw [show ((0 : Nat) : Int) = 0 from rfl] at this
 rw [this]
 simp [thenE]
abbrev fst1 (p : GPredicate) : Option (Nat × List GInterval) := fnd ne1 0 p.Sets
theorem fnd_some {α : Type} {p : α → Bool} : ∀ {l : List α} {i k : Nat} {x : α}, fnd p i l = some (k, x) → i ≤ k ∧ l[k - i]? = some x ∧ p x = true ∧ ∀ (j : Nat) y, j < k - i → l[j]? = some y → p y = false
 | [], _, _, _, h => by cases h
 | y :: r, i, k, x, h => by
  unfold fnd at h
  split at h
  ·rename_i hp
   cases h
   exact ⟨by omega, by simp, hp, fun j y hj => by omega⟩
  ·rename_i hp
   obtain ⟨h1, h2, h3, h4⟩ := fnd_some h
   refine ⟨by omega, by rw [show k - i = (k - (i + 1)) + 1 by omega]; simpa using h2, h3, fun j z hj hz => ?_⟩
   cases j with
   | zero => simp at hz; subst hz; simpa using hp
   | succ j => exact h4 j z (by omega) (by simpa using hz)
theorem fnd_none {α : Type} {p : α → Bool} : ∀ {l : List α} {i : Nat}, fnd p i l = none → ∀ x ∈ l, p x = false
 | [], _, _ => fun x hx => by cases hx
 | y :: r, i, h => by
  unfold fnd at h
  split at h
  ·cases h
  ·rename_i hp
   intro x hx
   rcases List.mem_cons.1 hx with rfl | hx
   ·simpa using hp
   ·exact fnd_none h x hx
theorem void_eq {N : Nat} {p : GPredicate} (hb : p.Sets.length < 1000000000) (hN : p.Sets.length < N) : ref27_Void N p = some (fst1 p).isNone := by
 unfold ref27_Void
 rw [find_loop (l := p.Sets) (p := ne1) (e := .inl ()) (b := fun _ _ => .inr ()) (N := N) ?_ ?_ hN]
 ·simp only [Option.bind_some]
  unfold fst1
  cases fnd ne1 0 p.Sets <;> rfl
 ·intro i x hx hi
  simp only [cmp_lss, cmp_gtr, len_def, idx_at, hx, Option.bind_some, decide_eq_true_eq]
  rw [if_pos (by omega), inc_i64 hi (by omega)]
  by_cases h : 0 < x.length
  ·rw [if_pos (by omega), if_pos h]
  ·rw [if_neg (by omega), if_neg h]
 ·simp [cmp_lss, len_def]
theorem least_eq {N : Nat} {p : GPredicate} (hb : p.Sets.length < 1000000000) (hN : p.Sets.length < N) : ref27_Least N p = some (match fst1 p with | some (k, x :: _) => ⟨(k : Int), x.Low⟩ | _ => ⟨0, 0⟩) := by
 unfold ref27_Least
 rw [find_loop (l := p.Sets) (p := ne1) (e := .inl ()) (b := fun i x => match x with | y :: _ => .inr ⟨(i : Int), y.Low⟩ | [] => .inl ()) (N := N) ?_ ?_ hN]
 ·simp only [Option.bind_some]
  unfold fst1
  cases h : fnd ne1 0 p.Sets with
  | none => rfl
  | some q =>
   obtain ⟨k, x⟩ := q
   cases x with
   | nil => rfl
   | cons y r => rfl
 ·intro i x hx hi
  simp only [cmp_lss, cmp_gtr, len_def, idx_at, hx, Option.bind_some, decide_eq_true_eq]
  rw [if_pos (by omega), inc_i64 hi (by omega)]
  cases x with
  | nil => simp
  | cons y r =>
   rw [if_pos (by simp), if_pos (by simp)]
   rfl
 ·simp [cmp_lss, len_def]
theorem empty_eq {N : Nat} {p : GPredicate} (hN : 300 < N) : ∃ r, predicate_Empty N p = some r ∧ ref27_Empty N p = some r ∧ r.2 = own1 p ∧ (r.2 = 0 → r.1 = (fst1 p).isNone) := by
 unfold predicate_Empty ref27_Empty
 simp only [checked_one (show 256 < N by omega), rown_eq (show 256 < N by omega), Option.bind_some, cmp_neq, Bool.not_eq_true', decide_eq_false_iff_not]
 by_cases h0 : own1 p = 0
 ·simp only [h0, not_true_eq_false, if_false]
  obtain ⟨hlen, _⟩ := own1_zero h0
  rw [filled_eq (by omega) (by omega), void_eq (by omega) (by omega)]
  simp only [Option.bind_some]
  have hh := fl_head p.Sets 0
  cases hf : fl 0 p.Sets with
  | nil =>
   rw [hf] at hh
   cases hq : fst1 p with
   | none => exact ⟨_, rfl, rfl, rfl, fun _ => rfl⟩
   | some q => rw [show fnd ne1 0 p.Sets = some q from hq] at hh; cases hh
  | cons y r =>
   rw [hf] at hh
   cases hq : fst1 p with
   | none => rw [show fnd ne1 0 p.Sets = none from hq] at hh; cases hh
   | some q => exact ⟨_, rfl, rfl, rfl, fun _ => rfl⟩
 ·simp only [h0, not_false_eq_true, if_true]
  exact ⟨_, rfl, rfl, rfl, fun h => absurd h h0⟩
def least1 (p : GPredicate) : GSymbol := match fst1 p with | some (k, x :: _) => ⟨(k : Int), x.Low⟩ | _ => ⟨0, 0⟩
end Go.Ab

namespace Go.Ab
set_option maxRecDepth 100000
theorem few_eq {N : Nat} {p : GPredicate} (hN : 10 < N) : ∃ b, ref27_Few N p = some b ∧ (b = true → p.Sets.length ≤ 4 ∧ ∀ x ∈ p.Sets, x.length ≤ 12) := by
 unfold ref27_Few
 rw [chk_loop (l := p.Sets.take 5) (f := fun _ x => if x.length ≤ 12 then 0 else 1) (e := .inl ()) (b := fun _ => .inr ()) (N := N) ?_ ?_ (by simp; omega)]
 ·simp only [Option.bind_some]
  by_cases h : fb (fun _ (x : List GInterval) => if x.length ≤ 12 then (0 : Int) else 1) 0 (p.Sets.take 5) = 0
  ·rw [if_pos h]
   refine ⟨_, rfl, fun hb => ?_⟩
   simp only [cmp_leq, len_def, decide_eq_true_eq] at hb
   refine ⟨by omega, fun x hx => ?_⟩
   obtain ⟨k, hk⟩ := List.getElem?_of_mem hx
   have hkl := (List.getElem?_eq_some_iff.1 hk).1
   have := fb_zero.1 h k x (by rw [List.getElem?_take]; rw [if_pos (by omega)]; exact hk)
   split at this
   ·assumption
   ·cases this
  ·rw [if_neg h]
   exact ⟨_, rfl, fun h => by cases h⟩
 ·intro i x hx hi
  rw [List.getElem?_take] at hx
  have hi5 : i < 5 ∧ i < p.Sets.length := by simp at hi; omega
  rw [if_pos hi5.1] at hx
  unfold ref02_Few
  simp only [cmp_lss, cmp_leq, an_def, nt_def, len_def, idx_at, hx, Option.bind_some, Bool.and_eq_true, decide_eq_true_eq, Bool.not_eq_true', decide_eq_false_iff_not]
  rw [if_pos (by omega), inc_i64 hi5.1 (by omega)]
  by_cases h : x.length ≤ 12
  ·rw [if_neg (by omega), if_pos (by rw [if_pos h])]
  ·rw [if_pos (by omega), if_neg (by rw [if_neg h]; decide)]
 ·simp only [cmp_lss, an_def, len_def, Bool.and_eq_true, decide_eq_true_eq, List.length_take]
  rw [if_neg (by omega)]
theorem beq_self (a : Bool) : Ar.beq a a = true := by cases a <;> rfl
end Go.Ab

namespace Go.Ab
def Ord : List GInterval → Prop
 | [] => True
 | x :: l => (-1099511627776 ≤ x.Low ∧ x.Low ≤ x.High ∧ x.High ≤ 1099511627776) ∧ (∀ y ∈ l, x.High + 2 ≤ y.Low) ∧ Ord l
theorem inL_cons {x : GInterval} {l : List GInterval} {n : Int} : InL (x :: l) n ↔ (x.Low ≤ n ∧ n ≤ x.High) ∨ InL l n := by
 constructor
 ·rintro ⟨y, hy, h⟩
  rcases List.mem_cons.1 hy with rfl | hy
  ·exact .inl h
  ·exact .inr ⟨y, hy, h⟩
 ·rintro (h | ⟨y, hy, h⟩)
  ·exact ⟨x, by simp, h⟩
  ·exact ⟨y, by simp [hy], h⟩
theorem inL_nil {n : Int} : ¬ InL [] n := fun ⟨_, h, _⟩ => by cases h
theorem inL_app {l m : List GInterval} {n : Int} : InL (l ++ m) n ↔ InL l n ∨ InL m n := by
 induction l with
 | nil => simp [inL_nil]
 | cons x l ih => rw [List.cons_append, inL_cons, inL_cons, ih, or_assoc]
theorem Srt.ord : ∀ {l : List GInterval}, Srt l → Ord l := by
 intro l
 induction l with
 | nil => exact fun _ => trivial
 | cons x l ih =>
  intro hs
  refine ⟨hs.2.1 x (by simp), fun y hy => ?_, ih ⟨by have := hs.1; simp at this; omega, fun z hz => hs.2.1 z (by simp [hz]), fun i a b ha hb => hs.2.2 (i + 1) a b (by simpa using ha) (by simpa using hb)⟩⟩
  obtain ⟨k, hk⟩ := List.getElem?_of_mem hy
  exact srt_le hs k 0 x y rfl (by simpa [Nat.add_comm] using hk)
theorem Ord.srt' : ∀ {l : List GInterval}, Ord l → ∀ x ∈ l, -1099511627776 ≤ x.Low ∧ x.Low ≤ x.High ∧ x.High ≤ 1099511627776
 | _ :: _, h, x, hx => by
  rcases List.mem_cons.1 hx with rfl | hx
  ·exact h.1
  ·exact Ord.srt' h.2.2 x hx
theorem Ord.srt : ∀ {l : List GInterval}, Ord l → l.length ≤ 256 → Srt l := by
 intro l
 induction l with
 | nil => exact fun _ _ => ⟨by simp, fun x hx => (by cases hx), fun i x y hx => by simp at hx⟩
 | cons x l ih =>
  rintro ⟨h1, h2, h3⟩ hl
  obtain ⟨k1, k2, k3⟩ := ih h3 (by simp at hl; omega)
  refine ⟨hl, fun y hy => ?_, fun i a b ha hb => ?_⟩
  ·rcases List.mem_cons.1 hy with rfl | hy
   ·exact h1
   ·exact k2 y hy
  ·cases i with
   | zero => simp at ha hb; subst ha; exact h2 b (List.mem_of_getElem? hb)
   | succ i => exact k3 i a b (by simpa using ha) (by simpa using hb)
theorem Ord.lo {x : GInterval} {l : List GInterval} (h : Ord (x :: l)) {n : Int} (hn : InL (x :: l) n) : x.Low ≤ n := by
 rcases inL_cons.1 hn with h' | ⟨y, hy, h'⟩
 ·exact h'.1
 ·have := h.2.1 y hy; have := h.1; omega
theorem Ord.above {x : GInterval} {l : List GInterval} (h : Ord (x :: l)) {n : Int} (hn : InL l n) : x.High + 2 ≤ n := by
 obtain ⟨y, hy, h'⟩ := hn
 have := h.2.1 y hy; omega
theorem ord_ext : ∀ {l m : List GInterval}, Ord l → Ord m → (∀ n, InL l n ↔ InL m n) → l = m
 | [], [], _, _, _ => rfl
 | [], y :: m, _, hm, h => absurd ((h y.Low).2 (inL_cons.2 (.inl ⟨by omega, hm.1.2.1⟩))) inL_nil
 | x :: l, [], hl, _, h => absurd ((h x.Low).1 (inL_cons.2 (.inl ⟨by omega, hl.1.2.1⟩))) inL_nil
 | x :: l, y :: m, hl, hm, h => by
  have a1 := hm.lo ((h x.Low).1 (inL_cons.2 (.inl ⟨by omega, hl.1.2.1⟩)))
  have a2 := hl.lo ((h y.Low).2 (inL_cons.2 (.inl ⟨by omega, hm.1.2.1⟩)))
  have hx := hl.1; have hy := hm.1
  have a3 : ¬ x.High < y.High := fun hlt => by
   rcases inL_cons.1 ((h (x.High + 1)).2 (inL_cons.2 (.inl ⟨by omega, by omega⟩))) with h' | h'
   ·omega
   ·have := hl.above h'; omega
  have a4 : ¬ y.High < x.High := fun hlt => by
   rcases inL_cons.1 ((h (y.High + 1)).1 (inL_cons.2 (.inl ⟨by omega, by omega⟩))) with h' | h'
   ·omega
   ·have := hm.above h'; omega
  have e : x = y := by
   cases x; cases y
   simp only at a1 a2 a3 a4
   rw [show _ = _ from Int.le_antisymm a2 a1]
   rw [show _ = _ from Int.le_antisymm (Int.not_lt.1 a4) (Int.not_lt.1 a3)]
  subst e
  rw [ord_ext hl.2.2 hm.2.2 fun n => ?_]
  constructor
  ·intro hn
   have := hl.above hn
   rcases inL_cons.1 ((h n).1 (inL_cons.2 (.inr hn))) with h' | h'
   ·omega
   ·exact h'
  ·intro hn
   have := hm.above hn
   rcases inL_cons.1 ((h n).2 (inL_cons.2 (.inr hn))) with h' | h'
   ·omega
   ·exact h'
end Go.Ab

namespace Go.Ab
def gaps (lo : Int) : List GInterval → List GInterval
 | [] => if lo ≤ 1099511627776 then [⟨lo, 1099511627776⟩] else []
 | x :: l => if lo < x.Low then ⟨lo, x.Low - 1⟩ :: gaps (x.High + 1) l else gaps (x.High + 1) l
theorem gaps_in : ∀ {l : List GInterval} {lo n : Int}, Ord l → (∀ y ∈ l, lo ≤ y.Low) → (InL (gaps lo l) n ↔ lo ≤ n ∧ n ≤ 1099511627776 ∧ ¬ InL l n)
 | [], lo, n, _, _ => by
  unfold gaps
  split
  ·rw [inL_cons]; simp [inL_nil]
  ·simp [inL_nil]; omega
 | x :: l, lo, n, h, hlo => by
  have hx := h.1
  have h0 := hlo x (by simp)
  have ih := gaps_in (n := n) h.2.2 (lo := x.High + 1) fun y hy => by have := h.2.1 y hy; omega
  unfold gaps
  by_cases hn : InL l n
  ·have := h.above hn
   have e : ¬ InL (gaps (x.High + 1) l) n := fun h' => (ih.1 h').2.2 hn
   split
   ·rw [inL_cons, inL_cons]; simp only [e, hn, or_true, not_true_eq_false, and_false, or_false, iff_false]; omega
   ·rw [inL_cons]; simp only [e, hn, or_true, not_true_eq_false, and_false]
  ·split
   ·rw [inL_cons, inL_cons, ih]; simp only [hn, or_false, not_false_eq_true, and_true]; omega
   ·rw [inL_cons, ih]; simp only [hn, or_false, not_false_eq_true, and_true]; omega
theorem gaps_ord : ∀ {l : List GInterval} {lo : Int}, Ord l → (∀ y ∈ l, lo ≤ y.Low) → -1099511627776 ≤ lo → Ord (gaps lo l) ∧ ∀ y ∈ gaps lo l, lo ≤ y.Low
 | [], lo, _, _, hb => by
  unfold gaps
  split
  ·rename_i h
   exact ⟨⟨⟨hb, h, Int.le_refl _⟩, fun y hy => (by cases hy), trivial⟩, fun y hy => by simp at hy; subst hy; exact Int.le_refl _⟩
  ·exact ⟨trivial, fun y hy => by cases hy⟩
 | x :: l, lo, h, hlo, hb => by
  have hx := h.1
  have h0 := hlo x (by simp)
  obtain ⟨i1, i2⟩ := gaps_ord h.2.2 (lo := x.High + 1) (fun y hy => by have := h.2.1 y hy; omega) (by omega)
  unfold gaps
  split
  ·rename_i hl
   refine ⟨⟨⟨by simp only; omega, by simp only; omega, by simp only; omega⟩, fun y hy => ?_, i1⟩, fun y hy => ?_⟩
   ·have := i2 y hy; simp only; omega
   ·rcases List.mem_cons.1 hy with rfl | hy
    ·exact Int.le_refl _
    ·have := i2 y hy; omega
  ·exact ⟨i1, fun y hy => by have := i2 y hy; omega⟩
end Go.Ab

namespace Go.Ab
theorem loop_inv {S R α : Type} {l : List α} {step : S → Option (S ⊕ R)} {Q : R → Prop} (I : Nat → S → Prop)
 (hs : ∀ (i : Nat) x s, l[i]? = some x → i < l.length → I i s → ∃ s', step s = some (.inl s') ∧ I (i + 1) s')
 (he : ∀ s, I l.length s → ∃ r, step s = some (.inr r) ∧ Q r) {s0 : S} (h0 : I 0 s0) {N : Nat} (hN : l.length < N) : ∃ r, loopN step N s0 = some r ∧ Q r := by
 have key : ∀ (k i N : Nat) (s : S), i + k = l.length → k < N → I i s → ∃ r, loopN step N s = some r ∧ Q r := by
  intro k
  induction k with
  | zero =>
   intro i N s hi hN hI
   obtain ⟨N, rfl⟩ : ∃ M, N = M + 1 := ⟨N - 1, by omega⟩
   rw [show i = l.length by omega] at hI
   obtain ⟨r, h1, h2⟩ := he s hI
   exact ⟨r, by simp only [loopN, h1], h2⟩
  | succ k ih =>
   intro i N s hi hN hI
   obtain ⟨N, rfl⟩ : ∃ M, N = M + 1 := ⟨N - 1, by omega⟩
   have hlt : i < l.length := by omega
   obtain ⟨s', h1, h2⟩ := hs i _ s (List.getElem?_eq_getElem hlt) hlt hI
   obtain ⟨r, h3, h4⟩ := ih (i + 1) N s' (by omega) (by omega) h2
   exact ⟨r, by simp only [loopN, h1]; exact h3, h4⟩
 exact key l.length 0 N s0 (by omega) hN h0
theorem app_ok {α : Type} {l m : List α} (h : l.length + m.length ≤ 1073741824) : appL l m = some (l ++ m) := by unfold appL; rw [if_pos h]
theorem rest_eq {N : Nat} {l : List GInterval} (ho : Ord l) (hl : l.length ≤ 1000000) (hN : l.length < N) : ref02_Rest N l = some (gaps (-1099511627776) l) := by
 unfold ref02_Rest
 generalize hG : gaps (-1099511627776) l = G
 obtain ⟨r, h1, h2⟩ := loop_inv (N := N) (l := l) (Q := fun (r : List GInterval × Int) => r.1 ++ gaps r.2 [] = G ∧ r.1.length ≤ l.length)
  (I := fun i (s : List GInterval × Int × Int) => s.2.2 = (i : Int) ∧ s.1 ++ gaps s.2.1 (l.drop i) = G ∧ s.1.length ≤ i)
  (s0 := (([] : List GInterval), (-1099511627776 : Int), (0 : Int)))
  (step := fun (s1 : (List GInterval) × Int × Int) =>
   (
    if Ar.cmp .lss s1.2.2 (Ar.len l) = true then
     (idxL l s1.2.2).bind fun x4 =>
     ((
      if Ar.cmp .gtr x4.Low s1.2.1 = true then
       (idxL l s1.2.2).bind fun x6 =>
       (appL s1.1 ([(⟨s1.2.1, Ar.ar .sub .i64 x6.Low 1⟩ : GInterval)])).bind fun l8 =>
       some l8
      else
       some s1.1
     ) : Option (((List GInterval)))).bind fun s5 =>
     (idxL l s1.2.2).bind fun x10 =>
     some (.inl (s5, Ar.ar .add .i64 x10.High 1, Ar.ar .add .i64 s1.2.2 1))
    else
     some (.inr (s1.1, s1.2.1))
    : Option (((List GInterval) × Int × Int) ⊕ (((List GInterval) × Int)))))
  (fun i x s hx hi ⟨e1, e2, e3⟩ => by
   obtain ⟨acc, lo, j⟩ := s
   simp only at e1 e2 e3
   subst e1
   have hb : -1099511627776 ≤ x.Low ∧ x.Low ≤ x.High ∧ x.High ≤ 1099511627776 := by
    have := (ho.srt' x (List.mem_of_getElem? hx)); exact this
   have hd : l.drop i = x :: l.drop (i + 1) := by
    rw [List.drop_eq_getElem_cons hi]
    have := List.getElem?_eq_getElem hi
    rw [hx] at this; cases this; rfl
   rw [hd] at e2
   simp only [cmp_lss, cmp_gtr, len_def, idx_at, hx, Option.bind_some, decide_eq_true_eq]
   rw [if_pos (by omega), inc_i64 hi (by omega), add_i64 (by omega) (by omega)]
   have hsub : Ar.ar .sub .i64 x.Low 1 = x.Low - 1 := wrap_i64 (by omega) (by omega)
   unfold gaps at e2
   by_cases hlt : lo < x.Low
   ·rw [if_pos hlt] at e2
    rw [if_pos hlt, app_ok (by simp; omega)]
    simp only [Option.bind_some, hsub]
    refine ⟨_, rfl, rfl, ?_, by simp; omega⟩
    simp only [List.append_assoc, List.singleton_append]; exact e2
   ·rw [if_neg hlt] at e2
    rw [if_neg hlt]
    simp only [Option.bind_some]
    exact ⟨_, rfl, rfl, e2, by simp only; omega⟩)
  (fun s ⟨e1, e2, e3⟩ => by
   obtain ⟨acc, lo, j⟩ := s
   simp only at e1 e2 e3
   subst e1
   rw [List.drop_length] at e2
   simp only [cmp_lss, len_def, decide_eq_true_eq]
   rw [if_neg (by omega)]
   exact ⟨_, rfl, e2, e3⟩) ⟨rfl, hG, by simp⟩ hN
 rw [h1]
 simp only [Option.bind_some, cmp_leq, decide_eq_true_eq]
 obtain ⟨h2, h3⟩ := h2
 unfold gaps at h2
 split
 ·rename_i hc
  rw [if_pos hc] at h2
  rw [app_ok (by simp; omega)]
  simp only [Option.bind_some]; rw [h2]
 ·rename_i hc
  rw [if_neg hc, List.append_nil] at h2
  rw [h2]
end Go.Ab

namespace Go.Ab
end Go.Ab

namespace Go.Ab
end Go.Ab

namespace Go.Ab
theorem sub1 {i : Nat} (h : i + 1 < 1000000000000) : Ar.ar .sub .i64 ((i + 1 : Nat) : Int) 1 = (i : Int) := by
 show IntKind.wrap .i64 (((i + 1 : Nat) : Int) - 1) = _
 rw [wrap_i64 (by omega) (by omega)]; omega
theorem place_eq {out : List GInterval} {x : GInterval} {g : Option GInterval} (hg : g = some x) : ∀ (k N : Nat), k ≤ out.length → k < N → out.length ≤ 1000000 →
 ∃ p : Nat, p ≤ k ∧ (∀ j y, p ≤ j → j < k → out[j]? = some y → x.Low < y.Low) ∧ (∀ y, 0 < p → out[p - 1]? = some y → y.Low ≤ x.Low) ∧
  loopN (fun (s3 : Int) =>
   (
    if Ar.cmp .gtr s3 0 = true then
     (idxL out (Ar.ar .sub .i64 s3 1)).bind fun x5 =>
     g.bind fun x6 =>
     if Ar.cmp .gtr x5.Low x6.Low = true then
      some (.inl (Ar.ar .sub .i64 s3 1))
     else
      some (.inr s3)
    else
     some (.inr s3)
    : Option ((Int) ⊕ (Int)))) N (k : Int) = some (p : Int) := by
 subst hg
 intro k
 induction k with
 | zero =>
  intro N _ hN _
  obtain ⟨N, rfl⟩ : ∃ M, N = M + 1 := ⟨N - 1, by omega⟩
  exact ⟨0, Nat.le_refl _, fun j y h1 h2 => by omega, fun y h => by omega, by simp [loopN, cmp_gtr]⟩
 | succ k ih =>
  intro N hk hN hl
  obtain ⟨N, rfl⟩ : ∃ M, N = M + 1 := ⟨N - 1, by omega⟩
  have hx := List.getElem?_eq_getElem (show k < out.length by omega)
  by_cases hc : x.Low < out[k].Low
  ·obtain ⟨p, h1, h2, h3, h4⟩ := ih N (by omega) (by omega) hl
   refine ⟨p, by omega, fun j y e1 e2 e3 => ?_, h3, ?_⟩
   ·by_cases e : j = k
    ·subst e; rw [hx] at e3; cases e3; exact hc
    ·exact h2 j y e1 (by omega) e3
   ·rw [← h4]
    conv => lhs; unfold loopN
    simp only [cmp_gtr, decide_eq_true_eq, sub1 (show k + 1 < 1000000000000 by omega), idx_at, hx, Option.bind_some]
    rw [if_pos (by omega), if_pos hc]
  ·refine ⟨k + 1, Nat.le_refl _, fun j y e1 e2 => by omega, fun y _ e => ?_, ?_⟩
   ·rw [show k + 1 - 1 = k by omega, hx] at e; cases e; omega
   ·unfold loopN
    simp only [cmp_gtr, decide_eq_true_eq, sub1 (show k + 1 < 1000000000000 by omega), idx_at, hx, Option.bind_some]
    rw [if_pos (by omega), if_neg hc]
end Go.Ab

