/- GQL6 GQL7 GQL8 GQL9 GQL10 GQL11 GQL12 GQL13 GQL14 -/
import Derived.Test.YtodfgmbacmnalaaGreatT39
set_option linter.all false

namespace Go.Ab
def Ord : List GInterval → Prop
 | [] => True
 | x :: l => (-1099511627776 ≤ x.Low ∧ x.Low ≤ x.High ∧ x.High ≤ 1099511627776) ∧ (∀ y ∈ l, x.High + 2 ≤ y.Low) ∧ Ord l
theorem inL_cons {x : GInterval} {l : List GInterval} {n : Int} : InL (x :: l) n ↔ (x.Low ≤ n ∧ n ≤ x.High) ∨ InL l n := by
 constructor
 ·rintro ⟨y, hy, h⟩
  rcases List.mem_cons.1 hy with rfl | hy
  ·exact .inl h
  ·exact .inr ⟨y, hy, h⟩
 ·rintro (h | ⟨y, hy, h⟩)
  ·exact ⟨x, by simp, h⟩
  ·exact ⟨y, by simp [hy], h⟩
theorem inL_nil {n : Int} : ¬ InL [] n := fun ⟨_, h, _⟩ => by cases h
theorem inL_app {l m : List GInterval} {n : Int} : InL (l ++ m) n ↔ InL l n ∨ InL m n := by
 induction l with
 | nil => simp [inL_nil]
 | cons x l ih => rw [List.cons_append, inL_cons, inL_cons, ih, or_assoc]
theorem Srt.ord : ∀ {l : List GInterval}, Srt l → Ord l := by
 intro l
 induction l with
 | nil => exact fun _ => trivial
 | cons x l ih =>
  intro hs
  refine ⟨hs.2.1 x (by simp), fun y hy => ?_, ih ⟨by have := hs.1; simp at this; omega, fun z hz => hs.2.1 z (by simp [hz]), fun i a b ha hb => hs.2.2 (i + 1) a b (by simpa using ha) (by simpa using hb)⟩⟩
  obtain ⟨k, hk⟩ := List.getElem?_of_mem hy
  exact srt_le hs k 0 x y rfl (by simpa [Nat.add_comm] using hk)
theorem Ord.srt' : ∀ {l : List GInterval}, Ord l → ∀ x ∈ l, -1099511627776 ≤ x.Low ∧ x.Low ≤ x.High ∧ x.High ≤ 1099511627776
 | _ :: _, h, x, hx => by
  rcases List.mem_cons.1 hx with rfl | hx
  ·exact h.1
  ·exact Ord.srt' h.2.2 x hx
theorem Ord.srt : ∀ {l : List GInterval}, Ord l → l.length ≤ 256 → Srt l := by
 intro l
 induction l with
 | nil => exact fun _ _ => ⟨by simp, fun x hx => (by cases hx), fun i x y hx => by simp at hx⟩
 | cons x l ih =>
  rintro ⟨h1, h2, h3⟩ hl
  obtain ⟨k1, k2, k3⟩ := ih h3 (by simp at hl; omega)
  refine ⟨hl, fun y hy => ?_, fun i a b ha hb => ?_⟩
  ·rcases List.mem_cons.1 hy with rfl | hy
   ·exact h1
   ·exact k2 y hy
  ·cases i with
   | zero => simp at ha hb; subst ha; exact h2 b (List.mem_of_getElem? hb)
   | succ i => exact k3 i a b (by simpa using ha) (by simpa using hb)
theorem Ord.lo {x : GInterval} {l : List GInterval} (h : Ord (x :: l)) {n : Int} (hn : InL (x :: l) n) : x.Low ≤ n := by
 rcases inL_cons.1 hn with h' | ⟨y, hy, h'⟩
 ·exact h'.1
 ·have := h.2.1 y hy; have := h.1; omega
theorem Ord.above {x : GInterval} {l : List GInterval} (h : Ord (x :: l)) {n : Int} (hn : InL l n) : x.High + 2 ≤ n := by
 obtain ⟨y, hy, h'⟩ := hn
 have := h.2.1 y hy; omega
theorem ord_ext : ∀ {l m : List GInterval}, Ord l → Ord m → (∀ n, InL l n ↔ InL m n) → l = m
 | [], [], _, _, _ => rfl
 | [], y :: m, _, hm, h => absurd ((h y.Low).2 (inL_cons.2 (.inl ⟨by omega, hm.1.2.1⟩))) inL_nil
 | x :: l, [], hl, _, h => absurd ((h x.Low).1 (inL_cons.2 (.inl ⟨by omega, hl.1.2.1⟩))) inL_nil
 | x :: l, y :: m, hl, hm, h => by
  have a1 := hm.lo ((h x.Low).1 (inL_cons.2 (.inl ⟨by omega, hl.1.2.1⟩)))
  have a2 := hl.lo ((h y.Low).2 (inL_cons.2 (.inl ⟨by omega, hm.1.2.1⟩)))
  have hx := hl.1; have hy := hm.1
  have a3 : ¬ x.High < y.High := fun hlt => by
   rcases inL_cons.1 ((h (x.High + 1)).2 (inL_cons.2 (.inl ⟨by omega, by omega⟩))) with h' | h'
   ·omega
   ·have := hl.above h'; omega
  have a4 : ¬ y.High < x.High := fun hlt => by
   rcases inL_cons.1 ((h (y.High + 1)).1 (inL_cons.2 (.inl ⟨by omega, by omega⟩))) with h' | h'
   ·omega
   ·have := hm.above h'; omega
  have e : x = y := by
   cases x; cases y
   simp only at a1 a2 a3 a4
   rw [show _ = _ from Int.le_antisymm a2 a1]
   rw [show _ = _ from Int.le_antisymm (Int.not_lt.1 a4) (Int.not_lt.1 a3)]
  subst e
  rw [ord_ext hl.2.2 hm.2.2 fun n => ?_]
  constructor
  ·intro hn
   have := hl.above hn
   rcases inL_cons.1 ((h n).1 (inL_cons.2 (.inr hn))) with h' | h'
   ·omega
   ·exact h'
  ·intro hn
   have := hm.above hn
   rcases inL_cons.1 ((h n).2 (inL_cons.2 (.inr hn))) with h' | h'
   ·omega
   ·exact h'
end Go.Ab

namespace Go.Ab
def gaps (lo : Int) : List GInterval → List GInterval
 | [] => if lo ≤ 1099511627776 then [⟨lo, 1099511627776⟩] else []
 | x :: l => if lo < x.Low then ⟨lo, x.Low - 1⟩ :: gaps (x.High + 1) l else gaps (x.High + 1) l
theorem gaps_in : ∀ {l : List GInterval} {lo n : Int}, Ord l → (∀ y ∈ l, lo ≤ y.Low) → (InL (gaps lo l) n ↔ lo ≤ n ∧ n ≤ 1099511627776 ∧ ¬ InL l n)
 | [], lo, n, _, _ => by
  unfold gaps
  split
  ·rw [inL_cons]; simp [inL_nil]
  ·simp [inL_nil]; omega
 | x :: l, lo, n, h, hlo => by
  have hx := h.1
  have h0 := hlo x (by simp)
  have ih := gaps_in (n := n) h.2.2 (lo := x.High + 1) fun y hy => by have := h.2.1 y hy; omega
  unfold gaps
  by_cases hn : InL l n
  ·have := h.above hn
   have e : ¬ InL (gaps (x.High + 1) l) n := fun h' => (ih.1 h').2.2 hn
   split
   ·rw [inL_cons, inL_cons]; simp only [e, hn, or_true, not_true_eq_false, and_false, or_false, iff_false]; omega
   ·rw [inL_cons]; simp only [e, hn, or_true, not_true_eq_false, and_false]
  ·split
   ·rw [inL_cons, inL_cons, ih]; simp only [hn, or_false, not_false_eq_true, and_true]; omega
   ·rw [inL_cons, ih]; simp only [hn, or_false, not_false_eq_true, and_true]; omega
theorem gaps_ord : ∀ {l : List GInterval} {lo : Int}, Ord l → (∀ y ∈ l, lo ≤ y.Low) → -1099511627776 ≤ lo → Ord (gaps lo l) ∧ ∀ y ∈ gaps lo l, lo ≤ y.Low
 | [], lo, _, _, hb => by
  unfold gaps
  split
  ·rename_i h
   exact ⟨⟨⟨hb, h, Int.le_refl _⟩, fun y hy => (by cases hy), trivial⟩, fun y hy => by simp at hy; subst hy; exact Int.le_refl _⟩
  ·exact ⟨trivial, fun y hy => by cases hy⟩
 | x :: l, lo, h, hlo, hb => by
  have hx := h.1
  have h0 := hlo x (by simp)
  obtain ⟨i1, i2⟩ := gaps_ord h.2.2 (lo := x.High + 1) (fun y hy => by have := h.2.1 y hy; omega) (by omega)
  unfold gaps
  split
  ·rename_i hl
   refine ⟨⟨⟨by simp only; omega, by simp only; omega, by simp only; omega⟩, fun y hy => ?_, i1⟩, fun y hy => ?_⟩
   ·have := i2 y hy; simp only; omega
   ·rcases List.mem_cons.1 hy with rfl | hy
    ·exact Int.le_refl _
    ·have := i2 y hy; omega
  ·exact ⟨i1, fun y hy => by have := i2 y hy; omega⟩
theorem gaps_len : ∀ (l : List GInterval) (lo : Int), (gaps lo l).length ≤ l.length + 1
 | [], lo => by unfold gaps; split <;> simp
 | x :: l, lo => by
  have := gaps_len l (x.High + 1)
  unfold gaps
  split <;> simp <;> omega
end Go.Ab

namespace Go.Ab
theorem loop_inv {S R α : Type} {l : List α} {step : S → Option (S ⊕ R)} {Q : R → Prop} (I : Nat → S → Prop)
 (hs : ∀ (i : Nat) x s, l[i]? = some x → i < l.length → I i s → ∃ s', step s = some (.inl s') ∧ I (i + 1) s')
 (he : ∀ s, I l.length s → ∃ r, step s = some (.inr r) ∧ Q r) {s0 : S} (h0 : I 0 s0) {N : Nat} (hN : l.length < N) : ∃ r, loopN step N s0 = some r ∧ Q r := by
 have key : ∀ (k i N : Nat) (s : S), i + k = l.length → k < N → I i s → ∃ r, loopN step N s = some r ∧ Q r := by
  intro k
  induction k with
  | zero =>
   intro i N s hi hN hI
   obtain ⟨N, rfl⟩ : ∃ M, N = M + 1 := ⟨N - 1, by omega⟩
   rw [show i = l.length by omega] at hI
   obtain ⟨r, h1, h2⟩ := he s hI
   exact ⟨r, by simp only [loopN, h1], h2⟩
  | succ k ih =>
   intro i N s hi hN hI
   obtain ⟨N, rfl⟩ : ∃ M, N = M + 1 := ⟨N - 1, by omega⟩
   have hlt : i < l.length := by omega
   obtain ⟨s', h1, h2⟩ := hs i _ s (List.getElem?_eq_getElem hlt) hlt hI
   obtain ⟨r, h3, h4⟩ := ih (i + 1) N s' (by omega) (by omega) h2
   exact ⟨r, by simp only [loopN, h1]; exact h3, h4⟩
 exact key l.length 0 N s0 (by omega) hN h0
theorem app_ok {α : Type} {l m : List α} (h : l.length + m.length ≤ 1073741824) : appL l m = some (l ++ m) := by unfold appL; rw [if_pos h]
end Go.Ab

namespace Go.Ab
theorem gaps_cons {lo : Int} {x : GInterval} {l : List GInterval} : gaps lo (x :: l) = if lo < x.Low then ⟨lo, x.Low - 1⟩ :: gaps (x.High + 1) l else gaps (x.High + 1) l := rfl
theorem gaps1_eq {N : Nat} {l : List GInterval} (ho : Ord l) (hl : l.length ≤ 1000000) (hN : l.length < N) : interval_gaps N l = some (gaps (-1099511627776) l) := by
 unfold interval_gaps interval_gaps_1
 have key : ∀ (k i N : Nat) (lo : Int), i + k = l.length → k < N → ∃ w s, loopE
  (fun (s1 : Int × Int) =>
   (
    if Ar.cmp .lss s1.2 (Ar.len l) = true then
     (idxL l s1.2).bind fun x7 =>
     if Ar.cmp .lss s1.1 x7.Low = true then
      thenE (some ([(⟨s1.1, Ar.ar .sub .i64 x7.Low 1⟩ : GInterval)], ())) fun _ =>
      some ([], .inl (Ar.ar .add .i64 x7.High 1, Ar.ar .add .i64 s1.2 1))
     else
      some ([], .inl (Ar.ar .add .i64 x7.High 1, Ar.ar .add .i64 s1.2 1))
    else
     some ([], .inr s1.1)
    : Option (List GInterval × ((Int × Int) ⊕ (Int))))) N (lo, (i : Int)) = some (w, s) ∧ w ++ gaps s [] = gaps lo (l.drop i) := by
  intro k
  induction k with
  | zero =>
   intro i N lo hi hN
   obtain ⟨N, rfl⟩ : ∃ M, N = M + 1 := ⟨N - 1, by omega⟩
   rw [show i = l.length by omega, List.drop_length]
   refine ⟨[], lo, ?_, by simp⟩
   simp [loopE, cmp_lss, len_def]
  | succ k ih =>
   intro i N lo hi hN
   obtain ⟨N, rfl⟩ : ∃ M, N = M + 1 := ⟨N - 1, by omega⟩
   have hlt : i < l.length := by omega
   have hx := List.getElem?_eq_getElem hlt
   have hb := ho.srt' _ (List.getElem_mem hlt)
   obtain ⟨w, s, h1, h2⟩ := ih (i + 1) N (l[i].High + 1) (by omega) (by omega)
   rw [List.drop_eq_getElem_cons hlt]
   unfold loopE
   have hsub : Ar.ar .sub .i64 l[i].Low 1 = l[i].Low - 1 := wrap_i64 (by omega) (by omega)
   simp only [cmp_lss, len_def, idx_at, hx, Option.bind_some, decide_eq_true_eq, thenE, List.append_nil, hsub] at h1 ⊢
   rw [if_pos (by omega), inc_i64 hlt (by omega), add_i64 (by omega) (by omega)]
   by_cases h : lo < l[i].Low
   ·rw [if_pos h]
    simp only [h1]
    refine ⟨_, _, rfl, ?_⟩
    rw [gaps_cons, if_pos h, ← h2]; simp
   ·rw [if_neg h]
    simp only [h1]
    refine ⟨_, _, rfl, ?_⟩
    rw [gaps_cons, if_neg h, ← h2]; simp
 obtain ⟨w, s, h1, h2⟩ := key l.length 0 N (-1099511627776) (by omega) hN
 rw [show ((0 : Nat) : Int) = 0 from rfl] at h1
 rw [h1]
 simp only [thenE, Option.bind_some, cmp_leq, decide_eq_true_eq]
 rw [List.drop_zero] at h2
 rw [← h2]
 unfold gaps
 split <;> simp
end Go.Ab

namespace Go.Ab
theorem push_all {l : List GInterval} (hl : l.length ≤ 1000000) : ∀ {acc : List GInterval}, acc.length ≤ 1000000 → rangeL (fun (s6 : (List GInterval)) (y5 : GInterval) =>
 ((appL s6 ([y5])).bind fun l12 => some (.inl l12) : Option (((List GInterval)) ⊕ (Unit)))) l acc = some (.inl (acc ++ l)) := by
 have key : ∀ (l acc : List GInterval), l.length + acc.length ≤ 3000000 → rangeL (fun (s6 : (List GInterval)) (y5 : GInterval) =>
  ((appL s6 ([y5])).bind fun l12 => some (.inl l12) : Option (((List GInterval)) ⊕ (Unit)))) l acc = some (.inl (acc ++ l)) := by
  intro l
  induction l with
  | nil => intro acc _; simp [rangeL]
  | cons x l ih =>
   intro acc h
   simp only [List.length_cons] at h
   unfold rangeL
   rw [app_ok (by simp; omega)]
   simp only [Option.bind_some]
   rw [ih _ (by simp; omega)]; simp
 intro acc h
 exact key l acc (by omega)
theorem complement_eq {N : Nat} {l : List GInterval} (h0 : ck l = 0) (hN : 300 < N) : interval_Complement N l = some (if 256 < (gaps (-1099511627776) l).length then ([], 5) else (gaps (-1099511627776) l, 0)) := by
 have hs := ck_zero h0
 have hl := hs.1
 have hg := gaps_len l (-1099511627776)
 unfold interval_Complement interval_limited
 rw [icheck_eq (by omega)]
 simp only [Option.bind_some, h0, cmp_neq, decide_true, Bool.not_true, Bool.false_eq_true, if_false]
 rw [gaps1_eq hs.ord (by omega) (by omega)]
 simp only [Option.bind_some]
 rw [push_all (by omega) (by simp)]
 simp only [Option.bind_some, List.nil_append, cmp_gtr, len_def, decide_eq_true_eq]
 split
 ·rename_i h; rw [if_pos (by omega)]; rfl
 ·rename_i h; rw [if_neg (by omega)]; rfl
end Go.Ab

namespace Go.Ab
theorem sub1 {i : Nat} (h : i + 1 < 1000000000000) : Ar.ar .sub .i64 ((i + 1 : Nat) : Int) 1 = (i : Int) := by
 show IntKind.wrap .i64 (((i + 1 : Nat) : Int) - 1) = _
 rw [wrap_i64 (by omega) (by omega)]; omega
theorem place_eq {out : List GInterval} {x : GInterval} {g : Option GInterval} (hg : g = some x) : ∀ (k N : Nat), k ≤ out.length → k < N → out.length ≤ 1000000 →
 ∃ p : Nat, p ≤ k ∧ (∀ j y, p ≤ j → j < k → out[j]? = some y → x.Low < y.Low) ∧ (∀ y, 0 < p → out[p - 1]? = some y → y.Low ≤ x.Low) ∧
  loopN (fun (s3 : Int) =>
   (
    if Ar.cmp .gtr s3 0 = true then
     (idxL out (Ar.ar .sub .i64 s3 1)).bind fun x5 =>
     g.bind fun x6 =>
     if Ar.cmp .gtr x5.Low x6.Low = true then
      some (.inl (Ar.ar .sub .i64 s3 1))
     else
      some (.inr s3)
    else
     some (.inr s3)
    : Option ((Int) ⊕ (Int)))) N (k : Int) = some (p : Int) := by
 subst hg
 intro k
 induction k with
 | zero =>
  intro N _ hN _
  obtain ⟨N, rfl⟩ : ∃ M, N = M + 1 := ⟨N - 1, by omega⟩
  exact ⟨0, Nat.le_refl _, fun j y h1 h2 => by omega, fun y h => by omega, by simp [loopN, cmp_gtr]⟩
 | succ k ih =>
  intro N hk hN hl
  obtain ⟨N, rfl⟩ : ∃ M, N = M + 1 := ⟨N - 1, by omega⟩
  have hx := List.getElem?_eq_getElem (show k < out.length by omega)
  by_cases hc : x.Low < out[k].Low
  ·obtain ⟨p, h1, h2, h3, h4⟩ := ih N (by omega) (by omega) hl
   refine ⟨p, by omega, fun j y e1 e2 e3 => ?_, h3, ?_⟩
   ·by_cases e : j = k
    ·subst e; rw [hx] at e3; cases e3; exact hc
    ·exact h2 j y e1 (by omega) e3
   ·rw [← h4]
    conv => lhs; unfold loopN
    simp only [cmp_gtr, decide_eq_true_eq, sub1 (show k + 1 < 1000000000000 by omega), idx_at, hx, Option.bind_some]
    rw [if_pos (by omega), if_pos hc]
  ·refine ⟨k + 1, Nat.le_refl _, fun j y e1 e2 => by omega, fun y _ e => ?_, ?_⟩
   ·rw [show k + 1 - 1 = k by omega, hx] at e; cases e; omega
   ·unfold loopN
    simp only [cmp_gtr, decide_eq_true_eq, sub1 (show k + 1 < 1000000000000 by omega), idx_at, hx, Option.bind_some]
    rw [if_pos (by omega), if_neg hc]
end Go.Ab

namespace Go.Ab
theorem slice_lo {α : Type} {l : List α} {p : Nat} (h : p ≤ l.length) : sliceL l none (some (p : Int)) none = some (l.take p) := by
 unfold sliceL
 rw [if_pos (by simp; omega)]
 simp
theorem slice_hi {α : Type} {l : List α} {p : Nat} (h : p ≤ l.length) : sliceL l (some (p : Int)) none none = some (l.drop p) := by
 unfold sliceL
 rw [if_pos (by simp; omega)]
 simp only [Option.getD_some, Option.getD_none, Int.toNat_natCast]
 rw [List.take_of_length_le (by simp)]
theorem sorted_eq {N : Nat} {l : List GInterval} (hl : l.length ≤ 100000) (hN : l.length < N) : ∃ r, ref02_sorted N l = some r ∧ r.Perm l ∧ r.Pairwise (fun a b => a.Low ≤ b.Low) := by
 unfold ref02_sorted
 obtain ⟨r, h1, h2⟩ := loop_inv (N := N) (l := l) (Q := fun (r : List GInterval) => r.Perm l ∧ r.Pairwise (fun a b => a.Low ≤ b.Low))
  (I := fun i (s : List GInterval × Int) => s.2 = (i : Int) ∧ s.1.Perm (l.take i) ∧ s.1.Pairwise (fun a b => a.Low ≤ b.Low))
  (s0 := (([] : List GInterval), (0 : Int)))
  (step := fun (s1 : (List GInterval) × Int) =>
   (
    if Ar.cmp .lss s1.2 (Ar.len l) = true then
     (loopN
      (fun (s3 : Int) =>
       (
        if Ar.cmp .gtr s3 0 = true then
         (idxL s1.1 (Ar.ar .sub .i64 s3 1)).bind fun x5 =>
         (idxL l s1.2).bind fun x6 =>
         if Ar.cmp .gtr x5.Low x6.Low = true then
          some (.inl (Ar.ar .sub .i64 s3 1))
         else
          some (.inr s3)
        else
         some (.inr s3)
        : Option ((Int) ⊕ (Int))))
      N (Ar.len s1.1)).bind fun s4 =>
     (sliceL s1.1 none (some s4) none).bind fun l7 =>
     (appL ([]) l7).bind fun l10 =>
     (idxL l s1.2).bind fun x11 =>
     (appL l10 ([x11])).bind fun l13 =>
     (sliceL s1.1 (some s4) none none).bind fun l14 =>
     (appL l13 l14).bind fun l17 =>
     some (.inl (l17, Ar.ar .add .i64 s1.2 1))
    else
     some (.inr s1.1)
    : Option (((List GInterval) × Int) ⊕ (((List GInterval))))))
  (fun i x s hx hi ⟨e1, e2, e3⟩ => by
   obtain ⟨out, j⟩ := s
   simp only at e1 e2 e3
   subst e1
   have hol : out.length = i := by rw [e2.length_eq, List.length_take]; omega
   obtain ⟨p, p1, p2, p3, p4⟩ := place_eq (out := out) (g := idxL l (i : Int)) (x := x) (by rw [idx_at, hx]) out.length N (Nat.le_refl _) (by omega) (by omega)
   simp only [cmp_lss, len_def, decide_eq_true_eq] at p4 ⊢
   rw [if_pos (by omega), p4]
   simp only [Option.bind_some, slice_lo p1, slice_hi p1, idx_at, hx]
   rw [app_ok (by simp; omega)]
   simp only [Option.bind_some, List.nil_append]
   rw [app_ok (by simp; omega)]
   simp only [Option.bind_some]
   rw [app_ok (by simp; omega), inc_i64 hi (by omega)]
   simp only [Option.bind_some]
   have htake : l.take (i + 1) = l.take i ++ [x] := by
    rw [List.take_add_one, hx]; rfl
   refine ⟨_, rfl, rfl, ?_, ?_⟩
   ·rw [htake]
    have q1 : (out.take p ++ [x] ++ out.drop p).Perm (x :: (out.take p ++ out.drop p)) := by
     rw [List.append_assoc]; exact List.perm_middle
    rw [List.take_append_drop] at q1
    exact q1.trans ((e2.cons x).trans (by
     have := List.perm_append_comm (l₁ := [x]) (l₂ := l.take i)
     simpa using this))
   ·have hs := e3
    rw [← List.take_append_drop p out] at hs
    obtain ⟨a1, a2, a3⟩ := List.pairwise_append.1 hs
    rw [List.append_assoc]
    refine List.pairwise_append.2 ⟨a1, List.pairwise_cons.2 ⟨fun y hy => ?_, a2⟩, fun y hy z hz => ?_⟩
    ·have hy : y ∈ out.drop p := hy
     obtain ⟨k, hk⟩ := List.getElem?_of_mem hy
     rw [List.getElem?_drop] at hk
     have := p2 (p + k) y (by omega) (List.getElem?_eq_some_iff.1 hk).1 hk
     omega
    ·rcases List.mem_cons.1 hz with rfl | hz
     ·obtain ⟨k, hk⟩ := List.getElem?_of_mem hy
      have hkp : k < p := by
       have := (List.getElem?_eq_some_iff.1 hk).1
       simp at this; omega
      rw [List.getElem?_take, if_pos hkp] at hk
      have hlast := List.getElem?_eq_getElem (show p - 1 < out.length by omega)
      have h4 := p3 _ (by omega) hlast
      by_cases e : k = p - 1
      ·subst e; rw [hlast] at hk; cases hk; exact h4
      ·have := (List.pairwise_iff_getElem.1 e3) k (p - 1) (by omega) (by omega) (by omega)
       have e5 := List.getElem?_eq_getElem (show k < out.length by omega)
       rw [e5] at hk; cases hk
       omega
     ·have hz : z ∈ out.drop p := hz
      exact a3 y hy z hz)
  (fun s ⟨e1, e2, e3⟩ => by
   obtain ⟨out, j⟩ := s
   simp only at e1 e2 e3
   subst e1
   rw [List.take_length] at e2
   simp only [cmp_lss, len_def, decide_eq_true_eq]
   rw [if_neg (by omega)]
   exact ⟨_, rfl, e2, e3⟩) ⟨rfl, by simp, .nil⟩ hN
 exact ⟨r, by rw [h1]; rfl, h2⟩
end Go.Ab

namespace Go.Ab
theorem mn_def (a b : Int) : Ar.mn a b = if b < a then b else a := rfl
def Bnd (x : GInterval) : Prop := -1099511627776 ≤ x.Low ∧ x.Low ≤ x.High ∧ x.High ≤ 1099511627776
theorem ord_snoc {l : List GInterval} {x : GInterval} (h : Ord l) (hx : Bnd x) (hl : ∀ y ∈ l, y.High + 2 ≤ x.Low) : Ord (l ++ [x]) := by
 induction l with
 | nil => exact ⟨hx, fun y hy => (by cases hy), trivial⟩
 | cons a l ih =>
  refine ⟨h.1, fun y hy => ?_, ih h.2.2 fun y hy => hl y (by simp [hy])⟩
  rcases List.mem_append.1 hy with hy | hy
  ·exact h.2.1 y hy
  ·simp at hy; subst hy; exact hl a (by simp)
theorem ord_init {l : List GInterval} {x : GInterval} (h : Ord (l ++ [x])) : Ord l ∧ Bnd x ∧ ∀ y ∈ l, y.High + 2 ≤ x.Low := by
 induction l with
 | nil => exact ⟨trivial, h.1, fun y hy => by cases hy⟩
 | cons a l ih =>
  obtain ⟨i1, i2, i3⟩ := ih h.2.2
  refine ⟨⟨h.1, fun y hy => h.2.1 y (by simp [hy]), i1⟩, i2, fun y hy => ?_⟩
  rcases List.mem_cons.1 hy with rfl | hy
  ·exact h.2.1 x (by simp)
  ·exact i3 y hy
structure Jnd (acc : List GInterval) (x : GInterval) (out : List GInterval) : Prop where
 ord : Ord out
 len : out.length ≤ acc.length + 1
 low : ∀ y ∈ out, y.Low ≤ x.Low
 inl : ∀ n, InL out n ↔ InL acc n ∨ (x.Low ≤ n ∧ n ≤ x.High)
theorem jnd_new {acc : List GInterval} {x : GInterval} (ho : Ord acc) (hb : Bnd x) (h : ∀ y ∈ acc, y.High + 1 < x.Low) : Jnd acc x (acc ++ [x]) := by
 refine ⟨ord_snoc ho hb fun y hy => by have := h y hy; omega, by simp, fun y hy => ?_, fun n => ?_⟩
 ·rcases List.mem_append.1 hy with hy | hy
  ·have := h y hy; have := ho.srt' y hy; omega
  ·simp at hy; subst hy; exact Int.le_refl _
 ·rw [inL_app, inL_cons]; simp [inL_nil]
theorem jnd_wide {init : List GInterval} {x y : GInterval} {hi : Int} (ho : Ord (init ++ [y])) (hb : Bnd x) (hl : y.Low ≤ x.Low) (h : x.Low ≤ y.High + 1)
 (hh : hi = if y.High < x.High then x.High else y.High) : Jnd (init ++ [y]) x (init ++ [⟨y.Low, hi⟩]) := by
 obtain ⟨i1, i2, i3⟩ := ord_init ho
 unfold Bnd at i2 hb
 have e : y.High ≤ hi ∧ x.High ≤ hi ∧ (hi = x.High ∨ hi = y.High) := by
  subst hh
  split <;> omega
 refine ⟨ord_snoc i1 ⟨by simp only; omega, by simp only; omega, by simp only; omega⟩ i3, by simp, fun z hz => ?_, fun n => ?_⟩
 ·rcases List.mem_append.1 hz with hz | hz
  ·have := i3 z hz; have := i1.srt' z hz; omega
  ·simp at hz; subst hz; exact hl
 ·rw [inL_app, inL_cons, inL_app, inL_cons, or_assoc]
  simp only [inL_nil, or_false]
  refine or_congr Iff.rfl ?_
  omega
theorem inR_last {α : Type} {l : List α} {x : α} : inR (l ++ [x]) (l.length : Int) = true := by
 unfold inR
 simp only [List.length_append, List.length_singleton, decide_eq_true_eq]; omega
theorem at_last {α : Type} {l : List α} {x : α} : (l ++ [x])[l.length]? = some x := by simp
theorem upd_last {α : Type} {l : List α} {x : α} {u : α → α} : updL (l ++ [x]) (l.length : Int) u = some (l ++ [u x]) := by
 unfold updL
 rw [idx_at, at_last]
 simp
theorem last_i {α : Type} {l : List α} {x : α} (h : l.length ≤ 1000000) : Ar.ar .sub .i64 (((l ++ [x]).length : Nat) : Int) 1 = (l.length : Int) := by
 rw [List.length_append]
 exact sub1 (by omega)
theorem push_step {N : Nat} {acc : List GInterval} {x : GInterval} (ho : Ord acc) (hb : Bnd x) (hl : ∀ y ∈ acc, y.Low ≤ x.Low) (hn : acc.length ≤ 1000000) :
 ∃ out, interval_push N acc x = some out ∧ Jnd acc x out := by
 unfold interval_push
 rcases List.eq_nil_or_concat acc with rfl | ⟨init, y, rfl⟩
 ·refine ⟨[x], ?_, jnd_new (acc := []) ho hb fun y hy => by cases hy⟩
  rw [app_ok (by simp)]
  rfl
 ·rw [List.concat_eq_append] at *
  have hn' : init.length ≤ 1000000 := by simp at hn; omega
  obtain ⟨i1, i2, i3⟩ := ord_init ho
  have hy := hl y (by simp)
  unfold Bnd at i2
  simp only [cmp_gtr, cmp_leq, len_def, last_i hn', inR_last, req, if_true, Option.bind_some, idx_at, at_last, upd_last, decide_eq_true_eq]
  rw [if_pos (by simp), add_i64 (by omega) (by omega)]
  by_cases h : x.Low ≤ y.High + 1
  ·rw [if_pos h]
   exact ⟨_, rfl, jnd_wide ho hb hy h (mx_def _ _)⟩
  ·rw [if_neg h, app_ok (by simp; omega)]
   refine ⟨_, rfl, jnd_new ho hb fun z hz => ?_⟩
   rcases List.mem_append.1 hz with hz | hz
   ·have := i3 z hz; have := i1.srt' z hz; omega
   ·simp at hz; subst hz; omega
end Go.Ab

namespace Go.Ab
theorem bnd_perm {l m : List GInterval} (h : m.Perm l) (hb : ∀ x ∈ l, Bnd x) : ∀ x ∈ m, Bnd x := fun x hx => hb x (h.mem_iff.1 hx)
theorem inL_perm {l m : List GInterval} (h : m.Perm l) (n : Int) : InL m n ↔ InL l n := by
 unfold InL
 constructor
 ·rintro ⟨x, hx, k⟩; exact ⟨x, h.mem_iff.1 hx, k⟩
 ·rintro ⟨x, hx, k⟩; exact ⟨x, h.mem_iff.2 hx, k⟩
theorem inL_take {l : List GInterval} {i : Nat} {x : GInterval} (h : l[i]? = some x) (n : Int) : InL (l.take (i + 1)) n ↔ InL (l.take i) n ∨ (x.Low ≤ n ∧ n ≤ x.High) := by
 have e : l.take (i + 1) = l.take i ++ [x] := by rw [List.take_add_one, h]; rfl
 rw [e, inL_app, inL_cons]; simp [inL_nil]
theorem normal_eq {N : Nat} {l : List GInterval} (hb : ∀ x ∈ l, Bnd x) (hl : l.length ≤ 100000) (hN : l.length < N) :
 ∃ r, ref02_Normal N l = some r ∧ Ord r ∧ r.length ≤ l.length ∧ ∀ n, InL r n ↔ InL l n := by
 unfold ref02_Normal
 obtain ⟨s, hs, hp, hw⟩ := sorted_eq hl hN
 have hsl : s.length = l.length := hp.length_eq
 have hsb := bnd_perm hp hb
 rw [hs]
 simp only [Option.bind_some]
 obtain ⟨r, h1, h2⟩ := loop_inv (N := N) (l := s) (Q := fun (r : List GInterval) => Ord r ∧ r.length ≤ s.length ∧ ∀ n, InL r n ↔ InL s n)
  (I := fun i (t : Int × List GInterval) => t.1 = (i : Int) ∧ Ord t.2 ∧ t.2.length ≤ i ∧ (∀ y ∈ t.2, ∀ (j : Nat) x, i ≤ j → s[j]? = some x → y.Low ≤ x.Low) ∧ ∀ n, InL t.2 n ↔ InL (s.take i) n)
  (s0 := ((0 : Int), ([] : List GInterval)))
  (step := fun (s3 : Int × (List GInterval)) =>
   (
    if Ar.cmp .lss s3.1 (Ar.len s) = true then
     if Ar.cmp .lss (Ar.ar .sub .i64 (Ar.len s3.2) 1) 0 = true then
      (idxL s s3.1).bind fun x6 =>
      (appL s3.2 ([x6])).bind fun l8 =>
      some (.inl (Ar.ar .add .i64 s3.1 1, l8))
     else
      (idxL s s3.1).bind fun x9 =>
      (req (inR s3.2 (Ar.ar .sub .i64 (Ar.len s3.2) 1))).bind fun _ =>
      (idxL s3.2 (Ar.ar .sub .i64 (Ar.len s3.2) 1)).bind fun x10 =>
      if Ar.cmp .gtr x9.Low (Ar.ar .add .i64 x10.High 1) = true then
       (idxL s s3.1).bind fun x11 =>
       (appL s3.2 ([x11])).bind fun l13 =>
       some (.inl (Ar.ar .add .i64 s3.1 1, l13))
      else
       (idxL s s3.1).bind fun x14 =>
       (req (inR s3.2 (Ar.ar .sub .i64 (Ar.len s3.2) 1))).bind fun _ =>
       (idxL s3.2 (Ar.ar .sub .i64 (Ar.len s3.2) 1)).bind fun x15 =>
       if Ar.cmp .gtr x14.High x15.High = true then
        (idxL s s3.1).bind fun x16 =>
        (req (inR s3.2 (Ar.ar .sub .i64 (Ar.len s3.2) 1))).bind fun _ =>
        (updL s3.2 (Ar.ar .sub .i64 (Ar.len s3.2) 1) (fun x17 : GInterval => { x17 with High := x16.High })).bind fun l18 =>
        some (.inl (Ar.ar .add .i64 s3.1 1, l18))
       else
        some (.inl (Ar.ar .add .i64 s3.1 1, s3.2))
    else
     some (.inr s3.2)
    : Option ((Int × (List GInterval)) ⊕ (((List GInterval))))))
  (fun i x t hx hi ⟨e1, e2, e3, e4, e5⟩ => by
   obtain ⟨j, acc⟩ := t
   simp only at e1 e2 e3 e4 e5
   subst e1
   have hxb := hsb x (List.mem_of_getElem? hx)
   have done : ∀ out, Jnd acc x out → ((i + 1 : Nat) : Int) = ((i + 1 : Nat) : Int) ∧ Ord out ∧ out.length ≤ i + 1 ∧ (∀ y ∈ out, ∀ (j : Nat) x, i + 1 ≤ j → s[j]? = some x → y.Low ≤ x.Low) ∧ ∀ n, InL out n ↔ InL (s.take (i + 1)) n := by
    intro out hj
    refine ⟨rfl, hj.ord, by have := hj.len; omega, fun y hy k z hk hz => ?_, fun n => ?_⟩
    ·have q1 := hj.low y hy
     have hkl := (List.getElem?_eq_some_iff.1 hz).1
     have q2 := (List.pairwise_iff_getElem.1 hw) i k (by omega) (by omega) (by omega)
     have e6 := List.getElem?_eq_getElem (show i < s.length by omega)
     rw [e6] at hx; cases hx
     have e7 := List.getElem?_eq_getElem hkl
     rw [e7] at hz; cases hz
     omega
    ·rw [hj.inl, e5, inL_take hx]
   simp only [cmp_lss, cmp_gtr, len_def, idx_at, hx, Option.bind_some, decide_eq_true_eq]
   rw [if_pos (by omega), inc_i64 hi (by omega)]
   rcases List.eq_nil_or_concat acc with rfl | ⟨init, y, rfl⟩
   ·rw [if_pos (by decide), app_ok (by simp)]
    simp only [Option.bind_some]
    exact ⟨_, rfl, done _ (jnd_new (acc := []) e2 hxb fun y hy => by cases hy)⟩
   ·rw [List.concat_eq_append] at *
    have hn' : init.length ≤ 1000000 := by simp at e3; omega
    obtain ⟨i1, i2, i3⟩ := ord_init e2
    have hy := e4 y (by simp) i x (Nat.le_refl _) hx
    unfold Bnd at i2
    simp only [last_i hn', inR_last, req, if_true, Option.bind_some, idx_at, at_last, upd_last]
    rw [if_neg (by omega), add_i64 (by omega) (by omega)]
    by_cases h : y.High + 1 < x.Low
    ·rw [if_pos h, app_ok (by simp; omega)]
     simp only [Option.bind_some]
     refine ⟨_, rfl, done _ (jnd_new e2 hxb fun z hz => ?_)⟩
     rcases List.mem_append.1 hz with hz | hz
     ·have := i3 z hz; have := i1.srt' z hz; omega
     ·simp at hz; subst hz; omega
    ·rw [if_neg h]
     by_cases hh : y.High < x.High
     ·rw [if_pos hh]
      exact ⟨_, rfl, done _ (jnd_wide e2 hxb hy (by omega) (by rw [if_pos hh]))⟩
     ·rw [if_neg hh]
      refine ⟨_, rfl, done _ ?_⟩
      have := jnd_wide (hi := y.High) e2 hxb hy (by omega) (by rw [if_neg hh])
      exact this)
  (fun t ⟨e1, e2, e3, e4, e5⟩ => by
   obtain ⟨j, acc⟩ := t
   simp only at e1 e2 e3 e4 e5
   subst e1
   simp only [cmp_lss, len_def, decide_eq_true_eq]
   rw [if_neg (by omega)]
   rw [List.take_length] at e5
   exact ⟨_, rfl, e2, e3, e5⟩) ⟨rfl, trivial, by simp, fun y hy => by simp at hy, fun n => by simp⟩ (by omega)
 rw [h1]
 exact ⟨r, rfl, h2.1, by omega, fun n => (h2.2.2 n).trans (inL_perm hp n)⟩
theorem both_eq {N : Nat} {a b : List GInterval} (ha : Ord a) (hb : Ord b) (hab : a.length * b.length ≤ 100000) (hal : a.length ≤ 100000) (hbl : b.length ≤ 100000) (hN : 100000 < N) :
 ∃ r, ref02_Both N a b = some r ∧ Ord r ∧ r.length ≤ a.length * b.length ∧ ∀ n, InL r n ↔ InL a n ∧ InL b n := by
 unfold ref02_Both
 obtain ⟨r, h1, h2⟩ := loop_inv (N := N) (l := a) (Q := fun (r : List GInterval) => (∀ x ∈ r, Bnd x) ∧ r.length ≤ a.length * b.length ∧ ∀ n, InL r n ↔ InL a n ∧ InL b n)
  (I := fun i (t : List GInterval × Int) => t.2 = (i : Int) ∧ (∀ x ∈ t.1, Bnd x) ∧ t.1.length ≤ i * b.length ∧ ∀ n, InL t.1 n ↔ InL (a.take i) n ∧ InL b n)
  (s0 := (([] : List GInterval), (0 : Int)))
  (step := fun (s1 : (List GInterval) × Int) =>
   (
    if Ar.cmp .lss s1.2 (Ar.len a) = true then
     (loopN
      (fun (s4 : (List GInterval) × Int) =>
       (
        if Ar.cmp .lss s4.2 (Ar.len b) = true then
         (idxL a s1.2).bind fun x7 =>
         (idxL b s4.2).bind fun x8 =>
         (idxL a s1.2).bind fun x9 =>
         (idxL b s4.2).bind fun x10 =>
         if Ar.cmp .leq (Ar.mx x7.Low x8.Low) (Ar.mn x9.High x10.High) = true then
          (appL s4.1 ([(⟨Ar.mx x7.Low x8.Low, Ar.mn x9.High x10.High⟩ : GInterval)])).bind fun l12 =>
          some (.inl (l12, Ar.ar .add .i64 s4.2 1))
         else
          some (.inl (s4.1, Ar.ar .add .i64 s4.2 1))
        else
         some (.inr s4.1)
        : Option (((List GInterval) × Int) ⊕ (((List GInterval))))))
      N (s1.1, 0)).bind fun s6 =>
     some (.inl (s6, Ar.ar .add .i64 s1.2 1))
    else
     some (.inr s1.1)
    : Option (((List GInterval) × Int) ⊕ (((List GInterval))))))
  (fun i x t hx hi ⟨e1, e2, e3, e4⟩ => by
   obtain ⟨acc, j⟩ := t
   simp only at e1 e2 e3 e4
   subst e1
   have hxb := ha.srt' x (List.mem_of_getElem? hx)
   have hmul : (i + 1) * b.length ≤ a.length * b.length := Nat.mul_le_mul_right _ hi
   have hmul2 : (i + 1) * b.length = i * b.length + b.length := Nat.succ_mul _ _
   obtain ⟨r, k1, k2⟩ := loop_inv (N := N) (l := b) (Q := fun (r : List GInterval) => (∀ x ∈ r, Bnd x) ∧ r.length ≤ (i + 1) * b.length ∧ ∀ n, InL r n ↔ InL (a.take (i + 1)) n ∧ InL b n)
    (I := fun k (t : List GInterval × Int) => t.2 = (k : Int) ∧ (∀ x ∈ t.1, Bnd x) ∧ t.1.length ≤ i * b.length + k ∧ ∀ n, InL t.1 n ↔ InL acc n ∨ (x.Low ≤ n ∧ n ≤ x.High) ∧ InL (b.take k) n)
    (s0 := (acc, (0 : Int)))
    (step := fun (s4 : (List GInterval) × Int) =>
          (
           if Ar.cmp .lss s4.2 (Ar.len b) = true then
            (idxL a (i : Int)).bind fun x7 =>
            (idxL b s4.2).bind fun x8 =>
            (idxL a (i : Int)).bind fun x9 =>
            (idxL b s4.2).bind fun x10 =>
            if Ar.cmp .leq (Ar.mx x7.Low x8.Low) (Ar.mn x9.High x10.High) = true then
             (appL s4.1 ([(⟨Ar.mx x7.Low x8.Low, Ar.mn x9.High x10.High⟩ : GInterval)])).bind fun l12 =>
             some (.inl (l12, Ar.ar .add .i64 s4.2 1))
            else
             some (.inl (s4.1, Ar.ar .add .i64 s4.2 1))
           else
            some (.inr s4.1)
           : Option (((List GInterval) × Int) ⊕ (((List GInterval))))))
    (fun k y u hy hk ⟨f1, f2, f3, f4⟩ => by
     obtain ⟨ac, m⟩ := u
     simp only at f1 f2 f3 f4
     subst f1
     have hyb := hb.srt' y (List.mem_of_getElem? hy)
     simp only [cmp_lss, cmp_leq, len_def, idx_at, hx, hy, Option.bind_some, decide_eq_true_eq, mx_def, mn_def]
     rw [if_pos (by omega), inc_i64 hk (by omega)]
     generalize hlo : (if x.Low < y.Low then y.Low else x.Low) = lo
     generalize hhi : (if y.High < x.High then y.High else x.High) = hi'
     have q1 : (lo = x.Low ∧ y.Low ≤ x.Low) ∨ (lo = y.Low ∧ x.Low ≤ y.Low) := by subst hlo; split <;> omega
     have q2 : (hi' = x.High ∧ x.High ≤ y.High) ∨ (hi' = y.High ∧ y.High ≤ x.High) := by subst hhi; split <;> omega
     by_cases h : lo ≤ hi'
     ·rw [if_pos h, app_ok (by simp; omega)]
      refine ⟨_, rfl, rfl, fun z hz => ?_, by simp; omega, fun n => ?_⟩
      ·rcases List.mem_append.1 hz with hz | hz
       ·exact f2 z hz
       ·simp at hz; subst hz; exact ⟨by simp only; omega, by simp only; omega, by simp only; omega⟩
      ·rw [inL_app, f4, inL_take hy, inL_cons]
       simp only [inL_nil, or_false]
       rw [or_assoc]
       refine or_congr Iff.rfl ?_
       by_cases hc : InL (b.take k) n
       ·simp only [hc, and_true, true_or]; omega
       ·simp only [hc, and_false, false_or]; omega
     ·rw [if_neg h]
      refine ⟨_, rfl, rfl, f2, by simp only; omega, fun n => ?_⟩
      rw [f4, inL_take hy]
      refine or_congr Iff.rfl ?_
      by_cases hc : InL (b.take k) n
      ·simp only [hc, and_true, true_or]
      ·simp only [hc, and_false, false_or, false_iff]; omega)
    (fun u ⟨f1, f2, f3, f4⟩ => by
     obtain ⟨ac, m⟩ := u
     simp only at f1 f2 f3 f4
     subst f1
     simp only [cmp_lss, len_def, decide_eq_true_eq]
     rw [if_neg (by omega)]
     rw [List.take_length] at f4
     refine ⟨_, rfl, f2, by omega, fun n => ?_⟩
     rw [f4, e4, inL_take hx]
     by_cases hc : InL b n
     ·simp only [hc, and_true]
     ·simp only [hc, and_false, or_false])
    ⟨rfl, e2, by simp only; omega, fun n => by simp [inL_nil]⟩ (by omega)
   simp only [cmp_lss, len_def, decide_eq_true_eq] at k1 ⊢
   rw [if_pos (by omega), inc_i64 hi (by omega), k1]
   exact ⟨_, rfl, rfl, k2⟩)
  (fun t ⟨e1, e2, e3, e4⟩ => by
   obtain ⟨acc, j⟩ := t
   simp only at e1 e2 e3 e4
   subst e1
   simp only [cmp_lss, len_def, decide_eq_true_eq]
   rw [if_neg (by omega)]
   rw [List.take_length] at e4
   exact ⟨_, rfl, e2, e3, e4⟩) ⟨rfl, fun x hx => by simp at hx, by simp, fun n => by simp [inL_nil]⟩ (by omega)
 rw [h1]
 obtain ⟨h2, h3, h4⟩ := h2
 obtain ⟨m, m1, m2, m3, m4⟩ := normal_eq (N := N) h2 (by omega) (by omega)
 simp only [Option.bind_some, m1]
 exact ⟨m, rfl, m2, by omega, fun n => (m4 n).trans (h4 n)⟩
end Go.Ab

