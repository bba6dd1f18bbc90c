/- GPL21 GPL22 -/
import Derived.Test.YtpapabjndpgcnaaGreatT41
set_option linter.all false

namespace Go.Ab
open Classical
theorem bind_of1 {α β : Type} {m : Option α} {x : α} {F : α → Option β} {r : Option β} (h : m = some x) (k : F x = r) : m.bind F = r := by rw [h]; exact k
def bits : Nat → List (List Int)
 | 0 => [[]]
 | n + 1 => (bits n).map (0 :: ·) ++ (bits n).map (1 :: ·)
theorem nodup_len {α : Type} : ∀ {l m : List α}, l.Nodup → (∀ x ∈ l, x ∈ m) → l.length ≤ m.length
 | [], m, _, _ => Nat.zero_le _
 | x :: l, m, hn, h => by
  classical
  have hx := h x (by simp)
  obtain ⟨h1, h2⟩ := List.nodup_cons.1 hn
  have := nodup_len (l := l) (m := m.erase x) h2 fun y hy => (List.mem_erase_of_ne (fun e => by subst e; exact h1 hy)).2 (h y (by simp [hy]))
  rw [List.length_erase_of_mem hx] at this
  have : 0 < m.length := List.length_pos_of_mem hx
  simp only [List.length_cons]; omega
structure Mint (types B : Nat) (l : List GPredicate) (out : List GPredicate) (W : List (List Int)) : Prop where
 len : out.length = W.length
 nodup : W.Nodup
 bits : ∀ w ∈ W, ∃ j n, w = sg l j n
 sets : ∀ p ∈ out, p.Sets.length = types
 cls : ∀ (c : Nat) p w (j : Nat) a, out[c]? = some p → W[c]? = some w → p.Sets[j]? = some a → Ord a ∧ a.length ≤ B ∧ ∀ n, InL a n ↔ (-1099511627776 ≤ n ∧ n ≤ 1099511627776) ∧ sg l j n = w
 occ : ∀ w ∈ W, ∃ j n, j < types ∧ (-1099511627776 ≤ n ∧ n ≤ 1099511627776) ∧ sg l j n = w
 cov : ∀ j n, j < types → (-1099511627776 ≤ n ∧ n ≤ 1099511627776) → sg l j n ∈ W
 ord : ∀ (c c' : Nat) w w', c < c' → W[c]? = some w → W[c']? = some w' → ∃ j n, j < types ∧ (-1099511627776 ≤ n ∧ n ≤ 1099511627776) ∧ sg l j n = w ∧ ∀ j' n', j' < types → (-1099511627776 ≤ n' ∧ n' ≤ 1099511627776) → sg l j' n' = w' → Lx j n j' n'
end Go.Ab

namespace Go.Ab
open Classical
theorem ends_asc : ∀ {a : List GInterval}, Ord a → (ends a).Pairwise (· < ·)
 | [], _ => by simp [ends]
 | x :: a, h => by
  have ih := ends_asc h.2.2
  have hx := h.1
  have e : ends (x :: a) = x.Low :: (x.High + 1) :: ends a := rfl
  have hi : ∀ m ∈ ends a, x.High + 2 ≤ m := fun m hm => by
   obtain ⟨y, hy, h'⟩ := mem_ends.1 hm
   have := h.2.1 y hy
   have := h.2.2.srt' y hy
   omega
  rw [e]
  refine List.pairwise_cons.2 ⟨fun m hm => ?_, List.pairwise_cons.2 ⟨fun m hm => ?_, ih⟩⟩
  ·rcases List.mem_cons.1 hm with rfl | hm
   ·omega
   ·have := hi m hm; omega
  ·have := hi m hm; omega
theorem ends_steps {a : List GInterval} (h : Ord a) {m : Int} (hm : m ∈ ends a) : ¬ (InL a m ↔ InL a (m - 1)) := by
 obtain ⟨x, hx, h'⟩ := mem_ends.1 hm
 have hxb := h.srt' x hx
 have apart : ∀ y ∈ a, y = x ∨ y.High + 2 ≤ x.Low ∨ x.High + 2 ≤ y.Low := fun y hy => by
  clear h' hm hxb
  induction a with
  | nil => cases hx
  | cons z a ih =>
   rcases List.mem_cons.1 hx with hx | hx
   ·rcases List.mem_cons.1 hy with hy | hy
    ·exact .inl (hy.trans hx.symm)
    ·exact .inr (.inr (by rw [hx]; exact h.2.1 y hy))
   ·rcases List.mem_cons.1 hy with hy | hy
    ·exact .inr (.inl (by rw [hy]; exact h.2.1 x hx))
    ·exact ih h.2.2 hx hy
 rcases h' with rfl | rfl
 ·have h1 : InL a x.Low := ⟨x, hx, by omega, by omega⟩
  have h2 : ¬ InL a (x.Low - 1) := fun ⟨y, hy, g1, g2⟩ => by
   have := h.srt' y hy
   rcases apart y hy with rfl | h' | h' <;> omega
  simp [h1, h2]
 ·have h1 : InL a (x.High + 1 - 1) := ⟨x, hx, by omega, by omega⟩
  have h2 : ¬ InL a (x.High + 1) := fun ⟨y, hy, g1, g2⟩ => by
   have := h.srt' y hy
   rcases apart y hy with rfl | h' | h' <;> omega
  exact fun h => h2 (h.2 h1)
theorem steps_ends {a : List GInterval} (h : Ord a) {m : Int} (hm : m ∉ ends a) : InL a m ↔ InL a (m - 1) := by
 constructor
 ·rintro ⟨x, hx, h1, h2⟩
  have : m ≠ x.Low := fun e => hm (mem_ends.2 ⟨x, hx, .inl e⟩)
  exact ⟨x, hx, by omega, by omega⟩
 ·rintro ⟨x, hx, h1, h2⟩
  have : m ≠ x.High + 1 := fun e => hm (mem_ends.2 ⟨x, hx, .inr e⟩)
  exact ⟨x, hx, by omega, by omega⟩
theorem len_of_steps {a : List GInterval} {P : Int → Prop} {E : List Int} (h : Ord a) (hP : ∀ n, InL a n ↔ P n) (hE : ∀ n, n ∉ E → (P n ↔ P (n - 1))) : 2 * a.length ≤ E.length := by
 have hn : (ends a).Nodup := (ends_asc h).imp fun h => by omega
 have := nodup_len (l := ends a) (m := E) hn fun m hm => by
  refine Classical.byContradiction fun hc => ends_steps h hm ?_
  rw [hP, hP]; exact hE m hc
 rwa [ends_len] at this
theorem sg_steps {types k : Nat} {l : List GPredicate} (hg : Gd types k l) {j : Nat} (hj : j < types) {n : Int} (hn : n ∉ endsP l j) : sg l j n = sg l j (n - 1) := by
 refine sg_eq_iff.2 fun p hp => steps_ends (hg.at hp hj).2.1.ord fun h => hn ?_
 unfold endsP
 exact List.mem_flatMap.2 ⟨p, hp, h⟩
def endsA (l : List GPredicate) (j : Nat) : List Int := -1099511627776 :: 1099511627777 :: endsP l j
theorem endsA_len {types k : Nat} {l : List GPredicate} (hg : Gd types k l) {j : Nat} (hj : j < types) : (endsA l j).length ≤ 2 + 2 * k * l.length := by
 have := endsP_len hg hj l.length
 rw [List.take_length] at this
 unfold endsA; simp; omega
theorem in_steps {n : Int} (h1 : n ≠ -1099511627776) (h2 : n ≠ 1099511627777) : (-1099511627776 ≤ n ∧ n ≤ 1099511627776) ↔ (-1099511627776 ≤ n - 1 ∧ n - 1 ≤ 1099511627776) := by omega
theorem word_steps {types k : Nat} {l : List GPredicate} (hg : Gd types k l) {j : Nat} (hj : j < types) (S : List Int → Prop) {n : Int} (hn : n ∉ endsA l j) :
 ((-1099511627776 ≤ n ∧ n ≤ 1099511627776) ∧ S (sg l j n)) ↔ ((-1099511627776 ≤ n - 1 ∧ n - 1 ≤ 1099511627776) ∧ S (sg l j (n - 1))) := by
 unfold endsA at hn
 simp only [List.mem_cons, not_or] at hn
 rw [sg_steps hg hj hn.2.2, in_steps hn.1 hn.2.1]
theorem goodl_eq {N : Nat} {p0 : GPredicate} {l : List GPredicate} (hl : (p0 :: l).length ≤ 1000) (hN : 100000 < N) : ∃ b, law27_good N (p0 :: l) = some b ∧ (b = true → (1 ≤ p0.Sets.length ∧ p0.Sets.length ≤ 4) ∧ Gd p0.Sets.length 12 (p0 :: l)) := by
 generalize hL : p0 :: l = L at hl ⊢
 have i0 : idxL L 0 = some p0 := by rw [← hL]; rfl
 have g : ∀ x, ∃ b, law27_good_1 N x L = some b ∧ (b = false → x.Sets.length ≤ 4 ∧ Sm 12 x ∧ pck (p0.Sets.length : Int) x = 0) := fun x => by
  obtain ⟨b1, e1, f1⟩ := few_eq (N := N) (p := x) (by omega)
  unfold law27_good_1
  simp only [e1, i0, Option.bind_some, rpck_eq (N := N) (show 256 < N by omega), len_def, nt_def, cmp_neq]
  cases b1 with
  | false => exact ⟨true, rfl, fun h => by cases h⟩
  | true =>
   refine ⟨_, rfl, fun h => ?_⟩
   simp only [Bool.not_eq_false', decide_eq_true_eq] at h
   exact ⟨(f1 rfl).1, (f1 rfl).2, h⟩
 have g' : ∃ f : GPredicate → Bool, ∀ x, law27_good_1 N x L = some (f x) ∧ (f x = false → x.Sets.length ≤ 4 ∧ Sm 12 x ∧ pck (p0.Sets.length : Int) x = 0) :=
  ⟨fun x => Classical.choose (g x), fun x => Classical.choose_spec (g x)⟩
 obtain ⟨f, hf⟩ := g'
 unfold law27_good slices_ContainsFunc_LPredicate_Predicate slices_IndexFunc_LPredicate_Predicate
 rw [find_loop (l := L) (p := f) (e := .inl ()) (b := fun i _ => .inr (i : Int)) (N := N) ?_ ?_ (by omega)]
 ·cases hq : fnd f 0 L with
  | some q =>
   simp only [Option.bind_some]
   exact ⟨_, rfl, fun h => by simp [nt_def, cmp_geq] at h⟩
  | none =>
   simp only [Option.bind_some]
   refine ⟨_, rfl, fun _ => ?_⟩
   have hall : ∀ x ∈ L, x.Sets.length ≤ 4 ∧ Sm 12 x ∧ pck (p0.Sets.length : Int) x = 0 := fun x hx => (hf x).2 (fnd_none hq x hx)
   have hmem : p0 ∈ L := by rw [← hL]; simp
   have hown := own1_zero (p := p0) (hall p0 hmem).2.2
   have hlen : ∀ p ∈ L, p.Sets.length = p0.Sets.length := fun p hp => by
    have h2 := (hall p hp).2.2
    unfold pck at h2
    split at h2
    ·cases h2
    ·by_cases e : (p.Sets.length : Int) = (p0.Sets.length : Int)
     ·omega
     ·simp [e] at h2
   refine ⟨⟨hown.1.1, (hall p0 hmem).1⟩, hlen, fun p hp => (own1_zero (p := p) ?_).2, fun p hp => (hall p hp).2.1⟩
   unfold own1
   rw [hlen p hp]; exact (hall p hp).2.2
 ·intro i x hx hi
  simp only [cmp_lss, len_def, idx_at, hx, (hf x).1, Option.bind_some, decide_eq_true_eq]
  rw [if_pos (by omega), inc_i64 hi (by omega)]
 ·simp [cmp_lss, len_def]
end Go.Ab

