/- GQL20 GQL21 GQL22 -/
import Derived.Test.YtodfgmbacmnalaaGreatT43
set_option linter.all false

namespace Go.Ab
open Classical
end Go.Ab

namespace Go.Ab
open Classical
def bits : Nat → List (List Int)
 | 0 => [[]]
 | n + 1 => (bits n).map (0 :: ·) ++ (bits n).map (1 :: ·)
theorem nodup_len {α : Type} : ∀ {l m : List α}, l.Nodup → (∀ x ∈ l, x ∈ m) → l.length ≤ m.length
 | [], m, _, _ => Nat.zero_le _
 | x :: l, m, hn, h => by
  classical
  have hx := h x (by simp)
  obtain ⟨h1, h2⟩ := List.nodup_cons.1 hn
  have := nodup_len (l := l) (m := m.erase x) h2 fun y hy => (List.mem_erase_of_ne (fun e => by subst e; exact h1 hy)).2 (h y (by simp [hy]))
  rw [List.length_erase_of_mem hx] at this
  have : 0 < m.length := List.length_pos_of_mem hx
  simp only [List.length_cons]; omega
structure Mint (types B : Nat) (l : List GPredicate) (out : List GPredicate) (W : List (List Int)) : Prop where
 len : out.length = W.length
 nodup : W.Nodup
 bits : ∀ w ∈ W, ∃ j n, w = sg l j n
 sets : ∀ p ∈ out, p.Sets.length = types
 cls : ∀ (c : Nat) p w (j : Nat) a, out[c]? = some p → W[c]? = some w → p.Sets[j]? = some a → Ord a ∧ a.length ≤ B ∧ ∀ n, InL a n ↔ (-1099511627776 ≤ n ∧ n ≤ 1099511627776) ∧ sg l j n = w
 occ : ∀ w ∈ W, ∃ j n, j < types ∧ (-1099511627776 ≤ n ∧ n ≤ 1099511627776) ∧ sg l j n = w
 cov : ∀ j n, j < types → (-1099511627776 ≤ n ∧ n ≤ 1099511627776) → sg l j n ∈ W
 ord : ∀ (c c' : Nat) w w', c < c' → W[c]? = some w → W[c']? = some w' → ∃ j n, j < types ∧ (-1099511627776 ≤ n ∧ n ≤ 1099511627776) ∧ sg l j n = w ∧ ∀ j' n', j' < types → (-1099511627776 ≤ n' ∧ n' ≤ 1099511627776) → sg l j' n' = w' → Lx j n j' n'
end Go.Ab

namespace Go.Ab
open Classical
theorem ends_asc : ∀ {a : List GInterval}, Ord a → (ends a).Pairwise (· < ·)
 | [], _ => by simp [ends]
 | x :: a, h => by
  have ih := ends_asc h.2.2
  have hx := h.1
  have e : ends (x :: a) = x.Low :: (x.High + 1) :: ends a := rfl
  have hi : ∀ m ∈ ends a, x.High + 2 ≤ m := fun m hm => by
   obtain ⟨y, hy, h'⟩ := mem_ends.1 hm
   have := h.2.1 y hy
   have := h.2.2.srt' y hy
   omega
  rw [e]
  refine List.pairwise_cons.2 ⟨fun m hm => ?_, List.pairwise_cons.2 ⟨fun m hm => ?_, ih⟩⟩
  ·rcases List.mem_cons.1 hm with rfl | hm
   ·omega
   ·have := hi m hm; omega
  ·have := hi m hm; omega
theorem ends_steps {a : List GInterval} (h : Ord a) {m : Int} (hm : m ∈ ends a) : ¬ (InL a m ↔ InL a (m - 1)) := by
 obtain ⟨x, hx, h'⟩ := mem_ends.1 hm
 have hxb := h.srt' x hx
 have apart : ∀ y ∈ a, y = x ∨ y.High + 2 ≤ x.Low ∨ x.High + 2 ≤ y.Low := fun y hy => by
  clear h' hm hxb
  induction a with
  | nil => cases hx
  | cons z a ih =>
   rcases List.mem_cons.1 hx with hx | hx
   ·rcases List.mem_cons.1 hy with hy | hy
    ·exact .inl (hy.trans hx.symm)
    ·exact .inr (.inr (by rw [hx]; exact h.2.1 y hy))
   ·rcases List.mem_cons.1 hy with hy | hy
    ·exact .inr (.inl (by rw [hy]; exact h.2.1 x hx))
    ·exact ih h.2.2 hx hy
 rcases h' with rfl | rfl
 ·have h1 : InL a x.Low := ⟨x, hx, by omega, by omega⟩
  have h2 : ¬ InL a (x.Low - 1) := fun ⟨y, hy, g1, g2⟩ => by
   have := h.srt' y hy
   rcases apart y hy with rfl | h' | h' <;> omega
  simp [h1, h2]
 ·have h1 : InL a (x.High + 1 - 1) := ⟨x, hx, by omega, by omega⟩
  have h2 : ¬ InL a (x.High + 1) := fun ⟨y, hy, g1, g2⟩ => by
   have := h.srt' y hy
   rcases apart y hy with rfl | h' | h' <;> omega
  exact fun h => h2 (h.2 h1)
theorem len_of_steps {a : List GInterval} {P : Int → Prop} {E : List Int} (h : Ord a) (hP : ∀ n, InL a n ↔ P n) (hE : ∀ n, n ∉ E → (P n ↔ P (n - 1))) : 2 * a.length ≤ E.length := by
 have hn : (ends a).Nodup := (ends_asc h).imp fun h => by omega
 have := nodup_len (l := ends a) (m := E) hn fun m hm => by
  refine Classical.byContradiction fun hc => ends_steps h hm ?_
  rw [hP, hP]; exact hE m hc
 rwa [ends_len] at this
end Go.Ab

