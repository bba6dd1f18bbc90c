/- GQL18 GQL19 -/
import Derived.Test.YtodfgmbacmnalaaGreatT42
import Derived.Test.YtodfgmbacmnalaaGreatT25
set_option linter.all false

namespace Go.Ab
open Classical
structure Gd (types k : Nat) (l : List GPredicate) : Prop where
 len : ∀ p ∈ l, p.Sets.length = types
 srt : ∀ p ∈ l, ∀ x ∈ p.Sets, Srt x
 sm : ∀ p ∈ l, Sm k p
theorem Gd.at {types k : Nat} {l : List GPredicate} (h : Gd types k l) {p : GPredicate} (hp : p ∈ l) {i : Nat} (hi : i < types) : p.Sets[i]? = some (p.Sets.getD i []) ∧ Srt (p.Sets.getD i []) ∧ (p.Sets.getD i []).length ≤ k := by
 have hl := h.len p hp
 have e : p.Sets[i]? = some (p.Sets.getD i []) := by
  rw [List.getD_eq_getElem?_getD, List.getElem?_eq_getElem (by omega)]; rfl
 exact ⟨e, h.srt p hp _ (List.mem_of_getElem? e), h.sm p hp _ (List.mem_of_getElem? e)⟩
noncomputable def sg (l : List GPredicate) (i : Nat) (n : Int) : List Int := l.map fun p => if InL (p.Sets.getD i []) n then 1 else 0
end Go.Ab

namespace Go.Ab
open Classical
def Dn (i : Nat) (b : Int) (j : Nat) (n : Int) : Prop := (-1099511627776 ≤ n ∧ n ≤ 1099511627776) ∧ (j < i ∨ (j = i ∧ n < b))
def Lx (j : Nat) (n : Int) (j' : Nat) (n' : Int) : Prop := j < j' ∨ (j = j' ∧ n < n')
def Asc (a : List GInterval) : Prop := (∀ x ∈ a, Bnd x) ∧ a.Pairwise fun x y => x.High < y.Low
structure Cls0 (types : Nat) (l : List GPredicate) (B i k : Nat) (b : Int) (out : List GPredicate) (W : List (List Int)) : Prop where
 len : out.length = W.length
 nodup : W.Nodup
 bits : ∀ w ∈ W, ∃ j n, w = sg l j n
 sets : ∀ p ∈ out, p.Sets.length = types
 cls : ∀ (c : Nat) p w (j : Nat) a, out[c]? = some p → W[c]? = some w → p.Sets[j]? = some a → Asc a ∧ ∀ n, InL a n ↔ Dn i b j n ∧ sg l j n = w
 cnt : ∀ (c : Nat) p (j : Nat) a, out[c]? = some p → p.Sets[j]? = some a → (j ≠ i → a.length ≤ B) ∧ (j = i → a.length ≤ k)
structure Cls (types : Nat) (l : List GPredicate) (B i k : Nat) (b : Int) (out : List GPredicate) (W : List (List Int)) : Prop extends Cls0 types l B i k b out W where
 occ : ∀ w ∈ W, ∃ j n, j < types ∧ Dn i b j n ∧ sg l j n = w
 cov : ∀ j n, j < types → Dn i b j n → sg l j n ∈ W
 ord : ∀ (c c' : Nat) w w', c < c' → W[c]? = some w → W[c']? = some w' → ∃ j n, j < types ∧ Dn i b j n ∧ sg l j n = w ∧ ∀ j' n', j' < types → Dn i b j' n' → sg l j' n' = w' → Lx j n j' n'
theorem Asc.nil : Asc [] := ⟨fun x h => (by cases h), .nil⟩
theorem Asc.empty {a : List GInterval} (h : Asc a) (hn : ∀ n, ¬ InL a n) : a = [] := by
 cases a with
 | nil => rfl
 | cons x a => exact absurd (inL_cons.2 (.inl ⟨Int.le_refl _, (h.1 x (by simp)).2.1⟩)) (hn x.Low)
theorem Asc.snoc {a : List GInterval} {x : GInterval} (h : Asc a) (hx : Bnd x) (hl : ∀ n, InL a n → n < x.Low) : Asc (a ++ [x]) := by
 refine ⟨fun y hy => ?_, List.pairwise_append.2 ⟨h.2, by simp, fun y hy z hz => ?_⟩⟩
 ·rcases List.mem_append.1 hy with hy | hy
  ·exact h.1 y hy
  ·simp at hy; subst hy; exact hx
 ·simp at hz; subst hz
  exact hl _ ⟨y, hy, (h.1 y hy).2.1, Int.le_refl _⟩
section
variable {types B i k : Nat} {l : List GPredicate} {a b : Int} {out : List GPredicate} {W : List (List Int)}
theorem Dn.mono {j : Nat} {n : Int} (h : Dn i a j n) (hab : a ≤ b) : Dn i b j n := by unfold Dn at *; omega
theorem Dn.new {j : Nat} {n : Int} (h : Dn i b j n) : Dn i a j n ∨ (j = i ∧ a ≤ n ∧ n < b) := by unfold Dn at *; omega
theorem Dn.lx {j j' : Nat} {n n' : Int} (h : Dn i a j n) (hj : j' = i) (hn : a ≤ n') : Lx j n j' n' := by unfold Dn Lx at *; omega
theorem Cls0.fresh (h : Cls0 types l B i k a out W) (hw : sg l i a ∉ W) (hcov : ∀ j n, j < types → Dn i a j n → sg l j n ∈ W) : Cls0 types l B i k a (out ++ [⟨List.replicate types []⟩]) (W ++ [sg l i a]) := by
 have at_ : ∀ (c : Nat) p, (out ++ [(⟨List.replicate types []⟩ : GPredicate)])[c]? = some p → (out[c]? = some p ∧ c < out.length) ∨ (c = out.length ∧ p = ⟨List.replicate types []⟩) := fun c p hp => by
  rcases Nat.lt_or_ge c out.length with hc | hc
  ·rw [List.getElem?_append_left hc] at hp; exact .inl ⟨hp, hc⟩
  ·rw [List.getElem?_append_right hc] at hp
   have : c - out.length = 0 := by
    have := (List.getElem?_eq_some_iff.1 hp).1; simp at this; omega
   rw [this] at hp
   simp at hp
   exact .inr ⟨by omega, hp.symm⟩
 have rep : ∀ (j : Nat) s, (List.replicate types ([] : List GInterval))[j]? = some s → s = [] ∧ j < types := fun j s hs => by
  obtain ⟨h1, h2⟩ := List.getElem?_eq_some_iff.1 hs
  simp at h1 h2; exact ⟨h2, h1⟩
 refine ⟨by simp [h.len], ?_, fun w hx => ?_, fun p hp => ?_, fun c p w j s hp hwc hs => ?_, fun c p j s hp hs => ?_⟩
 ·exact List.nodup_append.2 ⟨h.nodup, by simp, fun x hx y hy e => by simp at hy; subst hy; subst e; exact hw hx⟩
 ·rcases List.mem_append.1 hx with hx | hx
  ·exact h.bits w hx
  ·simp at hx; exact ⟨i, a, hx⟩
 ·rcases List.mem_append.1 hp with hp | hp
  ·exact h.sets p hp
  ·simp at hp; subst hp; simp
 ·rcases at_ c p hp with ⟨hp, hc⟩ | ⟨rfl, rfl⟩
  ·rw [List.getElem?_append_left (by rw [← h.len]; exact hc)] at hwc
   exact h.cls c p w j s hp hwc hs
  ·rw [h.len, List.getElem?_append_right (Nat.le_refl _)] at hwc
   simp at hwc
   subst hwc
   obtain ⟨rfl, hj⟩ := rep j s hs
   exact ⟨.nil, fun n => ⟨fun h => absurd h inL_nil, fun ⟨h1, h2⟩ => absurd (h2 ▸ hcov j n hj h1) hw⟩⟩
 ·rcases at_ c p hp with ⟨hp, hc⟩ | ⟨rfl, rfl⟩
  ·exact h.cnt c p j s hp hs
  ·obtain ⟨rfl, hj⟩ := rep j s hs
   exact ⟨fun _ => Nat.zero_le _, fun _ => Nat.zero_le _⟩
theorem Cls0.put (h : Cls0 types l B i k a out W) (hb : ∀ n, a ≤ n → n < b → sg l i n = sg l i a) (ha : -1099511627776 ≤ a) (hab : a < b) (hbb : b ≤ 1099511627777) (hkB : True)
 {c : Nat} {p : GPredicate} {s : List GInterval} (hc : out[c]? = some p) (hw : W[c]? = some (sg l i a)) (hs : p.Sets[i]? = some s) :
 Cls0 types l B i (k + 1) b (out.set c ⟨p.Sets.set i (s ++ [⟨a, b - 1⟩])⟩) W := by
 have hcl : c < out.length := (List.getElem?_eq_some_iff.1 hc).1
 have hil : i < p.Sets.length := (List.getElem?_eq_some_iff.1 hs).1
 have at_ : ∀ (c' : Nat) q, (out.set c ⟨p.Sets.set i (s ++ [⟨a, b - 1⟩])⟩)[c']? = some q → (c' ≠ c ∧ out[c']? = some q) ∨ (c' = c ∧ q = ⟨p.Sets.set i (s ++ [⟨a, b - 1⟩])⟩) := fun c' q hq => by
  rw [List.getElem?_set] at hq
  split at hq
  ·rename_i e; subst e; cases hq; exact .inr ⟨rfl, rfl⟩
  ·rename_i e; exact .inl ⟨fun x => e x.symm, hq⟩
 have at2 : ∀ (j : Nat) u, (p.Sets.set i (s ++ [⟨a, b - 1⟩]))[j]? = some u → (j ≠ i ∧ p.Sets[j]? = some u) ∨ (j = i ∧ u = s ++ [⟨a, b - 1⟩]) := fun j u hu => by
  rw [List.getElem?_set] at hu
  split at hu
  ·rename_i e; subst e; cases hu; exact .inr ⟨rfl, rfl⟩
  ·rename_i e; exact .inl ⟨fun x => e x.symm, hu⟩
 have keep : ∀ (j : Nat) (w : List Int), (w ≠ sg l i a ∨ j ≠ i) → ∀ n, (Dn i a j n ∧ sg l j n = w) ↔ (Dn i b j n ∧ sg l j n = w) := fun j w hne n => by
  constructor
  ·rintro ⟨h1, h2⟩; exact ⟨h1.mono (by omega), h2⟩
  ·rintro ⟨h1, h2⟩
   rcases h1.new (a := a) with h3 | ⟨rfl, h3, h4⟩
   ·exact ⟨h3, h2⟩
   ·exfalso
    rcases hne with hne | hne
    ·exact hne (by rw [← h2, hb n h3 h4])
    ·exact hne rfl
 refine ⟨by rw [List.length_set]; exact h.len, h.nodup, h.bits, fun q hq => ?_, fun c' q w j u hq hwc hu => ?_, fun c' q j u hq hu => ?_⟩
 ·obtain ⟨c', hq⟩ := List.getElem?_of_mem hq
  rcases at_ c' q hq with ⟨_, hq⟩ | ⟨_, rfl⟩
  ·exact h.sets q (List.mem_of_getElem? hq)
  ·simp only [List.length_set]; exact h.sets p (List.mem_of_getElem? hc)
 ·rcases at_ c' q hq with ⟨hne, hq⟩ | ⟨rfl, rfl⟩
  ·obtain ⟨h1, h2⟩ := h.cls c' q w j u hq hwc hu
   have hww : w ≠ sg l i a := fun e => by
    subst e
    obtain ⟨e1, e2⟩ := List.getElem?_eq_some_iff.1 hwc
    obtain ⟨e3, e4⟩ := List.getElem?_eq_some_iff.1 hw
    exact hne ((List.getElem_inj h.nodup).1 (e2.trans e4.symm))
   exact ⟨h1, fun n => (h2 n).trans (keep j w (.inl hww) n)⟩
  ·rw [hw] at hwc; cases hwc
   rcases at2 j u hu with ⟨hne, hu⟩ | ⟨rfl, rfl⟩
   ·obtain ⟨h1, h2⟩ := h.cls c' p _ j u hc hw hu
    exact ⟨h1, fun n => (h2 n).trans (keep j _ (.inr hne) n)⟩
   ·obtain ⟨h1, h2⟩ := h.cls c' p _ j s hc hw hs
    refine ⟨h1.snoc ⟨ha, by simp only; omega, by simp only; omega⟩ fun n hn => ?_, fun n => ?_⟩
    ·have := ((h2 n).1 hn).1
     unfold Dn at this
     simp only; omega
    ·rw [inL_app, h2, inL_cons]
     simp only [inL_nil, or_false]
     constructor
     ·rintro (⟨h3, h4⟩ | ⟨h3, h4⟩)
      ·exact ⟨h3.mono (by omega), h4⟩
      ·exact ⟨by unfold Dn; omega, hb n h3 (by omega)⟩
     ·rintro ⟨h3, h4⟩
      rcases h3.new (a := a) with h5 | ⟨_, h5, h6⟩
      ·exact .inl ⟨h5, h4⟩
      ·exact .inr ⟨h5, by omega⟩
 ·rcases at_ c' q hq with ⟨hne, hq⟩ | ⟨rfl, rfl⟩
  ·obtain ⟨h1, h2⟩ := h.cnt c' q j u hq hu
   exact ⟨h1, fun e => by have := h2 e; omega⟩
  ·rcases at2 j u hu with ⟨hne, hu⟩ | ⟨rfl, rfl⟩
   ·obtain ⟨h1, h2⟩ := h.cnt c' p j u hc hu
    exact ⟨h1, fun e => absurd e hne⟩
   ·obtain ⟨h1, h2⟩ := h.cnt c' p j s hc hs
    exact ⟨fun e => absurd rfl e, fun _ => by have := h2 rfl; simp; omega⟩
theorem Cls.step (h : Cls types l B i k a out W) (hi : i < types) (hb : ∀ n, a ≤ n → n < b → sg l i n = sg l i a) (ha : -1099511627776 ≤ a) (hab : a < b) (hbb : b ≤ 1099511627777) {out' : List GPredicate} {W' : List (List Int)}
 (h0 : Cls0 types l B i (k + 1) b out' W') (hW : (W' = W ∧ sg l i a ∈ W) ∨ (W' = W ++ [sg l i a] ∧ sg l i a ∉ W)) : Cls types l B i (k + 1) b out' W' := by
 have hda : Dn i b i a := by unfold Dn; omega
 refine ⟨h0, fun w hw => ?_, fun j n hj hn => ?_, fun c c' w w' hcc hw hw' => ?_⟩
 ·rcases hW with ⟨rfl, _⟩ | ⟨rfl, _⟩
  ·obtain ⟨j, n, h1, h2, h3⟩ := h.occ w hw
   exact ⟨j, n, h1, h2.mono (by omega), h3⟩
  ·rcases List.mem_append.1 hw with hw | hw
   ·obtain ⟨j, n, h1, h2, h3⟩ := h.occ w hw
    exact ⟨j, n, h1, h2.mono (by omega), h3⟩
   ·simp at hw; subst hw; exact ⟨i, a, hi, hda, rfl⟩
 ·rcases hn.new (a := a) with h1 | ⟨rfl, h1, h2⟩
  ·have := h.cov j n hj h1
   rcases hW with ⟨rfl, _⟩ | ⟨rfl, _⟩
   ·exact this
   ·exact List.mem_append_left _ this
  ·rw [hb n h1 h2]
   rcases hW with ⟨rfl, h3⟩ | ⟨rfl, _⟩
   ·exact h3
   ·simp
 ·have old : W[c]? = some w → W[c']? = some w' → ∃ j n, j < types ∧ Dn i b j n ∧ sg l j n = w ∧ ∀ j' n', j' < types → Dn i b j' n' → sg l j' n' = w' → Lx j n j' n' := fun hw hw' => by
   obtain ⟨j, n, h1, h2, h3, h4⟩ := h.ord c c' w w' hcc hw hw'
   refine ⟨j, n, h1, h2.mono (by omega), h3, fun j' n' g1 g2 g3 => ?_⟩
   rcases g2.new (a := a) with g4 | ⟨rfl, g4, _⟩
   ·exact h4 j' n' g1 g4 g3
   ·exact h2.lx rfl g4
  rcases hW with ⟨rfl, _⟩ | ⟨rfl, hnew⟩
  ·exact old hw hw'
  ·have hcl' := (List.getElem?_eq_some_iff.1 hw').1
   simp only [List.length_append, List.length_singleton] at hcl'
   have hcl : c < W.length := by omega
   rw [List.getElem?_append_left hcl] at hw
   rcases Nat.lt_or_ge c' W.length with hlt | hge
   ·rw [List.getElem?_append_left hlt] at hw'
    exact old hw hw'
   ·rw [List.getElem?_append_right hge, show c' - W.length = 0 by omega] at hw'
    simp at hw'
    subst hw'
    obtain ⟨j, n, h1, h2, h3⟩ := h.occ w (List.mem_of_getElem? hw)
    refine ⟨j, n, h1, h2.mono (by omega), h3, fun j' n' g1 g2 g3 => ?_⟩
    rcases g2.new (a := a) with g4 | ⟨rfl, g4, _⟩
    ·exact absurd (g3 ▸ h.cov j' n' g1 g4) hnew
    ·exact h2.lx rfl g4
theorem Cls.next (h : Cls types l B i k 1099511627777 out W) (hk : k ≤ B) : Cls types l B (i + 1) 0 (-1099511627776) out W := by
 have e : ∀ j n, Dn i 1099511627777 j n ↔ Dn (i + 1) (-1099511627776) j n := fun j n => by unfold Dn; omega
 refine ⟨⟨h.len, h.nodup, h.bits, h.sets, fun c p w j s hp hw hs => ?_, fun c p j s hp hs => ?_⟩, fun w hw => ?_, fun j n hj hn => h.cov j n hj ((e j n).2 hn), fun c c' w w' hcc hw hw' => ?_⟩
 ·obtain ⟨h1, h2⟩ := h.cls c p w j s hp hw hs
  exact ⟨h1, fun n => by rw [h2, e]⟩
 ·obtain ⟨h1, h2⟩ := h.cnt c p j s hp hs
  refine ⟨fun _ => ?_, fun hj => ?_⟩
  ·by_cases hj : j = i
   ·have := h2 hj; omega
   ·exact h1 hj
  ·have hcl : c < W.length := by rw [← h.len]; exact (List.getElem?_eq_some_iff.1 hp).1
   obtain ⟨h3, h4⟩ := h.cls c p _ j s hp (List.getElem?_eq_getElem hcl) hs
   have : s = [] := h3.empty fun n hn => by
    have := ((h4 n).1 hn).1
    unfold Dn at this; omega
   rw [this]; exact Nat.zero_le _
 ·obtain ⟨j, n, h1, h2, h3⟩ := h.occ w hw
  exact ⟨j, n, h1, (e j n).1 h2, h3⟩
 ·obtain ⟨j, n, h1, h2, h3, h4⟩ := h.ord c c' w w' hcc hw hw'
  exact ⟨j, n, h1, (e j n).1 h2, h3, fun j' n' g1 g2 g3 => h4 j' n' g1 ((e j' n').2 g2) g3⟩
theorem Cls.start : Cls types l B 0 0 (-1099511627776) [] [] := by
 have e : ∀ j n, ¬ Dn 0 (-1099511627776) j n := fun j n => by unfold Dn; omega
 exact ⟨⟨rfl, .nil, fun w h => (by cases h), fun p h => (by cases h), fun c p w j s h => (by simp at h), fun c p j s h => (by simp at h)⟩, fun w h => (by cases h), fun j n _ h => absurd h (e j n), fun c c' w w' _ h => by simp at h⟩
end
end Go.Ab

