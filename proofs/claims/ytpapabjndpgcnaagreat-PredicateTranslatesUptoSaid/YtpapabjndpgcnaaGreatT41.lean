/- GPL17 GPL18 -/
import Derived.Test.YtpapabjndpgcnaaGreatT40
import Derived.Test.YtpapabjndpgcnaaGreatT22
set_option linter.all false

namespace Go.Ab
set_option maxRecDepth 100000
theorem zero_fm {x : GInterval} (h : -1099511627776 ≤ x.Low ∧ x.Low ≤ x.High ∧ x.High ≤ 1099511627776) : fm x = 0 := by
 unfold fm
 rw [if_neg (by omega), if_neg (by omega)]
theorem zero_ck {l : List GInterval} (h : Srt l) : ck l = 0 := by
 unfold ck
 rw [if_neg (by have := h.1; omega)]
 refine fb_zero.2 fun k x hx => ?_
 unfold fi
 have hxb := h.2.1 x (List.mem_of_getElem? hx)
 rw [if_pos (zero_fm hxb)]
 split
 ·rename_i hk
  split
  ·rename_i y hy
   have := h.2.2 (k - 1) y x (by simpa using hy) (by rw [← hx]; congr 1; omega)
   have hyb := h.2.1 y (List.mem_of_getElem? hy)
   rw [add_i64 (by omega) (by omega), if_neg (by omega)]
  ·rfl
 ·rfl
theorem zero_own {p : GPredicate} (h0 : 1 ≤ p.Sets.length ∧ p.Sets.length ≤ 16) (h : ∀ x ∈ p.Sets, Srt x) : own1 p = 0 := by
 unfold own1 pck
 rw [if_neg (by omega), if_neg (by simp)]
 exact fb_zero.2 fun k x hx => zero_ck (h x (List.mem_of_getElem? hx))
theorem Cn.srt {P : Int → Prop} {l : List GInterval} (h : Cn P l) : Srt l := h.1.srt h.2.1
theorem Bi.own {P : (Int → Prop) → (Int → Prop) → Int → Prop} {k : Nat} {p q r : GPredicate} (h : Bi P k p q r) (hl : p.Sets.length = q.Sets.length) (h0 : 1 ≤ p.Sets.length ∧ p.Sets.length ≤ 16) : own1 r = 0 ∧ Sm k r := by
 have at_ : ∀ x ∈ r.Sets, Srt x ∧ x.length ≤ k := fun x hx => by
  obtain ⟨i, hi⟩ := List.getElem?_of_mem hx
  have hil := (List.getElem?_eq_some_iff.1 hi).1
  have hr := h.1
  have := h.2 i _ _ x (List.getElem?_eq_getElem (show i < p.Sets.length by omega)) (List.getElem?_eq_getElem (show i < q.Sets.length by omega)) hi
  exact ⟨this.1.srt, this.2⟩
 exact ⟨zero_own (by rw [h.1]; exact h0) fun x hx => (at_ x hx).1, fun x hx => (at_ x hx).2⟩
theorem Un.own {k : Nat} {p r : GPredicate} (h : Un k p r) (h0 : 1 ≤ p.Sets.length ∧ p.Sets.length ≤ 16) : own1 r = 0 ∧ Sm k r := by
 have at_ : ∀ x ∈ r.Sets, Srt x ∧ x.length ≤ k := fun x hx => by
  obtain ⟨i, hi⟩ := List.getElem?_of_mem hx
  have hil := (List.getElem?_eq_some_iff.1 hi).1
  have hr := h.1
  have := h.2 i _ x (List.getElem?_eq_getElem (show i < p.Sets.length by omega)) hi
  exact ⟨this.1.srt, this.2⟩
 exact ⟨zero_own (by rw [h.1]; exact h0) fun x hx => (at_ x hx).1, fun x hx => (at_ x hx).2⟩
end Go.Ab

namespace Go.Ab
open Classical
structure Gd (types k : Nat) (l : List GPredicate) : Prop where
 len : ∀ p ∈ l, p.Sets.length = types
 srt : ∀ p ∈ l, ∀ x ∈ p.Sets, Srt x
 sm : ∀ p ∈ l, Sm k p
theorem Gd.at {types k : Nat} {l : List GPredicate} (h : Gd types k l) {p : GPredicate} (hp : p ∈ l) {i : Nat} (hi : i < types) : p.Sets[i]? = some (p.Sets.getD i []) ∧ Srt (p.Sets.getD i []) ∧ (p.Sets.getD i []).length ≤ k := by
 have hl := h.len p hp
 have e : p.Sets[i]? = some (p.Sets.getD i []) := by
  rw [List.getD_eq_getElem?_getD, List.getElem?_eq_getElem (by omega)]; rfl
 exact ⟨e, h.srt p hp _ (List.mem_of_getElem? e), h.sm p hp _ (List.mem_of_getElem? e)⟩
noncomputable def sg (l : List GPredicate) (i : Nat) (n : Int) : List Int := l.map fun p => if InL (p.Sets.getD i []) n then 1 else 0
end Go.Ab

