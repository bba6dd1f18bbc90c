/- GPL22 GPL23 -/
import Derived.Test.YtpapabjndpgcnaaGreatT40
import Derived.KernelRfl
set_option linter.all false

namespace Go.Ab
open Classical
theorem ends_asc : ∀ {a : List GInterval}, Ord a → (ends a).Pairwise (· < ·)
 | [], _ => by simp [ends]
 | x :: a, h => by
  have ih := ends_asc h.2.2
  have hx := h.1
  have e : ends (x :: a) = x.Low :: (x.High + 1) :: ends a := rfl
  have hi : ∀ m ∈ ends a, x.High + 2 ≤ m := fun m hm => by
   obtain ⟨y, hy, h'⟩ := mem_ends.1 hm
   have := h.2.1 y hy
   have := h.2.2.srt' y hy
   omega
  rw [e]
  refine List.pairwise_cons.2 ⟨fun m hm => ?_, List.pairwise_cons.2 ⟨fun m hm => ?_, ih⟩⟩
  ·rcases List.mem_cons.1 hm with rfl | hm
   ·omega
   ·have := hi m hm; omega
  ·have := hi m hm; omega
theorem ends_steps {a : List GInterval} (h : Ord a) {m : Int} (hm : m ∈ ends a) : ¬ (InL a m ↔ InL a (m - 1)) := by
 obtain ⟨x, hx, h'⟩ := mem_ends.1 hm
 have hxb := h.srt' x hx
 have apart : ∀ y ∈ a, y = x ∨ y.High + 2 ≤ x.Low ∨ x.High + 2 ≤ y.Low := fun y hy => by
  clear h' hm hxb
  induction a with
  | nil => cases hx
  | cons z a ih =>
   rcases List.mem_cons.1 hx with hx | hx
   ·rcases List.mem_cons.1 hy with hy | hy
    ·exact .inl (hy.trans hx.symm)
    ·exact .inr (.inr (by rw [hx]; exact h.2.1 y hy))
   ·rcases List.mem_cons.1 hy with hy | hy
    ·exact .inr (.inl (by rw [hy]; exact h.2.1 x hx))
    ·exact ih h.2.2 hx hy
 rcases h' with rfl | rfl
 ·have h1 : InL a x.Low := ⟨x, hx, by omega, by omega⟩
  have h2 : ¬ InL a (x.Low - 1) := fun ⟨y, hy, g1, g2⟩ => by
   have := h.srt' y hy
   rcases apart y hy with rfl | h' | h' <;> omega
  simp [h1, h2]
 ·have h1 : InL a (x.High + 1 - 1) := ⟨x, hx, by omega, by omega⟩
  have h2 : ¬ InL a (x.High + 1) := fun ⟨y, hy, g1, g2⟩ => by
   have := h.srt' y hy
   rcases apart y hy with rfl | h' | h' <;> omega
  exact fun h => h2 (h.2 h1)
theorem steps_ends {a : List GInterval} (h : Ord a) {m : Int} (hm : m ∉ ends a) : InL a m ↔ InL a (m - 1) := by
 constructor
 ·rintro ⟨x, hx, h1, h2⟩
  have : m ≠ x.Low := fun e => hm (mem_ends.2 ⟨x, hx, .inl e⟩)
  exact ⟨x, hx, by omega, by omega⟩
 ·rintro ⟨x, hx, h1, h2⟩
  have : m ≠ x.High + 1 := fun e => hm (mem_ends.2 ⟨x, hx, .inr e⟩)
  exact ⟨x, hx, by omega, by omega⟩
theorem len_of_steps {a : List GInterval} {P : Int → Prop} {E : List Int} (h : Ord a) (hP : ∀ n, InL a n ↔ P n) (hE : ∀ n, n ∉ E → (P n ↔ P (n - 1))) : 2 * a.length ≤ E.length := by
 have hn : (ends a).Nodup := (ends_asc h).imp fun h => by omega
 have := nodup_len (l := ends a) (m := E) hn fun m hm => by
  refine Classical.byContradiction fun hc => ends_steps h hm ?_
  rw [hP, hP]; exact hE m hc
 rwa [ends_len] at this
theorem sg_steps {types k : Nat} {l : List GPredicate} (hg : Gd types k l) {j : Nat} (hj : j < types) {n : Int} (hn : n ∉ endsP l j) : sg l j n = sg l j (n - 1) := by
 refine sg_eq_iff.2 fun p hp => steps_ends (hg.at hp hj).2.1.ord fun h => hn ?_
 unfold endsP
 exact List.mem_flatMap.2 ⟨p, hp, h⟩
def endsA (l : List GPredicate) (j : Nat) : List Int := -1099511627776 :: 1099511627777 :: endsP l j
theorem endsA_len {types k : Nat} {l : List GPredicate} (hg : Gd types k l) {j : Nat} (hj : j < types) : (endsA l j).length ≤ 2 + 2 * k * l.length := by
 have := endsP_len hg hj l.length
 rw [List.take_length] at this
 unfold endsA; simp; omega
theorem in_steps {n : Int} (h1 : n ≠ -1099511627776) (h2 : n ≠ 1099511627777) : (-1099511627776 ≤ n ∧ n ≤ 1099511627776) ↔ (-1099511627776 ≤ n - 1 ∧ n - 1 ≤ 1099511627776) := by omega
theorem word_steps {types k : Nat} {l : List GPredicate} (hg : Gd types k l) {j : Nat} (hj : j < types) (S : List Int → Prop) {n : Int} (hn : n ∉ endsA l j) :
 ((-1099511627776 ≤ n ∧ n ≤ 1099511627776) ∧ S (sg l j n)) ↔ ((-1099511627776 ≤ n - 1 ∧ n - 1 ≤ 1099511627776) ∧ S (sg l j (n - 1))) := by
 unfold endsA at hn
 simp only [List.mem_cons, not_or] at hn
 rw [sg_steps hg hj hn.2.2, in_steps hn.1 hn.2.1]
theorem goodl_eq {N : Nat} {p0 : GPredicate} {l : List GPredicate} (hl : (p0 :: l).length ≤ 1000) (hN : 100000 < N) : ∃ b, law27_good N (p0 :: l) = some b ∧ (b = true → (1 ≤ p0.Sets.length ∧ p0.Sets.length ≤ 4) ∧ Gd p0.Sets.length 12 (p0 :: l)) := by
 generalize hL : p0 :: l = L at hl ⊢
 have i0 : idxL L 0 = some p0 := by rw [← hL]; rfl
 have g : ∀ x, ∃ b, law27_good_1 N x L = some b ∧ (b = false → x.Sets.length ≤ 4 ∧ Sm 12 x ∧ pck (p0.Sets.length : Int) x = 0) := fun x => by
  obtain ⟨b1, e1, f1⟩ := few_eq (N := N) (p := x) (by omega)
  unfold law27_good_1
  simp only [e1, i0, Option.bind_some, rpck_eq (N := N) (show 256 < N by omega), len_def, nt_def, cmp_neq]
  cases b1 with
  | false => exact ⟨true, rfl, fun h => by cases h⟩
  | true =>
   refine ⟨_, rfl, fun h => ?_⟩
   simp only [Bool.not_eq_false', decide_eq_true_eq] at h
   exact ⟨(f1 rfl).1, (f1 rfl).2, h⟩
 have g' : ∃ f : GPredicate → Bool, ∀ x, law27_good_1 N x L = some (f x) ∧ (f x = false → x.Sets.length ≤ 4 ∧ Sm 12 x ∧ pck (p0.Sets.length : Int) x = 0) :=
  ⟨fun x => Classical.choose (g x), fun x => Classical.choose_spec (g x)⟩
 obtain ⟨f, hf⟩ := g'
 unfold law27_good slices_ContainsFunc_LPredicate_Predicate slices_IndexFunc_LPredicate_Predicate
 rw [find_loop (l := L) (p := f) (e := .inl ()) (b := fun i _ => .inr (i : Int)) (N := N) ?_ ?_ (by omega)]
 ·cases hq : fnd f 0 L with
  | some q =>
   simp only [Option.bind_some]
   exact ⟨_, rfl, fun h => by simp [nt_def, cmp_geq] at h⟩
  | none =>
   simp only [Option.bind_some]
   refine ⟨_, rfl, fun _ => ?_⟩
   have hall : ∀ x ∈ L, x.Sets.length ≤ 4 ∧ Sm 12 x ∧ pck (p0.Sets.length : Int) x = 0 := fun x hx => (hf x).2 (fnd_none hq x hx)
   have hmem : p0 ∈ L := by rw [← hL]; simp
   have hown := own1_zero (p := p0) (hall p0 hmem).2.2
   have hlen : ∀ p ∈ L, p.Sets.length = p0.Sets.length := fun p hp => by
    have h2 := (hall p hp).2.2
    unfold pck at h2
    split at h2
    ·cases h2
    ·by_cases e : (p.Sets.length : Int) = (p0.Sets.length : Int)
     ·omega
     ·simp [e] at h2
   refine ⟨⟨hown.1.1, (hall p0 hmem).1⟩, hlen, fun p hp => (own1_zero (p := p) ?_).2, fun p hp => (hall p hp).2.1⟩
   unfold own1
   rw [hlen p hp]; exact (hall p hp).2.2
 ·intro i x hx hi
  simp only [cmp_lss, len_def, idx_at, hx, (hf x).1, Option.bind_some, decide_eq_true_eq]
  rw [if_pos (by omega), inc_i64 hi (by omega)]
 ·simp [cmp_lss, len_def]
theorem empty_of {N : Nat} {p : GPredicate} (h : own1 p = 0) (hN : 300 < N) : ∃ b, predicate_Empty N p = some (b, 0) ∧ (b = true ↔ ∀ x ∈ p.Sets, x = []) := by
 obtain ⟨⟨b, e⟩, h1, _, h3, h4⟩ := empty_eq (N := N) (p := p) hN
 simp only at h3 h4
 rw [h] at h3
 subst h3
 refine ⟨b, h1, ?_⟩
 rw [h4 rfl]
 unfold fst1
 constructor
 ·intro hn x hx
  cases hq : fnd ne1 0 p.Sets with
  | some q => rw [hq] at hn; cases hn
  | none =>
   have := fnd_none hq x hx
   simpa using this
 ·intro hall
  cases hq : fnd ne1 0 p.Sets with
  | none => rfl
  | some q =>
   obtain ⟨k, x⟩ := q
   obtain ⟨_, h2, h3, _⟩ := fnd_some hq
   have := hall x (List.mem_of_getElem? h2)
   subst this
   simp at h3
end Go.Ab

namespace Go.Ab
open Classical
set_option maxRecDepth 100000
theorem equalB {N : Nat} {a b : List Bool} (ha : a.length ≤ 1000) (hN : 1000 < N) : slices_Equal_Lbool_bool N a b = some (decide (a = b)) := by
 unfold slices_Equal_Lbool_bool
 by_cases hl : a.length = b.length
 ·rw [if_neg (by simp [cmp_neq, len_def]; omega)]
  rw [chk_loop (l := a) (f := fun k x => if b[k]? = some x then 0 else 1) (e := .inl ()) (b := fun _ => .inr ()) (N := N) ?_ ?_ (by omega)]
  ·simp only [Option.bind_some]
   by_cases h : fb (fun k (x : Bool) => if b[k]? = some x then (0 : Int) else 1) 0 a = 0
   ·rw [if_pos h]
    have : a = b := by
     refine List.ext_getElem hl fun k h1 h2 => ?_
     have := fb_zero.1 h k _ (List.getElem?_eq_getElem h1)
     rw [Nat.zero_add] at this
     split at this
     ·rename_i e
      rw [List.getElem?_eq_getElem h2] at e
      exact (Option.some.inj e).symm
     ·cases this
    rw [decide_eq_true this]
   ·rw [if_neg h]
    have : a ≠ b := fun e => h (fb_zero.2 fun k x hx => by rw [Nat.zero_add, ← e, hx, if_pos rfl])
    rw [decide_eq_false this]
  ·intro i x hx hi
   have hb := List.getElem?_eq_getElem (show i < b.length by omega)
   simp only [cmp_lss, nt_def, len_def, idx_at, hx, hb, Option.bind_some, decide_eq_true_eq]
   rw [if_pos (by omega), inc_i64 hi (by omega)]
   by_cases e : b[i] = x
   ·subst e; simp [beq_self]
   ·rw [if_neg (show ¬ ((if some b[i] = some x then (0 : Int) else 1) = 0) by simp [e])]
    have : Ar.beq x b[i] = false := by
     revert e; cases x <;> cases b[i] <;> simp [Ar.beq]
    rw [if_pos (by rw [this]; rfl)]
  ·simp [cmp_lss, len_def]
 ·rw [if_pos (neq_true (by simp only [len_def]; omega)), decide_eq_false fun e => hl (by rw [e])]
def wb (w : List Int) : List Bool := w.map fun x => decide (x = 1)
theorem wb_inj : ∀ {v w : List Int}, Bts v → Bts w → wb v = wb w → v = w
 | [], [], _, _, _ => rfl
 | [], y :: w, _, _, h => by simp [wb] at h
 | x :: v, [], _, _, h => by simp [wb] at h
 | x :: v, y :: w, hv, hw, h => by
  simp only [wb, List.map_cons, List.cons.injEq] at h
  have ih := wb_inj (v := v) (w := w) (fun z hz => hv z (by simp [hz])) (fun z hz => hw z (by simp [hz])) h.2
  have hx := hv x (by simp)
  have hy := hw y (by simp)
  have : x = y := by
   have := h.1
   rcases hx with rfl | rfl <;> rcases hy with rfl | rfl <;> simp_all
  rw [this, ih]
theorem sg_at {l : List GPredicate} {j k : Nat} {n : Int} {p : GPredicate} (h : l[k]? = some p) : (sg l j n)[k]? = some (if InL (p.Sets.getD j []) n then 1 else 0) := by
 unfold sg
 rw [List.getElem?_map, h]; rfl
theorem whole1 : ref27_Whole 40000000 1 = some ⟨[[⟨-1099511627776, 1099511627776⟩]]⟩ := by kernel_rfl
theorem whole2 : ref27_Whole 40000000 2 = some ⟨[[⟨-1099511627776, 1099511627776⟩], [⟨-1099511627776, 1099511627776⟩]]⟩ := by kernel_rfl
theorem whole3 : ref27_Whole 40000000 3 = some ⟨[[⟨-1099511627776, 1099511627776⟩], [⟨-1099511627776, 1099511627776⟩], [⟨-1099511627776, 1099511627776⟩]]⟩ := by kernel_rfl
theorem whole4 : ref27_Whole 40000000 4 = some ⟨[[⟨-1099511627776, 1099511627776⟩], [⟨-1099511627776, 1099511627776⟩], [⟨-1099511627776, 1099511627776⟩], [⟨-1099511627776, 1099511627776⟩]]⟩ := by kernel_rfl
theorem whole_eq {T : Nat} (h : 1 ≤ T ∧ T ≤ 4) : ref27_Whole 40000000 (T : Int) = some ⟨List.replicate T [⟨-1099511627776, 1099511627776⟩]⟩ := by
 have : T = 1 ∨ T = 2 ∨ T = 3 ∨ T = 4 := by omega
 rcases this with rfl | rfl | rfl | rfl
 ·exact whole1
 ·exact whole2
 ·exact whole3
 ·exact whole4
structure Ws (T : Nat) (l : List GPredicate) (S : List Int → Prop) (p : GPredicate) : Prop where
 len : p.Sets.length = T
 at' : ∀ (j : Nat) a, p.Sets[j]? = some a → Ord a ∧ ∀ n, InL a n ↔ (-1099511627776 ≤ n ∧ n ≤ 1099511627776) ∧ S (sg l j n)
theorem Ws.small {T : Nat} {l : List GPredicate} {S : List Int → Prop} {p : GPredicate} (h : Ws T l S p) (hg : Gd T 12 l) (hl : l.length ≤ 4) (hT : 1 ≤ T ∧ T ≤ 4) : own1 p = 0 ∧ Sm 49 p := by
 have key : ∀ x ∈ p.Sets, Ord x ∧ x.length ≤ 49 := fun x hx => by
  obtain ⟨j, hj⟩ := List.getElem?_of_mem hx
  have hjT : j < T := by rw [← h.len]; exact (List.getElem?_eq_some_iff.1 hj).1
  obtain ⟨h1, h2⟩ := h.at' j x hj
  have h3 := len_of_steps h1 h2 (E := endsA l j) fun n hn => word_steps hg hjT S hn
  have h4 := endsA_len hg hjT
  have h5 : 2 * 12 * l.length ≤ 24 * 4 := Nat.mul_le_mul (by decide) hl
  exact ⟨h1, by omega⟩
 exact ⟨zero_own (by rw [h.len]; omega) fun x hx => (key x hx).1.srt (by have := (key x hx).2; omega), fun x hx => (key x hx).2⟩
theorem Ws.ext {T : Nat} {l : List GPredicate} {S S' : List Int → Prop} {p q : GPredicate} (h : Ws T l S p) (k : Ws T l S' q) (e : ∀ j n, j < T → (-1099511627776 ≤ n ∧ n ≤ 1099511627776) → (S (sg l j n) ↔ S' (sg l j n))) : p = q := by
 refine pred_ext (h.len.trans k.len.symm) fun j a b ha hb => ?_
 have hjT : j < T := by rw [← h.len]; exact (List.getElem?_eq_some_iff.1 ha).1
 obtain ⟨h1, h2⟩ := h.at' j a ha
 obtain ⟨k1, k2⟩ := k.at' j b hb
 exact ord_ext h1 k1 fun n => by
  rw [h2, k2]
  exact and_congr_right fun hn => e j n hjT hn
theorem Ws.bi {T : Nat} {l : List GPredicate} {S S' : List Int → Prop} {p q r : GPredicate} {k : Nat} {P : (Int → Prop) → (Int → Prop) → Int → Prop} {S2 : List Int → Prop} (h : Ws T l S p) (h' : Ws T l S' q) (hr : Bi P k p q r)
 (hP : ∀ A B n, P A B n ↔ (fun (a b : Prop) => P (fun _ => a) (fun _ => b) n) (A n) (B n))
 (hS : ∀ n w, P (fun _ => (-1099511627776 ≤ n ∧ n ≤ 1099511627776) ∧ S w) (fun _ => (-1099511627776 ≤ n ∧ n ≤ 1099511627776) ∧ S' w) n ↔ (-1099511627776 ≤ n ∧ n ≤ 1099511627776) ∧ S2 w) : Ws T l S2 r := by
 refine ⟨hr.1.trans h.len, fun j c hc => ?_⟩
 have hjr := (List.getElem?_eq_some_iff.1 hc).1
 have e1 := hr.1
 have e2 := h.len
 have e3 := h'.len
 have ha := List.getElem?_eq_getElem (show j < p.Sets.length by omega)
 have hb := List.getElem?_eq_getElem (show j < q.Sets.length by omega)
 obtain ⟨k1, _⟩ := hr.2 j _ _ c ha hb hc
 refine ⟨k1.1, fun n => (k1.2.2 n).trans ?_⟩
 rw [hP, (h.at' j _ ha).2, (h'.at' j _ hb).2]
 exact hS n (sg l j n)
theorem Ws.void {T : Nat} {l : List GPredicate} {S : List Int → Prop} {p : GPredicate} (h : Ws T l S p) (hS : ∀ j n, j < T → (-1099511627776 ≤ n ∧ n ≤ 1099511627776) → ¬ S (sg l j n)) : ∀ x ∈ p.Sets, x = [] := fun x hx => by
 obtain ⟨j, hj⟩ := List.getElem?_of_mem hx
 have hjT : j < T := by rw [← h.len]; exact (List.getElem?_eq_some_iff.1 hj).1
 obtain ⟨h1, h2⟩ := h.at' j x hj
 exact ord_ext h1 (m := []) trivial fun n => ⟨fun hn => absurd ((h2 n).1 hn).2 (hS j n hjT ((h2 n).1 hn).1), fun hn => absurd hn inL_nil⟩
theorem Ws.full {T : Nat} {l : List GPredicate} {S : List Int → Prop} {p : GPredicate} (h : Ws T l S p) {j : Nat} {n : Int} (hj : j < T) (hn : -1099511627776 ≤ n ∧ n ≤ 1099511627776) (hS : S (sg l j n)) : ¬ ∀ x ∈ p.Sets, x = [] := fun hall => by
 have ha := List.getElem?_eq_getElem (show j < p.Sets.length by rw [h.len]; exact hj)
 have := ((h.at' j _ ha).2 n).2 ⟨hn, hS⟩
 rw [hall _ (List.mem_of_getElem? ha)] at this
 exact inL_nil this
theorem Mint.ws {T B : Nat} {l out : List GPredicate} {W : List (List Int)} (h : Mint T B l out W) {c : Nat} {p : GPredicate} {w : List Int} (hp : out[c]? = some p) (hw : W[c]? = some w) : Ws T l (fun v => v = w) p :=
 ⟨h.sets p (List.mem_of_getElem? hp), fun j a ha => let ⟨h1, _, h3⟩ := h.cls c p w j a hp hw ha; ⟨h1, h3⟩⟩
theorem Gd.ws {T k : Nat} {l : List GPredicate} (h : Gd T k l) {q : Nat} {p : GPredicate} (hp : l[q]? = some p) : Ws T l (fun v => v[q]? = some 1) p := by
 have hm := List.mem_of_getElem? hp
 refine ⟨h.len p hm, fun j a ha => ?_⟩
 have hjT : j < T := by rw [← h.len p hm]; exact (List.getElem?_eq_some_iff.1 ha).1
 obtain ⟨h1, h2, _⟩ := h.at hm hjT
 rw [ha] at h1
 have e := Option.some.inj h1
 rw [← e] at h2
 refine ⟨h2.ord, fun n => ?_⟩
 rw [sg_at hp, ← e]
 constructor
 ·intro hn
  obtain ⟨x, hx, g1, g2⟩ := id hn
  have := h2.2.1 x hx
  exact ⟨by omega, by rw [if_pos hn]⟩
 ·rintro ⟨_, hn⟩
  split at hn
  ·assumption
  ·cases hn
section
variable {T : Nat} {l : List GPredicate} (hg : Gd T 12 l) (hl : l.length ≤ 4) (hT : 1 ≤ T ∧ T ≤ 4)
include hg hl hT
theorem ws_and {N : Nat} {S S' : List Int → Prop} {p q : GPredicate} (h : Ws T l S p) (h' : Ws T l S' q) (hN : 100000 < N) : ∃ r, predicate_And N p q = some (r, 0) ∧ Ws T l (fun w => S w ∧ S' w) r := by
 obtain ⟨o1, s1⟩ := h.small hg hl hT
 obtain ⟨o2, s2⟩ := h'.small hg hl hT
 obtain ⟨⟨r, e⟩, a1, _, a3, _⟩ := and_eq (N := N) (p := p) (q := q) (j := 49) (m := 49) s1 s2 (by decide) hN
 obtain ⟨e0, hb⟩ := a3 o1 o2 (h.len.trans h'.len.symm)
 simp only at e0; subst e0
 exact ⟨r, a1, h.bi h' hb (fun _ _ _ => Iff.rfl) fun n w => by
  constructor
  ·rintro ⟨⟨h1, h2⟩, _, h3⟩; exact ⟨h1, h2, h3⟩
  ·rintro ⟨h1, h2, h3⟩; exact ⟨⟨h1, h2⟩, h1, h3⟩⟩
theorem ws_or {N : Nat} {S S' : List Int → Prop} {p q : GPredicate} (h : Ws T l S p) (h' : Ws T l S' q) (hN : 100000 < N) : ∃ r, predicate_Or N p q = some (r, 0) ∧ Ws T l (fun w => S w ∨ S' w) r := by
 obtain ⟨o1, s1⟩ := h.small hg hl hT
 obtain ⟨o2, s2⟩ := h'.small hg hl hT
 obtain ⟨⟨r, e⟩, a1, _, a3, _⟩ := or_eq (N := N) (p := p) (q := q) (j := 49) (m := 49) s1 s2 (by decide) hN
 obtain ⟨e0, hb⟩ := a3 o1 o2 (h.len.trans h'.len.symm)
 simp only at e0; subst e0
 exact ⟨r, a1, h.bi h' hb (fun _ _ _ => Iff.rfl) fun n w => by
  constructor
  ·rintro (⟨h1, h2⟩ | ⟨h1, h2⟩)
   ·exact ⟨h1, .inl h2⟩
   ·exact ⟨h1, .inr h2⟩
  ·rintro ⟨h1, h2 | h2⟩
   ·exact .inl ⟨h1, h2⟩
   ·exact .inr ⟨h1, h2⟩⟩
theorem ws_empty {N : Nat} {S : List Int → Prop} {p : GPredicate} (h : Ws T l S p) (hN : 100000 < N) : ∃ b, predicate_Empty N p = some (b, 0) ∧ (b = true ↔ ∀ x ∈ p.Sets, x = []) := empty_of (h.small hg hl hT).1 (by omega)
end
theorem none_ws {N T : Nat} {l : List GPredicate} (hT : T ≤ 1000) : ∃ p, ref27_None N (T : Int) = some p ∧ Ws T l (fun _ => False) p := by
 unfold ref27_None mkL
 rw [if_pos (by omega)]
 refine ⟨_, rfl, by simp, fun j a ha => ?_⟩
 have : a = [] := by
  obtain ⟨h1, h2⟩ := List.getElem?_eq_some_iff.1 ha
  simp at h2; exact h2
 subst this
 exact ⟨trivial, fun n => by simp [inL_nil]⟩
theorem no_word {N : Nat} {l : List (List Bool)} {w : List Bool} (h : w ∉ l) (hl : l.length ≤ 1000) (hw : ∀ v ∈ l, v.length ≤ 1000) (hN : 1000 < N) : slices_ContainsFunc_Lbool_Lbool N l (fun y1 => law27_PredicateCovers_1 N y1 w) = some false := by
 unfold slices_ContainsFunc_Lbool_Lbool slices_IndexFunc_Lbool_Lbool
 rw [find_loop (l := l) (p := fun v => if v ∈ l then decide (v = w) else false) (e := .inl ()) (b := fun i _ => .inr (i : Int)) (N := N) ?_ ?_ (by omega)]
 ·have : fnd (fun v => if v ∈ l then decide (v = w) else false) 0 l = none := by
   cases hq : fnd (fun v => if v ∈ l then decide (v = w) else false) 0 l with
   | none => rfl
   | some q =>
    obtain ⟨k, v⟩ := q
    obtain ⟨_, h2, h3, _⟩ := fnd_some hq
    have hm := List.mem_of_getElem? h2
    simp only [hm, if_true, decide_eq_true_eq] at h3
    subst h3
    exact absurd hm h
  rw [this]
  rfl
 ·intro i x hx hi
  have hm := List.mem_of_getElem? hx
  unfold law27_PredicateCovers_1
  simp only [cmp_lss, len_def, idx_at, hx, equalB (hw x hm) hN, Option.bind_some, decide_eq_true_eq]
  rw [if_pos (by omega), inc_i64 hi (by omega)]
  simp only [hm, if_true]
  by_cases e : x = w <;> simp [e]
 ·simp [cmp_lss, len_def]
theorem covers_law (aw : law27_awake 40000000 = some true) (l : List GPredicate) : law27_PredicateCovers 40000000 l = some true := by
 unfold law27_PredicateCovers
 by_cases h0 : l.length = 0 ∨ 4 < l.length
 ·rw [if_pos (by simp only [or_def, cmp_eql, cmp_gtr, len_def, Bool.or_eq_true, decide_eq_true_eq]; omega), aw]; rfl
 ·rw [if_neg (by simp only [or_def, cmp_eql, cmp_gtr, len_def, Bool.or_eq_true, decide_eq_true_eq]; omega)]
  obtain ⟨p0, l', rfl⟩ : ∃ p0 l', l = p0 :: l' := by
   cases l with
   | nil => simp at h0
   | cons p0 l' => exact ⟨p0, l', rfl⟩
  obtain ⟨b, hb, hgood⟩ := goodl_eq (N := 40000000) (p0 := p0) (l := l') (by omega) (by decide)
  rw [hb]
  simp only [Option.bind_some]
  cases b with
  | false => rw [if_pos (by rfl), aw]; rfl
  | true =>
   rw [if_neg (by simp [nt_def])]
   obtain ⟨hT, hg⟩ := hgood rfl
   have hll : (p0 :: l').length ≤ 4 := by omega
   have i0 : idxL (p0 :: l') 0 = some p0 := rfl
   obtain ⟨out, W, hm, hM⟩ := minterms_eq (N := 40000000) hg (by omega) (by omega) (by decide) (by decide)
   generalize hL : p0 :: l' = l at *
   rw [i0]
   simp only [Option.bind_some, len_def]
   obtain ⟨z, hz, hzw⟩ := none_ws (N := 40000000) (T := p0.Sets.length) (l := l) (by omega)
   generalize hTT : p0.Sets.length = T at *
   rw [hm, hz]
   simp only [Option.bind_some]
   have hWl : W.length ≤ 16 := by
    have h1 := words_len hM.nodup hM.bits
    have h2 : 2 ^ l.length ≤ 2 ^ 4 := Nat.pow_le_pow_right (by decide) hll
    omega
   have hol := hM.len
   have hbts : ∀ w ∈ W, Bts w := fun w hw => by obtain ⟨j, n, rfl⟩ := hM.bits w hw; exact sg_bits
   have hwl : ∀ w ∈ W, w.length = l.length := fun w hw => by obtain ⟨j, n, rfl⟩ := hM.bits w hw; simp [sg]
   rw [if_neg (by simp [or_def, cmp_neq, cmp_gtr]; omega)]
   obtain ⟨r, h1, h2⟩ := loop_inv (N := 40000000) (l := out) (Q := fun (r : GPredicate ⊕ GPredicate) => ∃ p, r = .inl p ∧ Ws T l (fun w => w ∈ W) p)
    (I := fun c (t : (List (List Bool)) × Int × GPredicate) => t.1 = (W.take c).map wb ∧ t.2.1 = (c : Int) ∧ Ws T l (fun w => w ∈ W.take c) t.2.2)
    (s0 := (([] : List (List Bool)), (0 : Int), z))
    (step := fun (s8 : (List (List Bool)) × Int × GPredicate) =>
     (
      if Ar.cmp .lss s8.2.1 (Ar.len out) = true then
       (idxL out s8.2.1).bind fun x11 =>
       (predicate_And 40000000 s8.2.2 x11).bind fun r12 =>
       (predicate_Empty 40000000 r12.1).bind fun r13 =>
       (predicate_Empty 40000000 x11).bind fun r14 =>
       (predicate_Or 40000000 s8.2.2 x11).bind fun r15 =>
       if Ar.or (Ar.or (Ar.cmp .neq (Ar.ar .add .i64 (Ar.ar .add .i64 (Ar.ar .add .i64 r12.2 r13.2) r14.2) r15.2) 0) (Ar.nt r13.1)) r14.1 = true then
        some (.inr (.inr s8.2.2))
       else
        (loopN
         (fun (s17 : Int × (List Bool)) =>
          (
           if Ar.cmp .lss s17.1 (Ar.len l) = true then
            (idxL l s17.1).bind fun x20 =>
            (predicate_And 40000000 x11 x20).bind fun r21 =>
            (predicate_Empty 40000000 r21.1).bind fun r22 =>
            if Ar.cmp .neq (Ar.ar .add .i64 r21.2 r22.2) 0 = true then
             some (.inr (.inr s17.2))
            else
             if Ar.nt r22.1 = true then
              (ref27_Same 40000000 r21.1 x11).bind fun r23 =>
              if Ar.nt r23 = true then
               some (.inr (.inr s17.2))
              else
               (appL s17.2 ([Ar.nt r22.1])).bind fun l25 =>
               some (.inl (Ar.ar .add .i64 s17.1 1, l25))
             else
              (appL s17.2 ([Ar.nt r22.1])).bind fun l27 =>
              some (.inl (Ar.ar .add .i64 s17.1 1, l27))
           else
            some (.inr (.inl s17.2))
           : Option ((Int × (List Bool)) ⊕ (((List Bool)) ⊕ ((List Bool))))))
         40000000 (0, [])).bind fun s19 =>
        match s19 with
        | .inl y28 =>
         (slices_ContainsFunc_Lbool_Lbool 40000000 s8.1 (fun y1 => law27_PredicateCovers_1 40000000 y1 y28)).bind fun r30 =>
         if r30 = true then
          some (.inr (.inr r15.1))
         else
          (appL s8.1 ([y28])).bind fun l32 =>
          some (.inl (l32, Ar.ar .add .i64 s8.2.1 1, r15.1))
        | .inr y33 =>
         some (.inr (.inr r15.1))
      else
       some (.inr (.inl s8.2.2))
      : Option (((List (List Bool)) × Int × GPredicate) ⊕ (GPredicate ⊕ GPredicate))))
    (fun c x t hx hc ⟨e1, e2, e3⟩ => by
     obtain ⟨words, q, all⟩ := t
     simp only at e1 e2 e3
     subst e1; subst e2
     have hw := List.getElem?_eq_getElem (show c < W.length by omega)
     have hwm := List.getElem_mem (show c < W.length by omega)
     generalize W[c] = w at hw hwm
     have hxw := hM.ws hx hw
     have hnew : w ∉ W.take c := fun hmem => by
      obtain ⟨d, hd⟩ := List.getElem?_of_mem hmem
      have hdl := (List.getElem?_eq_some_iff.1 hd).1
      rw [List.length_take] at hdl
      rw [List.getElem?_take, if_pos (show d < c by omega)] at hd
      obtain ⟨f1, f2⟩ := List.getElem?_eq_some_iff.1 hd
      obtain ⟨f3, f4⟩ := List.getElem?_eq_some_iff.1 hw
      have := (List.getElem_inj hM.nodup).1 (f2.trans f4.symm)
      omega
     obtain ⟨r12, a1, a2⟩ := ws_and (N := 40000000) hg hll (by omega) e3 hxw (by decide)
     obtain ⟨b13, a3, a4⟩ := ws_empty (N := 40000000) hg hll (by omega) a2 (by decide)
     have h13 : b13 = true := a4.2 (a2.void fun j n _ _ ⟨g1, g2⟩ => hnew (g2 ▸ g1))
     subst h13
     obtain ⟨b14, a5, a6⟩ := ws_empty (N := 40000000) hg hll (by omega) hxw (by decide)
     obtain ⟨j0, n0, oc1, oc2, oc3⟩ := hM.occ w hwm
     have hfull := hxw.full oc1 oc2 oc3
     have h14 : b14 = false := by
      cases b14 with
      | false => rfl
      | true => exact absurd (a6.1 rfl) hfull
     subst h14
     obtain ⟨r15, a7, a8⟩ := ws_or (N := 40000000) hg hll (by omega) e3 hxw (by decide)
     have hsame : ref27_Same 40000000 x x = some true := same_refl (N := 40000000) (fun y hy => by have := (hxw.small hg hll (by omega)).2 y hy; omega) (by rw [hxw.len]; omega) (by decide)
     obtain ⟨wr, k1, k2⟩ := loop_inv (N := 40000000) (l := l) (Q := fun (r : (List Bool) ⊕ (List Bool)) => r = .inl (wb w))
      (I := fun k (t : Int × List Bool) => t.1 = (k : Int) ∧ t.2 = (wb w).take k)
      (s0 := ((0 : Int), ([] : List Bool)))
      (step := fun (s17 : Int × (List Bool)) =>
       (
        if Ar.cmp .lss s17.1 (Ar.len l) = true then
         (idxL l s17.1).bind fun x20 =>
         (predicate_And 40000000 x x20).bind fun r21 =>
         (predicate_Empty 40000000 r21.1).bind fun r22 =>
         if Ar.cmp .neq (Ar.ar .add .i64 r21.2 r22.2) 0 = true then
          some (.inr (.inr s17.2))
         else
          if Ar.nt r22.1 = true then
           (ref27_Same 40000000 r21.1 x).bind fun r23 =>
           if Ar.nt r23 = true then
            some (.inr (.inr s17.2))
           else
            (appL s17.2 ([Ar.nt r22.1])).bind fun l25 =>
            some (.inl (Ar.ar .add .i64 s17.1 1, l25))
          else
           (appL s17.2 ([Ar.nt r22.1])).bind fun l27 =>
           some (.inl (Ar.ar .add .i64 s17.1 1, l27))
        else
         some (.inr (.inl s17.2))
        : Option ((Int × (List Bool)) ⊕ (((List Bool)) ⊕ ((List Bool))))))
      (fun k p u hp hk ⟨f1, f2⟩ => by
       obtain ⟨m, bw⟩ := u
       simp only at f1 f2
       subst f1; subst f2
       have hpw := hg.ws hp
       obtain ⟨r21, c1, c2⟩ := ws_and (N := 40000000) hg hll (by omega) hxw hpw (by decide)
       obtain ⟨b22, c3, c4⟩ := ws_empty (N := 40000000) hg hll (by omega) c2 (by decide)
       have hkw : k < w.length := by rw [hwl w hwm]; exact hk
       have hwk := List.getElem?_eq_getElem hkw
       have htk : (wb w).take (k + 1) = (wb w).take k ++ [decide (w[k] = 1)] := by
        rw [List.take_add_one]
        congr 1
        unfold wb
        rw [List.getElem?_map, hwk]; rfl
       have z1 : Ar.ar .add .i64 (0 : Int) 0 = 0 := rfl
       have z2 : Ar.cmp .neq (0 : Int) 0 = false := rfl
       have hlen : ((wb w).take k).length ≤ 1000 := by simp; omega
       simp only [idx_at, hp, Option.bind_some, c1, c3, z1, z2, Bool.false_eq_true, if_false]
       rw [if_pos (by simp only [cmp_lss, len_def, decide_eq_true_eq]; omega), inc_i64 hk (by omega)]
       by_cases hbit : w[k] = 1
       ·have er : r21 = x := c2.ext hxw fun j n _ _ => ⟨fun h => h.1, fun h => ⟨h, by rw [h, hwk, hbit]⟩⟩
        subst er
        have hb22 : b22 = false := by
         cases b22 with
         | false => rfl
         | true => exact absurd (c4.1 rfl) hfull
        subst hb22
        simp only [nt_def, Bool.not_false, if_true, hsame, Option.bind_some, Bool.not_true, Bool.false_eq_true, if_false]
        rw [app_ok (by simp; omega)]
        refine ⟨_, rfl, rfl, ?_⟩
        rw [htk, decide_eq_true hbit]
       ·have hb22 : b22 = true := c4.2 (c2.void fun j n _ _ ⟨g1, g2⟩ => hbit (by rw [g1, hwk] at g2; exact Option.some.inj g2))
        subst hb22
        simp only [nt_def, Bool.not_true, Bool.false_eq_true, if_false]
        rw [app_ok (by simp; omega)]
        refine ⟨_, rfl, rfl, ?_⟩
        rw [htk, decide_eq_false hbit])
      (fun u ⟨f1, f2⟩ => by
       obtain ⟨m, bw⟩ := u
       simp only at f1 f2
       subst f1; subst f2
       rw [if_neg (by simp only [cmp_lss, len_def, decide_eq_true_eq]; omega)]
       refine ⟨_, rfl, ?_⟩
       rw [List.take_of_length_le (by unfold wb; rw [List.length_map, hwl w hwm]; exact Nat.le_refl _)])
      ⟨rfl, rfl⟩ (by omega)
     subst k2
     have hno : wb w ∉ (W.take c).map wb := fun hmem => by
      obtain ⟨v, hv, e⟩ := List.mem_map.1 hmem
      have := wb_inj (hbts v (List.mem_of_mem_take hv)) (hbts w hwm) e
      subst this
      exact hnew hv
     have htake : W.take (c + 1) = W.take c ++ [w] := by rw [List.take_add_one, hw]; rfl
     have z1 : Ar.ar .add .i64 (Ar.ar .add .i64 (Ar.ar .add .i64 (0 : Int) 0) 0) 0 = 0 := rfl
     have z2 : Ar.cmp .neq (0 : Int) 0 = false := rfl
     have z3 : (Ar.or (Ar.or false (Ar.nt true)) false) = false := rfl
     simp only [idx_at, hx, Option.bind_some, a1, a3, a5, a7, z1, z2, z3, Bool.false_eq_true, if_false]
     rw [if_pos (by simp only [cmp_lss, len_def, decide_eq_true_eq]; omega), inc_i64 hc (by omega)]
     refine ⟨_, bind_of1 k1 (bind_of1 (no_word hno (by simp; omega) (fun v hv => by
      obtain ⟨u, hu, rfl⟩ := List.mem_map.1 hv
      unfold wb
      rw [List.length_map, hwl u (List.mem_of_mem_take hu)]; omega) (by decide)) (bind_of1 (app_ok (by simp; omega)) rfl)), ?_, rfl, ?_⟩
     ·rw [htake]; simp
     ·rw [htake]
      refine ⟨a8.len, fun j a ha => ?_⟩
      obtain ⟨g1, g2⟩ := a8.at' j a ha
      refine ⟨g1, fun n => (g2 n).trans ?_⟩
      simp)
    (fun t ⟨e1, e2, e3⟩ => by
     obtain ⟨words, q, all⟩ := t
     simp only at e1 e2 e3
     subst e1; subst e2
     rw [if_neg (by simp only [cmp_lss, len_def, decide_eq_true_eq]; omega)]
     refine ⟨_, rfl, all, rfl, ?_⟩
     rw [hol, List.take_length] at e3
     exact e3)
    ⟨rfl, rfl, hzw.len, fun j a ha => by
     obtain ⟨g1, g2⟩ := hzw.at' j a ha
     exact ⟨g1, fun n => (g2 n).trans (by simp)⟩⟩ (by omega)
   obtain ⟨p, rfl, hp⟩ := h2
   refine bind_of1 h1 ?_
   have hwhole : p = ⟨List.replicate T [⟨-1099511627776, 1099511627776⟩]⟩ := by
    refine pred_ext (by rw [hp.len]; simp) fun j a b ha hb => ?_
    have hjT : j < T := by rw [← hp.len]; exact (List.getElem?_eq_some_iff.1 ha).1
    obtain ⟨g1, g2⟩ := hp.at' j a ha
    have hbe : b = [⟨-1099511627776, 1099511627776⟩] := by
     obtain ⟨_, f2⟩ := List.getElem?_eq_some_iff.1 hb
     simp at f2; exact f2.symm
    subst hbe
    refine ord_ext g1 ⟨⟨by decide, by decide, by decide⟩, (fun y hy => by cases hy), trivial⟩ fun n => ?_
    rw [g2, inL_cons]
    simp only [inL_nil, or_false]
    exact ⟨fun h => h.1, fun h => ⟨h, hM.cov j n hjT h⟩⟩
   subst hwhole
   have hsm : Sm 256 ⟨List.replicate T [⟨-1099511627776, 1099511627776⟩]⟩ := fun x hx => by
    have := List.eq_of_mem_replicate hx
    subst this; simp
   refine bind_of1 (whole_eq (by omega)) (bind_of1 (same_refl (N := 40000000) hsm (by simp; omega) (by decide)) ?_)
   rw [if_pos rfl, aw]; rfl
end Go.Ab

