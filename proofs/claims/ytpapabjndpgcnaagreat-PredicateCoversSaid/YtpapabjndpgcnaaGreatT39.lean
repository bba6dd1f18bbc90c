/- GPL18 GPL19 -/
import Derived.Test.YtpapabjndpgcnaaGreatT38
import Derived.Test.YtpapabjndpgcnaaGreatT22
set_option linter.all false

namespace Go.Ab
open Classical
theorem ends_loop2 {N : Nat} {l : List GInterval} (hb : ∀ x ∈ l, Bnd x) (hl : l.length ≤ 100000) (hN : l.length < N) {acc : List Int} (ha : acc.length ≤ 1000000) : loopN
 (fun (s7 : Int × (List Int)) =>
  (
   if Ar.cmp .lss s7.1 (Ar.len l) = true then
    (idxL l s7.1).bind fun x10 =>
    (appL s7.2 ([x10.Low, Ar.ar .add .i64 x10.High 1])).bind fun l12 =>
    some (.inl (Ar.ar .add .i64 s7.1 1, l12))
   else
    some (.inr s7.2)
   : Option ((Int × (List Int)) ⊕ (((List Int))))))
 N (0, acc) = some (acc ++ ends l) := by
 obtain ⟨r, h1, h2⟩ := loop_inv (N := N) (l := l) (Q := fun (r : List Int) => r = acc ++ ends l)
  (I := fun i (t : Int × List Int) => t.1 = (i : Int) ∧ t.2 = acc ++ ends (l.take i))
  (s0 := ((0 : Int), acc))
  (step := fun (s7 : Int × (List Int)) =>
   (
    if Ar.cmp .lss s7.1 (Ar.len l) = true then
     (idxL l s7.1).bind fun x10 =>
     (appL s7.2 ([x10.Low, Ar.ar .add .i64 x10.High 1])).bind fun l12 =>
     some (.inl (Ar.ar .add .i64 s7.1 1, l12))
    else
     some (.inr s7.2)
    : Option ((Int × (List Int)) ⊕ (((List Int))))))
  (fun i x t hx hi ⟨e1, e2⟩ => by
   obtain ⟨j, ac⟩ := t
   simp only at e1 e2
   subst e1; subst e2
   have hxb := hb x (List.mem_of_getElem? hx)
   unfold Bnd at hxb
   have hln : (ends (l.take i)).length ≤ 200000 := by rw [ends_len, List.length_take]; omega
   simp only [cmp_lss, len_def, idx_at, hx, Option.bind_some, decide_eq_true_eq]
   rw [if_pos (by omega), inc_i64 hi (by omega), app_ok (by simp; omega), add_i64 (by omega) (by omega)]
   refine ⟨_, rfl, rfl, ?_⟩
   have e : l.take (i + 1) = l.take i ++ [x] := by rw [List.take_add_one, hx]; rfl
   rw [e]; simp [ends])
  (fun t ⟨e1, e2⟩ => by
   obtain ⟨j, ac⟩ := t
   simp only at e1 e2
   subst e1; subst e2
   simp only [cmp_lss, len_def, decide_eq_true_eq]
   rw [if_neg (by omega), List.take_length]
   exact ⟨_, rfl, rfl⟩) ⟨rfl, by simp [ends]⟩ hN
 rw [h1, h2]
def endsP (l : List GPredicate) (i : Nat) : List Int := l.flatMap fun p => ends (p.Sets.getD i [])
structure Gd (types k : Nat) (l : List GPredicate) : Prop where
 len : ∀ p ∈ l, p.Sets.length = types
 srt : ∀ p ∈ l, ∀ x ∈ p.Sets, Srt x
 sm : ∀ p ∈ l, Sm k p
theorem Gd.at {types k : Nat} {l : List GPredicate} (h : Gd types k l) {p : GPredicate} (hp : p ∈ l) {i : Nat} (hi : i < types) : p.Sets[i]? = some (p.Sets.getD i []) ∧ Srt (p.Sets.getD i []) ∧ (p.Sets.getD i []).length ≤ k := by
 have hl := h.len p hp
 have e : p.Sets[i]? = some (p.Sets.getD i []) := by
  rw [List.getD_eq_getElem?_getD, List.getElem?_eq_getElem (by omega)]; rfl
 exact ⟨e, h.srt p hp _ (List.mem_of_getElem? e), h.sm p hp _ (List.mem_of_getElem? e)⟩
theorem endsP_len {types k : Nat} {l : List GPredicate} (h : Gd types k l) {i : Nat} (hi : i < types) : ∀ j, (endsP (l.take j) i).length ≤ 2 * k * j
 | 0 => by simp [endsP]
 | j + 1 => by
  have ih := endsP_len h hi j
  rcases Nat.lt_or_ge j l.length with hj | hj
  ·have hx := List.getElem?_eq_getElem hj
   have e : l.take (j + 1) = l.take j ++ [l[j]] := by rw [List.take_add_one, hx]; rfl
   have := (h.at (List.getElem_mem hj) hi).2.2
   rw [e]
   unfold endsP at *
   rw [List.flatMap_append, List.length_append]
   simp only [List.flatMap_cons, List.flatMap_nil, List.append_nil, ends_len]
   have e2 : 2 * k * (j + 1) = 2 * k * j + 2 * k := Nat.mul_succ _ _
   omega
  ·rw [List.take_of_length_le (by omega)] at ih ⊢
   have e2 : 2 * k * (j + 1) = 2 * k * j + 2 * k := Nat.mul_succ _ _
   omega
theorem cuts_eq {N types k : Nat} {l : List GPredicate} (h : Gd types k l) {i : Nat} (hi : i < types) (hk : k ≤ 256) (hl : l.length ≤ 256) (hN : 1000 < N) :
 ∃ E, predicate_cuts N l (i : Int) = some E ∧ E.Pairwise (· < ·) ∧ (∀ m, m ∈ E ↔ m = -1099511627776 ∨ m = 1099511627777 ∨ m ∈ endsP l i) ∧ E.length ≤ 2 + 2 * k * l.length := by
 unfold predicate_cuts
 obtain ⟨r, h1, h2⟩ := loop_inv (N := N) (l := l) (Q := fun (r : List Int) => r = [-1099511627776, 1099511627777] ++ endsP l i)
  (I := fun j (t : Int × List Int) => t.1 = (j : Int) ∧ t.2 = [-1099511627776, 1099511627777] ++ endsP (l.take j) i)
  (s0 := ((0 : Int), ([(-1099511627776), 1099511627777] : List Int)))
  (step := fun (s2 : Int × (List Int)) =>
   (
    if Ar.cmp .lss s2.1 (Ar.len l) = true then
     (idxL l s2.1).bind fun x5 =>
     (idxL x5.Sets (i : Int)).bind fun x6 =>
     (loopN
      (fun (s7 : Int × (List Int)) =>
       (
        if Ar.cmp .lss s7.1 (Ar.len x6) = true then
         (idxL x6 s7.1).bind fun x10 =>
         (appL s7.2 ([x10.Low, Ar.ar .add .i64 x10.High 1])).bind fun l12 =>
         some (.inl (Ar.ar .add .i64 s7.1 1, l12))
        else
         some (.inr s7.2)
        : Option ((Int × (List Int)) ⊕ (((List Int))))))
      N (0, s2.2)).bind fun s9 =>
     some (.inl (Ar.ar .add .i64 s2.1 1, s9))
    else
     some (.inr s2.2)
    : Option ((Int × (List Int)) ⊕ (((List Int))))))
  (fun j x t hx hj ⟨e1, e2⟩ => by
   obtain ⟨m, acc⟩ := t
   simp only at e1 e2
   subst e1; subst e2
   obtain ⟨a1, a2, a3⟩ := h.at (List.mem_of_getElem? hx) hi
   have hlen := endsP_len h hi j
   have hkj : 2 * k * j ≤ 512 * 256 := Nat.mul_le_mul (by omega) (by omega)
   have e : l.take (j + 1) = l.take j ++ [x] := by rw [List.take_add_one, hx]; rfl
   simp only [cmp_lss, len_def, idx_at, hx, a1, Option.bind_some, decide_eq_true_eq]
   rw [if_pos (by omega), inc_i64 hj (by omega)]
   have hloop := ends_loop2 (N := N) (l := x.Sets.getD i []) (acc := [-1099511627776, 1099511627777] ++ endsP (l.take j) i) (fun y hy => a2.2.1 y hy) (by omega) (by omega) (by simp; omega)
   simp only [cmp_lss, len_def, decide_eq_true_eq] at hloop
   rw [hloop]
   refine ⟨_, rfl, rfl, ?_⟩
   rw [e]
   unfold endsP
   rw [List.flatMap_append]
   simp)
  (fun t ⟨e1, e2⟩ => by
   obtain ⟨m, acc⟩ := t
   simp only at e1 e2
   subst e1; subst e2
   simp only [cmp_lss, len_def, decide_eq_true_eq]
   rw [if_neg (by omega), List.take_length]
   exact ⟨_, rfl, rfl⟩) ⟨rfl, by simp [endsP]⟩ (by omega)
 rw [h1]
 subst h2
 have hlen := endsP_len h hi l.length
 rw [List.take_length] at hlen
 have hkl : 2 * k * l.length ≤ 512 * 256 := Nat.mul_le_mul (by omega) (by omega)
 generalize hD : ([-1099511627776, 1099511627777] ++ endsP l i : List Int) = D
 have hDl : D.length = 2 + (endsP l i).length := by rw [← hD]; simp; omega
 obtain ⟨S, hS⟩ : ∃ S, sortL D = some S := ⟨_, by unfold sortL; rw [if_pos (by omega)]⟩
 obtain ⟨hasc, hSl⟩ := asc_sortL hS
 have hC : compactL S = some (Lib.compact S) := by unfold compactL; rw [if_pos (by omega)]
 simp only [Option.bind_some]
 unfold slices_Sort_Lint_int slices_Compact_Lint_int
 rw [hS]
 simp only [Option.bind_some, hC]
 refine ⟨_, rfl, compact_asc hasc, fun m => ?_, ?_⟩
 ·rw [mem_compact, mem_sortL hS, ← hD]
  simp [or_assoc]
 ·have := cpt_len S
  omega
noncomputable def sg (l : List GPredicate) (i : Nat) (n : Int) : List Int := l.map fun p => if InL (p.Sets.getD i []) n then 1 else 0
theorem strL_eq (l : List Int) : strL l = ⟨(l.map fun n => UInt8.ofNat n.toNat).toArray⟩ := by
 have key : ∀ (l : List Int) (r : ByteArray), l.foldl (fun r n => r.push (UInt8.ofNat n.toNat)) r = ⟨r.data ++ (l.map fun n => UInt8.ofNat n.toNat).toArray⟩ := by
  intro l
  induction l with
  | nil => intro r; simp
  | cons n l ih =>
   intro r
   rw [List.foldl_cons, ih]
   congr 1
   simp [ByteArray.push]
 unfold strL
 rw [key]
 congr 1
 exact Array.empty_append
theorem strL_inj {l m : List Int} (hl : ∀ x ∈ l, x = 0 ∨ x = 1) (hm : ∀ x ∈ m, x = 0 ∨ x = 1) (h : strL l = strL m) : l = m := by
 rw [strL_eq, strL_eq] at h
 replace h := congrArg (fun b : ByteArray => b.data.toList) h
 simp only at h
 induction l generalizing m with
 | nil =>
  cases m with
  | nil => rfl
  | cons y m => simp at h
 | cons x l ih =>
  cases m with
  | nil => simp at h
  | cons y m =>
   simp only [List.map_cons, List.cons.injEq] at h
   have hx := hl x (by simp)
   have hy := hm y (by simp)
   have e : x = y := by
    rcases hx with rfl | rfl <;> rcases hy with rfl | rfl
    ·rfl
    ·exact absurd h.1 (by decide)
    ·exact absurd h.1 (by decide)
    ·rfl
   rw [e, ih (fun z hz => hl z (by simp [hz])) (fun z hz => hm z (by simp [hz])) h.2]
theorem sg_bits {l : List GPredicate} {i : Nat} {n : Int} : ∀ x ∈ sg l i n, x = 0 ∨ x = 1 := by
 intro x hx
 unfold sg at hx
 obtain ⟨p, _, rfl⟩ := List.mem_map.1 hx
 split
 ·exact .inr rfl
 ·exact .inl rfl
theorem sg_eq_iff {l : List GPredicate} {i j : Nat} {n m : Int} : sg l i n = sg l j m ↔ ∀ p ∈ l, InL (p.Sets.getD i []) n ↔ InL (p.Sets.getD j []) m := by
 unfold sg
 rw [List.map_inj_left]
 refine forall_congr' fun p => forall_congr' fun _ => ?_
 generalize p.Sets.getD i [] = a
 generalize p.Sets.getD j [] = b
 by_cases h1 : InL a n <;> by_cases h2 : InL b m <;> simp [h1, h2]
theorem sig_eq {N types k : Nat} {l : List GPredicate} (h : Gd types k l) {i : Nat} (hi : i < types) (hl : l.length ≤ 256) (hN : 1000 < N) (n : Int) : predicate_signature N l (i : Int) n = some (strL (sg l i n)) := by
 unfold predicate_signature
 have hmk : mkL (Ar.len l) (Ar.len l) (0 : Int) = some (List.replicate l.length 0) := by
  unfold mkL
  simp only [len_def]
  rw [if_pos (by omega)]
  simp
 rw [hmk]
 simp only [Option.bind_some]
 obtain ⟨r, h1, h2⟩ := loop_inv (N := N) (l := l) (Q := fun (r : List Int) => r = sg l i n)
  (I := fun j (t : Int × List Int) => t.1 = (j : Int) ∧ t.2 = sg (l.take j) i n ++ List.replicate (l.length - j) 0)
  (s0 := ((0 : Int), List.replicate l.length (0 : Int)))
  (step := fun (s3 : Int × (List Int)) =>
   (
    if Ar.cmp .lss s3.1 (Ar.len l) = true then
     (idxL l s3.1).bind fun x6 =>
     (idxL x6.Sets (i : Int)).bind fun x8 =>
     (interval_Contains N x8 n).bind fun r9 =>
     if r9.1 = true then
      (req (inR s3.2 s3.1)).bind fun _ =>
      (updL s3.2 s3.1 (fun x10 : Int => 1)).bind fun l11 =>
      some (.inl (Ar.ar .add .i64 s3.1 1, l11))
     else
      some (.inl (Ar.ar .add .i64 s3.1 1, s3.2))
    else
     some (.inr s3.2)
    : Option ((Int × (List Int)) ⊕ (((List Int))))))
  (fun j x t hx hj ⟨e1, e2⟩ => by
   obtain ⟨m, acc⟩ := t
   simp only at e1 e2
   subst e1; subst e2
   obtain ⟨a1, a2, a3⟩ := h.at (List.mem_of_getElem? hx) hi
   have e : l.take (j + 1) = l.take j ++ [x] := by rw [List.take_add_one, hx]; rfl
   obtain ⟨b, b1, b2⟩ := has_eq (N := N) (n := n) a2 (by omega)
   have hc : interval_Contains N (x.Sets.getD i []) n = some (b, 0) := by
    unfold interval_Contains
    simp only [icheck_eq (show 256 < N by omega), zero_ck a2, Option.bind_some, cmp_neq, decide_true, Bool.not_true, Bool.false_eq_true, if_false, b1]
   have hsl : (sg (l.take j) i n).length = j := by unfold sg; rw [List.length_map, List.length_take]; omega
   have hrep : List.replicate (l.length - j) (0 : Int) = 0 :: List.replicate (l.length - (j + 1)) 0 := by
    rw [show l.length - j = (l.length - (j + 1)) + 1 by omega]; rfl
   have hsg : sg (l.take (j + 1)) i n = sg (l.take j) i n ++ [if InL (x.Sets.getD i []) n then 1 else 0] := by
    rw [e]; unfold sg; rw [List.map_append]; rfl
   simp only [cmp_lss, len_def, idx_at, hx, a1, hc, Option.bind_some, decide_eq_true_eq]
   rw [if_pos (by omega), inc_i64 hj (by omega)]
   cases b with
   | true =>
    have hin := b2.1 rfl
    have hreq : inR (sg (l.take j) i n ++ List.replicate (l.length - j) (0 : Int)) (j : Int) = true := by
     unfold inR; simp [hsl]; omega
    simp only [hreq, req, if_true, Option.bind_some]
    have hu : updL (sg (l.take j) i n ++ List.replicate (l.length - j) (0 : Int)) (j : Int) (fun _ => 1) = some (sg (l.take j) i n ++ [1] ++ List.replicate (l.length - (j + 1)) 0) := by
     unfold updL
     rw [idx_at, hrep]
     have : (sg (l.take j) i n ++ 0 :: List.replicate (l.length - (j + 1)) (0 : Int))[j]? = some 0 := by
      rw [List.getElem?_append_right (by omega), hsl]; simp
     rw [this]
     simp only [Option.map_some, Int.toNat_natCast]
     congr 1
     rw [List.set_append_right _ _ (by omega), hsl]
     simp
    rw [hu]
    refine ⟨_, rfl, rfl, ?_⟩
    rw [hsg, if_pos hin]
   | false =>
    have hin : ¬ InL (x.Sets.getD i []) n := fun h => by cases b2.2 h
    simp only [Bool.false_eq_true, if_false]
    refine ⟨_, rfl, rfl, ?_⟩
    simp only
    rw [hsg, if_neg hin, hrep]; simp)
  (fun t ⟨e1, e2⟩ => by
   obtain ⟨m, acc⟩ := t
   simp only at e1 e2
   subst e1; subst e2
   simp only [cmp_lss, len_def, decide_eq_true_eq]
   rw [if_neg (by omega), List.take_length]
   exact ⟨_, rfl, by simp⟩) ⟨rfl, by simp [sg]⟩ (by omega)
 rw [h1]
 subst h2
 rfl
end Go.Ab

namespace Go.Ab
open Classical
def Dn (i : Nat) (b : Int) (j : Nat) (n : Int) : Prop := (-1099511627776 ≤ n ∧ n ≤ 1099511627776) ∧ (j < i ∨ (j = i ∧ n < b))
def Lx (j : Nat) (n : Int) (j' : Nat) (n' : Int) : Prop := j < j' ∨ (j = j' ∧ n < n')
def Asc (a : List GInterval) : Prop := (∀ x ∈ a, Bnd x) ∧ a.Pairwise fun x y => x.High < y.Low
structure Cls0 (types : Nat) (l : List GPredicate) (B i k : Nat) (b : Int) (out : List GPredicate) (W : List (List Int)) : Prop where
 len : out.length = W.length
 nodup : W.Nodup
 bits : ∀ w ∈ W, ∃ j n, w = sg l j n
 sets : ∀ p ∈ out, p.Sets.length = types
 cls : ∀ (c : Nat) p w (j : Nat) a, out[c]? = some p → W[c]? = some w → p.Sets[j]? = some a → Asc a ∧ ∀ n, InL a n ↔ Dn i b j n ∧ sg l j n = w
 cnt : ∀ (c : Nat) p (j : Nat) a, out[c]? = some p → p.Sets[j]? = some a → (j ≠ i → a.length ≤ B) ∧ (j = i → a.length ≤ k)
structure Cls (types : Nat) (l : List GPredicate) (B i k : Nat) (b : Int) (out : List GPredicate) (W : List (List Int)) : Prop extends Cls0 types l B i k b out W where
 occ : ∀ w ∈ W, ∃ j n, j < types ∧ Dn i b j n ∧ sg l j n = w
 cov : ∀ j n, j < types → Dn i b j n → sg l j n ∈ W
 ord : ∀ (c c' : Nat) w w', c < c' → W[c]? = some w → W[c']? = some w' → ∃ j n, j < types ∧ Dn i b j n ∧ sg l j n = w ∧ ∀ j' n', j' < types → Dn i b j' n' → sg l j' n' = w' → Lx j n j' n'
theorem Asc.nil : Asc [] := ⟨fun x h => (by cases h), .nil⟩
theorem Asc.empty {a : List GInterval} (h : Asc a) (hn : ∀ n, ¬ InL a n) : a = [] := by
 cases a with
 | nil => rfl
 | cons x a => exact absurd (inL_cons.2 (.inl ⟨Int.le_refl _, (h.1 x (by simp)).2.1⟩)) (hn x.Low)
theorem Asc.snoc {a : List GInterval} {x : GInterval} (h : Asc a) (hx : Bnd x) (hl : ∀ n, InL a n → n < x.Low) : Asc (a ++ [x]) := by
 refine ⟨fun y hy => ?_, List.pairwise_append.2 ⟨h.2, by simp, fun y hy z hz => ?_⟩⟩
 ·rcases List.mem_append.1 hy with hy | hy
  ·exact h.1 y hy
  ·simp at hy; subst hy; exact hx
 ·simp at hz; subst hz
  exact hl _ ⟨y, hy, (h.1 y hy).2.1, Int.le_refl _⟩
section
variable {types B i k : Nat} {l : List GPredicate} {a b : Int} {out : List GPredicate} {W : List (List Int)}
theorem Dn.mono {j : Nat} {n : Int} (h : Dn i a j n) (hab : a ≤ b) : Dn i b j n := by unfold Dn at *; omega
theorem Dn.new {j : Nat} {n : Int} (h : Dn i b j n) : Dn i a j n ∨ (j = i ∧ a ≤ n ∧ n < b) := by unfold Dn at *; omega
theorem Dn.lx {j j' : Nat} {n n' : Int} (h : Dn i a j n) (hj : j' = i) (hn : a ≤ n') : Lx j n j' n' := by unfold Dn Lx at *; omega
theorem Cls0.fresh (h : Cls0 types l B i k a out W) (hw : sg l i a ∉ W) (hcov : ∀ j n, j < types → Dn i a j n → sg l j n ∈ W) : Cls0 types l B i k a (out ++ [⟨List.replicate types []⟩]) (W ++ [sg l i a]) := by
 have at_ : ∀ (c : Nat) p, (out ++ [(⟨List.replicate types []⟩ : GPredicate)])[c]? = some p → (out[c]? = some p ∧ c < out.length) ∨ (c = out.length ∧ p = ⟨List.replicate types []⟩) := fun c p hp => by
  rcases Nat.lt_or_ge c out.length with hc | hc
  ·rw [List.getElem?_append_left hc] at hp; exact .inl ⟨hp, hc⟩
  ·rw [List.getElem?_append_right hc] at hp
   have : c - out.length = 0 := by
    have := (List.getElem?_eq_some_iff.1 hp).1; simp at this; omega
   rw [this] at hp
   simp at hp
   exact .inr ⟨by omega, hp.symm⟩
 have rep : ∀ (j : Nat) s, (List.replicate types ([] : List GInterval))[j]? = some s → s = [] ∧ j < types := fun j s hs => by
  obtain ⟨h1, h2⟩ := List.getElem?_eq_some_iff.1 hs
  simp at h1 h2; exact ⟨h2, h1⟩
 refine ⟨by simp [h.len], ?_, fun w hx => ?_, fun p hp => ?_, fun c p w j s hp hwc hs => ?_, fun c p j s hp hs => ?_⟩
 ·exact List.nodup_append.2 ⟨h.nodup, by simp, fun x hx y hy e => by simp at hy; subst hy; subst e; exact hw hx⟩
 ·rcases List.mem_append.1 hx with hx | hx
  ·exact h.bits w hx
  ·simp at hx; exact ⟨i, a, hx⟩
 ·rcases List.mem_append.1 hp with hp | hp
  ·exact h.sets p hp
  ·simp at hp; subst hp; simp
 ·rcases at_ c p hp with ⟨hp, hc⟩ | ⟨rfl, rfl⟩
  ·rw [List.getElem?_append_left (by rw [← h.len]; exact hc)] at hwc
   exact h.cls c p w j s hp hwc hs
  ·rw [h.len, List.getElem?_append_right (Nat.le_refl _)] at hwc
   simp at hwc
   subst hwc
   obtain ⟨rfl, hj⟩ := rep j s hs
   exact ⟨.nil, fun n => ⟨fun h => absurd h inL_nil, fun ⟨h1, h2⟩ => absurd (h2 ▸ hcov j n hj h1) hw⟩⟩
 ·rcases at_ c p hp with ⟨hp, hc⟩ | ⟨rfl, rfl⟩
  ·exact h.cnt c p j s hp hs
  ·obtain ⟨rfl, hj⟩ := rep j s hs
   exact ⟨fun _ => Nat.zero_le _, fun _ => Nat.zero_le _⟩
theorem Cls0.put (h : Cls0 types l B i k a out W) (hb : ∀ n, a ≤ n → n < b → sg l i n = sg l i a) (ha : -1099511627776 ≤ a) (hab : a < b) (hbb : b ≤ 1099511627777) (hkB : True)
 {c : Nat} {p : GPredicate} {s : List GInterval} (hc : out[c]? = some p) (hw : W[c]? = some (sg l i a)) (hs : p.Sets[i]? = some s) :
 Cls0 types l B i (k + 1) b (out.set c ⟨p.Sets.set i (s ++ [⟨a, b - 1⟩])⟩) W := by
 have hcl : c < out.length := (List.getElem?_eq_some_iff.1 hc).1
 have hil : i < p.Sets.length := (List.getElem?_eq_some_iff.1 hs).1
 have at_ : ∀ (c' : Nat) q, (out.set c ⟨p.Sets.set i (s ++ [⟨a, b - 1⟩])⟩)[c']? = some q → (c' ≠ c ∧ out[c']? = some q) ∨ (c' = c ∧ q = ⟨p.Sets.set i (s ++ [⟨a, b - 1⟩])⟩) := fun c' q hq => by
  rw [List.getElem?_set] at hq
  split at hq
  ·rename_i e; subst e; cases hq; exact .inr ⟨rfl, rfl⟩
  ·rename_i e; exact .inl ⟨fun x => e x.symm, hq⟩
 have at2 : ∀ (j : Nat) u, (p.Sets.set i (s ++ [⟨a, b - 1⟩]))[j]? = some u → (j ≠ i ∧ p.Sets[j]? = some u) ∨ (j = i ∧ u = s ++ [⟨a, b - 1⟩]) := fun j u hu => by
  rw [List.getElem?_set] at hu
  split at hu
  ·rename_i e; subst e; cases hu; exact .inr ⟨rfl, rfl⟩
  ·rename_i e; exact .inl ⟨fun x => e x.symm, hu⟩
 have keep : ∀ (j : Nat) (w : List Int), (w ≠ sg l i a ∨ j ≠ i) → ∀ n, (Dn i a j n ∧ sg l j n = w) ↔ (Dn i b j n ∧ sg l j n = w) := fun j w hne n => by
  constructor
  ·rintro ⟨h1, h2⟩; exact ⟨h1.mono (by omega), h2⟩
  ·rintro ⟨h1, h2⟩
   rcases h1.new (a := a) with h3 | ⟨rfl, h3, h4⟩
   ·exact ⟨h3, h2⟩
   ·exfalso
    rcases hne with hne | hne
    ·exact hne (by rw [← h2, hb n h3 h4])
    ·exact hne rfl
 refine ⟨by rw [List.length_set]; exact h.len, h.nodup, h.bits, fun q hq => ?_, fun c' q w j u hq hwc hu => ?_, fun c' q j u hq hu => ?_⟩
 ·obtain ⟨c', hq⟩ := List.getElem?_of_mem hq
  rcases at_ c' q hq with ⟨_, hq⟩ | ⟨_, rfl⟩
  ·exact h.sets q (List.mem_of_getElem? hq)
  ·simp only [List.length_set]; exact h.sets p (List.mem_of_getElem? hc)
 ·rcases at_ c' q hq with ⟨hne, hq⟩ | ⟨rfl, rfl⟩
  ·obtain ⟨h1, h2⟩ := h.cls c' q w j u hq hwc hu
   have hww : w ≠ sg l i a := fun e => by
    subst e
    obtain ⟨e1, e2⟩ := List.getElem?_eq_some_iff.1 hwc
    obtain ⟨e3, e4⟩ := List.getElem?_eq_some_iff.1 hw
    exact hne ((List.getElem_inj h.nodup).1 (e2.trans e4.symm))
   exact ⟨h1, fun n => (h2 n).trans (keep j w (.inl hww) n)⟩
  ·rw [hw] at hwc; cases hwc
   rcases at2 j u hu with ⟨hne, hu⟩ | ⟨rfl, rfl⟩
   ·obtain ⟨h1, h2⟩ := h.cls c' p _ j u hc hw hu
    exact ⟨h1, fun n => (h2 n).trans (keep j _ (.inr hne) n)⟩
   ·obtain ⟨h1, h2⟩ := h.cls c' p _ j s hc hw hs
    refine ⟨h1.snoc ⟨ha, by simp only; omega, by simp only; omega⟩ fun n hn => ?_, fun n => ?_⟩
    ·have := ((h2 n).1 hn).1
     unfold Dn at this
     simp only; omega
    ·rw [inL_app, h2, inL_cons]
     simp only [inL_nil, or_false]
     constructor
     ·rintro (⟨h3, h4⟩ | ⟨h3, h4⟩)
      ·exact ⟨h3.mono (by omega), h4⟩
      ·exact ⟨by unfold Dn; omega, hb n h3 (by omega)⟩
     ·rintro ⟨h3, h4⟩
      rcases h3.new (a := a) with h5 | ⟨_, h5, h6⟩
      ·exact .inl ⟨h5, h4⟩
      ·exact .inr ⟨h5, by omega⟩
 ·rcases at_ c' q hq with ⟨hne, hq⟩ | ⟨rfl, rfl⟩
  ·obtain ⟨h1, h2⟩ := h.cnt c' q j u hq hu
   exact ⟨h1, fun e => by have := h2 e; omega⟩
  ·rcases at2 j u hu with ⟨hne, hu⟩ | ⟨rfl, rfl⟩
   ·obtain ⟨h1, h2⟩ := h.cnt c' p j u hc hu
    exact ⟨h1, fun e => absurd e hne⟩
   ·obtain ⟨h1, h2⟩ := h.cnt c' p j s hc hs
    exact ⟨fun e => absurd rfl e, fun _ => by have := h2 rfl; simp; omega⟩
theorem Cls.step (h : Cls types l B i k a out W) (hi : i < types) (hb : ∀ n, a ≤ n → n < b → sg l i n = sg l i a) (ha : -1099511627776 ≤ a) (hab : a < b) (hbb : b ≤ 1099511627777) {out' : List GPredicate} {W' : List (List Int)}
 (h0 : Cls0 types l B i (k + 1) b out' W') (hW : (W' = W ∧ sg l i a ∈ W) ∨ (W' = W ++ [sg l i a] ∧ sg l i a ∉ W)) : Cls types l B i (k + 1) b out' W' := by
 have hda : Dn i b i a := by unfold Dn; omega
 refine ⟨h0, fun w hw => ?_, fun j n hj hn => ?_, fun c c' w w' hcc hw hw' => ?_⟩
 ·rcases hW with ⟨rfl, _⟩ | ⟨rfl, _⟩
  ·obtain ⟨j, n, h1, h2, h3⟩ := h.occ w hw
   exact ⟨j, n, h1, h2.mono (by omega), h3⟩
  ·rcases List.mem_append.1 hw with hw | hw
   ·obtain ⟨j, n, h1, h2, h3⟩ := h.occ w hw
    exact ⟨j, n, h1, h2.mono (by omega), h3⟩
   ·simp at hw; subst hw; exact ⟨i, a, hi, hda, rfl⟩
 ·rcases hn.new (a := a) with h1 | ⟨rfl, h1, h2⟩
  ·have := h.cov j n hj h1
   rcases hW with ⟨rfl, _⟩ | ⟨rfl, _⟩
   ·exact this
   ·exact List.mem_append_left _ this
  ·rw [hb n h1 h2]
   rcases hW with ⟨rfl, h3⟩ | ⟨rfl, _⟩
   ·exact h3
   ·simp
 ·have old : W[c]? = some w → W[c']? = some w' → ∃ j n, j < types ∧ Dn i b j n ∧ sg l j n = w ∧ ∀ j' n', j' < types → Dn i b j' n' → sg l j' n' = w' → Lx j n j' n' := fun hw hw' => by
   obtain ⟨j, n, h1, h2, h3, h4⟩ := h.ord c c' w w' hcc hw hw'
   refine ⟨j, n, h1, h2.mono (by omega), h3, fun j' n' g1 g2 g3 => ?_⟩
   rcases g2.new (a := a) with g4 | ⟨rfl, g4, _⟩
   ·exact h4 j' n' g1 g4 g3
   ·exact h2.lx rfl g4
  rcases hW with ⟨rfl, _⟩ | ⟨rfl, hnew⟩
  ·exact old hw hw'
  ·have hcl' := (List.getElem?_eq_some_iff.1 hw').1
   simp only [List.length_append, List.length_singleton] at hcl'
   have hcl : c < W.length := by omega
   rw [List.getElem?_append_left hcl] at hw
   rcases Nat.lt_or_ge c' W.length with hlt | hge
   ·rw [List.getElem?_append_left hlt] at hw'
    exact old hw hw'
   ·rw [List.getElem?_append_right hge, show c' - W.length = 0 by omega] at hw'
    simp at hw'
    subst hw'
    obtain ⟨j, n, h1, h2, h3⟩ := h.occ w (List.mem_of_getElem? hw)
    refine ⟨j, n, h1, h2.mono (by omega), h3, fun j' n' g1 g2 g3 => ?_⟩
    rcases g2.new (a := a) with g4 | ⟨rfl, g4, _⟩
    ·exact absurd (g3 ▸ h.cov j' n' g1 g4) hnew
    ·exact h2.lx rfl g4
theorem Cls.next (h : Cls types l B i k 1099511627777 out W) (hk : k ≤ B) : Cls types l B (i + 1) 0 (-1099511627776) out W := by
 have e : ∀ j n, Dn i 1099511627777 j n ↔ Dn (i + 1) (-1099511627776) j n := fun j n => by unfold Dn; omega
 refine ⟨⟨h.len, h.nodup, h.bits, h.sets, fun c p w j s hp hw hs => ?_, fun c p j s hp hs => ?_⟩, fun w hw => ?_, fun j n hj hn => h.cov j n hj ((e j n).2 hn), fun c c' w w' hcc hw hw' => ?_⟩
 ·obtain ⟨h1, h2⟩ := h.cls c p w j s hp hw hs
  exact ⟨h1, fun n => by rw [h2, e]⟩
 ·obtain ⟨h1, h2⟩ := h.cnt c p j s hp hs
  refine ⟨fun _ => ?_, fun hj => ?_⟩
  ·by_cases hj : j = i
   ·have := h2 hj; omega
   ·exact h1 hj
  ·have hcl : c < W.length := by rw [← h.len]; exact (List.getElem?_eq_some_iff.1 hp).1
   obtain ⟨h3, h4⟩ := h.cls c p _ j s hp (List.getElem?_eq_getElem hcl) hs
   have : s = [] := h3.empty fun n hn => by
    have := ((h4 n).1 hn).1
    unfold Dn at this; omega
   rw [this]; exact Nat.zero_le _
 ·obtain ⟨j, n, h1, h2, h3⟩ := h.occ w hw
  exact ⟨j, n, h1, (e j n).1 h2, h3⟩
 ·obtain ⟨j, n, h1, h2, h3, h4⟩ := h.ord c c' w w' hcc hw hw'
  exact ⟨j, n, h1, (e j n).1 h2, h3, fun j' n' g1 g2 g3 => h4 j' n' g1 ((e j' n').2 g2) g3⟩
theorem Cls.start : Cls types l B 0 0 (-1099511627776) [] [] := by
 have e : ∀ j n, ¬ Dn 0 (-1099511627776) j n := fun j n => by unfold Dn; omega
 exact ⟨⟨rfl, .nil, fun w h => (by cases h), fun p h => (by cases h), fun c p w j s h => (by simp at h), fun c p j s h => (by simp at h)⟩, fun w h => (by cases h), fun j n _ h => absurd h (e j n), fun c c' w w' _ h => by simp at h⟩
end
def mapW (k : Nat) : List (List Int) → List (ByteArray × Int)
 | [] => []
 | w :: W => (strL w, (k : Int)) :: mapW (k + 1) W
theorem mapW_snoc : ∀ {W : List (List Int)} {k : Nat} {w : List Int}, mapW k (W ++ [w]) = mapW k W ++ [(strL w, ((k + W.length : Nat) : Int))]
 | [], k, w => by simp [mapW]
 | v :: W, k, w => by
  simp only [List.cons_append, mapW, mapW_snoc, List.length_cons]
  rw [show k + 1 + W.length = k + (W.length + 1) by omega]
def Bts (w : List Int) : Prop := ∀ x ∈ w, x = 0 ∨ x = 1
theorem mapW_find {w : List Int} (hw : Bts w) : ∀ {W : List (List Int)} {k c : Nat}, (∀ v ∈ W, Bts v) → W.Nodup → W[c]? = some w → (mapW k W).find? (fun p => decide (p.1 = strL w)) = some (strL w, ((k + c : Nat) : Int))
 | [], k, c, _, _, h => by simp at h
 | v :: W, k, c, hb, hn, h => by
  unfold mapW
  rw [List.find?_cons]
  cases c with
  | zero =>
   simp at h; subst h
   simp
  | succ c =>
   simp only [List.getElem?_cons_succ] at h
   have hne : strL v ≠ strL w := fun e => by
    have := strL_inj (hb v (by simp)) hw e
    subst this
    exact (List.nodup_cons.1 hn).1 (List.mem_of_getElem? h)
   simp only [hne, decide_false]
   rw [mapW_find hw (fun u hu => hb u (by simp [hu])) (List.nodup_cons.1 hn).2 h]
   rw [show k + 1 + c = k + (c + 1) by omega]
theorem mapW_none {w : List Int} (hw : Bts w) : ∀ {W : List (List Int)} {k : Nat}, (∀ v ∈ W, Bts v) → w ∉ W → ∀ p ∈ mapW k W, p.1 ≠ strL w
 | [], k, _, _ => fun p h => by cases h
 | v :: W, k, hb, hn => fun p hp => by
  unfold mapW at hp
  rcases List.mem_cons.1 hp with rfl | hp
  ·intro e
   exact hn (by rw [strL_inj (hb v (by simp)) hw e]; simp)
  ·exact mapW_none hw (fun u hu => hb u (by simp [hu])) (fun h => hn (by simp [h])) p hp
theorem getM_at {W : List (List Int)} {w : List Int} {c : Nat} (hw : Bts w) (hb : ∀ v ∈ W, Bts v) (hn : W.Nodup) (h : W[c]? = some w) : getM (mapW 0 W) (strL w) (0 : Int) = some ((c : Int), true) := by
 unfold getM
 rw [mapW_find hw hb hn h]
 simp
theorem getM_no {W : List (List Int)} {w : List Int} (hw : Bts w) (hb : ∀ v ∈ W, Bts v) (h : w ∉ W) : getM (mapW 0 W) (strL w) (0 : Int) = some (0, false) := by
 unfold getM
 have : (mapW 0 W).find? (fun p => decide (p.1 = strL w)) = none := List.find?_eq_none.2 fun p hp => by simpa using mapW_none hw hb h p hp
 rw [this]
theorem setM_no {W : List (List Int)} {w : List Int} (hw : Bts w) (hb : ∀ v ∈ W, Bts v) (h : w ∉ W) : setM (mapW 0 W) (strL w) (W.length : Int) = some (mapW 0 (W ++ [w])) := by
 unfold setM
 have : (mapW 0 W).any (fun p => decide (p.1 = strL w)) = false := by
  rw [List.any_eq_false]
  intro p hp
  simpa using mapW_none hw hb h p hp
 rw [this, mapW_snoc]
 simp
end Go.Ab

