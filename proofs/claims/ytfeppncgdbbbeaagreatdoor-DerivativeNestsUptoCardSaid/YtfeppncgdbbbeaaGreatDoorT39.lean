/- GNE1 GNE2 -/
import Derived.Test.YtfeppncgdbbbeaaGreatDoorT38
set_option linter.all false

namespace Go.Ab
def EqE (a b : GEdge) : Prop := (a.Var = b.Var ∧ a.Typ = b.Typ) ∧ a.Cond = b.Cond ∧ a.Opens = b.Opens ∧ a.Closes = b.Closes ∧ a.Checks = b.Checks ∧ a.Limits = b.Limits ∧ a.Inside = b.Inside
noncomputable instance (a b : GEdge) : Decidable (EqE a b) := Classical.propDecidable _
structure PK (y : Pr) : Prop where
 ok : PairOk 16777216 16777216 y
 sz : Esz y.1 1000
end Go.Ab

namespace Go.Ab
def mx0 (l : List Nat) : Nat := l.foldr max 0
def uc (op : Int) (l : List Nat) : Nat := if op = 0 then 1 else if op = 2 ∨ op = 3 then l.sum else if op = 4 ∨ op = 8 then 2 * mx0 l else mx0 l
mutual
def U : GPattern → Nat
 | ⟨op, args, _, _, _, _, _⟩ => uc op (Us args)
def Us : List GPattern → List Nat
 | [] => []
 | a :: l => U a :: Us l
end
theorem Us_map : ∀ l : List GPattern, Us l = l.map U
 | [] => rfl
 | a :: l => by simp [Us, Us_map l]
theorem U_eq (x : GPattern) : U x = uc x.Op (x.Args.map U) := by cases x; simp only [U, Us_map]
theorem U_nd (op : Int) (l : List GPattern) : U (nd op l) = uc op (l.map U) := by rw [U_eq]; rfl
theorem uc1 (l : List Nat) : uc 1 l = mx0 l := rfl
theorem uc3 (l : List Nat) : uc 3 l = l.sum := rfl
theorem uc4 (l : List Nat) : uc 4 l = 2 * mx0 l := rfl
theorem uc8 (l : List Nat) : uc 8 l = 2 * mx0 l := rfl
theorem mx0_nil : mx0 [] = 0 := rfl
theorem mx0_mem {l : List Nat} {a : Nat} (h : a ∈ l) : a ≤ mx0 l := by
 induction l with
 | nil => simp at h
 | cons b l ih =>
  simp only [mx0, List.foldr_cons]
  rcases List.mem_cons.1 h with rfl | h
  ·omega
  have := ih h; simp only [mx0] at this; omega
theorem mx0_cons (a : Nat) (l : List Nat) : mx0 (a :: l) = max a (mx0 l) := rfl
theorem mx0_le {l : List Nat} {m : Nat} (h : ∀ a ∈ l, a ≤ m) : mx0 l ≤ m := by
 induction l with
 | nil => simp [mx0]
 | cons b l ih =>
  have := ih fun a ha => h a (by simp [ha])
  have := h b (by simp)
  rw [mx0_cons]; omega
theorem mem_sum {l : List Nat} {a : Nat} (h : a ∈ l) : a ≤ l.sum := by
 induction l with
 | nil => simp at h
 | cons b l ih =>
  simp only [List.sum_cons]
  rcases List.mem_cons.1 h with rfl | h
  ·omega
  have := ih h; omega
theorem sum_range_le : ∀ (l : List GPattern) (F : Nat → Nat), (∀ i (h : i < l.length), F i ≤ U l[i]) → ((List.range l.length).map F).sum ≤ (l.map U).sum
 | [], F, _ => by simp
 | a :: l, F, h => by
  have := sum_range_le l (fun i => F (i + 1)) fun i hi => by have := h (i + 1) (by simpa using hi); simpa using this
  have h0 := h 0 (by simp)
  simp only [List.length_cons, List.range_succ_eq_map, List.map_cons, List.map_map, List.sum_cons]
  simp only [List.getElem_cons_zero] at h0
  have e : (List.map (F ∘ Nat.succ) (List.range l.length)).sum = (List.map (fun i => F (i + 1)) (List.range l.length)).sum := rfl
  omega
theorem flatMap_len_le {α β : Type} {f : α → List β} {k : Nat} : ∀ {l : List α}, (∀ x ∈ l, (f x).length ≤ k) → (l.flatMap f).length ≤ k * l.length
 | [], _ => by simp
 | x :: l, h => by
  have := flatMap_len_le (f := f) (l := l) fun y hy => h y (by simp [hy])
  have := h x (by simp)
  simp only [List.flatMap_cons, List.length_append, List.length_cons, Nat.mul_add]
  omega
theorem rep_len (a : GPattern) (y : Pr) : (rep a y).length ≤ 2 := by
 unfold rep
 split
 ·simp
 split <;> simp
theorem headD_len {l : List GPattern} (h : ∀ a ∈ l, (raw a).length ≤ U a) : ((l.map raw).headD []).length ≤ mx0 (l.map U) := by
 cases l with
 | nil => simp
 | cons a l => have := h a (by simp); simp only [List.map_cons, List.headD_cons, mx0_cons]; omega
theorem raw_len : ∀ (d : Nat) (x : GPattern), x.dep ≤ d → (raw x).length ≤ U x := by
 intro d
 induction d with
 | zero => intro x h; rw [GPattern.dep_eq] at h; omega
 | succ d ih =>
  intro x hd
  have hrec : ∀ a ∈ x.Args, (raw a).length ≤ U a := fun a ha => ih a (by have := dep_mem ha; omega)
  have hhd := headD_len hrec
  rw [raw_eq, U_eq]
  unfold comb uc
  by_cases h0 : x.Op = 0
  ·rw [if_pos h0, if_pos h0]; simp
  rw [if_neg h0, if_neg h0]
  by_cases h1 : x.Op = 1
  ·rw [if_pos h1, if_neg (show ¬ (x.Op = 2 ∨ x.Op = 3) by omega), if_neg (show ¬ (x.Op = 4 ∨ x.Op = 8) by omega), List.length_map]; exact hhd
  rw [if_neg h1]
  by_cases h2 : x.Op = 2
  ·rw [if_pos h2, if_pos (.inl h2), List.length_flatMap]
   exact sum_range_le _ _ fun i hi => by rw [getD_map_at hi]; exact hrec _ (List.getElem_mem hi)
  rw [if_neg h2]
  by_cases h3 : x.Op = 3
  ·rw [if_pos h3, if_pos (.inr h3), List.length_flatMap]
   exact sum_range_le _ _ fun i hi => by rw [getD_map_at hi, List.length_map]; exact hrec _ (List.getElem_mem hi)
  rw [if_neg h3, if_neg (show ¬ (x.Op = 2 ∨ x.Op = 3) by omega)]
  by_cases h4 : x.Op = 4
  ·rw [if_pos h4, if_pos (.inl h4)]
   have := flatMap_len_le (f := rep x) (k := 2) (l := (x.Args.map raw).headD []) fun y _ => rep_len x y
   omega
  rw [if_neg h4]
  by_cases h8 : x.Op = 8
  ·rw [if_pos h8, if_pos (.inr h8)]
   have := flatMap_len_le (f := rep (nd 4 (x.Args.drop 1))) (k := 2) (l := (x.Args.map raw).headD []) fun y _ => rep_len _ y
   omega
  rw [if_neg h8, if_neg (show ¬ (x.Op = 4 ∨ x.Op = 8) by omega), List.length_map]; exact hhd
theorem U_listP1 (l : List GPattern) : U (listP 1 l) = mx0 (l.map U) := by
 match l with
 | [] => rw [show listP 1 [] = nd 1 [] from rfl, U_nd, uc1]
 | [x] => show U x = max (U x) 0; omega
 | x :: y :: l => rw [show listP 1 (x :: y :: l) = nd 1 (x :: y :: l) from rfl, U_nd, uc1]
theorem U_listP3 (l : List GPattern) : U (listP 3 l) = (l.map U).sum := by
 match l with
 | [] => rw [show listP 3 [] = nd 3 [] from rfl, U_nd, uc3]
 | [x] => simp [listP]
 | x :: y :: l => rw [show listP 3 (x :: y :: l) = nd 3 (x :: y :: l) from rfl, U_nd, uc3]
theorem sum_take (l : List Nat) (i : Nat) : (l.take i).sum + (l.drop i).sum = l.sum := by rw [← List.sum_append, List.take_append_drop]
theorem sum_set : ∀ (l : List Nat) (i : Nat) (hi : i < l.length) (v : Nat), (l.set i v).sum + l[i] = l.sum + v
 | a :: l, 0, _, v => by simp only [List.set_cons_zero, List.sum_cons, List.getElem_cons_zero]; omega
 | a :: l, i + 1, hi, v => by
  have := sum_set l i (by simpa using hi) v
  simp only [List.set_cons_succ, List.sum_cons, List.getElem_cons_succ]; omega
theorem raw_U : ∀ (d : Nat) (x : GPattern), x.dep ≤ d → ∀ y ∈ raw x, ¬ y.2.done = true → U y.2.p ≤ U x := by
 intro d
 induction d with
 | zero => intro x h; rw [GPattern.dep_eq] at h; omega
 | succ d ih =>
  intro x hd y hy hnd
  have hrec : ∀ a ∈ x.Args, ∀ y ∈ raw a, ¬ y.2.done = true → U y.2.p ≤ U a := fun a ha => ih a (by have := dep_mem ha; omega)
  have hmx : ∀ a ∈ x.Args, U a ≤ mx0 (x.Args.map U) := fun a ha => mx0_mem (List.mem_map.2 ⟨a, ha, rfl⟩)
  rw [raw_eq] at hy
  have hU := U_eq x
  unfold comb at hy
  unfold uc at hU
  by_cases h0 : x.Op = 0
  ·rw [if_pos h0] at hy
   rw [List.mem_singleton.1 hy] at hnd; exact absurd rfl hnd
  rw [if_neg h0] at hy hU
  by_cases h1 : x.Op = 1
  ·rw [if_pos h1] at hy
   rw [if_neg (by omega), if_neg (by omega)] at hU
   obtain ⟨z, hz, rfl⟩ := List.mem_map.1 hy
   match he : x.Args, hz with
   | [], hz => simp at hz
   | a :: l, hz =>
    have hz : z ∈ raw a := by simpa using hz
    have ha : a ∈ x.Args := by rw [he]; simp
    rw [he] at hnd hU
    simp only [List.drop_succ_cons, List.drop_zero, List.map_cons, mx0_cons] at hnd hU ⊢
    have e : U (contR z.2 l).p = mx0 ((if z.2.done = true then l else z.2.p :: l).map U) ∨ (contR z.2 l).done = true := by
     unfold contR
     split
     ·right; rfl
     left; rw [← U_listP1]
    rcases e with e | e
    ·rw [e]
     split
     ·omega
     rename_i hzd
     have := hrec a ha z hz hzd
     rw [List.map_cons, mx0_cons]; omega
    exact absurd e hnd
  rw [if_neg h1] at hy
  by_cases h2 : x.Op = 2
  ·rw [if_pos h2] at hy
   rw [if_pos (.inl h2)] at hU
   obtain ⟨i, _, hz⟩ := List.mem_flatMap.1 hy
   obtain ⟨a, ha, hz⟩ := getD_map_raw hz
   have h5 := hrec a ha y hz hnd
   have h6 := mem_sum (List.mem_map.2 ⟨a, ha, rfl⟩ : U a ∈ x.Args.map U)
   omega
  rw [if_neg h2] at hy
  by_cases h3 : x.Op = 3
  ·rw [if_pos h3] at hy
   rw [if_pos (.inr h3)] at hU
   obtain ⟨i, _, hz⟩ := List.mem_flatMap.1 hy
   obtain ⟨z, hz2, rfl⟩ := List.mem_map.1 hz
   have hi : i < x.Args.length := by
    rcases Nat.lt_or_ge i x.Args.length with h | h
    ·exact h
    rw [List.getD_eq_getElem?_getD, List.getElem?_map, List.getElem?_eq_none h] at hz2; simp at hz2
   rw [getD_map_at hi] at hz2
   simp only [joinR]
   rw [U_listP3]
   split
   ·have := sum_take (x.Args.map U) i
    have e : (x.Args.map U).drop i = U x.Args[i] :: (x.Args.map U).drop (i + 1) := by
     rw [List.drop_eq_getElem_cons (by simpa using hi)]; simp
    rw [e, List.sum_cons] at this
    rw [List.map_append, List.sum_append, List.map_take, List.map_drop]
    omega
   rename_i hzd
   have h5 := hrec _ (List.getElem_mem hi) z hz2 hzd
   have h6 := sum_set (x.Args.map U) i (by simpa using hi) (U z.2.p)
   rw [List.map_set]
   simp only [List.getElem_map] at h6
   omega
  rw [if_neg h3] at hy
  rw [if_neg (by omega)] at hU
  have hrep : ∀ (ag b : GPattern) (l : List GPattern), ag.Args = b :: l → U ag ≤ 2 * mx0 (x.Args.map U) → U b ≤ mx0 (x.Args.map U) → ∀ a ∈ x.Args, ∀ z ∈ raw a, ∀ y ∈ rep ag z, ¬ y.2.done = true → U y.2.p ≤ 2 * mx0 (x.Args.map U) := fun ag b l hl h1 h2 a ha z hz y hy hnd => by
   have := hmx a ha
   unfold rep at hy
   split at hy
   ·rcases List.mem_cons.1 hy with rfl | hy
    ·have := hrec a ha _ hz hnd; omega
    rw [List.mem_singleton.1 hy]; exact h1
   rename_i hzd
   rw [hl] at hy
   rw [List.mem_singleton.1 hy]
   have := hrec a ha z hz hzd
   simp only [U_nd, uc8, List.map_cons, List.map_nil, mx0_cons, mx0_nil]
   omega
  by_cases h4 : x.Op = 4
  ·rw [if_pos h4] at hy
   rw [if_pos (.inl h4)] at hU
   obtain ⟨z, hz, hy⟩ := List.mem_flatMap.1 hy
   match he : x.Args, hz with
   | [], hz => simp at hz
   | a :: l, hz =>
    have := hrep x a l he (by omega) (hmx a (by rw [he]; simp)) a (by rw [he]; simp) z (by simpa using hz) y hy hnd
    omega
  rw [if_neg h4] at hy
  by_cases h8 : x.Op = 8
  ·rw [if_pos h8] at hy
   rw [if_pos (.inr h8)] at hU
   obtain ⟨z, hz, hy⟩ := List.mem_flatMap.1 hy
   match he : x.Args, hz with
   | [], hz => simp at hz
   | [a], hz =>
    have ha : a ∈ x.Args := by rw [he]; simp
    have hm := hmx a ha
    rw [he] at hy
    unfold rep at hy
    split at hy
    ·rcases List.mem_cons.1 hy with rfl | hy
     ·have := hrec a ha _ (by simpa using hz) hnd; omega
     rw [List.mem_singleton.1 hy]
     simp only [U_nd, uc4, List.drop_succ_cons, List.drop_nil, List.map_nil, mx0_nil]; omega
    simp [nd] at hy
   | a :: b :: l, hz =>
    have hb : ∀ c ∈ b :: l, U c ≤ mx0 (x.Args.map U) := fun c hc => hmx c (by rw [he]; exact List.mem_cons_of_mem _ hc)
    rw [he] at hy
    have h5 : U (nd 4 (b :: l)) ≤ 2 * mx0 (x.Args.map U) := by
     have : mx0 ((b :: l).map U) ≤ mx0 (x.Args.map U) := mx0_le fun v hv => by
      obtain ⟨c, hc, rfl⟩ := List.mem_map.1 hv
      exact hb c hc
     rw [U_nd, uc4]
     omega
    have := hrep (nd 4 (b :: l)) b l rfl h5 (hb b (by simp)) a (by rw [he]; simp) z (by simpa using hz) y hy hnd
    omega
  rw [if_neg h8] at hy
  rw [if_neg (by omega)] at hU
  obtain ⟨z, hz, rfl⟩ := List.mem_map.1 hy
  obtain ⟨a, ha, hz⟩ := headD_map_raw hz
  simp only [inn, innR] at hnd ⊢
  split at hnd
  ·rename_i h; exact absurd h hnd
  rename_i hzd
  rw [if_neg hzd]
  have h5 := hrec a ha z hz hzd
  have h6 := hmx a ha
  rw [U_eq]
  have e : uc (innOp x) ([z.2.p].map U) = U z.2.p := by
   unfold uc innOp
   simp only [List.map_cons, List.map_nil, mx0_cons]
   have m0 : mx0 [] = 0 := rfl
   rw [m0]
   split
   ·rename_i hx; simp
   split <;> simp
  simp only
  rw [e]; omega
theorem U_pow : ∀ (d : Nat) (x : GPattern), x.dep ≤ d → U x + 1 ≤ 2 ^ x.pre.length := by
 intro d
 induction d with
 | zero => intro x h; rw [GPattern.dep_eq] at h; omega
 | succ d ih =>
  intro x hd
  have hrec : ∀ a ∈ x.Args, U a + 1 ≤ 2 ^ a.pre.length := fun a ha => ih a (by have := dep_mem ha; omega)
  have key : ∀ l : List GPattern, (∀ a ∈ l, U a + 1 ≤ 2 ^ a.pre.length) → (l.map U).sum + 1 ≤ 2 ^ (GPattern.pres l).length := fun l => by
   induction l with
   | nil => intro _; simp [GPattern.pres]
   | cons a l ihl =>
    intro h
    have h1 := h a (by simp)
    have h2 := ihl fun b hb => h b (by simp [hb])
    simp only [List.map_cons, List.sum_cons, GPattern.pres, List.length_append, Nat.pow_add]
    have h3 : (U a + 1) * ((l.map U).sum + 1) ≤ 2 ^ a.pre.length * 2 ^ (GPattern.pres l).length := Nat.mul_le_mul h1 h2
    have h4 : (U a + 1) * ((l.map U).sum + 1) = U a * (l.map U).sum + U a + (l.map U).sum + 1 := by
     rw [Nat.add_mul, Nat.mul_add]; omega
    omega
  have hs := key x.Args hrec
  have hm : mx0 (x.Args.map U) ≤ (x.Args.map U).sum := mx0_le fun a ha => mem_sum ha
  rw [U_eq, GPattern.pre_eq, List.length_cons, Nat.pow_succ]
  have hp : 1 ≤ 2 ^ (GPattern.pres x.Args).length := Nat.one_le_two_pow
  unfold uc
  split
  ·omega
  split
  ·omega
  split <;> omega
end Go.Ab

