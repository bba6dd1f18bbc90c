/- GPL24 GPL25 -/
import Derived.Test.YtpapabjndpgcnaaGreatT41
set_option linter.all false

namespace Go.Ab
open Classical
set_option maxRecDepth 100000
theorem Ws.small5 {T : Nat} {l : List GPredicate} {S : List Int → Prop} {p : GPredicate} (h : Ws T l S p) (hg : Gd T 12 l) (hl : l.length ≤ 5) : Sm 61 p := fun x hx => by
 obtain ⟨j, hj⟩ := List.getElem?_of_mem hx
 have hjT : j < T := by rw [← h.len]; exact (List.getElem?_eq_some_iff.1 hj).1
 obtain ⟨h1, h2⟩ := h.at' j x hj
 have h3 := len_of_steps h1 h2 (E := endsA l j) fun n hn => word_steps hg hjT S hn
 have h4 := endsA_len hg hjT
 have h5 : 2 * 12 * l.length ≤ 24 * 5 := Nat.mul_le_mul (by decide) hl
 omega
theorem Ws.congr {T : Nat} {l : List GPredicate} {S S' : List Int → Prop} {p : GPredicate} (h : Ws T l S p) (e : ∀ j n, S (sg l j n) ↔ S' (sg l j n)) : Ws T l S' p :=
 ⟨h.len, fun j a ha => ⟨(h.at' j a ha).1, fun n => ((h.at' j a ha).2 n).trans (and_congr_right fun _ => e j n)⟩⟩
theorem rboth_ws {N T : Nat} {l : List GPredicate} (hg : Gd T 12 l) (hl : l.length ≤ 5) (hT : T ≤ 1000) {S S' : List Int → Prop} {p q : GPredicate} (h : Ws T l S p) (h' : Ws T l S' q) (hN : 100000 < N) : ∃ r, ref27_Both N p q = some r ∧ Ws T l (fun w => S w ∧ S' w) r := by
 have s1 := h.small5 hg hl
 have s2 := h'.small5 hg hl
 have one : ∀ i, i < T → ∃ r, ref02_Both N (p.Sets.getD i []) (q.Sets.getD i []) = some r ∧ Ord r ∧ ∀ n, InL r n ↔ (-1099511627776 ≤ n ∧ n ≤ 1099511627776) ∧ S (sg l i n) ∧ S' (sg l i n) := fun i hi => by
  have hp := List.getElem?_eq_getElem (show i < p.Sets.length by rw [h.len]; exact hi)
  have hq := List.getElem?_eq_getElem (show i < q.Sets.length by rw [h'.len]; exact hi)
  have ep : p.Sets.getD i [] = p.Sets[i]'(by rw [h.len]; exact hi) := by rw [List.getD_eq_getElem?_getD, hp]; rfl
  have eq : q.Sets.getD i [] = q.Sets[i]'(by rw [h'.len]; exact hi) := by rw [List.getD_eq_getElem?_getD, hq]; rfl
  rw [ep, eq]
  obtain ⟨a1, a2⟩ := h.at' i _ hp
  obtain ⟨b1, b2⟩ := h'.at' i _ hq
  have l1 := s1 _ (List.mem_of_getElem? hp)
  have l2 := s2 _ (List.mem_of_getElem? hq)
  have hm : (p.Sets[i]'(by rw [h.len]; exact hi)).length * (q.Sets[i]'(by rw [h'.len]; exact hi)).length ≤ 61 * 61 := Nat.mul_le_mul l1 l2
  obtain ⟨r, k1, k2, _, k4⟩ := both_eq (N := N) a1 b1 (by omega) (by omega) (by omega) hN
  refine ⟨r, k1, k2, fun n => ?_⟩
  rw [k4, a2, b2]
  constructor
  ·rintro ⟨⟨g1, g2⟩, _, g3⟩; exact ⟨g1, g2, g3⟩
  ·rintro ⟨g1, g2, g3⟩; exact ⟨⟨g1, g2⟩, g1, g3⟩
 have hex : ∃ f : Nat → List GInterval, ∀ i, i < T → ref02_Both N (p.Sets.getD i []) (q.Sets.getD i []) = some (f i) ∧ Ord (f i) ∧ ∀ n, InL (f i) n ↔ (-1099511627776 ≤ n ∧ n ≤ 1099511627776) ∧ S (sg l i n) ∧ S' (sg l i n) :=
  ⟨fun i => if hi : i < T then Classical.choose (one i hi) else [], fun i hi => by simp only [dif_pos hi]; exact Classical.choose_spec (one i hi)⟩
 obtain ⟨f, hf⟩ := hex
 refine ⟨⟨(List.range T).map f⟩, ?_, by simp, fun j a ha => ?_⟩
 ·unfold ref27_Both
  refine bind_of1 (sets_loop (R := (List.range T).map f) (fun i r S0 hr hi => ?_) (fun S0 => ?_) (by simp; omega) (by simp; omega)) rfl
  ·simp only [List.length_map, List.length_range] at hi
   rw [List.getElem?_map, List.getElem?_range hi] at hr
   simp only [Option.map_some, Option.some.injEq] at hr
   subst hr
   have ep : p.Sets[i]? = some (p.Sets.getD i []) := by rw [List.getD_eq_getElem?_getD, List.getElem?_eq_getElem (by rw [h.len]; exact hi)]; rfl
   have eq : q.Sets[i]? = some (q.Sets.getD i []) := by rw [List.getD_eq_getElem?_getD, List.getElem?_eq_getElem (by rw [h'.len]; exact hi)]; rfl
   simp only [cmp_lss, len_def, idx_at, ep, eq, (hf i hi).1, Option.bind_some, decide_eq_true_eq]
   rw [if_pos (by rw [h.len]; omega), inc_i64 hi (by omega)]
  ·simp only [List.length_map, List.length_range, cmp_lss, len_def, decide_eq_true_eq]
   rw [if_neg (by rw [h.len]; omega)]
 ·have hjT : j < T := by have := (List.getElem?_eq_some_iff.1 ha).1; simpa using this
  simp only [List.getElem?_map, List.getElem?_range hjT, Option.map_some, Option.some.injEq] at ha
  subst ha
  exact ⟨(hf j hjT).2.1, (hf j hjT).2.2⟩
theorem rrest_ws {N T : Nat} {l : List GPredicate} (hg : Gd T 12 l) (hl : l.length ≤ 5) (hT : T ≤ 1000) {S : List Int → Prop} {p : GPredicate} (h : Ws T l S p) (hN : 100000 < N) : ∃ r, ref27_Rest N p = some r ∧ Ws T l (fun w => ¬ S w) r := by
 have s1 := h.small5 hg hl
 refine ⟨⟨p.Sets.map (gaps (-1099511627776))⟩, ?_, by simp [h.len], fun j a ha => ?_⟩
 ·unfold ref27_Rest
  refine bind_of1 (sets_loop (R := p.Sets.map (gaps (-1099511627776))) (fun i r S0 hr hi => ?_) (fun S0 => ?_) (by simp [h.len]; omega) (by simp [h.len]; omega)) rfl
  ·simp only [List.length_map] at hi
   have hp := List.getElem?_eq_getElem hi
   rw [List.getElem?_map, hp] at hr
   simp only [Option.map_some, Option.some.injEq] at hr
   subst hr
   obtain ⟨a1, _⟩ := h.at' i _ hp
   have l1 := s1 _ (List.mem_of_getElem? hp)
   simp only [cmp_lss, len_def, idx_at, hp, rest_eq (N := N) a1 (by omega) (by omega), Option.bind_some, decide_eq_true_eq]
   rw [if_pos (by omega), inc_i64 hi (by rw [h.len]; omega)]
  ·simp only [List.length_map, cmp_lss, len_def, decide_eq_true_eq]
   rw [if_neg (by omega)]
 ·simp only [List.getElem?_map] at ha
  cases hs : p.Sets[j]? with
  | none => rw [hs] at ha; cases ha
  | some s =>
   rw [hs] at ha
   simp only [Option.map_some, Option.some.injEq] at ha
   subst ha
   obtain ⟨a1, a2⟩ := h.at' j s hs
   have hlo : ∀ y ∈ s, (-1099511627776 : Int) ≤ y.Low := fun y hy => (a1.srt' y hy).1
   refine ⟨(gaps_ord a1 hlo (by omega)).1, fun n => ?_⟩
   rw [gaps_in a1 hlo, a2]
   constructor
   ·rintro ⟨g1, g2, g3⟩; exact ⟨⟨g1, g2⟩, fun hs => g3 ⟨⟨g1, g2⟩, hs⟩⟩
   ·rintro ⟨⟨g1, g2⟩, g3⟩; exact ⟨g1, g2, fun hs => g3 hs.2⟩
theorem whole_ws {T : Nat} {l : List GPredicate} : Ws T l (fun _ => True) ⟨List.replicate T [⟨-1099511627776, 1099511627776⟩]⟩ := by
 refine ⟨by simp, fun j a ha => ?_⟩
 have : a = [⟨-1099511627776, 1099511627776⟩] := by
  obtain ⟨h1, h2⟩ := List.getElem?_eq_some_iff.1 ha
  simp at h2; exact h2.symm
 subst this
 refine ⟨⟨⟨by decide, by decide, by decide⟩, (fun y hy => by cases hy), trivial⟩, fun n => ?_⟩
 rw [inL_cons]
 simp [inL_nil]
def Occ (T : Nat) (l : List GPredicate) (u : List Int) : Prop := ∃ j n, j < T ∧ (-1099511627776 ≤ n ∧ n ≤ 1099511627776) ∧ (sg l j n).take u.length = u
theorem void_ws {N T : Nat} {l : List GPredicate} {u : List Int} {p : GPredicate} (h : Ws T l (fun v => v.take u.length = u) p) (hT : T ≤ 1000) (hN : 100000 < N) : ref27_Void N p = some (!decide (Occ T l u)) := by
 rw [void_eq (by rw [h.len]; omega) (by rw [h.len]; omega)]
 congr 1
 unfold fst1
 cases hq : fnd ne1 0 p.Sets with
 | none =>
  have hno : ¬ Occ T l u := fun ⟨j, n, h1, h2, h3⟩ => by
   have ha := List.getElem?_eq_getElem (show j < p.Sets.length by rw [h.len]; exact h1)
   have hin := ((h.at' j _ ha).2 n).2 ⟨h2, h3⟩
   have he := fnd_none hq _ (List.mem_of_getElem? ha)
   have e0 : p.Sets[j]'(by rw [h.len]; exact h1) = [] := by simpa using he
   rw [e0] at hin
   exact inL_nil hin
  simp [hno]
 | some q =>
  obtain ⟨k, x⟩ := q
  obtain ⟨_, h2, h3, _⟩ := fnd_some hq
  rw [Nat.sub_zero] at h2
  have hyes : Occ T l u := by
   obtain ⟨a1, a2⟩ := h.at' k x h2
   cases x with
   | nil => simp at h3
   | cons y x =>
    have := (a2 y.Low).1 (inL_cons.2 (.inl ⟨Int.le_refl _, a1.1.2.1⟩))
    exact ⟨k, y.Low, by rw [← h.len]; exact (List.getElem?_eq_some_iff.1 h2).1, this.1, this.2⟩
  simp [hyes]
noncomputable def nextW (T : Nat) (l : List GPredicate) (V : List (List Int)) : List (List Int) := (V.flatMap fun u => [u ++ [1], u ++ [0]]).filter fun u => decide (Occ T l u)
noncomputable def wordsTo (T : Nat) (l : List GPredicate) : Nat → List (List Int)
 | 0 => [[]]
 | i + 1 => nextW T l (wordsTo T l i)
theorem Occ.init {T : Nat} {l : List GPredicate} {u : List Int} {x : Int} (h : Occ T l (u ++ [x])) : Occ T l u := by
 obtain ⟨j, n, h1, h2, h3⟩ := h
 refine ⟨j, n, h1, h2, ?_⟩
 have := congrArg (List.take u.length) h3
 simpa [List.take_take] using this
theorem wordsTo_mem {T : Nat} {l : List GPredicate} (hT : 1 ≤ T) : ∀ {i : Nat} {u : List Int}, u ∈ wordsTo T l i ↔ u.length = i ∧ Bts u ∧ Occ T l u
 | 0, u => by
  constructor
  ·intro h
   simp only [wordsTo, List.mem_singleton] at h
   subst h
   exact ⟨rfl, fun x hx => (by cases hx), 0, 0, by omega, by omega, rfl⟩
  ·rintro ⟨h, _, _⟩
   simp [wordsTo, List.length_eq_zero_iff.1 h]
 | i + 1, u => by
  simp only [wordsTo, nextW, List.mem_filter, List.mem_flatMap, decide_eq_true_eq]
  constructor
  ·rintro ⟨⟨v, hv, hu⟩, ho⟩
   obtain ⟨h1, h2, h3⟩ := (wordsTo_mem hT).1 hv
   simp only [List.mem_cons, List.not_mem_nil, or_false] at hu
   rcases hu with rfl | rfl
   ·exact ⟨by simp [h1], fun x hx => by
     rcases List.mem_append.1 hx with hx | hx
     ·exact h2 x hx
     ·simp at hx; exact .inr hx, ho⟩
   ·exact ⟨by simp [h1], fun x hx => by
     rcases List.mem_append.1 hx with hx | hx
     ·exact h2 x hx
     ·simp at hx; exact .inl hx, ho⟩
  ·rintro ⟨h1, h2, h3⟩
   refine ⟨?_, h3⟩
   rcases List.eq_nil_or_concat u with rfl | ⟨v, x, rfl⟩
   ·simp at h1
   ·rw [List.concat_eq_append] at *
    refine ⟨v, (wordsTo_mem hT).2 ⟨by simpa using h1, fun y hy => h2 y (by simp [hy]), h3.init⟩, ?_⟩
    rcases h2 x (by simp) with rfl | rfl <;> simp
theorem wordsTo_nodup {T : Nat} {l : List GPredicate} : ∀ {i : Nat}, (wordsTo T l i).Nodup
 | 0 => by simp [wordsTo]
 | i + 1 => by
  unfold wordsTo nextW
  refine List.Pairwise.filter _ ?_
  have ih := wordsTo_nodup (T := T) (l := l) (i := i)
  generalize wordsTo T l i = V at ih
  induction V with
  | nil => simp
  | cons v V ihv =>
   obtain ⟨h1, h2⟩ := List.nodup_cons.1 ih
   rw [List.flatMap_cons]
   refine List.nodup_append.2 ⟨by simp, ihv h2, fun x hx y hy e => ?_⟩
   subst e
   obtain ⟨w, hw, hx2⟩ := List.mem_flatMap.1 hy
   simp only [List.mem_cons, List.not_mem_nil, or_false] at hx hx2
   have : v = w := by
    rcases hx with rfl | rfl <;> rcases hx2 with e | e <;> exact (List.append_inj' e rfl).1
   subst this
   exact h1 hw
theorem wordsTo_len {T : Nat} {l : List GPredicate} (hT : 1 ≤ T) {i : Nat} : (wordsTo T l i).length ≤ 2 ^ i := by
 have := nodup_len (l := wordsTo T l i) (m := bits i) wordsTo_nodup fun w hw => by
  obtain ⟨h1, h2, _⟩ := (wordsTo_mem hT).1 hw
  have := bits_mem h2
  rwa [h1] at this
 rwa [bits_len] at this
def Pr (T : Nat) (l : List GPredicate) (A : List GPredicate) (V : List (List Int)) : Prop := A.length = V.length ∧ ∀ (c : Nat) a u, A[c]? = some a → V[c]? = some u → Ws T l (fun v => v.take u.length = u) a
theorem Pr.snoc {T : Nat} {l A : List GPredicate} {V : List (List Int)} {a : GPredicate} {u : List Int} (h : Pr T l A V) (ha : Ws T l (fun v => v.take u.length = u) a) : Pr T l (A ++ [a]) (V ++ [u]) := by
 refine ⟨by simp [h.1], fun c b v hb hv => ?_⟩
 rcases Nat.lt_or_ge c A.length with hc | hc
 ·rw [List.getElem?_append_left hc] at hb
  rw [List.getElem?_append_left (by rw [← h.1]; exact hc)] at hv
  exact h.2 c b v hb hv
 ·have hcl := (List.getElem?_eq_some_iff.1 hb).1
  simp at hcl
  have : c = A.length := by omega
  subst this
  simp at hb
  rw [h.1] at hv
  simp at hv
  subst hb; subst hv
  exact ha
theorem take_snoc {l : List GPredicate} {i j : Nat} {n : Int} {u : List Int} {x : Int} (hu : u.length = i) (hi : i < l.length) : (sg l j n).take (u ++ [x]).length = u ++ [x] ↔ (sg l j n).take u.length = u ∧ (sg l j n)[i]? = some x := by
 have hl : (sg l j n).length = l.length := by simp [sg]
 have hx := List.getElem?_eq_getElem (show i < (sg l j n).length by omega)
 rw [List.length_append, List.length_singleton, List.take_add_one, hu, hx]
 simp only [Option.toList_some, Option.some.injEq]
 constructor
 ·intro h
  obtain ⟨h1, h2⟩ := List.append_inj h (by simp [hl, hu]; omega)
  exact ⟨h1, by simpa using h2⟩
 ·rintro ⟨h1, h2⟩; rw [h1, h2]
end Go.Ab

namespace Go.Ab
open Classical
set_option maxRecDepth 100000
theorem nextW_snoc {T : Nat} {l : List GPredicate} {V : List (List Int)} {u : List Int} : nextW T l (V ++ [u]) = nextW T l V ++ ([u ++ [1], u ++ [0]].filter fun u => decide (Occ T l u)) := by
 unfold nextW
 rw [List.flatMap_append, List.filter_append]
 simp
theorem part_loop {N T i : Nat} {l A : List GPredicate} {V : List (List Int)} {p : GPredicate} (hg : Gd T 12 l) (hl : l.length ≤ 5) (hT : 1 ≤ T ∧ T ≤ 4) (hN : 100000 < N) (hp : l[i]? = some p) (hA : Pr T l A V) (hV : ∀ u ∈ V, u.length = i) (hVl : V.length ≤ 1000) :
 ∃ B, loopN
  (fun (s4 : (List GPredicate) × Int) =>
   (
    if Ar.cmp .lss s4.2 (Ar.len A) = true then
     (idxL A s4.2).bind fun x7 =>
     (idxL l (i : Int)).bind fun x8 =>
     (ref27_Both N x7 x8).bind fun r9 =>
     (idxL A s4.2).bind fun x10 =>
     (idxL l (i : Int)).bind fun x11 =>
     (ref27_Rest N x11).bind fun r12 =>
     (ref27_Both N x10 r12).bind fun r13 =>
     (ref27_Void N r9).bind fun r14 =>
     ((
      if Ar.nt r14 = true then
       (appL s4.1 ([r9])).bind fun l17 =>
       some l17
      else
       some s4.1
     ) : Option (((List GPredicate)))).bind fun s15 =>
     (ref27_Void N r13).bind fun r19 =>
     if Ar.nt r19 = true then
      (appL s15 ([r13])).bind fun l21 =>
      some (.inl (l21, Ar.ar .add .i64 s4.2 1))
     else
      some (.inl (s15, Ar.ar .add .i64 s4.2 1))
    else
     some (.inr s4.1)
    : Option (((List GPredicate) × Int) ⊕ (((List GPredicate))))))
  N ([], 0) = some B ∧ Pr T l B (nextW T l V) := by
 have hpw := hg.ws hp
 have hil := (List.getElem?_eq_some_iff.1 hp).1
 obtain ⟨r12, e12, w12⟩ := rrest_ws (N := N) hg hl (by omega) hpw hN
 have hAl := hA.1
 obtain ⟨r, h1, h2⟩ := loop_inv (N := N) (l := A) (Q := fun (r : List GPredicate) => Pr T l r (nextW T l V))
  (I := fun k (t : List GPredicate × Int) => t.2 = (k : Int) ∧ Pr T l t.1 (nextW T l (V.take k)) ∧ t.1.length ≤ 2 * k)
  (s0 := (([] : List GPredicate), (0 : Int)))
  (step := fun (s4 : (List GPredicate) × Int) =>
   (
    if Ar.cmp .lss s4.2 (Ar.len A) = true then
     (idxL A s4.2).bind fun x7 =>
     (idxL l (i : Int)).bind fun x8 =>
     (ref27_Both N x7 x8).bind fun r9 =>
     (idxL A s4.2).bind fun x10 =>
     (idxL l (i : Int)).bind fun x11 =>
     (ref27_Rest N x11).bind fun r12 =>
     (ref27_Both N x10 r12).bind fun r13 =>
     (ref27_Void N r9).bind fun r14 =>
     ((
      if Ar.nt r14 = true then
       (appL s4.1 ([r9])).bind fun l17 =>
       some l17
      else
       some s4.1
     ) : Option (((List GPredicate)))).bind fun s15 =>
     (ref27_Void N r13).bind fun r19 =>
     if Ar.nt r19 = true then
      (appL s15 ([r13])).bind fun l21 =>
      some (.inl (l21, Ar.ar .add .i64 s4.2 1))
     else
      some (.inl (s15, Ar.ar .add .i64 s4.2 1))
    else
     some (.inr s4.1)
    : Option (((List GPredicate) × Int) ⊕ (((List GPredicate))))))
  (fun k x t hx hk ⟨e1, e2, e3⟩ => by
   obtain ⟨B, j⟩ := t
   simp only at e1 e2 e3
   subst e1
   have hu := List.getElem?_eq_getElem (show k < V.length by omega)
   have hum := List.getElem_mem (show k < V.length by omega)
   generalize V[k] = u at hu hum
   have hul := hV u hum
   have hxw := hA.2 k x u hx hu
   obtain ⟨r9, e9, w9⟩ := rboth_ws (N := N) hg hl (by omega) hxw hpw hN
   obtain ⟨r13, e13, w13⟩ := rboth_ws (N := N) hg hl (by omega) hxw w12 hN
   have w9 : Ws T l (fun v => v.take (u ++ [1]).length = u ++ [1]) r9 := w9.congr fun j n => (take_snoc hul hil).symm
   have w13 : Ws T l (fun v => v.take (u ++ [0]).length = u ++ [0]) r13 := w13.congr fun j n => by
    rw [take_snoc hul hil]
    refine and_congr_right fun _ => ?_
    rw [sg_at hp]
    split <;> simp
   have htake : V.take (k + 1) = V.take k ++ [u] := by rw [List.take_add_one, hu]; rfl
   simp only [idx_at, hx, hp, Option.bind_some, e9, e12, e13, void_ws w9 (by omega) hN, void_ws w13 (by omega) hN]
   rw [if_pos (by simp only [cmp_lss, len_def, decide_eq_true_eq]; omega), inc_i64 hk (by omega)]
   simp only [nt_def, Bool.not_not, decide_eq_true_eq]
   rw [htake, nextW_snoc]
   by_cases o1 : Occ T l (u ++ [1])
   ·rw [if_pos o1, app_ok (by simp; omega)]
    simp only [Option.bind_some]
    by_cases o0 : Occ T l (u ++ [0])
    ·rw [if_pos o0, app_ok (by simp; omega)]
     simp only [Option.bind_some]
     refine ⟨_, rfl, rfl, ?_, by simp; omega⟩
     have : ([u ++ [1], u ++ [0]].filter fun u => decide (Occ T l u)) = [u ++ [1]] ++ [u ++ [0]] := by simp [o1, o0]
     rw [this, ← List.append_assoc]
     exact (e2.snoc w9).snoc w13
    ·rw [if_neg o0]
     refine ⟨_, rfl, rfl, ?_, by simp; omega⟩
     have : ([u ++ [1], u ++ [0]].filter fun u => decide (Occ T l u)) = [u ++ [1]] := by simp [o1, o0]
     rw [this]
     exact e2.snoc w9
   ·rw [if_neg o1]
    simp only [Option.bind_some]
    by_cases o0 : Occ T l (u ++ [0])
    ·rw [if_pos o0, app_ok (by simp; omega)]
     simp only [Option.bind_some]
     refine ⟨_, rfl, rfl, ?_, by simp; omega⟩
     have : ([u ++ [1], u ++ [0]].filter fun u => decide (Occ T l u)) = [u ++ [0]] := by simp [o1, o0]
     rw [this]
     exact e2.snoc w13
    ·rw [if_neg o0]
     refine ⟨_, rfl, rfl, ?_, by simp only; omega⟩
     have : ([u ++ [1], u ++ [0]].filter fun u => decide (Occ T l u)) = [] := by simp [o1, o0]
     rw [this, List.append_nil]
     exact e2)
  (fun t ⟨e1, e2, e3⟩ => by
   obtain ⟨B, j⟩ := t
   simp only at e1 e2 e3
   subst e1
   rw [if_neg (by simp only [cmp_lss, len_def, decide_eq_true_eq]; omega)]
   rw [hAl, List.take_length] at e2
   exact ⟨_, rfl, e2⟩)
  ⟨rfl, ⟨by simp [nextW], fun c a u h => by simp at h⟩, by simp⟩ (by omega)
 exact ⟨r, h1, h2⟩
def At (p : GPredicate) (j : Nat) (n : Int) : Prop := ∃ a, p.Sets[j]? = some a ∧ InL a n
theorem Ws.atp {T : Nat} {l : List GPredicate} {S : List Int → Prop} {p : GPredicate} (h : Ws T l S p) {j : Nat} {n : Int} : At p j n ↔ j < T ∧ (-1099511627776 ≤ n ∧ n ≤ 1099511627776) ∧ S (sg l j n) := by
 constructor
 ·rintro ⟨a, ha, hn⟩
  have := ((h.at' j a ha).2 n).1 hn
  exact ⟨by rw [← h.len]; exact (List.getElem?_eq_some_iff.1 ha).1, this.1, this.2⟩
 ·rintro ⟨h1, h2, h3⟩
  have ha := List.getElem?_eq_getElem (show j < p.Sets.length by rw [h.len]; exact h1)
  exact ⟨_, ha, ((h.at' j _ ha).2 n).2 ⟨h2, h3⟩⟩
theorem least_spec {p : GPredicate} (ho : ∀ a ∈ p.Sets, Ord a) (hne : ∃ j n, At p j n) : ∃ (j : Nat) (n : Int), least1 p = ⟨(j : Int), n⟩ ∧ At p j n ∧ ∀ j' n', At p j' n' → (j' = j ∧ n' = n) ∨ Lx j n j' n' := by
 unfold least1 fst1
 cases hq : fnd ne1 0 p.Sets with
 | none =>
  exfalso
  obtain ⟨j, n, a, ha, hn⟩ := hne
  have := fnd_none hq a (List.mem_of_getElem? ha)
  have e0 : a = [] := by simpa using this
  subst e0
  exact inL_nil hn
 | some q =>
  obtain ⟨k, x⟩ := q
  obtain ⟨_, h2, h3, h4⟩ := fnd_some hq
  rw [Nat.sub_zero] at h2 h4
  cases x with
  | nil => simp at h3
  | cons y x =>
   have hox := ho _ (List.mem_of_getElem? h2)
   refine ⟨k, y.Low, rfl, ⟨_, h2, inL_cons.2 (.inl ⟨Int.le_refl _, hox.1.2.1⟩)⟩, fun j' n' ⟨a, ha, hn⟩ => ?_⟩
   by_cases hjk : j' < k
   ·exfalso
    have := h4 j' a hjk ha
    have e0 : a = [] := by simpa using this
    subst e0
    exact inL_nil hn
   ·by_cases e : j' = k
    ·subst e
     rw [h2] at ha; cases ha
     have := hox.lo hn
     unfold Lx
     omega
    ·exact .inr (.inl (by omega))
def bfr (a b : GSymbol) : Bool := decide (a.Typ < b.Typ ∨ (a.Typ = b.Typ ∧ a.Num < b.Num))
theorem before_eq (N : Nat) (a b : GSymbol) : ref27_Before N a b = some (bfr a b) := by
 unfold ref27_Before bfr
 simp only [cmp_lss, cmp_eql, or_def, an_def]
 congr 1
 by_cases h1 : a.Typ < b.Typ <;> by_cases h2 : a.Typ = b.Typ <;> by_cases h3 : a.Num < b.Num <;> simp [h1, h2, h3]
theorem bfr_trans {a b c : GSymbol} (h : bfr a b = true) (k : bfr b c = true) : bfr a c = true := by
 simp only [bfr, decide_eq_true_eq] at *; omega
theorem bfr_total {a b : GSymbol} (h : bfr a b = false) (hne : a ≠ b) : bfr b a = true := by
 simp only [bfr, decide_eq_true_eq, decide_eq_false_iff_not] at *
 have : ¬ (a.Typ = b.Typ ∧ a.Num = b.Num) := fun ⟨h1, h2⟩ => hne (by cases a; cases b; simp_all)
 omega
theorem place2 {N : Nat} {out : List GPredicate} {A : List GPredicate} {i : Nat} {x : GPredicate} (hx : A[i]? = some x) (hsz : ∀ p ∈ x :: out, p.Sets.length ≤ 1000) (hN : 100000 < N) (hl : out.length ≤ 1000) : ∀ (k M : Nat), k ≤ out.length → k < M →
 ∃ p : Nat, p ≤ k ∧ (∀ (j : Nat) y, p ≤ j → j < k → out[j]? = some y → bfr (least1 x) (least1 y) = true) ∧ (∀ y, 0 < p → out[p - 1]? = some y → bfr (least1 x) (least1 y) = false) ∧
  loopN (fun (s27 : Int) =>
   (
    if Ar.cmp .gtr s27 0 = true then
     (idxL A (i : Int)).bind fun x29 =>
     (ref27_Least N x29).bind fun r30 =>
     (req (inR out (Ar.ar .sub .i64 s27 1))).bind fun _ =>
     (idxL out (Ar.ar .sub .i64 s27 1)).bind fun x31 =>
     (ref27_Least N x31).bind fun r32 =>
     (ref27_Before N r30 r32).bind fun r33 =>
     if r33 = true then
      some (.inl (Ar.ar .sub .i64 s27 1))
     else
      some (.inr s27)
    else
     some (.inr s27)
    : Option ((Int) ⊕ (Int)))) M (k : Int) = some (p : Int) := by
 have hleast : ∀ p ∈ x :: out, ref27_Least N p = some (least1 p) := fun p hp => by
  have := hsz p hp
  rw [least_eq (by omega) (by omega)]; rfl
 intro k
 induction k with
 | zero =>
  intro M _ hM
  obtain ⟨M, rfl⟩ : ∃ K, M = K + 1 := ⟨M - 1, by omega⟩
  exact ⟨0, Nat.le_refl _, fun j y h1 h2 => by omega, fun y h => by omega, by simp [loopN, cmp_gtr]⟩
 | succ k ih =>
  intro M hk hM
  obtain ⟨M, rfl⟩ : ∃ K, M = K + 1 := ⟨M - 1, by omega⟩
  have ho := List.getElem?_eq_getElem (show k < out.length by omega)
  have hm := List.getElem_mem (show k < out.length by omega)
  have hin : inR out (k : Int) = true := by unfold inR; simp only [decide_eq_true_eq]; omega
  have e1 := hleast x (by simp)
  have e2 := hleast out[k] (by simp [hm])
  cases hb : bfr (least1 x) (least1 out[k]) with
  | true =>
   obtain ⟨p, h1, h2, h3, h4⟩ := ih M (by omega) (by omega)
   refine ⟨p, by omega, fun j y g1 g2 g3 => ?_, h3, ?_⟩
   ·by_cases e : j = k
    ·subst e; rw [ho] at g3; cases g3; exact hb
    ·exact h2 j y g1 (by omega) g3
   ·rw [← h4]
    conv => lhs; unfold loopN
    simp only [cmp_gtr, decide_eq_true_eq, sub1 (show k + 1 < 1000000000000 by omega), idx_at, hx, ho, hin, req, if_true, e1, e2, before_eq, hb, Option.bind_some]
    rw [if_pos (by omega)]
  | false =>
   refine ⟨k + 1, Nat.le_refl _, fun j y g1 g2 => by omega, fun y _ g => ?_, ?_⟩
   ·rw [show k + 1 - 1 = k by omega, ho] at g; cases g; exact hb
   ·unfold loopN
    simp only [cmp_gtr, decide_eq_true_eq, sub1 (show k + 1 < 1000000000000 by omega), idx_at, hx, ho, hin, req, if_true, e1, e2, before_eq, hb, Option.bind_some, Bool.false_eq_true, if_false]
    rw [if_pos (by omega)]
theorem sort_loop {N : Nat} {A : List GPredicate} (hA : A.length ≤ 1000) (hsz : ∀ p ∈ A, p.Sets.length ≤ 1000) (hd : ∀ (c c' : Nat) a b, A[c]? = some a → A[c']? = some b → c ≠ c' → least1 a ≠ least1 b) (hN : 100000 < N) : ∃ R, loopN
 (fun (s24 : Int × (List GPredicate)) =>
  (
   if Ar.cmp .lss s24.1 (Ar.len A) = true then
    (loopN
     (fun (s27 : Int) =>
      (
       if Ar.cmp .gtr s27 0 = true then
        (idxL A s24.1).bind fun x29 =>
        (ref27_Least N x29).bind fun r30 =>
        (req (inR s24.2 (Ar.ar .sub .i64 s27 1))).bind fun _ =>
        (idxL s24.2 (Ar.ar .sub .i64 s27 1)).bind fun x31 =>
        (ref27_Least N x31).bind fun r32 =>
        (ref27_Before N r30 r32).bind fun r33 =>
        if r33 = true then
         some (.inl (Ar.ar .sub .i64 s27 1))
        else
         some (.inr s27)
       else
        some (.inr s27)
       : Option ((Int) ⊕ (Int))))
     N (Ar.len s24.2)).bind fun s28 =>
    (sliceL s24.2 (some s28) none none).bind fun l35 =>
    (appL [] l35).bind fun l37 =>
    (sliceL s24.2 none (some s28) none).bind fun l39 =>
    (idxL A s24.1).bind fun x40 =>
    (appL l39 ([x40])).bind fun l42 =>
    (appL l42 l37).bind fun l44 =>
    some (.inl (Ar.ar .add .i64 s24.1 1, l44))
   else
    some (.inr s24.2)
   : Option ((Int × (List GPredicate)) ⊕ (((List GPredicate))))))
 N (0, ([] : List GPredicate)) = some R ∧ R.Perm A ∧ R.Pairwise (fun a b => bfr (least1 a) (least1 b) = true) := by
 obtain ⟨r, h1, h2⟩ := loop_inv (N := N) (l := A) (Q := fun (r : List GPredicate) => r.Perm A ∧ r.Pairwise (fun a b => bfr (least1 a) (least1 b) = true))
  (I := fun i (t : Int × List GPredicate) => t.1 = (i : Int) ∧ t.2.Perm (A.take i) ∧ t.2.Pairwise (fun a b => bfr (least1 a) (least1 b) = true))
  (s0 := ((0 : Int), ([] : List GPredicate)))
  (step := fun (s24 : Int × (List GPredicate)) =>
   (
    if Ar.cmp .lss s24.1 (Ar.len A) = true then
     (loopN
      (fun (s27 : Int) =>
       (
        if Ar.cmp .gtr s27 0 = true then
         (idxL A s24.1).bind fun x29 =>
         (ref27_Least N x29).bind fun r30 =>
         (req (inR s24.2 (Ar.ar .sub .i64 s27 1))).bind fun _ =>
         (idxL s24.2 (Ar.ar .sub .i64 s27 1)).bind fun x31 =>
         (ref27_Least N x31).bind fun r32 =>
         (ref27_Before N r30 r32).bind fun r33 =>
         if r33 = true then
          some (.inl (Ar.ar .sub .i64 s27 1))
         else
          some (.inr s27)
        else
         some (.inr s27)
        : Option ((Int) ⊕ (Int))))
      N (Ar.len s24.2)).bind fun s28 =>
     (sliceL s24.2 (some s28) none none).bind fun l35 =>
     (appL [] l35).bind fun l37 =>
     (sliceL s24.2 none (some s28) none).bind fun l39 =>
     (idxL A s24.1).bind fun x40 =>
     (appL l39 ([x40])).bind fun l42 =>
     (appL l42 l37).bind fun l44 =>
     some (.inl (Ar.ar .add .i64 s24.1 1, l44))
    else
     some (.inr s24.2)
    : Option ((Int × (List GPredicate)) ⊕ (((List GPredicate))))))
  (fun i x t hx hi ⟨e1, e2, e3⟩ => by
   obtain ⟨j, out⟩ := t
   simp only at e1 e2 e3
   subst e1
   have hol : out.length = i := by rw [e2.length_eq, List.length_take]; omega
   have hxm := List.mem_of_getElem? hx
   obtain ⟨p, p1, p2, p3, p4⟩ := place2 (N := N) (out := out) (A := A) (i := i) (x := x) hx (fun q hq => by
    rcases List.mem_cons.1 hq with rfl | hq
    ·exact hsz _ hxm
    ·exact hsz _ (List.mem_of_mem_take (e2.mem_iff.1 hq))) hN (by omega) out.length N (Nat.le_refl _) (by omega)
   simp only [len_def, idx_at, hx] at p4 ⊢
   rw [if_pos (by simp only [cmp_lss, decide_eq_true_eq]; omega), p4]
   simp only [Option.bind_some, slice_lo p1, slice_hi p1]
   rw [app_ok (by simp; omega)]
   simp only [Option.bind_some, List.nil_append]
   rw [app_ok (by simp; omega)]
   simp only [Option.bind_some]
   rw [app_ok (by simp; omega), inc_i64 hi (by omega)]
   simp only [Option.bind_some]
   have htake : A.take (i + 1) = A.take i ++ [x] := by
    rw [List.take_add_one, hx]; rfl
   refine ⟨_, rfl, rfl, ?_, ?_⟩
   ·rw [htake]
    have q1 : (out.take p ++ [x] ++ out.drop p).Perm (x :: (out.take p ++ out.drop p)) := by
     rw [List.append_assoc]; exact List.perm_middle
    rw [List.take_append_drop] at q1
    exact q1.trans ((e2.cons x).trans (by
     have := List.perm_append_comm (l₁ := [x]) (l₂ := A.take i)
     simpa using this))
   ·have hs := e3
    rw [← List.take_append_drop p out] at hs
    obtain ⟨a1, a2, a3⟩ := List.pairwise_append.1 hs
    rw [List.append_assoc]
    refine List.pairwise_append.2 ⟨a1, List.pairwise_cons.2 ⟨fun y hy => ?_, a2⟩, fun y hy z hz => ?_⟩
    ·have hy : y ∈ out.drop p := hy
     obtain ⟨k, hk⟩ := List.getElem?_of_mem hy
     rw [List.getElem?_drop] at hk
     exact p2 (p + k) y (by omega) (List.getElem?_eq_some_iff.1 hk).1 hk
    ·rcases List.mem_cons.1 hz with rfl | hz
     ·obtain ⟨k, hk⟩ := List.getElem?_of_mem hy
      have hkp : k < p := by
       have := (List.getElem?_eq_some_iff.1 hk).1
       simp at this; omega
      rw [List.getElem?_take, if_pos hkp] at hk
      have hlast := List.getElem?_eq_getElem (show p - 1 < out.length by omega)
      have h4 := p3 _ (by omega) hlast
      have hne : least1 z ≠ least1 out[p - 1] := by
       have hm : out[p - 1] ∈ A.take i := e2.mem_iff.1 (List.getElem_mem _)
       obtain ⟨c, hc⟩ := List.getElem?_of_mem hm
       have hcl := (List.getElem?_eq_some_iff.1 hc).1
       rw [List.length_take] at hcl
       rw [List.getElem?_take, if_pos (show c < i by omega)] at hc
       exact hd i c z _ hx hc (by omega)
      have h5 := bfr_total h4 hne
      by_cases e : k = p - 1
      ·subst e; rw [hlast] at hk; cases hk; exact h5
      ·have := (List.pairwise_iff_getElem.1 e3) k (p - 1) (by omega) (by omega) (by omega)
       have e5 := List.getElem?_eq_getElem (show k < out.length by omega)
       rw [e5] at hk; cases hk
       exact bfr_trans this h5
     ·have hz : z ∈ out.drop p := hz
      exact a3 y hy z hz)
  (fun t ⟨e1, e2, e3⟩ => by
   obtain ⟨j, out⟩ := t
   simp only at e1 e2 e3
   subst e1
   rw [List.take_length] at e2
   rw [if_neg (by simp only [cmp_lss, len_def, decide_eq_true_eq]; omega)]
   exact ⟨_, rfl, e2, e3⟩) ⟨rfl, by simp, .nil⟩ (by omega)
 exact ⟨r, h1, h2⟩
theorem sorted_ext {α : Type} {R : α → α → Prop} (hR : ∀ a b, R a b → ¬ R b a) : ∀ {l m : List α}, l.Pairwise R → m.Pairwise R → (∀ x, x ∈ l ↔ x ∈ m) → l = m
 | [], [], _, _, _ => rfl
 | [], b :: m, _, _, h => absurd ((h b).2 (by simp)) (by simp)
 | a :: l, [], _, _, h => absurd ((h a).1 (by simp)) (by simp)
 | a :: l, b :: m, hl, hm, h => by
  obtain ⟨l1, l2⟩ := List.pairwise_cons.1 hl
  obtain ⟨m1, m2⟩ := List.pairwise_cons.1 hm
  have e : a = b := by
   rcases List.mem_cons.1 ((h a).1 (by simp)) with e | ha
   ·exact e
   ·rcases List.mem_cons.1 ((h b).2 (by simp)) with e | hb
    ·exact e.symm
    ·exact absurd (l1 b hb) (hR _ _ (m1 a ha))
  subst e
  rw [sorted_ext hR l2 m2 fun x => ?_]
  have irr : ∀ y, ¬ R y y := fun y hy => hR y y hy hy
  constructor
  ·intro hx
   rcases List.mem_cons.1 ((h x).1 (by simp [hx])) with e | hx'
   ·subst e; exact absurd (l1 x hx) (irr x)
   ·exact hx'
  ·intro hx
   rcases List.mem_cons.1 ((h x).2 (by simp [hx])) with e | hx'
   ·subst e; exact absurd (m1 x hx) (irr x)
   ·exact hx'
end Go.Ab

