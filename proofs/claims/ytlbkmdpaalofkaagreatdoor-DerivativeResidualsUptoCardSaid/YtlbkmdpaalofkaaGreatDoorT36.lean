/- GZD6 GZE1 GZE2 -/
import Derived.Test.YtlbkmdpaalofkaaGreatDoorT35
set_option linter.all false

namespace Go.Ab
theorem range_test {α R : Type} (P : α → Bool) (r : R) : ∀ l : List α, rangeL (fun (_ : Unit) y => if P y = true then some (Sum.inr r) else some (.inl ())) l () = some (if l.any P = true then .inr r else .inl ())
 | [] => rfl
 | y :: l => by
  unfold rangeL
  cases h : P y with
  | true => simp [h]
  | false =>
   simp only [Bool.false_eq_true, if_false, List.any_cons, h, Bool.false_or]
   exact range_test P r l
theorem Good.sub {N : Nat} {x y : GPattern} (h : Good N x) (hy : y ∈ x.pre) : nodeBad N y = 0 := h y hy
theorem whole_eq {N : Nat} (hN : 40000000 ≤ N) {x : GPattern} (hb : x.bulk ≤ 16777216) : pattern_whole N x = some (if restBad N x ≠ 0 then restBad N x else if x.pre.any (fun y => Ar.cmp .geq y.Op 8) = true then 1 else 0) := by
 unfold pattern_whole
 rw [rest_eq hN hb]
 simp only [Option.bind_some]
 by_cases h : restBad N x = 0
 ·rw [if_neg (ne_false h), if_neg (by simpa using h), preorder_eq hN hb]
  simp only [Option.bind_some]
  rw [range_test (fun y : GPattern => Ar.cmp .geq y.Op 8) (1 : Int) x.pre]
  by_cases h2 : x.pre.any (fun y => Ar.cmp .geq y.Op 8) = true
  ·rw [if_pos h2, if_pos h2]; rfl
  ·rw [if_neg h2, if_neg h2]; rfl
 ·rw [if_pos (ne_true h), if_pos h]
theorem rest_good {N : Nat} {x : GPattern} (hz : restBad N x = 0) : x.pre.length ≤ 64 ∧ x.dep ≤ 12 ∧ Good N x := by
 have hp : x.pre.length ≤ 64 := by
  by_cases h : 64 < x.pre.length
  ·rw [restBad, if_pos h] at hz; cases hz
  ·omega
 have hd : ¬ 12 < x.dep := fun h => by rw [restBad, if_neg (by omega), if_pos h] at hz; cases hz
 rw [restBad, if_neg (by omega), if_neg hd] at hz
 exact ⟨hp, by omega, bad1_zero.1 hz⟩
theorem small9 {N : Nat} (hN : 40000000 ≤ N) {x : GPattern} (hb : x.bulk ≤ 16777216) : ∃ b, ref09_Small N x = some b ∧ (b = true → x.pre.length ≤ 9) := by
 unfold ref09_Small
 obtain ⟨r, h0, c1, c2, c3⟩ := total_eq hN 9 N x (by omega) hb
 rw [h0]
 simp only [Option.bind_some]
 by_cases h : 9 < r
 ·rw [if_pos (gt_true h)]; exact ⟨_, rfl, fun h => by cases h⟩
 ·rw [if_neg (gt_false h), nodes_eq hN N x (by omega) hb]
  have hpb := pre_bulk_p x
  simp only [Option.bind_some]
  have key : ∃ o, loopN (fun (s3 : Int) => ((if Ar.cmp .lss s3 (Ar.len x.pre) = true then (idxL x.pre s3).bind fun x5 => (ref08_Count N N x5.Cond 20).bind fun r6 => if Ar.cmp .gtr r6 20 = true then some (.inr (.inr ())) else some (.inl (Ar.ar .add .i64 s3 1)) else some (.inr (.inl ()))) : Option (Int ⊕ (Unit ⊕ Unit)))) N 0 = some o ∧ True := loop_inv (fun j s => s = (j : Int)) (fun _ => True) x.pre.length 0 0 N (by omega) rfl (fun j s _ hj e => by
   subst e
   simp only [Nat.zero_add] at hj
   have e1 : idxL x.pre (j : Int) = some x.pre[j] := by rw [idx_at, List.getElem?_eq_getElem hj]
   have hm := (mem_pre x _ (List.getElem_mem hj)).1
   have hc := GPattern.bulk_eq x.pre[j]
   obtain ⟨r6, h6, _⟩ := count_eq hN 20 N x.pre[j].Cond (by omega) (by omega)
   rw [if_pos (by simp only [cmp_lss, len_def]; exact decide_eq_true (by omega)), e1]
   simp only [Option.bind_some, h6]
   by_cases h7 : 20 < r6
   ·rw [if_pos (gt_true h7)]; exact ⟨_, rfl, trivial⟩
   ·rw [if_neg (gt_false h7)]; exact ⟨_, rfl, inc_i64 (by omega)⟩) (fun s e => by
   subst e
   exact ⟨.inl (), by simp [cmp_lss, len_def], trivial⟩)
  obtain ⟨o, ho, _⟩ := key
  rw [ho]
  have hl : x.pre.length ≤ 9 := by omega
  cases o with
  | inl _ => exact ⟨_, rfl, fun _ => hl⟩
  | inr _ => exact ⟨_, rfl, fun _ => hl⟩
theorem self_pre (x : GPattern) : x ∈ x.pre := by rw [GPattern.pre_eq]; simp
theorem sameAll_eq {N : Nat} (hN : 40000000 ≤ N) (l m : List GPattern) (hl : l.length ≤ 1000000) (hb : ∀ p ∈ l, p.bulk ≤ 16777216) : ref22_SameAll N l m = some (decide (l = m)) := by
 unfold ref22_SameAll
 by_cases hlm : l.length = m.length
 ·rw [if_neg (by simp [cmp_neq, len_def, hlm]), eq_loop l m hlm (by omega) _ (fun x hx y _ => same9 hN N x y (by have := hb x hx; omega) (hb x hx)) (by omega)]
  by_cases h : l = m <;> simp [h]
 ·rw [if_pos (by simp only [cmp_neq, len_def, Bool.not_eq_true', decide_eq_false_iff_not]; omega), decide_eq_false fun e => hlm (by rw [e])]
theorem derive_eq {N : Nat} (hN : 40000000 ≤ N) {x : GPattern} (hb : x.bulk ≤ 1100000) (hz : restBad N x = 0) : derivative_Derive N x = some (derivedP N (raw x)) := by
 unfold derivative_Derive
 rw [rest_eq hN (by omega), derived_eq hN hb hz]
 simp only [Option.bind_some]
 rw [if_neg (ne_false hz)]
theorem rests_len (w : List Pr) : (rests w).length ≤ (dd w).length := by
 have key : ∀ (v w : List Pr), (rests w).length ≤ (dd w).length → (rests (w ++ v)).length ≤ (dd (w ++ v)).length := fun v => by
  induction v with
  | nil => intro w h; simpa using h
  | cons y v ih =>
   intro w h
   have := ih (w ++ [y]) (by
    rw [rests_snoc, dd_snoc]
    unfold rstep wth
    split
    ·split
     ·exact h
     ·simp only [List.length_append, List.length_cons, List.length_nil]; omega
    ·rename_i hd
     by_cases hy : y ∈ dd w
     ·rw [if_pos (rests_has (dd_mem.1 hy) hd), if_pos hy]; exact h
     ·rw [if_neg hy]; split <;> (simp only [List.length_append, List.length_cons, List.length_nil]; omega))
   simpa using this
 simpa using key w [] (by simp [rests])
theorem bind_of {α β : Type} {m : Option α} {F : α → Option β} {a : α} {r : Option β} (h1 : m = some a) (h2 : F a = r) : m.bind F = r := by rw [h1]; exact h2
end Go.Ab

namespace Go.Ab
def toP (y : Pr) : Gtidegateref22_Pair := ⟨y.1, y.2.done, y.2.p⟩
def EqE (a b : GEdge) : Prop := (a.Var = b.Var ∧ a.Typ = b.Typ) ∧ a.Cond = b.Cond ∧ a.Opens = b.Opens ∧ a.Closes = b.Closes ∧ a.Checks = b.Checks ∧ a.Limits = b.Limits ∧ a.Inside = b.Inside
noncomputable instance (a b : GEdge) : Decidable (EqE a b) := Classical.propDecidable _
theorem sameIntsR {N : Nat} (l m : List Int) (hs : l.length < 1000000) (hN : l.length < N) : ref09_SameInts N l m = some (decide (l = m)) := equalI l m hs hN
theorem sameLimitsR {N : Nat} (l m : List GLimit) (hs : l.length < 1000000) (hN : l.length < N) : ref09_SameLimits N l m = some (decide (l = m)) := equalL l m hs hN
theorem ifd {p : Prop} [Decidable p] {α : Type} {a b : α} : (if decide p = true then a else b) = if p then a else b := by by_cases h : p <;> simp [h]
theorem sameEdgeR {N : Nat} (hN : 40000000 ≤ N) (a b : GEdge) (hs : Esz a 1000) (hc : a.Cond.bulk ≤ 16777216) (hk : ∀ c ∈ a.Checks, c.bulk ≤ 16777216) : ref22_SameEdge N a b = some (decide (EqE a b)) := by
 obtain ⟨h1, h2, h3, h4, h5⟩ := hs
 unfold ref22_SameEdge
 rw [same8 hN N a.Cond b.Cond (by omega) hc, sameIntsR a.Opens b.Opens (by omega) (by omega), sameIntsR a.Closes b.Closes (by omega) (by omega), sameIntsR a.Inside b.Inside (by omega) (by omega), sameLimitsR a.Limits b.Limits (by omega) (by omega)]
 simp only [Option.bind_some, or_def, cmp_neq, nt_def, len_def]
 by_cases e1 : a.Var = b.Var ∧ a.Typ = b.Typ
 ·rw [if_neg (by simp [e1.1, e1.2])]
  by_cases e2 : a.Cond = b.Cond
  ·by_cases e3 : a.Checks.length = b.Checks.length
   ·rw [if_neg (by simp [e2, e3])]
    have := eq_loop a.Checks b.Checks e3 (by omega) (fun x y => ref08_Same N N x y) (fun x hx y _ => same8 hN N x y (by have := hk x hx; omega) (hk x hx)) (N := N) (by omega)
    simp only [nt_def, len_def] at this
    rw [this]
    by_cases e4 : a.Checks = b.Checks
    ·rw [if_pos e4]
     simp only [Option.bind_some, ifd]
     by_cases e5 : a.Opens = b.Opens
     ·rw [if_pos e5]
      by_cases e6 : a.Closes = b.Closes
      ·rw [if_pos e6]
       by_cases e7 : a.Inside = b.Inside
       ·rw [if_pos e7]
        congr 1; rw [decide_eq_decide]
        exact ⟨fun h => ⟨e1, e2, e5, e6, e4, h, e7⟩, fun h => h.2.2.2.2.2.1⟩
       ·rw [if_neg e7, decide_eq_false fun h : EqE a b => e7 h.2.2.2.2.2.2]
      ·rw [if_neg e6, decide_eq_false fun h : EqE a b => e6 h.2.2.2.1]
     ·rw [if_neg e5, decide_eq_false fun h : EqE a b => e5 h.2.2.1]
    ·rw [if_neg e4, decide_eq_false fun h : EqE a b => e4 h.2.2.2.2.1]; rfl
   ·rw [if_pos, decide_eq_false fun h : EqE a b => e3 (by rw [h.2.2.2.2.1])]
    simp only [Bool.or_eq_true, Bool.not_eq_true', decide_eq_false_iff_not]; right; omega
  ·rw [if_pos (by simp [e2]), decide_eq_false fun h : EqE a b => e2 h.2.1]
 ·rw [if_pos, decide_eq_false fun h : EqE a b => e1 h.1]
  simp only [Bool.or_eq_true, Bool.not_eq_true', decide_eq_false_iff_not]; omega
theorem any_yes {α : Type} {N : Nat} (l : List α) {step : Int → Option (Int ⊕ (Unit ⊕ Unit))} (P : α → Prop) (hN : l.length < N) (h1 : ∀ j (h : j < l.length), P l[j] → step (j : Int) = some (.inr (.inr ()))) (h0 : ∀ j (h : j < l.length), ¬ P l[j] → step (j : Int) = some (.inl ((j + 1 : Nat) : Int)))
 (hx : ∃ x ∈ l, P x) : loopN step N 0 = some (.inr ()) := by
 obtain ⟨x, hx, hp⟩ := hx
 obtain ⟨m, hm, rfl⟩ := List.getElem_of_mem hx
 obtain ⟨r, k1, k2⟩ := loop_inv (step := step) (fun j s => s = (j : Int) ∧ j ≤ m) (fun r => r = .inr ()) l.length 0 0 N hN ⟨rfl, by omega⟩
  (fun j s _ hj ⟨e, hjm⟩ => by
   subst e
   simp only [Nat.zero_add] at hj
   by_cases hq : P l[j]
   ·exact ⟨_, h1 j hj hq, rfl⟩
   ·refine ⟨_, h0 j hj hq, rfl, ?_⟩
    have : j ≠ m := fun e => by subst e; exact hq hp
    omega)
  (fun s ⟨_, hjm⟩ => by omega)
 rw [k1, k2]
theorem any_no {α : Type} {N : Nat} (l : List α) {step : Int → Option (Int ⊕ (Unit ⊕ Unit))} (P : α → Prop) (hN : l.length < N) (h0 : ∀ j (h : j < l.length), ¬ P l[j] → step (j : Int) = some (.inl ((j + 1 : Nat) : Int)))
 (he : step (l.length : Int) = some (.inr (.inl ()))) (hx : ¬ ∃ x ∈ l, P x) : loopN step N 0 = some (.inl ()) := by
 rw [loop_run (s0 := (0 : Int)) (st := fun j => (j : Int)) (k := l.length) (r := (Sum.inl () : Unit ⊕ Unit)) rfl hN (fun j hj => h0 j hj fun hp => hx ⟨_, List.getElem_mem hj, hp⟩) he]
structure PK (y : Pr) : Prop where
 ok : PairOk 16777216 16777216 y
 sz : Esz y.1 1000
theorem pair_eq {y z : Pr} (hy : PK y) (hz : PK z) : z = y ↔ z.2.done = y.2.done ∧ EqE z.1 y.1 ∧ z.2.p = y.2.p := by
 constructor
 ·rintro rfl; exact ⟨rfl, ⟨⟨rfl, rfl⟩, rfl, rfl, rfl, rfl, rfl, rfl⟩, rfl⟩
 ·rintro ⟨h1, h2, h3⟩
  refine Prod.ext (gedge_eq.2 ⟨⟨by rw [hz.ok.from0, hy.ok.from0], by rw [hz.ok.to0, hy.ok.to0]⟩, h2⟩) ?_
  cases hz2 : z.2; cases hy2 : y.2
  rw [hz2, hy2] at h1 h3
  simp at h1 h3
  simp [h1, h3]
theorem beq_def (a b : Bool) : Ar.beq a b = (a == b) := rfl
theorem with_eq {N : Nat} (hN : 40000000 ≤ N) (l : List Pr) (y : Pr) (hl : l.length ≤ 4000000) (hk : ∀ z ∈ l, PK z) (hy : PK y) : ref22_with N (l.map toP) (toP y) = some ((wth l y).map toP) := by
 unfold ref22_with
 have hlen : (l.map toP).length = l.length := List.length_map ..
 have hidx : ∀ j (h : j < l.length), idxL (l.map toP) (j : Int) = some (toP l[j]) := fun j h => by rw [idx_at, List.getElem?_map, List.getElem?_eq_getElem h]; rfl
 have body : ∀ j (h : j < l.length), (if Ar.beq (toP l[j]).Done (toP y).Done = true then (ref22_SameEdge N (toP l[j]).Edge (toP y).Edge).bind fun r5 => if r5 = true then (ref09_Same N N (toP l[j]).Rest (toP y).Rest).bind fun r7 => if r7 = true then some (Sum.inr (Sum.inr (α := Unit) ())) else some (.inl (Ar.ar .add .i64 (j : Int) 1)) else some (.inl (Ar.ar .add .i64 (j : Int) 1)) else some (.inl (Ar.ar .add .i64 (j : Int) 1))) =
  some (if l[j] = y then .inr (.inr ()) else .inl ((j + 1 : Nat) : Int)) := fun j h => by
  have hz := hk _ (List.getElem_mem h)
  have e := sameEdgeR hN l[j].1 y.1 hz.sz hz.ok.cond hz.ok.checks
  have e2 := same9 hN N l[j].2.p y.2.p (by have := hz.ok.rest; omega) hz.ok.rest
  simp only [toP, e, e2, Option.bind_some, beq_def, inc_i64 (show j < 1000000000000 by omega), ifd]
  by_cases q1 : l[j].2.done = y.2.done
  ·rw [if_pos (by simp [q1])]
   by_cases q2 : EqE l[j].1 y.1
   ·rw [if_pos q2]
    by_cases q3 : l[j].2.p = y.2.p
    ·rw [if_pos q3, if_pos ((pair_eq hy hz).2 ⟨q1, q2, q3⟩)]
    ·rw [if_neg q3, if_neg fun h => q3 ((pair_eq hy hz).1 h).2.2]
   ·rw [if_neg q2, if_neg fun h => q2 ((pair_eq hy hz).1 h).2.1]
  ·rw [if_neg (by simpa using q1), if_neg fun h => q1 ((pair_eq hy hz).1 h).1]
 have st : ∀ j (h : j < l.length), (if Ar.cmp .lss (j : Int) (Ar.len (l.map toP)) = true then (idxL (l.map toP) (j : Int)).bind fun x3 => if Ar.beq x3.Done (toP y).Done = true then (idxL (l.map toP) (j : Int)).bind fun x4 => (ref22_SameEdge N x4.Edge (toP y).Edge).bind fun r5 => if r5 = true then (idxL (l.map toP) (j : Int)).bind fun x6 => (ref09_Same N N x6.Rest (toP y).Rest).bind fun r7 => if r7 = true then some (Sum.inr (Sum.inr (α := Unit) ())) else some (.inl (Ar.ar .add .i64 (j : Int) 1)) else some (.inl (Ar.ar .add .i64 (j : Int) 1)) else some (.inl (Ar.ar .add .i64 (j : Int) 1)) else some (.inr (.inl ()))) =
  some (if l[j] = y then .inr (.inr ()) else .inl ((j + 1 : Nat) : Int)) := fun j h => by
  rw [if_pos (by simp only [cmp_lss, len_def, hlen]; exact decide_eq_true (by omega))]
  simp only [hidx j h, Option.bind_some]
  exact body j h
 by_cases hx : y ∈ l
 ·rw [any_yes l (fun z => z = y) (by omega) (fun j h hp => by rw [st j h, if_pos hp]) (fun j h hp => by rw [st j h, if_neg hp]) ⟨y, hx, rfl⟩]
  unfold wth
  rw [if_pos hx]; rfl
 ·rw [any_no l (fun z => z = y) (by omega) (fun j h hp => by rw [st j h, if_neg hp]) (by simp [cmp_lss, len_def]) (by rintro ⟨x, h1, rfl⟩; exact hx h1)]
  unfold wth
  rw [if_neg hx]
  simp only [Option.bind_some]
  rw [appL_eq (by simp; omega)]
  simp
theorem seq_eq (N : Nat) (l : List GPattern) : ref22_seq N l = some (listP 1 l) := by
 unfold ref22_seq
 match l with
 | [] => rfl
 | [x] => rfl
 | x :: y :: l => rw [if_neg (by simp only [cmp_eql, len_def, List.length_cons, decide_eq_true_eq]; omega)]; rfl
theorem contRef {N : Nat} (y : Pr) (l : List GPattern) (hl : l.length ≤ 1000000) (hd : y.2.done = true → y.2.p = zP) : ref22_continued N (toP y) l = some (toP (y.1, contR y.2 l)) := by
 unfold ref22_continued
 cases l with
 | nil =>
  rw [if_pos (by rfl)]
  unfold contR
  cases h : y.2.done with
  | true =>
   simp only [if_true]
   simp only [toP, h, doneR, hd h]
  | false =>
   simp only [Bool.false_eq_true, if_false]
   simp only [toP, h, listP]
 | cons a l =>
  rw [if_neg (by simp only [cmp_eql, len_def, List.length_cons, decide_eq_true_eq]; omega)]
  unfold contR
  cases h : y.2.done with
  | true =>
   have h' : (toP y).Done = true := h
   rw [if_pos h', appL_eq (by simp at hl ⊢; omega)]
   simp only [Option.bind_some, List.nil_append, seq_eq, if_true]
   rfl
  | false =>
   have h' : (toP y).Done = false := h
   rw [if_neg (by rw [h']; simp), appL_eq (by simp at hl ⊢; omega)]
   simp only [Option.bind_some, seq_eq, Bool.false_eq_true, if_false]
   rfl
theorem joinRef {N : Nat} (y : Pr) (x : GPattern) (i : Nat) (hi : i < x.Args.length) (hl : x.Args.length ≤ 1000000) : ref22_joined N (toP y) x (i : Int) = some (toP (y.1, joinR x.Args i y.2)) := by
 unfold ref22_joined
 have e1 : sliceL x.Args none (some (i : Int)) none = some (x.Args.take i) := by
  unfold sliceL
  rw [if_pos (by simp; omega)]
  simp
 have e2 : sliceL x.Args (some (Ar.ar .add .i64 (i : Int) 1)) none none = some (x.Args.drop (i + 1)) := by
  rw [inc_i64 (by omega)]
  unfold sliceL
  rw [if_pos (by simp; omega)]
  simp only [Option.getD_some, Option.getD_none, Int.toNat_natCast]
  rw [List.take_of_length_le (by simp)]
 have fin : ∀ l : List GPattern, (if Ar.cmp .eql (Ar.len l) 1 = true then (idxL l 0).bind fun x14 => some (⟨y.1, false, x14⟩ : Gtidegateref22_Pair) else some (⟨y.1, false, nd 3 l⟩ : Gtidegateref22_Pair)) = some (toP (y.1, ⟨false, listP 3 l⟩)) := fun l => by
  match l with
  | [] => rfl
  | [x] => rfl
  | x :: y :: l => rw [if_neg (by simp only [cmp_eql, len_def, List.length_cons, decide_eq_true_eq]; omega)]; rfl
 rw [e1]
 simp only [Option.bind_some]
 rw [appL_eq (by simp; omega)]
 simp only [Option.bind_some, List.nil_append, e2]
 cases h : y.2.done with
 | true =>
  have h' : (toP y).Done = true := h
  rw [if_neg (by simp [nt_def, h'])]
  simp only [Option.bind_some]
  rw [appL_eq (by simp; omega)]
  simp only [Option.bind_some]
  have := fin (x.Args.take i ++ x.Args.drop (i + 1))
  simp only [joinR, h, if_true]
  exact this
 | false =>
  have h' : (toP y).Done = false := h
  rw [if_pos (by simp [nt_def, h']), appL_eq (by simp; omega)]
  simp only [Option.bind_some]
  rw [appL_eq (by simp; omega)]
  simp only [Option.bind_some]
  have e3 : x.Args.take i ++ [y.2.p] ++ x.Args.drop (i + 1) = x.Args.set i y.2.p := by
   rw [List.set_eq_take_append_cons_drop, if_pos hi]; simp
  have := fin (x.Args.take i ++ [y.2.p] ++ x.Args.drop (i + 1))
  simp only [joinR, h, Bool.false_eq_true, if_false]
  rw [← e3]
  exact this
theorem negatesR (N : Nat) (x : GPattern) : ref09_Negates N x = some (decide (x.Op = 5 ∨ x.Op = 9)) := by
 unfold ref09_Negates
 simp only [or_def, cmp_eql, Bool.decide_or]
theorem scopRef {N : Nat} (x : GPattern) (y : Pr) (h7 : x.Op ≠ 7) (hy : Esz y.1 1000) (hd : y.2.done = true → y.2.p = zP) : ref22_scoped N x (toP y) = some (toP (inn x y)) := by
 obtain ⟨h1, h2, h3, h4, h5⟩ := hy
 unfold ref22_scoped ref22_first ref22_last ref22_node inn innE innR innOp
 rw [negatesR]
 simp only [Option.bind_some, if_neg h7, or_def, cmp_eql, ← Bool.decide_or, ifd]
 by_cases h59 : x.Op = 5 ∨ x.Op = 9
 ·rw [if_pos h59, if_pos h59, if_pos h59, appL_eq (by simp [toP]; omega)]
  simp only [Option.bind_some]
  by_cases ho : x.Op = 5
  ·rw [if_pos (.inl ho), appL_eq (by simp [toP]; omega)]
   simp only [Option.bind_some]
   cases h : y.2.done with
   | true =>
    have h' : (toP y).Done = true := h
    rw [if_pos h', appL_eq (by simp [toP]; omega)]
    simp only [Option.bind_some]
    rw [appL_eq (by simp [toP]; omega)]
    simp [toP, scopE, h59, ho, h, hd h, zP, zE]
   | false =>
    have h' : (toP y).Done = false := h
    rw [if_neg (by rw [h']; simp)]
    simp [toP, scopE, h59, ho, h]
  ·have h9 : x.Op = 9 := by omega
   rw [if_neg (by omega)]
   simp only [Option.bind_some]
   cases h : y.2.done with
   | true =>
    have h' : (toP y).Done = true := h
    rw [if_pos h', appL_eq (by simp [toP]; omega)]
    simp only [Option.bind_some]
    rw [appL_eq (by simp [toP]; omega)]
    simp [toP, scopE, h9, h, hd h, zP, zE]
   | false =>
    have h' : (toP y).Done = false := h
    rw [if_neg (by rw [h']; simp)]
    simp [toP, scopE, h9, h]
 ·rw [if_neg h59, if_neg h59, if_neg h59, appL_eq (by simp [toP]; omega)]
  simp only [Option.bind_some]
  by_cases ho : x.Op = 6
  ·rw [if_pos (.inr ho), appL_eq (by simp [toP]; omega)]
   simp only [Option.bind_some]
   cases h : y.2.done with
   | true =>
    have h' : (toP y).Done = true := h
    rw [if_pos h', appL_eq (by simp [toP]; omega)]
    simp only [Option.bind_some]
    rw [appL_eq (by simp [toP]; omega)]
    simp [toP, scopE, h59, ho, h, hd h, zP, zE]
   | false =>
    have h' : (toP y).Done = false := h
    rw [if_neg (by rw [h']; simp)]
    simp [toP, scopE, h59, ho, h]
  ·rw [if_neg (by omega)]
   simp only [Option.bind_some]
   cases h : y.2.done with
   | true =>
    have h' : (toP y).Done = true := h
    rw [if_pos h', appL_eq (by simp [toP]; omega)]
    simp only [Option.bind_some]
    rw [appL_eq (by simp [toP]; omega)]
    simp [toP, scopE, h59, ho, h, hd h, zP, zE]
   | false =>
    have h' : (toP y).Done = false := h
    rw [if_neg (by rw [h']; simp)]
    simp [toP, scopE, h59, ho, h]
end Go.Ab

namespace Go.Ab
theorem plus_form {N : Nat} (hN : 40000000 ≤ N) {y : GPattern} (hb : y.bulk ≤ 16777216) (hl : y.Args.length ≤ 64) (h : nodeBad N y = 0) (h4 : y.Op = 4) : y = nd 4 y.Args := by
 have hc : y.Cond.bulk ≤ 16777216 := by have := GPattern.bulk_eq y; omega
 obtain ⟨s, ng, hs⟩ := shape_ok N y (by omega) (by omega) hl
 have hz := same8 hN N y.Cond zE (by omega) hc
 have h1 := check_patr hN hc (by omega) (by omega) hs hz
 rw [(node_both hN hb hl).2, h] at h1
 have ht := hs.tab
 rw [h4] at ht
 cases ht
 have h1 := Option.some.inj h1
 split at h1
 ·unfold patBad at h1
  simp only [badB, Bool.false_and, Bool.false_eq_true, if_false, false_and, unusedB, Bool.false_or, decide_eq_true_eq] at h1
  split at h1
  ·rename_i hh
   obtain ⟨e1, e2, e3, e4, e5⟩ := hh
   refine gpattern_eq.2 ⟨⟨h4, e2, e3, e4, e5⟩, e1, rfl⟩
  ·cases h1
 ·cases h1
def hOne (x : GPattern) (y : Pr) : List Pr :=
 if x.Op = 1 then [(y.1, contR y.2 (x.Args.drop 1))]
 else if x.Op = 4 then rep x y
 else if x.Op = 8 then rep (nd 4 (x.Args.drop 1)) y
 else [inn x y]
theorem one_eq {N : Nat} (hN : 40000000 ≤ N) {x : GPattern} (hb : x.bulk ≤ 16777216) (hl : x.Args.length ≤ 64) (hg : nodeBad N x = 0) (h0 : x.Op ≠ 0) (h2 : x.Op ≠ 2) (h3 : x.Op ≠ 3) {y : Pr} (hy : PK y) : ref22_one N x (toP y) = some ((hOne x y).map toP) := by
 have ha := arity_ok hN hb hl hg
 have hop := ha.op
 unfold ref22_one hOne
 simp only [cmp_eql, ifd]
 by_cases h1 : x.Op = 1
 ·have := ha.two (by omega) (by omega)
  rw [if_pos h1, if_pos h1, slice_tail (by omega)]
  simp only [Option.bind_some]
  rw [contRef y _ (by simp; omega) hy.ok.done]
  rfl
 rw [if_neg h1, if_neg h1]
 by_cases h4 : x.Op = 4
 ·rw [if_pos h4, if_pos h4]
  obtain ⟨a, e⟩ := ha.one (by omega) (by omega)
  have hx := plus_form hN hb hl hg h4
  have e0 : idxL x.Args 0 = some a := by rw [e]; rfl
  rw [e0]
  simp only [Option.bind_some]
  unfold ref22_repeated rep
  cases h : y.2.done with
  | true =>
   have h' : (toP y).Done = true := h
   rw [if_pos h', if_pos rfl]
   rw [e] at hx
   rw [hx]; rfl
  | false =>
   have h' : (toP y).Done = false := h
   rw [if_neg (by rw [h']; simp), if_neg (by simp), e]
   rfl
 rw [if_neg h4, if_neg h4]
 by_cases h8 : x.Op = 8
 ·rw [if_pos h8, if_pos h8]
  obtain ⟨a, b, e⟩ := ha.more h8
  have e0 : idxL x.Args 1 = some b := by rw [e]; rfl
  rw [e0, e]
  simp only [Option.bind_some]
  unfold ref22_repeated rep
  cases h : y.2.done with
  | true =>
   have h' : (toP y).Done = true := h
   rw [if_pos h', if_pos rfl]
   rfl
  | false =>
   have h' : (toP y).Done = false := h
   rw [if_neg (by rw [h']; simp), if_neg (by simp)]
   rfl
 rw [if_neg h8, if_neg h8]
 by_cases h7 : x.Op = 7
 ·rw [if_pos h7]
  obtain ⟨z1, z2, z3, z4, z5⟩ := hy.sz
  cases h : y.2.done with
  | true =>
   have h' : (toP y).Done = true := h
   rw [if_pos h', appL_eq (by simp [toP]; omega)]
   simp only [Option.bind_some]
   rw [appL_eq (by simp [toP]; omega)]
   simp [toP, inn, innE, innR, h7, h, hy.ok.done h, zP, zE]
  | false =>
   have h' : (toP y).Done = false := h
   rw [if_neg (by rw [h']; simp)]
   simp [toP, inn, innE, innR, innOp, h7, h, ref22_node]
 ·rw [if_neg h7, scopRef x y h7 hy.sz hy.ok.done]
  rfl
def mx0 (l : List Nat) : Nat := l.foldr max 0
def uc (op : Int) (l : List Nat) : Nat := if op = 0 then 1 else if op = 2 ∨ op = 3 then l.sum else if op = 4 ∨ op = 8 then 2 * mx0 l else mx0 l
mutual
def U : GPattern → Nat
 | ⟨op, args, _, _, _, _, _⟩ => uc op (Us args)
def Us : List GPattern → List Nat
 | [] => []
 | a :: l => U a :: Us l
end
theorem Us_map : ∀ l : List GPattern, Us l = l.map U
 | [] => rfl
 | a :: l => by simp [Us, Us_map l]
theorem U_eq (x : GPattern) : U x = uc x.Op (x.Args.map U) := by cases x; simp only [U, Us_map]
theorem U_nd (op : Int) (l : List GPattern) : U (nd op l) = uc op (l.map U) := by rw [U_eq]; rfl
theorem uc1 (l : List Nat) : uc 1 l = mx0 l := rfl
theorem uc3 (l : List Nat) : uc 3 l = l.sum := rfl
theorem uc4 (l : List Nat) : uc 4 l = 2 * mx0 l := rfl
theorem uc8 (l : List Nat) : uc 8 l = 2 * mx0 l := rfl
theorem mx0_nil : mx0 [] = 0 := rfl
theorem mx0_mem {l : List Nat} {a : Nat} (h : a ∈ l) : a ≤ mx0 l := by
 induction l with
 | nil => simp at h
 | cons b l ih =>
  simp only [mx0, List.foldr_cons]
  rcases List.mem_cons.1 h with rfl | h
  ·omega
  ·have := ih h; simp only [mx0] at this; omega
theorem mx0_cons (a : Nat) (l : List Nat) : mx0 (a :: l) = max a (mx0 l) := rfl
theorem mx0_le {l : List Nat} {m : Nat} (h : ∀ a ∈ l, a ≤ m) : mx0 l ≤ m := by
 induction l with
 | nil => simp [mx0]
 | cons b l ih =>
  have := ih fun a ha => h a (by simp [ha])
  have := h b (by simp)
  rw [mx0_cons]; omega
theorem mem_sum {l : List Nat} {a : Nat} (h : a ∈ l) : a ≤ l.sum := by
 induction l with
 | nil => simp at h
 | cons b l ih =>
  simp only [List.sum_cons]
  rcases List.mem_cons.1 h with rfl | h
  ·omega
  ·have := ih h; omega
theorem sum_range_le : ∀ (l : List GPattern) (F : Nat → Nat), (∀ i (h : i < l.length), F i ≤ U l[i]) → ((List.range l.length).map F).sum ≤ (l.map U).sum
 | [], F, _ => by simp
 | a :: l, F, h => by
  have := sum_range_le l (fun i => F (i + 1)) fun i hi => by have := h (i + 1) (by simpa using hi); simpa using this
  have h0 := h 0 (by simp)
  simp only [List.length_cons, List.range_succ_eq_map, List.map_cons, List.map_map, List.sum_cons]
  simp only [List.getElem_cons_zero] at h0
  have e : (List.map (F ∘ Nat.succ) (List.range l.length)).sum = (List.map (fun i => F (i + 1)) (List.range l.length)).sum := rfl
  omega
theorem flatMap_len_le {α β : Type} {f : α → List β} {k : Nat} : ∀ {l : List α}, (∀ x ∈ l, (f x).length ≤ k) → (l.flatMap f).length ≤ k * l.length
 | [], _ => by simp
 | x :: l, h => by
  have := flatMap_len_le (f := f) (l := l) fun y hy => h y (by simp [hy])
  have := h x (by simp)
  simp only [List.flatMap_cons, List.length_append, List.length_cons, Nat.mul_add]
  omega
theorem rep_len (a : GPattern) (y : Pr) : (rep a y).length ≤ 2 := by
 unfold rep
 split
 ·simp
 ·split <;> simp
theorem headD_len {l : List GPattern} (h : ∀ a ∈ l, (raw a).length ≤ U a) : ((l.map raw).headD []).length ≤ mx0 (l.map U) := by
 cases l with
 | nil => simp
 | cons a l => have := h a (by simp); simp only [List.map_cons, List.headD_cons, mx0_cons]; omega
theorem raw_len : ∀ (d : Nat) (x : GPattern), x.dep ≤ d → (raw x).length ≤ U x := by
 intro d
 induction d with
 | zero => intro x h; rw [GPattern.dep_eq] at h; omega
 | succ d ih =>
  intro x hd
  have hrec : ∀ a ∈ x.Args, (raw a).length ≤ U a := fun a ha => ih a (by have := dep_mem ha; omega)
  have hhd := headD_len hrec
  rw [raw_eq, U_eq]
  unfold comb uc
  by_cases h0 : x.Op = 0
  ·rw [if_pos h0, if_pos h0]; simp
  rw [if_neg h0, if_neg h0]
  by_cases h1 : x.Op = 1
  ·rw [if_pos h1, if_neg (show ¬ (x.Op = 2 ∨ x.Op = 3) by omega), if_neg (show ¬ (x.Op = 4 ∨ x.Op = 8) by omega), List.length_map]; exact hhd
  rw [if_neg h1]
  by_cases h2 : x.Op = 2
  ·rw [if_pos h2, if_pos (.inl h2), List.length_flatMap]
   exact sum_range_le _ _ fun i hi => by rw [getD_map_at hi]; exact hrec _ (List.getElem_mem hi)
  rw [if_neg h2]
  by_cases h3 : x.Op = 3
  ·rw [if_pos h3, if_pos (.inr h3), List.length_flatMap]
   exact sum_range_le _ _ fun i hi => by rw [getD_map_at hi, List.length_map]; exact hrec _ (List.getElem_mem hi)
  rw [if_neg h3, if_neg (show ¬ (x.Op = 2 ∨ x.Op = 3) by omega)]
  by_cases h4 : x.Op = 4
  ·rw [if_pos h4, if_pos (.inl h4)]
   have := flatMap_len_le (f := rep x) (k := 2) (l := (x.Args.map raw).headD []) fun y _ => rep_len x y
   omega
  rw [if_neg h4]
  by_cases h8 : x.Op = 8
  ·rw [if_pos h8, if_pos (.inr h8)]
   have := flatMap_len_le (f := rep (nd 4 (x.Args.drop 1))) (k := 2) (l := (x.Args.map raw).headD []) fun y _ => rep_len _ y
   omega
  ·rw [if_neg h8, if_neg (show ¬ (x.Op = 4 ∨ x.Op = 8) by omega), List.length_map]; exact hhd
theorem U_listP1 (l : List GPattern) : U (listP 1 l) = mx0 (l.map U) := by
 match l with
 | [] => rw [show listP 1 [] = nd 1 [] from rfl, U_nd, uc1]
 | [x] => show U x = max (U x) 0; omega
 | x :: y :: l => rw [show listP 1 (x :: y :: l) = nd 1 (x :: y :: l) from rfl, U_nd, uc1]
theorem U_listP3 (l : List GPattern) : U (listP 3 l) = (l.map U).sum := by
 match l with
 | [] => rw [show listP 3 [] = nd 3 [] from rfl, U_nd, uc3]
 | [x] => simp [listP]
 | x :: y :: l => rw [show listP 3 (x :: y :: l) = nd 3 (x :: y :: l) from rfl, U_nd, uc3]
theorem sum_take (l : List Nat) (i : Nat) : (l.take i).sum + (l.drop i).sum = l.sum := by rw [← List.sum_append, List.take_append_drop]
theorem sum_set : ∀ (l : List Nat) (i : Nat) (hi : i < l.length) (v : Nat), (l.set i v).sum + l[i] = l.sum + v
 | a :: l, 0, _, v => by simp only [List.set_cons_zero, List.sum_cons, List.getElem_cons_zero]; omega
 | a :: l, i + 1, hi, v => by
  have := sum_set l i (by simpa using hi) v
  simp only [List.set_cons_succ, List.sum_cons, List.getElem_cons_succ]; omega
theorem raw_U : ∀ (d : Nat) (x : GPattern), x.dep ≤ d → ∀ y ∈ raw x, ¬ y.2.done = true → U y.2.p ≤ U x := by
 intro d
 induction d with
 | zero => intro x h; rw [GPattern.dep_eq] at h; omega
 | succ d ih =>
  intro x hd y hy hnd
  have hrec : ∀ a ∈ x.Args, ∀ y ∈ raw a, ¬ y.2.done = true → U y.2.p ≤ U a := fun a ha => ih a (by have := dep_mem ha; omega)
  have hmx : ∀ a ∈ x.Args, U a ≤ mx0 (x.Args.map U) := fun a ha => mx0_mem (List.mem_map.2 ⟨a, ha, rfl⟩)
  rw [raw_eq] at hy
  have hU := U_eq x
  unfold comb at hy
  unfold uc at hU
  by_cases h0 : x.Op = 0
  ·rw [if_pos h0] at hy
   rw [List.mem_singleton.1 hy] at hnd; exact absurd rfl hnd
  rw [if_neg h0] at hy hU
  by_cases h1 : x.Op = 1
  ·rw [if_pos h1] at hy
   rw [if_neg (by omega), if_neg (by omega)] at hU
   obtain ⟨z, hz, rfl⟩ := List.mem_map.1 hy
   match he : x.Args, hz with
   | [], hz => simp at hz
   | a :: l, hz =>
    have hz : z ∈ raw a := by simpa using hz
    have ha : a ∈ x.Args := by rw [he]; simp
    rw [he] at hnd hU
    simp only [List.drop_succ_cons, List.drop_zero, List.map_cons, mx0_cons] at hnd hU ⊢
    have e : U (contR z.2 l).p = mx0 ((if z.2.done = true then l else z.2.p :: l).map U) ∨ (contR z.2 l).done = true := by
     unfold contR
     split
     ·right; rfl
     ·left; rw [← U_listP1]
    rcases e with e | e
    ·rw [e]
     split
     ·omega
     ·rename_i hzd
      have := hrec a ha z hz hzd
      rw [List.map_cons, mx0_cons]; omega
    ·exact absurd e hnd
  rw [if_neg h1] at hy
  by_cases h2 : x.Op = 2
  ·rw [if_pos h2] at hy
   rw [if_pos (.inl h2)] at hU
   obtain ⟨i, _, hz⟩ := List.mem_flatMap.1 hy
   obtain ⟨a, ha, hz⟩ := getD_map_raw hz
   have h5 := hrec a ha y hz hnd
   have h6 := mem_sum (List.mem_map.2 ⟨a, ha, rfl⟩ : U a ∈ x.Args.map U)
   omega
  rw [if_neg h2] at hy
  by_cases h3 : x.Op = 3
  ·rw [if_pos h3] at hy
   rw [if_pos (.inr h3)] at hU
   obtain ⟨i, _, hz⟩ := List.mem_flatMap.1 hy
   obtain ⟨z, hz2, rfl⟩ := List.mem_map.1 hz
   have hi : i < x.Args.length := by
    rcases Nat.lt_or_ge i x.Args.length with h | h
    ·exact h
    ·rw [List.getD_eq_getElem?_getD, List.getElem?_map, List.getElem?_eq_none h] at hz2; simp at hz2
   rw [getD_map_at hi] at hz2
   simp only [joinR]
   rw [U_listP3]
   split
   ·have := sum_take (x.Args.map U) i
    have e : (x.Args.map U).drop i = U x.Args[i] :: (x.Args.map U).drop (i + 1) := by
     rw [List.drop_eq_getElem_cons (by simpa using hi)]; simp
    rw [e, List.sum_cons] at this
    rw [List.map_append, List.sum_append, List.map_take, List.map_drop]
    omega
   ·rename_i hzd
    have h5 := hrec _ (List.getElem_mem hi) z hz2 hzd
    have h6 := sum_set (x.Args.map U) i (by simpa using hi) (U z.2.p)
    rw [List.map_set]
    simp only [List.getElem_map] at h6
    omega
  rw [if_neg h3] at hy
  rw [if_neg (by omega)] at hU
  have hrep : ∀ (ag b : GPattern) (l : List GPattern), ag.Args = b :: l → U ag ≤ 2 * mx0 (x.Args.map U) → U b ≤ mx0 (x.Args.map U) → ∀ a ∈ x.Args, ∀ z ∈ raw a, ∀ y ∈ rep ag z, ¬ y.2.done = true → U y.2.p ≤ 2 * mx0 (x.Args.map U) := fun ag b l hl h1 h2 a ha z hz y hy hnd => by
   have := hmx a ha
   unfold rep at hy
   split at hy
   ·rcases List.mem_cons.1 hy with rfl | hy
    ·have := hrec a ha _ hz hnd; omega
    ·rw [List.mem_singleton.1 hy]; exact h1
   ·rename_i hzd
    rw [hl] at hy
    rw [List.mem_singleton.1 hy]
    have := hrec a ha z hz hzd
    simp only [U_nd, uc8, List.map_cons, List.map_nil, mx0_cons, mx0_nil]
    omega
  by_cases h4 : x.Op = 4
  ·rw [if_pos h4] at hy
   rw [if_pos (.inl h4)] at hU
   obtain ⟨z, hz, hy⟩ := List.mem_flatMap.1 hy
   match he : x.Args, hz with
   | [], hz => simp at hz
   | a :: l, hz =>
    have := hrep x a l he (by omega) (hmx a (by rw [he]; simp)) a (by rw [he]; simp) z (by simpa using hz) y hy hnd
    omega
  rw [if_neg h4] at hy
  by_cases h8 : x.Op = 8
  ·rw [if_pos h8] at hy
   rw [if_pos (.inr h8)] at hU
   obtain ⟨z, hz, hy⟩ := List.mem_flatMap.1 hy
   match he : x.Args, hz with
   | [], hz => simp at hz
   | [a], hz =>
    have ha : a ∈ x.Args := by rw [he]; simp
    have hm := hmx a ha
    rw [he] at hy
    unfold rep at hy
    split at hy
    ·rcases List.mem_cons.1 hy with rfl | hy
     ·have := hrec a ha _ (by simpa using hz) hnd; omega
     ·rw [List.mem_singleton.1 hy]
      simp only [U_nd, uc4, List.drop_succ_cons, List.drop_nil, List.map_nil, mx0_nil]; omega
    ·simp [nd] at hy
   | a :: b :: l, hz =>
    have hb : ∀ c ∈ b :: l, U c ≤ mx0 (x.Args.map U) := fun c hc => hmx c (by rw [he]; exact List.mem_cons_of_mem _ hc)
    rw [he] at hy
    have h5 : U (nd 4 (b :: l)) ≤ 2 * mx0 (x.Args.map U) := by
     have : mx0 ((b :: l).map U) ≤ mx0 (x.Args.map U) := mx0_le fun v hv => by
      obtain ⟨c, hc, rfl⟩ := List.mem_map.1 hv
      exact hb c hc
     rw [U_nd, uc4]
     omega
    have := hrep (nd 4 (b :: l)) b l rfl h5 (hb b (by simp)) a (by rw [he]; simp) z (by simpa using hz) y hy hnd
    omega
  ·rw [if_neg h8] at hy
   rw [if_neg (by omega)] at hU
   obtain ⟨z, hz, rfl⟩ := List.mem_map.1 hy
   obtain ⟨a, ha, hz⟩ := headD_map_raw hz
   simp only [inn, innR] at hnd ⊢
   split at hnd
   ·rename_i h; exact absurd h hnd
   ·rename_i hzd
    rw [if_neg hzd]
    have h5 := hrec a ha z hz hzd
    have h6 := hmx a ha
    rw [U_eq]
    have e : uc (innOp x) ([z.2.p].map U) = U z.2.p := by
     unfold uc innOp
     simp only [List.map_cons, List.map_nil, mx0_cons]
     have m0 : mx0 [] = 0 := rfl
     rw [m0]
     split
     ·rename_i hx; simp
     ·split <;> simp
    simp only
    rw [e]; omega
theorem U_pow : ∀ (d : Nat) (x : GPattern), x.dep ≤ d → U x + 1 ≤ 2 ^ x.pre.length := by
 intro d
 induction d with
 | zero => intro x h; rw [GPattern.dep_eq] at h; omega
 | succ d ih =>
  intro x hd
  have hrec : ∀ a ∈ x.Args, U a + 1 ≤ 2 ^ a.pre.length := fun a ha => ih a (by have := dep_mem ha; omega)
  have key : ∀ l : List GPattern, (∀ a ∈ l, U a + 1 ≤ 2 ^ a.pre.length) → (l.map U).sum + 1 ≤ 2 ^ (GPattern.pres l).length := fun l => by
   induction l with
   | nil => intro _; simp [GPattern.pres]
   | cons a l ihl =>
    intro h
    have h1 := h a (by simp)
    have h2 := ihl fun b hb => h b (by simp [hb])
    simp only [List.map_cons, List.sum_cons, GPattern.pres, List.length_append, Nat.pow_add]
    have h3 : (U a + 1) * ((l.map U).sum + 1) ≤ 2 ^ a.pre.length * 2 ^ (GPattern.pres l).length := Nat.mul_le_mul h1 h2
    have h4 : (U a + 1) * ((l.map U).sum + 1) = U a * (l.map U).sum + U a + (l.map U).sum + 1 := by
     rw [Nat.add_mul, Nat.mul_add]; omega
    omega
  have hs := key x.Args hrec
  have hm : mx0 (x.Args.map U) ≤ (x.Args.map U).sum := mx0_le fun a ha => mem_sum ha
  rw [U_eq, GPattern.pre_eq, List.length_cons, Nat.pow_succ]
  have hp : 1 ≤ 2 ^ (GPattern.pres x.Args).length := Nat.one_le_two_pow
  unfold uc
  split
  ·omega
  ·split
   ·omega
   ·split <;> omega
end Go.Ab

