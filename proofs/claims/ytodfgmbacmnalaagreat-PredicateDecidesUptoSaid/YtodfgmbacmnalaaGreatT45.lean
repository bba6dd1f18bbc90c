/- GQT6 GQT7 GQT8 GQT9 GQV0 -/
import Derived.Test.YtodfgmbacmnalaaGreatT40
import Derived.Test.YtodfgmbacmnalaaGreatT44
import Derived.Test.YtodfgmbacmnalaaGreatT42
import Derived.Test.YtodfgmbacmnalaaGreatT38
set_option linter.all false

namespace Go.Ab
open Classical
set_option maxRecDepth 100000
theorem neg_i64 {a : Int} (h : -1000000000000000000 ≤ a ∧ a ≤ 1000000000000000000) : Ar.neg .i64 a = -a := (wrap_i64 (n := 0 - a) (by omega) (by omega)).trans (by omega)
theorem sub_i64 {a b : Int} (h : -1000000000000000000 ≤ a - b ∧ a - b ≤ 1000000000000000000) : Ar.ar .sub .i64 a b = a - b := wrap_i64 (n := a - b) (by omega) (by omega)
theorem num_bnd {v : GValue} (h : valBad v = 0) : -1099511627776 ≤ v.Num ∧ v.Num ≤ 1099511627776 := by
 unfold valBad at h
 by_cases h1 : v.Kind = 0 ∨ v.Kind = 1
 ·rw [if_pos h1] at h
  by_cases h2 : v.Text ≠ ⟨#[]⟩
  ·rw [if_pos h2] at h; cases h
  rw [if_neg h2] at h
  by_cases h3 : v.Kind = 0 ∧ (v.Num < -1099511627776 ∨ 1099511627776 < v.Num) ∨ v.Kind = 1 ∧ v.Num ≠ 0 ∧ v.Num ≠ 1
  ·rw [if_pos h3] at h; cases h
  omega
 ·rw [if_neg h1] at h
  by_cases h2 : v.Kind = 2
  ·rw [if_pos h2] at h
   by_cases h3 : v.Num ≠ 0
   ·rw [if_pos h3] at h; cases h
   omega
  ·rw [if_neg h2] at h; cases h
theorem argL2 {x : GExpr} (h : x.Args.length = 2) : ∃ a b, x.Args = [a, b] ∧ idxL x.Args 0 = some a ∧ idxL x.Args 1 = some b ∧ a ∈ x.Args ∧ b ∈ x.Args ∧ x.pre.length = 1 + a.pre.length + b.pre.length := by
 rcases hx : x.Args with _ | ⟨a, _ | ⟨b, _ | ⟨c, l⟩⟩⟩
 ·rw [hx] at h; cases h
 ·rw [hx] at h; cases h
 ·refine ⟨a, b, rfl, rfl, rfl, by simp, by simp, ?_⟩
  rw [GExpr.pre_eq, hx]; simp [GExpr.pres]; omega
 ·rw [hx] at h; simp at h
theorem argL1 {x : GExpr} (h : x.Args.length = 1) : ∃ a, x.Args = [a] ∧ idxL x.Args 0 = some a ∧ a ∈ x.Args ∧ x.pre.length = 1 + a.pre.length := by
 rcases hx : x.Args with _ | ⟨a, _ | ⟨b, l⟩⟩
 ·rw [hx] at h; cases h
 ·refine ⟨a, rfl, rfl, by simp, ?_⟩
  rw [GExpr.pre_eq, hx]; simp [GExpr.pres]; omega
 ·rw [hx] at h; simp at h
theorem pre_mem {x a : GExpr} (h : a ∈ x.Args) {P : GExpr → Prop} (hP : ∀ y ∈ x.pre, P y) : ∀ y ∈ a.pre, P y := fun y hy => hP y (by rw [GExpr.pre_eq]; exact List.mem_cons_of_mem _ (sub_pres hy _ h))
def OneI (l : List GInterval) : Prop := l = [] ∨ ∃ x : GInterval, Bnd x ∧ l = [x]
noncomputable def dnI (a b : Int) : Int := if Ar.ar .rem .i64 a b < 0 then Ar.ar .sub .i64 (Ar.ar .quo .i64 a b) 1 else Ar.ar .quo .i64 a b
noncomputable def btw (lo hi : Int) : List GInterval := if Ar.mn hi 1099511627776 < Ar.mx lo (-1099511627776) then [] else [⟨Ar.mx lo (-1099511627776), Ar.mn hi 1099511627776⟩]
theorem btw_one (lo hi : Int) : OneI (btw lo hi) := by
 unfold btw
 by_cases h : Ar.mn hi 1099511627776 < Ar.mx lo (-1099511627776)
 ·rw [if_pos h]; exact .inl rfl
 ·rw [if_neg h]
  refine .inr ⟨_, ?_, rfl⟩
  rw [mn_def, mx_def] at h
  unfold Bnd
  simp only [mn_def, mx_def]
  refine ⟨?_, ?_, ?_⟩
  ·split <;> omega
  ·exact Int.not_lt.1 h
  ·split <;> omega
noncomputable def mostC (t b : Int) : List GInterval :=
 if 0 < t then btw (-1099511627776) (dnI b t) else if t < 0 then btw (Ar.neg .i64 (dnI b (Ar.neg .i64 t))) 1099511627776 else if 0 ≤ b then [⟨-1099511627776, 1099511627776⟩] else []
theorem most_one (t b : Int) : OneI (mostC t b) := by
 unfold mostC
 split
 ·exact btw_one _ _
 ·split
  ·exact btw_one _ _
  ·split
   ·exact .inr ⟨_, ⟨by decide, by decide, by decide⟩, rfl⟩
   ·exact .inl rfl
theorem down_eq {N : Nat} {a b : Int} (h : b ≠ 0) : predicate_down N a b = some (dnI a b) ∧ ref27_floor N a b = some (dnI a b) := by
 unfold predicate_down ref27_floor dnI
 have : req (Ar.cmp .neq b 0) = some () := by unfold req; rw [if_pos (by simp [cmp_neq, h])]
 rw [this]
 simp only [Option.bind_some, cmp_lss, decide_eq_true_eq]
 by_cases h : Ar.ar .rem .i64 a b < 0
 ·simp only [if_pos h, and_self]
 ·simp only [if_neg h, and_self]
theorem between_eq {N : Nat} {a b : Int} : predicate_between N a b = some (btw a b) ∧ ref27_span N a b = some (btw a b) := by
 unfold predicate_between ref27_span btw
 simp only [cmp_gtr, decide_eq_true_eq]
 by_cases h : Ar.mn b 1099511627776 < Ar.mx a (-1099511627776)
 ·simp only [if_pos h, and_self]
 ·simp only [if_neg h, and_self]
theorem most_eq {N : Nat} {t p : Int} (ht : -1000000 ≤ t ∧ t ≤ 1000000) (hp : -1000000000000000 ≤ p ∧ p ≤ 1000000000000000) : predicate_most N ⟨t, p⟩ = some (mostC t (-p)) := by
 unfold predicate_most mostC
 simp only [cmp_gtr, cmp_lss, cmp_leq, decide_eq_true_eq]
 rw [neg_i64 (a := p) (by omega)]
 by_cases h1 : 0 < t
 ·rw [if_pos h1, if_pos h1, (down_eq (N := N) (show t ≠ 0 by omega)).1]
  simp only [Option.bind_some, between_eq.1]
 ·rw [if_neg h1, if_neg h1]
  by_cases h2 : t < 0
  ·rw [if_pos h2, if_pos h2, (down_eq (N := N) (show Ar.neg .i64 t ≠ 0 by rw [neg_i64 (by omega)]; omega)).1]
   simp only [Option.bind_some, between_eq.1]
  ·rw [if_neg h2, if_neg h2]
   by_cases h3 : p ≤ 0
   ·rw [if_pos h3, if_pos (by omega)]; rfl
   ·rw [if_neg h3, if_neg (by omega)]
end Go.Ab

namespace Go.Ab
open Classical
set_option maxRecDepth 100000
def StpL (L : List Int) (a : List GInterval) : Prop := ∀ m, m ≠ -1099511627776 → m ≠ 1099511627777 → m ∉ L → (InL a m ↔ InL a (m - 1))
theorem StpL.len {L : List Int} {a : List GInterval} (h : StpL L a) (ho : Ord a) : 2 * a.length ≤ L.length + 2 := by
 have := len_of_steps (E := -1099511627776 :: 1099511627777 :: L) ho (fun n => Iff.rfl) fun n hn => by
  simp only [List.mem_cons, not_or] at hn
  exact h n hn.1 hn.2.1 hn.2.2
 simpa using this
theorem StpL.comb {La Lb : List Int} {a b c : List GInterval} (ha : StpL La a) (hb : StpL Lb b) (f : Prop → Prop → Prop → Prop) (hc : ∀ m, InL c m ↔ f (InL a m) (InL b m) (-1099511627776 ≤ m ∧ m ≤ 1099511627776)) : StpL (La ++ Lb) c := fun m h1 h2 h3 => by
 simp only [List.mem_append, not_or] at h3
 rw [hc, hc, propext (ha m h1 h2 h3.1), propext (hb m h1 h2 h3.2), propext (show (-1099511627776 ≤ m ∧ m ≤ 1099511627776) ↔ (-1099511627776 ≤ m - 1 ∧ m - 1 ≤ 1099511627776) by omega)]
theorem stp_nil : StpL [] [] := fun m _ _ _ => by simp [inL_nil]
theorem OneI.ord {a : List GInterval} (h : OneI a) : Ord a ∧ a.length ≤ 1 ∧ ∃ L, L.length ≤ 2 ∧ StpL L a := by
 rcases h with rfl | ⟨x, hx, rfl⟩
 ·exact ⟨trivial, by simp, [], by simp, stp_nil⟩
 ·refine ⟨⟨hx, (fun _ h => by cases h), trivial⟩, by simp, [x.Low, x.High + 1], by simp, fun m _ _ h => ?_⟩
  simp only [List.mem_cons, List.not_mem_nil, or_false, not_or] at h
  rw [inL_cons, inL_cons]
  simp only [inL_nil, or_false]
  omega
theorem whole_one : OneI [⟨-1099511627776, 1099511627776⟩] := .inr ⟨_, ⟨by decide, by decide, by decide⟩, rfl⟩
theorem stp_whole : StpL [] [⟨-1099511627776, 1099511627776⟩] := fun m h1 h2 _ => by
 rw [inL_cons, inL_cons]; simp only [inL_nil, or_false]; omega
theorem ck_ord {a : List GInterval} (h : Ord a) (hl : a.length ≤ 256) : ck a = 0 := zero_ck (h.srt hl)
theorem minus_eq {N : Nat} {a b : List GInterval} (ha : ck a = 0) (hb : ck b = 0) (hl : a.length + b.length ≤ 100) (hN : 100000 < N) :
 ∃ r, interval_Minus N a b = some (r, 0) ∧ Cn (fun n => InL a n ∧ ¬ InL b n) r := by
 obtain ⟨r, h1, h2, h3⟩ := icombine_eq (N := N) (bel := fun y1 y2 => interval_Minus_1 N y1 y2) (f := fun x y => x && !y) (fun x y => rfl) rfl ha hb hl (by omega) (P := fun n => InL a n ∧ ¬ InL b n) (fun n x y h k => by
  rw [← h, ← k, Bool.and_eq_true, Bool.not_eq_true', Bool.not_eq_true])
 refine ⟨r, ?_, h2⟩
 unfold interval_Minus
 rw [h1]; rfl
section
variable {N : Nat} (hN : 40000000 ≤ N) {La Lb : List Int} {a b : List GInterval} (oa : Ord a) (ob : Ord b) (sa : StpL La a) (sb : StpL Lb b) (hl : La.length + Lb.length ≤ 90)
include hN oa ob sa sb hl
theorem op_and : ∃ r, interval_Intersect N a b = some (r, 0) ∧ ref02_Both N a b = some r ∧ Ord r ∧ StpL (La ++ Lb) r := by
 have l1 := sa.len oa
 have l2 := sb.len ob
 obtain ⟨r, h1, h2, h3, _⟩ := intersect_eq (N := N) (ck_ord oa (by omega)) (ck_ord ob (by omega)) (by omega) (by omega)
 exact ⟨r, h1, h2, h3.1, sa.comb sb (fun A B _ => A ∧ B) h3.2.2⟩
theorem op_minus : ∃ r, interval_Minus N a b = some (r, 0) ∧ Ord r ∧ StpL (La ++ Lb) r ∧ ∀ n, InL r n ↔ InL a n ∧ ¬ InL b n := by
 have l1 := sa.len oa
 have l2 := sb.len ob
 obtain ⟨r, h1, h2⟩ := minus_eq (N := N) (ck_ord oa (by omega)) (ck_ord ob (by omega)) (by omega) (by omega)
 exact ⟨r, h1, h2.1, sa.comb sb (fun A B _ => A ∧ ¬ B) h2.2.2, h2.2.2⟩
end
end Go.Ab

namespace Go.Ab
open Classical
set_option maxRecDepth 100000
theorem sets_loop8 {N : Nat} {l : List GExpr} {K : GExpr → Option (List GInterval × Int)} {f : GExpr → List GInterval} {g : GExpr → Bool} (h : ∀ a ∈ l, K a = some (if g a = true then (f a, 0) else ([], 3))) (hl : l.length ≤ 1000) (hN : 1000 < N) :
 loopN (fun (s10 : (List (List GInterval)) × Int) =>
       (
        if Ar.cmp .lss s10.2 (Ar.len l) = true then
         (idxL l s10.2).bind fun x13 =>
         (K x13).bind fun r14 =>
         if Ar.cmp .neq r14.2 0 = true then
          some (.inr (.inr r14.2))
         else
          (appL s10.1 ([r14.1])).bind fun l16 =>
          some (.inl (l16, Ar.ar .add .i64 s10.2 1))
        else
         some (.inr (.inl s10.1))
        : Option (((List (List GInterval)) × Int) ⊕ (((List (List GInterval))) ⊕ Int)))) N ([], 0) = some (if l.all g = true then .inl (l.map f) else .inr 3) := by
 rw [loop_list l (by omega) (mk := fun (s : List (List GInterval)) i => (s, i)) (body := fun s a => if g a = true then (appL s [f a]).bind fun l16 => some (.inl l16) else some (.inr (.inr 3))) (fin := fun s => .inl s) (s := []) (by omega) ?_ ?_]
 ·have key : ∀ (m : List GExpr) (s : List (List GInterval)), s.length + m.length ≤ 1000 → rangeL (fun s a => if g a = true then (appL s [f a]).bind fun l16 => some (.inl l16) else some (.inr (.inr 3 : List (List GInterval) ⊕ Int))) m s = some (if m.all g = true then .inl (s ++ m.map f) else .inr (.inr 3)) := by
   intro m
   induction m with
   | nil => intro s _; simp [rangeL]
   | cons a m ih =>
    intro s hs
    simp only [List.length_cons] at hs
    unfold rangeL
    by_cases hg : g a = true
    ·simp only [if_pos hg, appL_eq (l := s) (m := [f a]) (by simp; omega), Option.bind_some]
     rw [ih (s ++ [f a]) (by simp; omega)]
     simp [hg]
    ·simp only [if_neg hg, Option.bind_some]
     simp [hg]
  rw [key l [] (by simpa using hl)]
  by_cases z : l.all g = true
  ·simp only [if_pos z, Option.bind_some, List.nil_append]
  ·simp only [if_neg z, Option.bind_some]
 ·intro s i a ha hi
  have hm := List.mem_of_getElem? ha
  have ei : Ar.ar .add .i64 (i : Int) 1 = i + 1 := add_i64 (by omega) (by omega)
  simp only [cmp_lss, len_def, hi, decide_true, if_true, idx_at, ha, Option.bind_some, h a hm, ei]
  by_cases hg : g a = true
  ·simp only [if_pos hg, show Ar.cmp .neq (0 : Int) 0 = false from rfl, Bool.false_eq_true, if_false]
   cases appL s [f a] <;> rfl
  ·simp only [if_neg hg, show Ar.cmp .neq (3 : Int) 0 = true from rfl, if_true]
   rfl
 ·intro s
  simp only [cmp_lss, len_def, decide_eq_true_eq]; rw [if_neg (by omega)]
end Go.Ab

namespace Go.Ab
open Classical
set_option maxRecDepth 100000
theorem dec789 (op : Int) : (if Ar.cmp .eql op 7 = true then some true else if Ar.cmp .eql op 8 = true then some true else some (Ar.cmp .eql op 9) : Option Bool) = some (decide (op = 7 ∨ op = 8 ∨ op = 9)) := by
 by_cases a : op = 7 <;> by_cases b : op = 8 <;> by_cases c : op = 9 <;> simp [cmp_eql, a, b, c]
end Go.Ab

namespace Go.Ab
theorem edeps_le : ∀ {l : List GExpr} {a : GExpr}, a ∈ l → a.dep ≤ GExpr.deps l
 | b :: l, a, h => by
  simp only [GExpr.deps]
  rcases List.mem_cons.1 h with rfl | h
  ·exact Nat.le_max_left _ _
  ·exact Nat.le_trans (edeps_le h) (Nat.le_max_right _ _)
theorem epres_mem : ∀ {l : List GExpr} {a y : GExpr}, a ∈ l → y ∈ a.pre → y ∈ GExpr.pres l
 | b :: l, a, y, h, hy => by
  simp only [GExpr.pres, List.mem_append]
  rcases List.mem_cons.1 h with rfl | h
  ·exact .inl hy
  ·exact .inr (epres_mem h hy)
theorem range_allE {α R : Type} {body : Unit → α → Option (Unit ⊕ R)} {p : α → Bool} {r : R} : ∀ {l : List α}, (∀ x ∈ l, body () x = some (if p x = true then .inl () else .inr r)) → rangeL body l () = some (if l.all p = true then .inl () else .inr r)
 | [], _ => rfl
 | x :: l, h => by
  unfold rangeL
  rw [h x (by simp), List.all_cons]
  by_cases hx : p x = true
  ·rw [if_pos hx, hx]
   dsimp only
   rw [range_allE fun y hy => h y (by simp [hy])]
   rfl
  ·rw [if_neg hx]
   dsimp only
   rw [Bool.not_eq_true] at hx
   rw [hx]; rfl
theorem fldOk {x : GExpr} (h : exprBad x = 0) : (x.Op = 1 ∨ x.Op = 4 → 0 ≤ x.Field ∧ x.Field < 8) ∧ (1 ≤ x.Op ∧ x.Op ≤ 4 → 0 ≤ x.Var ∧ x.Var < 16) := by
 have h3 : outB x = false := by
  cases hh : outB x with
  | false => rfl
  | true =>
   exfalso
   unfold exprBad at h
   by_cases a : x.Op < 0 ∨ 12 < x.Op
   ·rw [if_pos a] at h; cases h
   rw [if_neg a] at h
   by_cases b : (x.Args.length : Int) ≠ (if x.Op < 5 then 0 else if x.Op = 12 then 1 else 2)
   ·rw [if_pos b] at h; cases h
   rw [if_neg b, if_pos hh] at h
   cases h
 unfold outB at h3
 simp only [or_def, an_def, cmp_lss, cmp_geq, Bool.or_eq_false_iff, Bool.and_eq_false_iff, decide_eq_false_iff_not] at h3
 obtain ⟨hv, hf⟩ := h3
 constructor
 ·intro e
  rcases hf with hf | hf
  ·exfalso
   unfold usesF at hf
   rcases e with e | e <;> simp [e, cmp_eql, or_def] at hf
  ·omega
 ·intro e
  rcases hv with hv | hv
  ·exfalso
   have h4 : x.Op = 1 ∨ x.Op = 2 ∨ x.Op = 3 ∨ x.Op = 4 := by omega
   unfold usesV at hv
   rcases h4 with e | e | e | e <;> simp [e, cmp_eql, or_def] at hv
  ·omega
end Go.Ab

