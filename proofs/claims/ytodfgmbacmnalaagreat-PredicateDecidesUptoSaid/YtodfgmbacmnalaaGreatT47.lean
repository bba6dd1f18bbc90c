/- GQD1 GQQ1 GQQ2 GQQ3 -/
import Derived.Test.YtodfgmbacmnalaaGreatT45
import Derived.Test.YtodfgmbacmnalaaGreatT46
set_option linter.all false

namespace Go.Ab
open Classical
set_option maxRecDepth 100000
noncomputable section
theorem eval_two {R : GExpr → GValue × Int} {x a b : GExpr} (hx : x.Args = [a, b]) {u w : GValue} (ha : evalP R a = (u, 0)) (hb : evalP R b = (w, 0)) : evalP R x = if opndP x.Op [u.Kind, w.Kind] ≠ 0 then (zVal, opndP x.Op [u.Kind, w.Kind]) else (applyP x.Op [u, w], 0) := by
 rw [evalP_eq, hx, if_neg (by simp)]
 simp only [evalsP, ha, hb, ne_eq, not_true_eq_false, if_false, List.map_cons, List.map_nil]
theorem eval_one {R : GExpr → GValue × Int} {x a : GExpr} (hx : x.Args = [a]) {u : GValue} (ha : evalP R a = (u, 0)) : evalP R x = if opndP x.Op [u.Kind] ≠ 0 then (zVal, opndP x.Op [u.Kind]) else (applyP x.Op [u], 0) := by
 rw [evalP_eq, hx, if_neg (by simp)]
 simp only [evalsP, ha, ne_eq, not_true_eq_false, if_false, List.map_cons, List.map_nil]
def numV (n : Int) : GValue := ⟨0, n, ⟨#[]⟩⟩
structure Rd (R : GExpr → GValue × Int) (field own v : Int) : Prop where
 c : ∀ y : GExpr, y.Op = 0 → R y = (y.Value, 0)
 f : ∀ y : GExpr, y.Op = 1 → y.Var = own → y.Field = field → 0 ≤ y.Field → R y = (numV v, 0)
 b : -1099511627776 ≤ v ∧ v ≤ 1099511627776
theorem val_zero {v : GValue} (h : valBad v = 0) (hk : v.Kind = 0) : v = numV v.Num := by
 obtain ⟨k, n, t⟩ := v
 simp only at hk; subst hk
 have := (val_num h rfl).1
 simp only at this
 rw [this]; rfl
theorem leaf_args {x : GExpr} (hx : exprBad x = 0) (h : x.Op < 5) : x.Args.length = 0 := by
 obtain ⟨_, _, a⟩ := bad_arity hx
 rw [if_pos h] at a; omega
theorem lin_bnd {t v : Int} {k : Nat} (ht : -(k : Int) ≤ t ∧ t ≤ k) (hv : -1099511627776 ≤ v ∧ v ≤ 1099511627776) : -(1099511627776 * (k : Int)) ≤ t * v ∧ t * v ≤ 1099511627776 * (k : Int) := by
 have h1 : (t * v).natAbs ≤ k * 1099511627776 := by
  rw [Int.natAbs_mul]
  exact Nat.mul_le_mul (by omega) (by omega)
 omega
theorem dn_spec {a b : Int} (hb : 0 < b) (hb2 : b ≤ 1000000) (ha : -1000000000000000 ≤ a ∧ a ≤ 1000000000000000) : b * dnI a b ≤ a ∧ a < b * dnI a b + b ∧ -1000000000000001 ≤ dnI a b ∧ dnI a b ≤ 1000000000000000 := by
 have e1 : Ar.ar .rem .i64 a b = a.tmod b := rfl
 have hq : (a.tdiv b).natAbs ≤ a.natAbs := by
  rw [Int.natAbs_tdiv]; exact Nat.div_le_self _ _
 have e2 : Ar.ar .quo .i64 a b = a.tdiv b := wrap_i64 (by omega) (by omega)
 have hm := Int.mul_tdiv_add_tmod a b
 have h1 : a.tmod b < b := by
  have := Int.natAbs_tmod a b
  have h2 : a.natAbs % b.natAbs < b.natAbs := Nat.mod_lt _ (by omega)
  omega
 have h2 : -b < a.tmod b := by
  have := Int.natAbs_tmod a b
  have h2 : a.natAbs % b.natAbs < b.natAbs := Nat.mod_lt _ (by omega)
  omega
 unfold dnI
 rw [e1, e2]
 by_cases h : a.tmod b < 0
 ·rw [if_pos h, sub_i64 (by omega), Int.mul_sub, Int.mul_one]
  exact ⟨by omega, by omega, by omega, by omega⟩
 ·rw [if_neg h]
  exact ⟨by omega, by omega, by omega, by omega⟩
theorem btw_in {lo hi v : Int} (hv : -1099511627776 ≤ v ∧ v ≤ 1099511627776) : InL (btw lo hi) v ↔ lo ≤ v ∧ v ≤ hi := by
 unfold btw
 simp only [mn_def, mx_def]
 by_cases h : (if 1099511627776 < hi then (1099511627776 : Int) else hi) < if lo < -1099511627776 then -1099511627776 else lo
 ·rw [if_pos h]
  refine ⟨fun k => absurd k inL_nil, fun k => ?_⟩
  exfalso
  split at h <;> split at h <;> omega
 ·rw [if_neg h, inL_cons]
  simp only [inL_nil, or_false]
  constructor
  ·rintro ⟨h1, h2⟩
   split at h1 <;> split at h2 <;> omega
  ·rintro ⟨h1, h2⟩
   constructor
   ·split <;> omega
   ·split <;> omega
theorem most_in {t b v : Int} (ht : -1000000 ≤ t ∧ t ≤ 1000000) (hb : -1000000000000000 ≤ b ∧ b ≤ 1000000000000000) (hv : -1099511627776 ≤ v ∧ v ≤ 1099511627776) : InL (mostC t b) v ↔ t * v ≤ b := by
 unfold mostC
 by_cases h1 : 0 < t
 ·rw [if_pos h1, btw_in hv]
  obtain ⟨d1, d2, _, _⟩ := dn_spec h1 (by omega) hb
  constructor
  ·rintro ⟨_, h⟩
   have := Int.mul_le_mul_of_nonneg_left h (Int.le_of_lt h1)
   omega
  ·intro h
   refine ⟨hv.1, ?_⟩
   apply Int.not_lt.1
   intro hlt
   have := Int.mul_le_mul_of_nonneg_left (show dnI b t + 1 ≤ v by omega) (Int.le_of_lt h1)
   rw [Int.mul_add, Int.mul_one] at this
   omega
 rw [if_neg h1]
 by_cases h2 : t < 0
 ·rw [if_pos h2, btw_in hv, neg_i64 (a := t) (by omega)]
  obtain ⟨d1, d2, d3, d4⟩ := dn_spec (a := b) (b := -t) (by omega) (by omega) hb
  rw [neg_i64 (a := dnI b (-t)) (by omega)]
  have e : t * v = (-t) * (-v) := by rw [Int.neg_mul_neg]
  rw [e]
  constructor
  ·rintro ⟨h, _⟩
   have := Int.mul_le_mul_of_nonneg_left (show -v ≤ dnI b (-t) by omega) (show 0 ≤ -t by omega)
   omega
  ·intro h
   refine ⟨?_, hv.2⟩
   apply Int.not_lt.1
   intro hlt
   have := Int.mul_le_mul_of_nonneg_left (show dnI b (-t) + 1 ≤ -v by omega) (show 0 ≤ -t by omega)
   rw [Int.mul_add, Int.mul_one] at this
   omega
 rw [if_neg h2]
 have h0 : t = 0 := by omega
 subst h0
 by_cases h3 : 0 ≤ b
 ·rw [if_pos h3, inL_cons]
  simp only [inL_nil, or_false]
  omega
 ·rw [if_neg h3]
  refine ⟨fun k => absurd k inL_nil, fun k => ?_⟩
  omega
end
end Go.Ab

namespace Go.Ab
open Classical
set_option maxRecDepth 100000
noncomputable section
theorem inter1 {N : Nat} {a b : List GInterval} (ha : ck a = 0) (hb : ck b = 0) (hl : a.length + b.length ≤ 100) (hN : 100000 < N) : ∃ r, interval_Intersect N a b = some (r, 0) ∧ Cn (fun n => InL a n ∧ InL b n) r := by
 obtain ⟨r, h1, h2, _⟩ := icombine_eq (N := N) (bel := fun y1 y2 => interval_Intersect_1 N y1 y2) (f := fun x y => x && y) (fun x y => rfl) rfl ha hb hl (by omega) (P := fun n => InL a n ∧ InL b n) (fun n x y h k => by
  rw [← h, ← k, Bool.and_eq_true])
 refine ⟨r, ?_, h2⟩
 unfold interval_Intersect
 rw [h1]; rfl
theorem union1 {N : Nat} {a b : List GInterval} (ha : ck a = 0) (hb : ck b = 0) (hl : a.length + b.length ≤ 100) (hN : 100000 < N) : ∃ r, interval_Union N a b = some (r, 0) ∧ Cn (fun n => InL a n ∨ InL b n) r := by
 obtain ⟨r, h1, h2, _⟩ := icombine_eq (N := N) (bel := fun y1 y2 => interval_Union_1 N y1 y2) (f := fun x y => x || y) (fun x y => rfl) rfl ha hb hl (by omega) (P := fun n => InL a n ∨ InL b n) (fun n x y h k => by
  rw [← h, ← k, Bool.or_eq_true])
 refine ⟨r, ?_, h2⟩
 unfold interval_Union
 rw [h1]; rfl
theorem compl1 {N : Nat} {a : List GInterval} (ha : ck a = 0) (hl : a.length ≤ 100) (hN : 100000 < N) : ∃ r, interval_Complement N a = some (r, 0) ∧ Cn (fun n => -1099511627776 ≤ n ∧ n ≤ 1099511627776 ∧ ¬ InL a n) r := by
 have hs := ck_zero ha
 have h0 : ∀ y ∈ a, (-1099511627776 : Int) ≤ y.Low := fun y hy => (hs.2.1 y hy).1
 have hg := gaps_len a (-1099511627776)
 refine ⟨gaps (-1099511627776) a, ?_, (gaps_ord hs.ord h0 (by omega)).1, by omega, fun n => gaps_in hs.ord h0⟩
 rw [complement_eq ha (by omega), if_neg (by omega)]
section
variable {N : Nat} (hN : 40000000 ≤ N) {La Lb : List Int} {a b : List GInterval} (oa : Ord a) (ob : Ord b) (sa : StpL La a) (sb : StpL Lb b) (hl : La.length + Lb.length ≤ 90)
include hN oa ob sa sb hl
theorem and1 : ∃ r, interval_Intersect N a b = some (r, 0) ∧ Ord r ∧ StpL (La ++ Lb) r ∧ ∀ n, InL r n ↔ InL a n ∧ InL b n := by
 have l1 := sa.len oa
 have l2 := sb.len ob
 obtain ⟨r, h1, h3⟩ := inter1 (N := N) (ck_ord oa (by omega)) (ck_ord ob (by omega)) (by omega) (by omega)
 exact ⟨r, h1, h3.1, sa.comb sb (fun A B _ => A ∧ B) h3.2.2, h3.2.2⟩
theorem or1 : ∃ r, interval_Union N a b = some (r, 0) ∧ Ord r ∧ StpL (La ++ Lb) r ∧ ∀ n, InL r n ↔ InL a n ∨ InL b n := by
 have l1 := sa.len oa
 have l2 := sb.len ob
 obtain ⟨r, h1, h3⟩ := union1 (N := N) (ck_ord oa (by omega)) (ck_ord ob (by omega)) (by omega) (by omega)
 exact ⟨r, h1, h3.1, sa.comb sb (fun A B _ => A ∨ B) h3.2.2, h3.2.2⟩
end
theorem not1 {N : Nat} (hN : 40000000 ≤ N) {La : List Int} {a : List GInterval} (oa : Ord a) (sa : StpL La a) (hl : La.length ≤ 180) : ∃ r, interval_Complement N a = some (r, 0) ∧ Ord r ∧ StpL La r ∧ ∀ n, InL r n ↔ -1099511627776 ≤ n ∧ n ≤ 1099511627776 ∧ ¬ InL a n := by
 have l1 := sa.len oa
 obtain ⟨r, h1, h3⟩ := compl1 (N := N) (ck_ord oa (by omega)) (by omega) (by omega)
 have := sa.comb stp_nil (fun A _ R => R ∧ ¬ A) (c := r) fun m => by rw [h3.2.2 m, and_assoc]
 rw [List.append_nil] at this
 exact ⟨r, h1, h3.1, this, h3.2.2⟩
theorem same1' {N : Nat} (hN : 40000000 ≤ N) {La Lb : List Int} {a b : List GInterval} (oa : Ord a) (ob : Ord b) (sa : StpL La a) (sb : StpL Lb b) (hl : La.length + Lb.length ≤ 90) :
 ∃ r, predicate_same N a b = some (r, 0) ∧ Ord r ∧ StpL (La ++ Lb) r ∧ ∀ n, InL r n ↔ -1099511627776 ≤ n ∧ n ≤ 1099511627776 ∧ (InL a n ↔ InL b n) := by
 have lc : ∀ {c : List GInterval}, Ord c → StpL (La ++ Lb) c → 2 * c.length ≤ 92 := fun ho hs => by
  have := hs.len ho
  simp at this; omega
 obtain ⟨x, x1, x2, x3, x4⟩ := op_minus hN oa ob sa sb hl
 obtain ⟨y, y1, y2, y3', y4⟩ := op_minus hN ob oa sb sa (by omega)
 have y3 : StpL (La ++ Lb) y := sa.comb sb (fun A B _ => B ∧ ¬ A) y4
 have lx := lc x2 x3
 have ly := lc y2 y3
 obtain ⟨d, d1, d3⟩ := union1 (N := N) (ck_ord x2 (by omega)) (ck_ord y2 (by omega)) (by omega) (by omega)
 have d4 : StpL (La ++ Lb) d := sa.comb sb (fun A B _ => (A ∧ ¬ B) ∨ (B ∧ ¬ A)) fun m => by rw [d3.2.2 m]; dsimp only; rw [x4, y4]
 obtain ⟨q, q1, q3, q4, q5⟩ := not1 hN d3.1 d4 (by simp; omega)
 refine ⟨q, ?_, q3, q4, fun n => ?_⟩
 ·unfold predicate_same
  simp only [x1, y1, d1, q1, Option.bind_some]
  rfl
 ·rw [q5, d3.2.2]
  dsimp only
  rw [x4, y4]
  by_cases A : InL a n <;> by_cases B : InL b n <;> simp [A, B]
theorem linear1 {N : Nat} {field own : Int} : ∀ (n : Nat) (x : GExpr), x.bulk ≤ n → (∀ y ∈ x.pre, exprBad y = 0) → x.pre.length ≤ 64 →
 ∃ t p ok, predicate_linear N n x field own = some (⟨t, p⟩, ok) ∧ (-(x.pre.length : Int) ≤ t ∧ t ≤ x.pre.length) ∧ (-(1099511627776 * (x.pre.length : Int)) ≤ p ∧ p ≤ 1099511627776 * (x.pre.length : Int)) ∧
  (ok = true → ∀ R v, Rd R field own v → evalP R x = (numV (t * v + p), 0)) := by
 intro n
 induction n with
 | zero => intro x h; have := bulk_pos_e x; omega
 | succ n ih =>
  intro x hx hbad hl
  have hb0 := hbad x (by rw [GExpr.pre_eq]; simp)
  have nx := node_ok hb0
  have h1 : 1 ≤ x.pre.length := by rw [GExpr.pre_eq]; simp
  unfold predicate_linear
  by_cases h0 : x.Op = 0
  ·simp only [show Ar.cmp .eql x.Op 0 = true from by simp [cmp_eql, h0], if_true]
   have := num_bnd (nx.val (.inr h0))
   refine ⟨_, _, _, rfl, by omega, by omega, fun hk R v hR => ?_⟩
   have hk0 : x.Value.Kind = 0 := by simpa [cmp_eql] using hk
   rw [evalP_eq, if_pos (leaf_args hb0 (by omega)), hR.c x h0, val_zero (nx.val (.inr h0)) hk0]
   simp [numV]
  simp only [show Ar.cmp .eql x.Op 0 = false from by simp [cmp_eql, h0], Bool.false_eq_true, if_false]
  by_cases h1' : x.Op = 1
  ·simp only [show Ar.cmp .eql x.Op 1 = true from by simp [cmp_eql, h1'], if_true]
   refine ⟨_, _, _, rfl, by omega, by omega, fun hk R v hR => ?_⟩
   simp only [an_def, cmp_eql, Bool.and_eq_true, decide_eq_true_eq] at hk
   rw [evalP_eq, if_pos (leaf_args hb0 (by omega)), hR.f x h1' hk.1 hk.2 ((fldOk hb0).1 (.inl h1')).1]
   simp
  simp only [show Ar.cmp .eql x.Op 1 = false from by simp [cmp_eql, h1'], Bool.false_eq_true, if_false]
  have d2 : (if Ar.cmp .eql x.Op 5 = true then some true else some (Ar.cmp .eql x.Op 6) : Option Bool) = some (decide (x.Op = 5 ∨ x.Op = 6)) := by
   by_cases a : x.Op = 5 <;> by_cases b : x.Op = 6 <;> simp [cmp_eql, a, b]
  rw [d2]
  simp only [Option.bind_some, decide_eq_true_eq]
  by_cases h5 : x.Op = 5 ∨ x.Op = 6
  ·simp only [if_pos h5]
   have har := nx.ar
   rw [if_neg (by omega), if_neg (by omega)] at har
   obtain ⟨a, b, hab, i0, i1, ma, mb, hpre⟩ := argL2 (x := x) (by omega)
   obtain ⟨t1, p1, o1, k1, k3, k4, k5⟩ := ih a (by have := mem_bulk_e ma; omega) (pre_mem ma hbad) (by omega)
   obtain ⟨t2, p2, o2, j1, j3, j4, j5⟩ := ih b (by have := mem_bulk_e mb; omega) (pre_mem mb hbad) (by omega)
   rw [i0, i1]
   simp only [Option.bind_some, k1, j1]
   by_cases h6 : x.Op = 6
   ·simp only [show Ar.cmp .eql x.Op 6 = true from by simp [cmp_eql, h6], if_true, Option.bind_some]
    rw [neg_i64 (a := t2) (by omega), neg_i64 (a := p2) (by omega), add_i64 (by omega) (by omega), add_i64 (by omega) (by omega)]
    refine ⟨_, _, _, rfl, by omega, by omega, fun hk R v hR => ?_⟩
    rw [an_def, Bool.and_eq_true] at hk
    have m1 := lin_bnd k3 hR.b
    have m2 := lin_bnd j3 hR.b
    rw [eval_two hab (k5 hk.1 R v hR) (j5 hk.2 R v hR)]
    have ho : opndP x.Op [(numV (t1 * v + p1)).Kind, (numV (t2 * v + p2)).Kind] = 0 := by rw [h6]; rfl
    rw [if_neg (by rw [ho]; simp)]
    have ha : applyP x.Op [numV (t1 * v + p1), numV (t2 * v + p2)] = numV (Ar.ar .sub .i64 (t1 * v + p1) (t2 * v + p2)) := by rw [h6]; rfl
    rw [ha, sub_i64 (by omega)]
    congr 2
    rw [Int.add_mul, Int.neg_mul]; omega
   ·simp only [show Ar.cmp .eql x.Op 6 = false from by simp [cmp_eql, h6], Bool.false_eq_true, if_false, Option.bind_some]
    rw [add_i64 (by omega) (by omega), add_i64 (by omega) (by omega)]
    refine ⟨_, _, _, rfl, by omega, by omega, fun hk R v hR => ?_⟩
    rw [an_def, Bool.and_eq_true] at hk
    have m1 := lin_bnd k3 hR.b
    have m2 := lin_bnd j3 hR.b
    have h5' : x.Op = 5 := by omega
    rw [eval_two hab (k5 hk.1 R v hR) (j5 hk.2 R v hR)]
    have ho : opndP x.Op [(numV (t1 * v + p1)).Kind, (numV (t2 * v + p2)).Kind] = 0 := by rw [h5']; rfl
    rw [if_neg (by rw [ho]; simp)]
    have ha : applyP x.Op [numV (t1 * v + p1), numV (t2 * v + p2)] = numV (Ar.ar .add .i64 (t1 * v + p1) (t2 * v + p2)) := by rw [h5']; rfl
    rw [ha, add_i64 (by omega) (by omega)]
    congr 2
    rw [Int.add_mul]; omega
  ·simp only [if_neg h5]
   exact ⟨_, _, _, rfl, by omega, by omega, fun e => by cases e⟩
theorem comp1 {N : Nat} (hN : 40000000 ≤ N) {op t p t' p' : Int} (ht : -1000000 ≤ t - t' ∧ t - t' ≤ 1000000) (hp : -900000000000000 ≤ p - p' ∧ p - p' ≤ 900000000000000) (ho : op = 7 ∨ op = 8 ∨ op = 9) :
 ∃ r L, predicate_compared N op ⟨t, p⟩ ⟨t', p'⟩ = some (r, 0) ∧ Ord r ∧ L.length ≤ 4 ∧ StpL L r ∧ ∀ v, -1099511627776 ≤ v ∧ v ≤ 1099511627776 → (InL r v ↔ if op = 7 then t * v + p < t' * v + p' else if op = 8 then t * v + p ≤ t' * v + p' else t * v + p = t' * v + p') := by
 have e1 : Ar.ar .sub .i64 t t' = t - t' := sub_i64 (by omega)
 have e2 : Ar.ar .sub .i64 p p' = p - p' := sub_i64 (by omega)
 have e3 : Ar.neg .i64 (p - p') = -(p - p') := neg_i64 (by omega)
 have e4 : Ar.neg .i64 (t - t') = -(t - t') := neg_i64 (by omega)
 have e5 : ∀ v, (t - t') * v = t * v - t' * v := fun v => Int.sub_mul ..
 have e7 : ∀ v, (-(t - t')) * v = t' * v - t * v := fun v => by rw [Int.neg_mul, e5]; omega
 unfold predicate_compared
 rcases ho with rfl | rfl | rfl
 ·have e6 : Ar.ar .add .i64 (p - p') 1 = p - p' + 1 := add_i64 (by omega) (by omega)
  obtain ⟨q1, _, L, q3, q4⟩ := (most_one (t - t') (-(p - p' + 1))).ord
  simp only [show Ar.cmp .eql (7 : Int) 7 = true from rfl, if_true, e1, e2, e6]
  rw [most_eq (by omega) (by omega)]
  refine ⟨_, L, rfl, q1, by omega, q4, fun v hv => ?_⟩
  rw [most_in (by omega) (by omega) hv, e5]
  omega
 ·obtain ⟨q1, _, L, q3, q4⟩ := (most_one (t - t') (-(p - p'))).ord
  simp only [show Ar.cmp .eql (8 : Int) 7 = false from rfl, show Ar.cmp .eql (8 : Int) 8 = true from rfl, Bool.false_eq_true, if_false, if_true, e1, e2]
  rw [most_eq (by omega) (by omega)]
  refine ⟨_, L, rfl, q1, by omega, q4, fun v hv => ?_⟩
  rw [most_in (by omega) (by omega) hv, e5]
  simp only [show ¬((8 : Int) = 7) from by decide, if_false, if_true]
  omega
 ·obtain ⟨q1, _, L, q3, q4⟩ := (most_one (t - t') (-(p - p'))).ord
  obtain ⟨w1, _, L', w3, w4⟩ := (most_one (-(t - t')) (p - p')).ord
  obtain ⟨z, z1, z2, z3, z4⟩ := and1 hN q1 w1 q4 w4 (by omega)
  simp only [show Ar.cmp .eql (9 : Int) 7 = false from rfl, show Ar.cmp .eql (9 : Int) 8 = false from rfl, Bool.false_eq_true, if_false, e1, e2, e3, e4]
  rw [most_eq (by omega) (by omega), most_eq (by omega) (by omega), Int.neg_neg]
  simp only [Option.bind_some, z1]
  refine ⟨z, L ++ L', rfl, z2, by simp; omega, z3, fun v hv => ?_⟩
  rw [z4, most_in (by omega) (by omega) hv, most_in (by omega) (by omega) hv, if_neg (by decide), if_neg (by decide), e5, e7]
  omega
end
end Go.Ab

namespace Go.Ab
open Classical
set_option maxRecDepth 100000
noncomputable section
theorem leaf1 {N : Nat} {types : List GSchema} {vars : List GVariable} {x : GExpr} (hx : NodeOk x) (hv : ∀ v ∈ vars, 0 ≤ v.Typ ∧ v.Typ < (types.length : Int)) (h5 : x.Op < 5) : ∃ r, expr_typer_leaf N ⟨types, vars⟩ x = some r := by
 unfold expr_typer_leaf
 simp only [cmp_eql, cmp_geq, cmp_neq, or_def, len_def, Bool.or_eq_true, decide_eq_true_eq, Bool.not_eq_true', decide_eq_false_iff_not]
 have ho := hx.op
 by_cases h0 : x.Op = 0
 ·rw [if_pos h0]; exact ⟨_, rfl⟩
 rw [if_neg h0]
 have hvar := hx.var (by omega)
 by_cases h1 : (vars.length : Int) ≤ x.Var
 ·rw [if_pos h1]; exact ⟨_, rfl⟩
 rw [if_neg h1]
 by_cases h2 : x.Op = 2 ∨ x.Op = 3
 ·rw [if_pos h2]; exact ⟨_, rfl⟩
 rw [if_neg h2]
 have hfld := hx.fld (by omega)
 obtain ⟨v, v1, v2⟩ := idx_int (l := vars) (i := x.Var) (by omega)
 obtain ⟨s, s1, s2⟩ := idx_int (l := types) (i := v.Typ) (hv v (List.mem_of_getElem? v2))
 rw [v1]
 simp only [Option.bind_some, s1]
 by_cases h3 : (s.Fields.length : Int) ≤ x.Field
 ·rw [if_pos h3]; exact ⟨_, rfl⟩
 rw [if_neg h3]
 obtain ⟨f, f1, f2⟩ := idx_int (l := s.Fields) (i := x.Field) (by omega)
 simp only [f1, Option.bind_some]
 by_cases h4 : x.Op = 4
 ·rw [if_pos h4, suits_eq]
  simp only [Option.bind_some]
  split
  ·exact ⟨_, rfl⟩
  ·split <;> exact ⟨_, rfl⟩
 ·rw [if_neg h4]; exact ⟨_, rfl⟩
theorem kind1 {N : Nat} {types : List GSchema} {vars : List GVariable} (hN : 40000000 ≤ N) (hv : ∀ v ∈ vars, 0 ≤ v.Typ ∧ v.Typ < (types.length : Int)) : ∀ (n : Nat) (x : GExpr), x.bulk ≤ n → x.bulk ≤ 16777216 → (∀ y ∈ x.pre, exprBad y = 0) → ∃ r, expr_typer_kind N n ⟨types, vars⟩ x = some r := by
 intro n
 induction n with
 | zero => intro x h; have := bulk_pos_e x; omega
 | succ n ih =>
  intro x hx hb hbad
  have nx := node_ok (hbad x (by rw [GExpr.pre_eq]; simp))
  have har := nx.ar
  unfold expr_typer_kind
  by_cases h0 : (x.Args.length : Int) = 0
  ·rw [if_pos (show Ar.cmp .eql (Ar.len x.Args) 0 = true by simp [cmp_eql, len_def, h0])]
   have h5 : x.Op < 5 := by
    rw [h0] at har
    by_cases h : x.Op < 5
    ·exact h
    ·rw [if_neg h] at har; split at har <;> cases har
   obtain ⟨r, h1⟩ := leaf1 (N := N) nx hv h5
   rw [h1]
   exact ⟨_, rfl⟩
  ·rw [if_neg (show ¬ Ar.cmp .eql (Ar.len x.Args) 0 = true by simp only [cmp_eql, len_def, decide_eq_true_eq]; exact h0)]
   have hlen : x.Args.length ≤ 2 := by
    split at har
    ·omega
    ·split at har <;> omega
   obtain ⟨r, k1, k2'⟩ := kinds_loop (N := N) (l := x.Args) (F := fun a => expr_typer_kind N n ⟨types, vars⟩ a) (G := fun a => expr_typer_kind N n ⟨types, vars⟩ a) (fun a ha => (ih a (by have := mem_bulk_e ha; omega) (by have := mem_bulk_e ha; omega) fun y hy => hbad y (by rw [GExpr.pre_eq]; exact List.mem_cons_of_mem _ (sub_pres hy _ ha))).imp fun _ h => ⟨h, h⟩) (by omega) (by omega)
   have k2 := k2' _ (.inl rfl)
   cases r with
   | inl ks =>
    have hks := k1 ks rfl
    have : ∃ r, (expr_operands N x.Op ks).bind (fun r10 => if Ar.cmp .neq r10 0 = true then some ((0 : Int), r10) else if Ar.or (Ar.cmp .eql x.Op 5) (Ar.cmp .eql x.Op 6) = true then some (0, 0) else some (1, 0)) = some r := by
     rw [eoperands_eq hN x.Op (by omega)]
     simp only [Option.bind_some]
     split
     ·exact ⟨_, rfl⟩
     ·split <;> exact ⟨_, rfl⟩
    obtain ⟨q, hq⟩ := this
    exact ⟨q, bind_of1' k2 hq⟩
   | inr e => exact ⟨(0, e), bind_of1' k2 rfl⟩
theorem Kind1 {N : Nat} {types : List GSchema} {vars : List GVariable} {x : GExpr} (hN : 40000000 ≤ N) (hb : x.bulk ≤ 16777216) : ∃ r, expr_Kind N types vars x = some r ∧ (r.2 = 0 → exprCheck x = 0) := by
 unfold expr_Kind
 rw [all_eq (by omega)]
 simp only [Option.bind_some, cmp_neq, Bool.not_eq_true', decide_eq_false_iff_not]
 by_cases h0 : scaC N types = 0
 ·simp only [h0, not_true_eq_false, if_false]
  by_cases h1 : (16 : Int) < vars.length
  ·simp only [cmp_gtr, len_def, decide_eq_true_eq, if_pos h1]
   exact ⟨(0, 5), rfl, fun e => by cases e⟩
  ·simp only [cmp_gtr, len_def, decide_eq_true_eq, if_neg h1]
   have L1 := chk_loop (l := vars) (f := vrF types) (N := N) (R := Unit ⊕ Unit) (e := .inl ()) (b := fun _ => .inr ()) (step := fun (s2 : Int) =>
    (
     if Ar.cmp .lss s2 (Ar.len vars) = true then
      (idxL vars s2).bind fun x4 =>
      if Ar.or (Ar.cmp .lss x4.Typ 0) (Ar.cmp .geq x4.Typ (Ar.len types)) = true then
       some (.inr (.inr ()))
      else
       some (.inl (Ar.ar .add .i64 s2 1))
     else
      some (.inr (.inl ()))
     : Option ((Int) ⊕ (Unit ⊕ Unit)))) (fun i v hv hi => by
    simp only [cmp_lss, cmp_geq, or_def, len_def, idx_at, hv, Option.bind_some, Bool.or_eq_true, decide_eq_true_eq]
    rw [if_pos (by omega), inc_i64 hi (by omega)]
    unfold vrF
    by_cases a : v.Typ < 0 ∨ (types.length : Int) ≤ v.Typ
    ·rw [if_pos a, if_pos a]; rfl
    ·rw [if_neg a, if_neg a, if_pos rfl]) (by simp only [cmp_lss, len_def, decide_eq_true_eq]; rw [if_neg (by omega)]) (by omega)
   by_cases z : fb (vrF types) 0 vars = 0
   ·rw [if_pos z] at L1
    have hv : ∀ v ∈ vars, 0 ≤ v.Typ ∧ v.Typ < (types.length : Int) := fun v hv => by
     obtain ⟨i, hi⟩ := List.getElem?_of_mem hv
     have := fb_zero.1 z i v hi
     unfold vrF at this
     split at this
     ·cases this
     ·omega
    by_cases h2 : exprCheck x = 0
    ·obtain ⟨r, k1⟩ := kind1 hN hv N x (by omega) hb (exprCheck_bad h2)
     refine ⟨r, bind_of1' L1 ?_, fun _ => h2⟩
     simp only [check_eq8 hN hb, Option.bind_some, h2, k1]
     rfl
    ·refine ⟨(0, exprCheck x), bind_of1' L1 ?_, fun e => absurd e h2⟩
     simp only [check_eq8 hN hb, Option.bind_some]
     rw [if_pos (by simp [h2])]
   ·rw [if_neg z] at L1
    exact ⟨(0, 6), bind_of1' L1 rfl, fun e => by cases e⟩
 ·simp only [h0, not_false_eq_true, if_true]
  exact ⟨(0, scaC N types), rfl, fun e => absurd e h0⟩
end
end Go.Ab

namespace Go.Ab
open Classical
set_option maxRecDepth 100000
noncomputable section
theorem flag_num (b : Bool) : decide ((flagP b).Num = 1) = b := by cases b <;> rfl
theorem flag_kind (b : Bool) : (flagP b).Kind = 1 := by cases b <;> rfl
theorem bool_val {v : GValue} (h : valBad v = 0) (hk : v.Kind = 1) : v = flagP (decide (v.Num = 1)) := by
 obtain ⟨k, n, t⟩ := v
 simp only at hk; subst hk
 unfold valBad at h
 rw [if_pos (.inr rfl)] at h
 by_cases ht : t = ⟨#[]⟩
 ·subst ht
  rw [if_neg (fun c => c rfl)] at h
  by_cases hn : n = 0 ∨ n = 1
  ·rcases hn with rfl | rfl <;> rfl
  ·rw [if_pos (.inr ⟨rfl, fun c => hn (.inl c), fun c => hn (.inr c)⟩)] at h; cases h
 ·rw [if_pos ht] at h; cases h
theorem two_loop {N : Nat} (hN : 40000000 ≤ N) {l : List GExpr} {a b : GExpr} (hab : l = [a, b]) {K : GExpr → Option (List GInterval × Int)} {s u : List GInterval} {os ou : Bool} (s1 : K a = some (if os = true then (s, 0) else ([], 3))) (u1 : K b = some (if ou = true then (u, 0) else ([], 3))) :
 loopN (fun (s10 : (List (List GInterval)) × Int) =>
       (
        if Ar.cmp .lss s10.2 (Ar.len l) = true then
         (idxL l s10.2).bind fun x13 =>
         (K x13).bind fun r14 =>
         if Ar.cmp .neq r14.2 0 = true then
          some (.inr (.inr r14.2))
         else
          (appL s10.1 ([r14.1])).bind fun l16 =>
          some (.inl (l16, Ar.ar .add .i64 s10.2 1))
        else
         some (.inr (.inl s10.1))
        : Option (((List (List GInterval)) × Int) ⊕ (((List (List GInterval))) ⊕ Int)))) N ([], 0) = some (if (os && ou) = true then .inl [s, u] else .inr 3) := by
 rw [loop_list l (by rw [hab]; simp) (mk := fun (s : List (List GInterval)) i => (s, i)) (body := fun q y => (K y).bind fun r14 => if Ar.cmp .neq r14.2 0 = true then some (.inr (.inr r14.2)) else (appL q ([r14.1])).bind fun l16 => some (.inl l16)) (fin := fun s => .inl s) (s := []) (by rw [hab]; simp; omega) ?_ ?_]
 ·rw [hab]
  have a1 : appL ([] : List (List GInterval)) [s] = some [s] := appL_eq (by simp)
  have a2 : appL [s] [u] = some [s, u] := appL_eq (by simp)
  cases os with
  | true =>
   simp only [if_true] at s1
   cases ou with
   | true =>
    simp only [if_true] at u1
    simp only [rangeL, s1, u1, Option.bind_some, show Ar.cmp .neq (0 : Int) 0 = false from rfl, Bool.false_eq_true, if_false, a1, a2]
    rfl
   | false =>
    simp only [Bool.false_eq_true, if_false] at u1
    simp only [rangeL, s1, u1, Option.bind_some, show Ar.cmp .neq (0 : Int) 0 = false from rfl, show Ar.cmp .neq (3 : Int) 0 = true from rfl, Bool.false_eq_true, if_false, if_true, a1]
    rfl
  | false =>
   simp only [Bool.false_eq_true, if_false] at s1
   simp only [rangeL, s1, Option.bind_some, show Ar.cmp .neq (3 : Int) 0 = true from rfl, if_true]
   rfl
 ·intro q i y hy hi
  have ei : Ar.ar .add .i64 (i : Int) 1 = i + 1 := add_i64 (by rw [hab] at hi; simp at hi; omega) (by rw [hab] at hi; simp at hi; omega)
  simp only [cmp_lss, len_def, hi, decide_true, if_true, idx_at, hy, Option.bind_some, ei]
  cases K y with
  | none => rfl
  | some r14 =>
   simp only [Option.bind_some]
   by_cases z : Ar.cmp .neq r14.2 0 = true
   ·simp only [if_pos z]; rfl
   ·simp only [if_neg z]
    cases appL q [r14.1] <;> rfl
 ·intro q
  simp only [cmp_lss, len_def, decide_eq_true_eq]; rw [if_neg (by omega)]
def Slv1 (field own : Int) (x : GExpr) (P : Option (List GInterval × Int)) : Prop :=
 ∃ (a : List GInterval) (ok : Bool) (L : List Int), P = some (if ok = true then (a, 0) else ([], 3)) ∧ Ord a ∧ 3 * L.length ≤ 4 * x.pre.length ∧ StpL L a ∧ (ok = true → ∀ R v, Rd R field own v → evalP R x = (flagP (decide (InL a v)), 0))
theorem slv_no {field own : Int} {x : GExpr} : Slv1 field own x (some ([], 3)) := ⟨[], false, [], rfl, trivial, by simp, stp_nil, fun e => by cases e⟩
theorem slv_two {field own : Int} {x a b : GExpr} {s u r : List GInterval} {os ou : Bool} {L : List Int} {g : Bool → Bool → Bool} (hab : x.Args = [a, b]) (hx : opndP x.Op [1, 1] = 0) (hap : ∀ p q, applyP x.Op [flagP p, flagP q] = flagP (g p q)) (hr : Ord r) (hl : 3 * L.length ≤ 4 * x.pre.length) (hs : StpL L r)
 (hv : ∀ v, -1099511627776 ≤ v ∧ v ≤ 1099511627776 → (InL r v ↔ g (decide (InL s v)) (decide (InL u v)) = true)) (ha : os = true → ∀ R v, Rd R field own v → evalP R a = (flagP (decide (InL s v)), 0)) (hb : ou = true → ∀ R v, Rd R field own v → evalP R b = (flagP (decide (InL u v)), 0))
 {P : Option (List GInterval × Int)} (h1 : (os && ou) = true → P = some (r, 0)) (h2 : (os && ou) = false → P = some ([], 3)) : Slv1 field own x P := by
 cases z : os && ou with
 | false => rw [h2 z]; exact slv_no
 | true =>
  refine ⟨r, true, L, h1 z, hr, hl, hs, fun _ R v hR => ?_⟩
  rw [Bool.and_eq_true] at z
  rw [eval_two hab (ha z.1 R v hR) (hb z.2 R v hR), flag_kind, flag_kind, if_neg (by rw [hx]; simp), hap]
  congr 2
  rw [Bool.eq_iff_iff, ← hv v hR.b, decide_eq_true_eq]
theorem solve1 {N : Nat} {field own : Int} (hN : 40000000 ≤ N) : ∀ (n : Nat) (x : GExpr), x.bulk ≤ n → x.bulk ≤ 16777216 → (∀ y ∈ x.pre, exprBad y = 0) → x.pre.length ≤ 64 → Slv1 field own x (predicate_solve N n x field own) := by
 intro n
 induction n with
 | zero => intro x h; have := bulk_pos_e x; omega
 | succ n ih =>
  intro x hx hb hbad hl
  have hb0 := hbad x (by rw [GExpr.pre_eq]; simp)
  have nx := node_ok hb0
  have ho := nx.op
  have har := nx.ar
  unfold predicate_solve
  by_cases h0 : x.Op = 0
  ·simp only [show Ar.cmp .eql x.Op 0 = true from by simp [cmp_eql, h0], if_true]
   by_cases hk : x.Value.Kind = 1
   ·simp only [show Ar.cmp .neq x.Value.Kind 1 = false from by simp [cmp_neq, hk], Bool.false_eq_true, if_false]
    have hev : ∀ R v, Rd R field own v → evalP R x = (flagP (decide (x.Value.Num = 1)), 0) := fun R v hR => by
     rw [evalP_eq, if_pos (leaf_args hb0 (by omega)), hR.c x h0, ← bool_val (nx.val (.inr h0)) hk]
    by_cases hn : x.Value.Num = 1
    ·simp only [show Ar.cmp .eql x.Value.Num 1 = true from by simp [cmp_eql, hn], if_true, Option.bind_some]
     refine ⟨_, true, [], rfl, whole_one.ord.1, by simp, stp_whole, fun _ R v hR => ?_⟩
     have : InL [⟨-1099511627776, 1099511627776⟩] v := inL_cons.2 (.inl hR.b)
     rw [hev R v hR]; simp [hn, this]
    ·simp only [show Ar.cmp .eql x.Value.Num 1 = false from by simp [cmp_eql, hn], Bool.false_eq_true, if_false, Option.bind_some]
     refine ⟨[], true, [], rfl, trivial, by simp, stp_nil, fun _ R v hR => ?_⟩
     rw [hev R v hR]; simp [hn, inL_nil]
   ·simp only [show Ar.cmp .neq x.Value.Kind 1 = true from by simp [cmp_neq, hk], if_true, Option.bind_some]
    exact slv_no
  simp only [show Ar.cmp .eql x.Op 0 = false from by simp [cmp_eql, h0], Bool.false_eq_true, if_false]
  rw [dec789]
  simp only [Option.bind_some, decide_eq_true_eq]
  by_cases h12 : x.Op = 12
  ·rw [if_neg (by omega), if_pos h12] at har
   obtain ⟨a, hab, i0, ma, hpre⟩ := argL1 (x := x) (by omega)
   have hba := mem_bulk_e ma
   obtain ⟨s, ok, L, s1, s3, s4, s5, s6⟩ := ih a (by omega) (by omega) (pre_mem ma hbad) (by omega)
   obtain ⟨z, r1, r3, r4, r5⟩ := not1 hN s3 s5 (by omega)
   simp only [h12, show ¬((12 : Int) = 7 ∨ (12 : Int) = 8 ∨ (12 : Int) = 9) from by decide, if_false, show Ar.cmp .eql (12 : Int) 10 = false from rfl, show Ar.cmp .eql (12 : Int) 11 = false from rfl, show Ar.cmp .eql (12 : Int) 12 = true from rfl, Bool.false_eq_true, if_true, Option.bind_some]
   rw [sets_loop8 (N := N) (l := x.Args) (K := fun y => predicate_solve N n y field own) (f := fun _ => s) (g := fun _ => ok) (fun y hy => by rw [hab] at hy; cases List.mem_singleton.1 hy; exact s1) (by omega) (by omega)]
   cases ok with
   | true =>
    refine ⟨z, true, L, ?_, r3, by omega, r4, fun _ R v hR => ?_⟩
    ·have e0 : idxL [s] 0 = some s := rfl
     simp only [hab, List.all_cons, List.all_nil, Bool.and_self, if_true, List.map_cons, List.map_nil, e0, Option.bind_some, r1]
    ·rw [eval_one hab (s6 rfl R v hR), flag_kind, if_neg (by rw [h12]; decide)]
     have hap : applyP x.Op [flagP (decide (InL s v))] = flagP (!decide ((flagP (decide (InL s v))).Num = 1)) := by rw [h12]; rfl
     rw [hap, flag_num]
     congr 2
     rw [← decide_not]
     apply decide_eq_decide.2
     rw [r5]
     exact ⟨fun h => ⟨hR.b.1, hR.b.2, h⟩, fun h => h.2.2⟩
   | false =>
    have : (x.Args.all fun _ => false) = false := by rw [hab]; rfl
    rw [this]; exact slv_no
  rw [show (if x.Op = 12 then (1 : Int) else 2) = 2 from if_neg h12] at har
  have e12 : Ar.cmp .eql x.Op 12 = false := by simp [cmp_eql, h12]
  by_cases h5 : x.Op < 5
  ·have n1 : ¬ (x.Op = 7 ∨ x.Op = 8 ∨ x.Op = 9) := by omega
   have n4 : Ar.cmp .eql x.Op 10 = false := by simp only [cmp_eql, decide_eq_false_iff_not]; omega
   have n5 : Ar.cmp .eql x.Op 11 = false := by simp only [cmp_eql, decide_eq_false_iff_not]; omega
   simp only [if_neg n1, e12, n4, n5, Bool.false_eq_true, if_false, Option.bind_some]
   exact slv_no
  rw [if_neg h5] at har
  obtain ⟨a, b, hab, i0, i1, ma, mb, hpre⟩ := argL2 (x := x) (by omega)
  have hba := mem_bulk_e ma
  have hbb := mem_bulk_e mb
  have pa := pre_mem ma hbad
  have pb := pre_mem mb hbad
  obtain ⟨s, os, Ls, s1, s3, s4, s5, s6⟩ := ih a (by omega) (by omega) pa (by omega)
  obtain ⟨u, ou, Lu, u1, u3, u4, u5, u6⟩ := ih b (by omega) (by omega) pb (by omega)
  have e0 : idxL [s, u] 0 = some s := rfl
  have e1 : idxL [s, u] 1 = some u := rfl
  by_cases h9 : x.Op = 7 ∨ x.Op = 8 ∨ x.Op = 9
  ·obtain ⟨t, p, o1, k1, k3, k4, k6⟩ := linear1 (N := N) (field := field) (own := own) N a (by omega) pa (by omega)
   obtain ⟨t', p', o2, j1, j3, j4, j6⟩ := linear1 (N := N) (field := field) (own := own) N b (by omega) pb (by omega)
   have hp1 : 1 ≤ a.pre.length := by rw [GExpr.pre_eq]; simp
   have hp2 : 1 ≤ b.pre.length := by rw [GExpr.pre_eq]; simp
   simp only [if_pos h9, i0, i1, k1, j1, Option.bind_some, e12, Bool.false_eq_true, if_false]
   by_cases hok : Ar.an o1 o2 = true
   ·obtain ⟨r, L, q1, q2, q3, q4, q5⟩ := comp1 hN (t := t) (p := p) (t' := t') (p' := p') (by omega) (by omega) h9
    rw [if_pos hok, q1]
    rw [an_def, Bool.and_eq_true] at hok
    refine ⟨r, true, L, rfl, q2, by omega, q4, fun _ R v hR => ?_⟩
    have key := q5 v hR.b
    rw [eval_two hab (k6 hok.1 R v hR) (j6 hok.2 R v hR)]
    have eo : opndP x.Op [(numV (t * v + p)).Kind, (numV (t' * v + p')).Kind] = 0 := by rcases h9 with h | h | h <;> rw [h] <;> rfl
    rw [if_neg (by rw [eo]; simp)]
    congr 1
    rcases h9 with h | h | h
    ·rw [h] at key ⊢
     rw [if_pos rfl] at key
     have : applyP 7 [numV (t * v + p), numV (t' * v + p')] = flagP (decide (t * v + p < t' * v + p')) := rfl
     rw [this]; congr 1; exact decide_eq_decide.2 key.symm
    ·rw [h] at key ⊢
     rw [if_neg (by decide), if_pos rfl] at key
     have : applyP 8 [numV (t * v + p), numV (t' * v + p')] = flagP (decide (t * v + p ≤ t' * v + p')) := rfl
     rw [this]; congr 1; exact decide_eq_decide.2 key.symm
    ·rw [h] at key ⊢
     rw [if_neg (by decide), if_neg (by decide)] at key
     have : applyP 9 [numV (t * v + p), numV (t' * v + p')] = flagP (decide (numV (t * v + p) = numV (t' * v + p'))) := rfl
     rw [this]; congr 1; apply decide_eq_decide.2
     rw [key]; simp [numV]
   ·rw [if_neg hok]
    by_cases h9' : x.Op = 9
    ·have n9 : Ar.cmp .neq x.Op 9 = false := by simp [cmp_neq, h9']
     have n10 : Ar.cmp .eql x.Op 10 = false := by simp [cmp_eql, h9']
     have n11 : Ar.cmp .eql x.Op 11 = false := by simp [cmp_eql, h9']
     obtain ⟨w, w1, w2, w3, w4⟩ := same1' hN s3 u3 s5 u5 (by omega)
     simp only [n9, Bool.false_eq_true, if_false, Option.bind_some, two_loop (K := fun y => predicate_solve N n y field own) hN hab s1 u1]
     refine slv_two (g := fun p q => p == q) hab (by rw [h9']; rfl) (fun p q => by rw [h9']; cases p <;> cases q <;> rfl) w2 (by simp; omega) w3 (fun v hv => ?_) s6 u6 (fun z => ?_) fun z => ?_
     ·rw [w4, beq_iff_eq, decide_eq_decide]
      exact ⟨fun h => h.2.2, fun h => ⟨hv.1, hv.2, h⟩⟩
     ·simp only [z, if_true, n10, n11, Bool.false_eq_true, if_false, e12, e0, e1, Option.bind_some, w1]
     ·simp only [z, Bool.false_eq_true, if_false]
    ·have n9 : Ar.cmp .neq x.Op 9 = true := by simp only [cmp_neq, Bool.not_eq_true', decide_eq_false_iff_not]; exact h9'
     simp only [n9, if_true, Option.bind_some]
     exact slv_no
  ·simp only [if_neg h9]
   by_cases h10 : x.Op = 10
   ·have n10 : Ar.cmp .eql x.Op 10 = true := by simp [cmp_eql, h10]
    obtain ⟨w, w1, w2, w3, w4⟩ := and1 hN s3 u3 s5 u5 (by omega)
    simp only [n10, if_true, Option.bind_some, two_loop (K := fun y => predicate_solve N n y field own) hN hab s1 u1]
    refine slv_two (g := fun p q => p && q) hab (by rw [h10]; rfl) (fun p q => by rw [h10]; cases p <;> cases q <;> rfl) w2 (by simp; omega) w3 (fun v hv => ?_) s6 u6 (fun z => ?_) fun z => ?_
    ·rw [w4, Bool.and_eq_true, decide_eq_true_eq, decide_eq_true_eq]
    ·simp only [z, if_true, n10, e0, e1, Option.bind_some, w1]
    ·simp only [z, Bool.false_eq_true, if_false]
   ·by_cases h11 : x.Op = 11
    ·have n10 : Ar.cmp .eql x.Op 10 = false := by simp [cmp_eql, h10]
     have n11 : Ar.cmp .eql x.Op 11 = true := by simp [cmp_eql, h11]
     obtain ⟨w, w1, w2, w3, w4⟩ := or1 hN s3 u3 s5 u5 (by omega)
     simp only [n10, n11, Bool.false_eq_true, if_false, if_true, Option.bind_some, two_loop (K := fun y => predicate_solve N n y field own) hN hab s1 u1]
     refine slv_two (g := fun p q => p || q) hab (by rw [h11]; rfl) (fun p q => by rw [h11]; cases p <;> cases q <;> rfl) w2 (by simp; omega) w3 (fun v hv => ?_) s6 u6 (fun z => ?_) fun z => ?_
     ·rw [w4, Bool.or_eq_true, decide_eq_true_eq, decide_eq_true_eq]
     ·simp only [z, if_true, n10, n11, Bool.false_eq_true, if_false, e0, e1, Option.bind_some, w1]
     ·simp only [z, Bool.false_eq_true, if_false]
    ·have n10 : Ar.cmp .eql x.Op 10 = false := by simp [cmp_eql, h10]
     have n11 : Ar.cmp .eql x.Op 11 = false := by simp [cmp_eql, h11]
     simp only [n10, n11, e12, Bool.false_eq_true, if_false, Option.bind_some]
     exact slv_no
end
end Go.Ab

