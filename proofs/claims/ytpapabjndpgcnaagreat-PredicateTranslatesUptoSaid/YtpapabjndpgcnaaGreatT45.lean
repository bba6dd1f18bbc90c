/- GPT6 GPT7 GPT8 GPT9 -/
import Derived.Test.YtpapabjndpgcnaaGreatT44
import Derived.Test.YtpapabjndpgcnaaGreatT43
import Derived.Test.YtpapabjndpgcnaaGreatT41
set_option linter.all false

namespace Go.Ab
open Classical
set_option maxRecDepth 100000
theorem neg_i64 {a : Int} (h : -1000000000000000000 ≤ a ∧ a ≤ 1000000000000000000) : Ar.neg .i64 a = -a := (wrap_i64 (n := 0 - a) (by omega) (by omega)).trans (by omega)
theorem sub_i64 {a b : Int} (h : -1000000000000000000 ≤ a - b ∧ a - b ≤ 1000000000000000000) : Ar.ar .sub .i64 a b = a - b := wrap_i64 (n := a - b) (by omega) (by omega)
theorem num_bnd {v : GValue} (h : valBad v = 0) : -1099511627776 ≤ v.Num ∧ v.Num ≤ 1099511627776 := by
 unfold valBad at h
 by_cases h1 : v.Kind = 0 ∨ v.Kind = 1
 ·rw [if_pos h1] at h
  by_cases h2 : v.Text ≠ ⟨#[]⟩
  ·rw [if_pos h2] at h; cases h
  rw [if_neg h2] at h
  by_cases h3 : v.Kind = 0 ∧ (v.Num < -1099511627776 ∨ 1099511627776 < v.Num) ∨ v.Kind = 1 ∧ v.Num ≠ 0 ∧ v.Num ≠ 1
  ·rw [if_pos h3] at h; cases h
  omega
 ·rw [if_neg h1] at h
  by_cases h2 : v.Kind = 2
  ·rw [if_pos h2] at h
   by_cases h3 : v.Num ≠ 0
   ·rw [if_pos h3] at h; cases h
   omega
  ·rw [if_neg h2] at h; cases h
theorem argL2 {x : GExpr} (h : x.Args.length = 2) : ∃ a b, x.Args = [a, b] ∧ idxL x.Args 0 = some a ∧ idxL x.Args 1 = some b ∧ a ∈ x.Args ∧ b ∈ x.Args ∧ x.pre.length = 1 + a.pre.length + b.pre.length := by
 rcases hx : x.Args with _ | ⟨a, _ | ⟨b, _ | ⟨c, l⟩⟩⟩
 ·rw [hx] at h; cases h
 ·rw [hx] at h; cases h
 ·refine ⟨a, b, rfl, rfl, rfl, by simp, by simp, ?_⟩
  rw [GExpr.pre_eq, hx]; simp [GExpr.pres]; omega
 ·rw [hx] at h; simp at h
theorem argL1 {x : GExpr} (h : x.Args.length = 1) : ∃ a, x.Args = [a] ∧ idxL x.Args 0 = some a ∧ a ∈ x.Args ∧ x.pre.length = 1 + a.pre.length := by
 rcases hx : x.Args with _ | ⟨a, _ | ⟨b, l⟩⟩
 ·rw [hx] at h; cases h
 ·refine ⟨a, rfl, rfl, by simp, ?_⟩
  rw [GExpr.pre_eq, hx]; simp [GExpr.pres]; omega
 ·rw [hx] at h; simp at h
theorem pre_mem {x a : GExpr} (h : a ∈ x.Args) {P : GExpr → Prop} (hP : ∀ y ∈ x.pre, P y) : ∀ y ∈ a.pre, P y := fun y hy => hP y (by rw [GExpr.pre_eq]; exact List.mem_cons_of_mem _ (sub_pres hy _ h))
theorem linear_eq {N : Nat} {field own : Int} : ∀ (n : Nat) (x : GExpr), x.bulk ≤ n → (∀ y ∈ x.pre, exprBad y = 0) → x.pre.length ≤ 64 →
 ∃ t p ok, predicate_linear N n x field own = some (⟨t, p⟩, ok) ∧ ref27_linear N n x own field = some (t, p, ok) ∧ (-(x.pre.length : Int) ≤ t ∧ t ≤ x.pre.length) ∧ -(1099511627776 * (x.pre.length : Int)) ≤ p ∧ p ≤ 1099511627776 * (x.pre.length : Int) := by
 intro n
 induction n with
 | zero => intro x h; have := bulk_pos_e x; omega
 | succ n ih =>
  intro x hx hbad hl
  have nx := node_ok (hbad x (by rw [GExpr.pre_eq]; simp))
  have ho := nx.op
  have h1 : 1 ≤ x.pre.length := by rw [GExpr.pre_eq]; simp
  unfold predicate_linear ref27_linear
  by_cases h0 : x.Op = 0
  ·simp only [show Ar.cmp .eql x.Op 0 = true from by simp [cmp_eql, h0], if_true]
   have := num_bnd (nx.val (.inr h0))
   exact ⟨_, _, _, rfl, rfl, by omega, by omega⟩
  simp only [show Ar.cmp .eql x.Op 0 = false from by simp [cmp_eql, h0], Bool.false_eq_true, if_false]
  by_cases h1' : x.Op = 1
  ·simp only [show Ar.cmp .eql x.Op 1 = true from by simp [cmp_eql, h1'], if_true]
   exact ⟨_, _, _, rfl, rfl, by omega, by omega⟩
  simp only [show Ar.cmp .eql x.Op 1 = false from by simp [cmp_eql, h1'], Bool.false_eq_true, if_false]
  have d2 : (if Ar.cmp .eql x.Op 5 = true then some true else some (Ar.cmp .eql x.Op 6) : Option Bool) = some (decide (x.Op = 5 ∨ x.Op = 6)) := by
   by_cases a : x.Op = 5 <;> by_cases b : x.Op = 6 <;> simp [cmp_eql, a, b]
  rw [d2]
  simp only [Option.bind_some, decide_eq_true_eq]
  by_cases h5 : x.Op = 5 ∨ x.Op = 6
  ·have e5 : Ar.an (Ar.cmp .neq x.Op 5) (Ar.cmp .neq x.Op 6) = false := by rcases h5 with h | h <;> simp [an_def, cmp_neq, h]
   simp only [if_pos h5, e5, Bool.false_eq_true, if_false]
   have har := nx.ar
   rw [if_neg (by omega), if_neg (by omega)] at har
   obtain ⟨a, b, hab, i0, i1, ma, mb, hpre⟩ := argL2 (x := x) (by omega)
   obtain ⟨t, p, ok, k1, k2, k3, k4, k5⟩ := ih a (by have := mem_bulk_e ma; omega) (pre_mem ma hbad) (by omega)
   obtain ⟨t', p', ok', j1, j2, j3, j4, j5⟩ := ih b (by have := mem_bulk_e mb; omega) (pre_mem mb hbad) (by omega)
   rw [i0, i1]
   simp only [Option.bind_some, k1, k2, j1, j2]
   by_cases h6 : x.Op = 6
   ·simp only [show Ar.cmp .eql x.Op 6 = true from by simp [cmp_eql, h6], if_true, Option.bind_some]
    rw [neg_i64 (a := t') (by omega), neg_i64 (a := p') (by omega), add_i64 (by omega) (by omega), add_i64 (by omega) (by omega)]
    exact ⟨_, _, _, rfl, rfl, by omega, by omega⟩
   ·simp only [show Ar.cmp .eql x.Op 6 = false from by simp [cmp_eql, h6], Bool.false_eq_true, if_false, Option.bind_some]
    rw [add_i64 (by omega) (by omega), add_i64 (by omega) (by omega)]
    exact ⟨_, _, _, rfl, rfl, by omega, by omega⟩
  ·have e5 : Ar.an (Ar.cmp .neq x.Op 5) (Ar.cmp .neq x.Op 6) = true := by simp only [an_def, cmp_neq, Bool.and_eq_true, Bool.not_eq_true', decide_eq_false_iff_not]; omega
   simp only [if_neg h5, e5, if_true]
   exact ⟨_, _, _, rfl, rfl, by omega, by omega⟩
def OneI (l : List GInterval) : Prop := l = [] ∨ ∃ x : GInterval, Bnd x ∧ l = [x]
noncomputable def dnI (a b : Int) : Int := if Ar.ar .rem .i64 a b < 0 then Ar.ar .sub .i64 (Ar.ar .quo .i64 a b) 1 else Ar.ar .quo .i64 a b
noncomputable def btw (lo hi : Int) : List GInterval := if Ar.mn hi 1099511627776 < Ar.mx lo (-1099511627776) then [] else [⟨Ar.mx lo (-1099511627776), Ar.mn hi 1099511627776⟩]
theorem btw_one (lo hi : Int) : OneI (btw lo hi) := by
 unfold btw
 by_cases h : Ar.mn hi 1099511627776 < Ar.mx lo (-1099511627776)
 ·rw [if_pos h]; exact .inl rfl
 ·rw [if_neg h]
  refine .inr ⟨_, ?_, rfl⟩
  rw [mn_def, mx_def] at h
  unfold Bnd
  simp only [mn_def, mx_def]
  refine ⟨?_, ?_, ?_⟩
  ·split <;> omega
  ·exact Int.not_lt.1 h
  ·split <;> omega
noncomputable def mostC (t b : Int) : List GInterval :=
 if 0 < t then btw (-1099511627776) (dnI b t) else if t < 0 then btw (Ar.neg .i64 (dnI b (Ar.neg .i64 t))) 1099511627776 else if 0 ≤ b then [⟨-1099511627776, 1099511627776⟩] else []
theorem most_one (t b : Int) : OneI (mostC t b) := by
 unfold mostC
 split
 ·exact btw_one _ _
 ·split
  ·exact btw_one _ _
  ·split
   ·exact .inr ⟨_, ⟨by decide, by decide, by decide⟩, rfl⟩
   ·exact .inl rfl
theorem down_eq {N : Nat} {a b : Int} (h : b ≠ 0) : predicate_down N a b = some (dnI a b) ∧ ref27_floor N a b = some (dnI a b) := by
 unfold predicate_down ref27_floor dnI
 have : req (Ar.cmp .neq b 0) = some () := by unfold req; rw [if_pos (by simp [cmp_neq, h])]
 rw [this]
 simp only [Option.bind_some, cmp_lss, decide_eq_true_eq]
 by_cases h : Ar.ar .rem .i64 a b < 0
 ·simp only [if_pos h, and_self]
 ·simp only [if_neg h, and_self]
theorem between_eq {N : Nat} {a b : Int} : predicate_between N a b = some (btw a b) ∧ ref27_span N a b = some (btw a b) := by
 unfold predicate_between ref27_span btw
 simp only [cmp_gtr, decide_eq_true_eq]
 by_cases h : Ar.mn b 1099511627776 < Ar.mx a (-1099511627776)
 ·simp only [if_pos h, and_self]
 ·simp only [if_neg h, and_self]
theorem rest_nil {N : Nat} (hN : 10 < N) : ref02_Rest N [] = some [⟨-1099511627776, 1099511627776⟩] := by
 rw [rest_eq (l := []) trivial (by simp) (by simp; omega)]; rfl
theorem most_eq {N : Nat} {t p : Int} (ht : -1000000 ≤ t ∧ t ≤ 1000000) (hp : -1000000000000000 ≤ p ∧ p ≤ 1000000000000000) : predicate_most N ⟨t, p⟩ = some (mostC t (-p)) := by
 unfold predicate_most mostC
 simp only [cmp_gtr, cmp_lss, cmp_leq, decide_eq_true_eq]
 rw [neg_i64 (a := p) (by omega)]
 by_cases h1 : 0 < t
 ·rw [if_pos h1, if_pos h1, (down_eq (N := N) (show t ≠ 0 by omega)).1]
  simp only [Option.bind_some, between_eq.1]
 ·rw [if_neg h1, if_neg h1]
  by_cases h2 : t < 0
  ·rw [if_pos h2, if_pos h2, (down_eq (N := N) (show Ar.neg .i64 t ≠ 0 by rw [neg_i64 (by omega)]; omega)).1]
   simp only [Option.bind_some, between_eq.1]
  ·rw [if_neg h2, if_neg h2]
   by_cases h3 : p ≤ 0
   ·rw [if_pos h3, if_pos (by omega)]; rfl
   ·rw [if_neg h3, if_neg (by omega)]
theorem rmost_eq {N : Nat} {t b : Int} (ht : -1000000 ≤ t ∧ t ≤ 1000000) (hN : 10 < N) : ref27_most N t b = some (mostC t b) := by
 unfold ref27_most mostC
 simp only [cmp_gtr, cmp_lss, cmp_geq, decide_eq_true_eq]
 by_cases h1 : 0 < t
 ·rw [if_pos h1, if_pos h1, (down_eq (N := N) (show t ≠ 0 by omega)).2]
  simp only [Option.bind_some, between_eq.2]
 ·rw [if_neg h1, if_neg h1]
  by_cases h2 : t < 0
  ·rw [if_pos h2, if_pos h2, (down_eq (N := N) (show Ar.neg .i64 t ≠ 0 by rw [neg_i64 (by omega)]; omega)).2]
   simp only [Option.bind_some, between_eq.2]
  ·rw [if_neg h2, if_neg h2]
   by_cases h3 : 0 ≤ b
   ·rw [if_pos h3, if_pos h3, rest_nil hN]; rfl
   ·rw [if_neg h3, if_neg h3]
end Go.Ab

namespace Go.Ab
open Classical
set_option maxRecDepth 100000
def StpL (L : List Int) (a : List GInterval) : Prop := ∀ m, m ≠ -1099511627776 → m ≠ 1099511627777 → m ∉ L → (InL a m ↔ InL a (m - 1))
theorem StpL.len {L : List Int} {a : List GInterval} (h : StpL L a) (ho : Ord a) : 2 * a.length ≤ L.length + 2 := by
 have := len_of_steps (E := -1099511627776 :: 1099511627777 :: L) ho (fun n => Iff.rfl) fun n hn => by
  simp only [List.mem_cons, not_or] at hn
  exact h n hn.1 hn.2.1 hn.2.2
 simpa using this
theorem StpL.comb {La Lb : List Int} {a b c : List GInterval} (ha : StpL La a) (hb : StpL Lb b) (f : Prop → Prop → Prop → Prop) (hc : ∀ m, InL c m ↔ f (InL a m) (InL b m) (-1099511627776 ≤ m ∧ m ≤ 1099511627776)) : StpL (La ++ Lb) c := fun m h1 h2 h3 => by
 simp only [List.mem_append, not_or] at h3
 rw [hc, hc, propext (ha m h1 h2 h3.1), propext (hb m h1 h2 h3.2), propext (show (-1099511627776 ≤ m ∧ m ≤ 1099511627776) ↔ (-1099511627776 ≤ m - 1 ∧ m - 1 ≤ 1099511627776) by omega)]
theorem stp_nil : StpL [] [] := fun m _ _ _ => by simp [inL_nil]
theorem OneI.ord {a : List GInterval} (h : OneI a) : Ord a ∧ a.length ≤ 1 ∧ ∃ L, L.length ≤ 2 ∧ StpL L a := by
 rcases h with rfl | ⟨x, hx, rfl⟩
 ·exact ⟨trivial, by simp, [], by simp, stp_nil⟩
 ·refine ⟨⟨hx, (fun _ h => by cases h), trivial⟩, by simp, [x.Low, x.High + 1], by simp, fun m _ _ h => ?_⟩
  simp only [List.mem_cons, List.not_mem_nil, or_false, not_or] at h
  rw [inL_cons, inL_cons]
  simp only [inL_nil, or_false]
  omega
theorem whole_one : OneI [⟨-1099511627776, 1099511627776⟩] := .inr ⟨_, ⟨by decide, by decide, by decide⟩, rfl⟩
theorem stp_whole : StpL [] [⟨-1099511627776, 1099511627776⟩] := fun m h1 h2 _ => by
 rw [inL_cons, inL_cons]; simp only [inL_nil, or_false]; omega
theorem ck_ord {a : List GInterval} (h : Ord a) (hl : a.length ≤ 256) : ck a = 0 := zero_ck (h.srt hl)
theorem minus_eq {N : Nat} {a b : List GInterval} (ha : ck a = 0) (hb : ck b = 0) (hl : a.length + b.length ≤ 100) (hN : 100000 < N) :
 ∃ r, interval_Minus N a b = some (r, 0) ∧ Cn (fun n => InL a n ∧ ¬ InL b n) r := by
 obtain ⟨r, h1, h2, h3⟩ := icombine_eq (N := N) (bel := fun y1 y2 => interval_Minus_1 N y1 y2) (f := fun x y => x && !y) (fun x y => rfl) rfl ha hb hl (by omega) (P := fun n => InL a n ∧ ¬ InL b n) (fun n x y h k => by
  rw [← h, ← k, Bool.and_eq_true, Bool.not_eq_true', Bool.not_eq_true])
 refine ⟨r, ?_, h2⟩
 unfold interval_Minus
 rw [h1]; rfl
section
variable {N : Nat} (hN : 40000000 ≤ N) {La Lb : List Int} {a b : List GInterval} (oa : Ord a) (ob : Ord b) (sa : StpL La a) (sb : StpL Lb b) (hl : La.length + Lb.length ≤ 90)
include hN oa ob sa sb hl
theorem op_and : ∃ r, interval_Intersect N a b = some (r, 0) ∧ ref02_Both N a b = some r ∧ Ord r ∧ StpL (La ++ Lb) r := by
 have l1 := sa.len oa
 have l2 := sb.len ob
 obtain ⟨r, h1, h2, h3, _⟩ := intersect_eq (N := N) (ck_ord oa (by omega)) (ck_ord ob (by omega)) (by omega) (by omega)
 exact ⟨r, h1, h2, h3.1, sa.comb sb (fun A B _ => A ∧ B) h3.2.2⟩
theorem op_or : ∃ r, interval_Union N a b = some (r, 0) ∧ ref02_Normal N (a ++ b) = some r ∧ Ord r ∧ StpL (La ++ Lb) r ∧ ∀ n, InL r n ↔ InL a n ∨ InL b n := by
 have l1 := sa.len oa
 have l2 := sb.len ob
 obtain ⟨r, h1, h2, h3, _⟩ := union_eq (N := N) (ck_ord oa (by omega)) (ck_ord ob (by omega)) (by omega) (by omega)
 exact ⟨r, h1, h2, h3.1, sa.comb sb (fun A B _ => A ∨ B) h3.2.2, h3.2.2⟩
theorem op_minus : ∃ r, interval_Minus N a b = some (r, 0) ∧ Ord r ∧ StpL (La ++ Lb) r ∧ ∀ n, InL r n ↔ InL a n ∧ ¬ InL b n := by
 have l1 := sa.len oa
 have l2 := sb.len ob
 obtain ⟨r, h1, h2⟩ := minus_eq (N := N) (ck_ord oa (by omega)) (ck_ord ob (by omega)) (by omega) (by omega)
 exact ⟨r, h1, h2.1, sa.comb sb (fun A B _ => A ∧ ¬ B) h2.2.2, h2.2.2⟩
end
theorem op_not {N : Nat} (hN : 40000000 ≤ N) {La : List Int} {a : List GInterval} (oa : Ord a) (sa : StpL La a) (hl : La.length ≤ 180) : ∃ r, interval_Complement N a = some (r, 0) ∧ ref02_Rest N a = some r ∧ Ord r ∧ StpL La r ∧ ∀ n, InL r n ↔ -1099511627776 ≤ n ∧ n ≤ 1099511627776 ∧ ¬ InL a n := by
 have l1 := sa.len oa
 obtain ⟨r, h1, h2, h3, _⟩ := compl_eq (N := N) (ck_ord oa (by omega)) (by omega) (by omega)
 have := sa.comb stp_nil (fun A _ R => R ∧ ¬ A) (c := r) fun m => by rw [h3.2.2 m, and_assoc]
 rw [List.append_nil] at this
 exact ⟨r, h1, h2, h3.1, this, h3.2.2⟩
theorem op_same {N : Nat} (hN : 40000000 ≤ N) {La Lb : List Int} {a b : List GInterval} (oa : Ord a) (ob : Ord b) (sa : StpL La a) (sb : StpL Lb b) (hl : La.length + Lb.length ≤ 90) :
 ∃ r, predicate_same N a b = some (r, 0) ∧ ref27_logical N 9 a b = some r ∧ Ord r ∧ StpL (La ++ Lb) r := by
 have l1 := sa.len oa
 have l2 := sb.len ob
 have lc : ∀ {c : List GInterval}, Ord c → StpL (La ++ Lb) c → 2 * c.length ≤ 92 := fun ho hs => by
  have := hs.len ho
  simp at this; omega
 obtain ⟨x, x1, x2, x3, x4⟩ := op_minus hN oa ob sa sb hl
 obtain ⟨y, y1, y2, y3', y4⟩ := op_minus hN ob oa sb sa (by omega)
 have y3 : StpL (La ++ Lb) y := sa.comb sb (fun A B _ => B ∧ ¬ A) y4
 have lx := lc x2 x3
 have ly := lc y2 y3
 obtain ⟨d, d1, _, d3, _⟩ := union_eq (N := N) (ck_ord x2 (by omega)) (ck_ord y2 (by omega)) (by omega) (by omega)
 have d4 : StpL (La ++ Lb) d := sa.comb sb (fun A B _ => (A ∧ ¬ B) ∨ (B ∧ ¬ A)) fun m => by rw [d3.2.2 m]; dsimp only; rw [x4, y4]
 have ld := lc d3.1 d4
 obtain ⟨r, r1, _, r3, r4, r5⟩ := op_not hN d3.1 d4 (by simp; omega)
 obtain ⟨u, _, u2, u3, u4, u5⟩ := op_or hN oa ob sa sb hl
 have lu := lc u3 u4
 obtain ⟨l7, _, v2, v3, v4⟩ := op_and hN oa ob sa sb hl
 have hv := (intersect_eq (N := N) (ck_ord oa (by omega)) (ck_ord ob (by omega)) (by omega) (by omega))
 obtain ⟨l7', _, v2', v3', _⟩ := hv
 have e7 : l7' = l7 := by rw [v2] at v2'; cases v2'; rfl
 subst e7
 have l7l := lc v3 v4
 obtain ⟨q, _, q2, q3, q4, q5⟩ := op_not hN u3 u4 (by simp; omega)
 have lq := lc q3 q4
 obtain ⟨z, z1, z2, _, z4⟩ := normal_eq (N := N) (bnd_app (v3.srt (by omega)) (q3.srt (by omega))) (by simp; omega) (by simp; omega)
 have ez : z = r := ord_ext z2 r3 fun n => by
  rw [z4, inL_app, v3'.2.2, q5, u5, r5, d3.2.2]
  dsimp only
  rw [x4, y4]
  by_cases A : InL a n <;> by_cases B : InL b n <;> simp [A, B]
  obtain ⟨w, w1, w2, w3⟩ := A
  have := oa.srt' w w1
  omega
 subst ez
 refine ⟨z, ?_, ?_, r3, r4⟩
 ·unfold predicate_same
  simp only [x1, y1, d1, r1, Option.bind_some]
  rfl
 ·unfold ref27_logical
  simp only [show Ar.cmp .eql (9 : Int) 10 = false from rfl, show Ar.cmp .eql (9 : Int) 11 = false from rfl, Bool.false_eq_true, if_false, appL_eq (l := ([] : List GInterval)) (m := a) (by simp; omega), List.nil_append, Option.bind_some, appL_eq (l := a) (m := b) (by omega), u2, v2, q2, appL_eq (l := l7') (m := q) (by omega), z1]
end Go.Ab

namespace Go.Ab
open Classical
set_option maxRecDepth 100000
theorem compared_eq {N : Nat} {field own : Int} (hN : 40000000 ≤ N) {x a b : GExpr} (i0 : idxL x.Args 0 = some a) (i1 : idxL x.Args 1 = some b) (ba : a.bulk ≤ 16777216) (bb : b.bulk ≤ 16777216)
 (pa : ∀ y ∈ a.pre, exprBad y = 0) (pb : ∀ y ∈ b.pre, exprBad y = 0) (hl : a.pre.length + b.pre.length ≤ 64) (ho : x.Op = 7 ∨ x.Op = 8 ∨ x.Op = 9) :
 ∃ (r : List GInterval) (ok : Bool) (L : List Int) (l1 : Gpredicate_line) (o1 : Bool) (l2 : Gpredicate_line) (o2 : Bool), ref27_compared N x own field = some (r, ok) ∧ predicate_linear N N a field own = some (l1, o1) ∧ predicate_linear N N b field own = some (l2, o2) ∧
  Ar.an o1 o2 = ok ∧ (ok = true → predicate_compared N x.Op l1 l2 = some (r, 0)) ∧ Ord r ∧ L.length ≤ 4 ∧ StpL L r := by
 obtain ⟨t, p, o1, k1, k2, k3, k4, k5⟩ := linear_eq (N := N) (field := field) (own := own) N a (by omega) pa (by omega)
 obtain ⟨t', p', o2, j1, j2, j3, j4, j5⟩ := linear_eq (N := N) (field := field) (own := own) N b (by omega) pb (by omega)
 unfold ref27_compared
 simp only [i0, i1, Option.bind_some, k2, j2]
 by_cases hok : Ar.an o1 o2 = true
 ·have h1 : o1 = true := by cases o1 <;> simp_all [an_def]
  have h2 : o2 = true := by cases o2 <;> simp_all [an_def]
  subst h1 h2
  simp only [show Ar.or (Ar.nt true) (Ar.nt true) = false from rfl, Bool.false_eq_true, if_false]
  have e1 : Ar.ar .sub .i64 t t' = t - t' := sub_i64 (by omega)
  have e2 : Ar.ar .sub .i64 p p' = p - p' := sub_i64 (by omega)
  have e3 : Ar.neg .i64 (p - p') = -(p - p') := neg_i64 (by omega)
  have e4 : Ar.neg .i64 (t - t') = -(t - t') := neg_i64 (by omega)
  rw [e1, e2, e3, e4]
  rcases ho with h | h | h
  ·simp only [h, show Ar.cmp .eql (7 : Int) 7 = true from rfl, if_true]
   have e5 : Ar.ar .sub .i64 (-(p - p')) 1 = -(p - p' + 1) := (sub_i64 (by omega)).trans (by omega)
   have e6 : Ar.ar .add .i64 (p - p') 1 = p - p' + 1 := add_i64 (by omega) (by omega)
   obtain ⟨q1, q2, L, q3, q4⟩ := (most_one (t - t') (-(p - p' + 1))).ord
   refine ⟨mostC (t - t') (-(p - p' + 1)), true, L, _, _, _, _, ?_, k1, j1, rfl, fun _ => ?_, q1, by omega, q4⟩
   ·rw [e5, rmost_eq (by omega) (by omega)]; rfl
   ·unfold predicate_compared
    simp only [show Ar.cmp .eql (7 : Int) 7 = true from rfl, if_true, e1, e2, e6]
    rw [most_eq (by omega) (by omega)]; rfl
  ·simp only [h, show Ar.cmp .eql (8 : Int) 7 = false from rfl, show Ar.cmp .eql (8 : Int) 8 = true from rfl, Bool.false_eq_true, if_false, if_true]
   obtain ⟨q1, q2, L, q3, q4⟩ := (most_one (t - t') (-(p - p'))).ord
   refine ⟨mostC (t - t') (-(p - p')), true, L, _, _, _, _, ?_, k1, j1, rfl, fun _ => ?_, q1, by omega, q4⟩
   ·rw [rmost_eq (by omega) (by omega)]; rfl
   ·unfold predicate_compared
    simp only [show Ar.cmp .eql (8 : Int) 7 = false from rfl, show Ar.cmp .eql (8 : Int) 8 = true from rfl, Bool.false_eq_true, if_false, if_true, e1, e2]
    rw [most_eq (by omega) (by omega)]; rfl
  ·simp only [h, show Ar.cmp .eql (9 : Int) 7 = false from rfl, show Ar.cmp .eql (9 : Int) 8 = false from rfl, Bool.false_eq_true, if_false]
   obtain ⟨q1, q2, L, q3, q4⟩ := (most_one (t - t') (-(p - p'))).ord
   obtain ⟨w1, w2, L', w3, w4⟩ := (most_one (-(t - t')) (p - p')).ord
   obtain ⟨r, r1, r2, r3, r4⟩ := op_and hN q1 w1 q4 w4 (by omega)
   refine ⟨r, true, L ++ L', _, _, _, _, ?_, k1, j1, rfl, fun _ => ?_, r3, by simp; omega, r4⟩
   ·rw [rmost_eq (by omega) (by omega), rmost_eq (by omega) (by omega)]
    simp only [Option.bind_some, r2]
   ·unfold predicate_compared
    simp only [show Ar.cmp .eql (9 : Int) 7 = false from rfl, show Ar.cmp .eql (9 : Int) 8 = false from rfl, Bool.false_eq_true, if_false, e1, e2, e3, e4]
    rw [most_eq (by omega) (by omega), most_eq (by omega) (by omega), Int.neg_neg]
    simp only [Option.bind_some, r1]
 ·have hf : Ar.an o1 o2 = false := by simpa using hok
  have hor : Ar.or (Ar.nt o1) (Ar.nt o2) = true := by cases o1 <;> cases o2 <;> first | rfl | (exact absurd rfl hok)
  rw [if_pos hor]
  exact ⟨[], false, [], _, _, _, _, rfl, k1, j1, hf, fun e => (by cases e), trivial, by simp, stp_nil⟩
theorem sets_loop8 {N : Nat} {l : List GExpr} {K : GExpr → Option (List GInterval × Int)} {f : GExpr → List GInterval} {g : GExpr → Bool} (h : ∀ a ∈ l, K a = some (if g a = true then (f a, 0) else ([], 3))) (hl : l.length ≤ 1000) (hN : 1000 < N) :
 loopN (fun (s10 : (List (List GInterval)) × Int) =>
       (
        if Ar.cmp .lss s10.2 (Ar.len l) = true then
         (idxL l s10.2).bind fun x13 =>
         (K x13).bind fun r14 =>
         if Ar.cmp .neq r14.2 0 = true then
          some (.inr (.inr r14.2))
         else
          (appL s10.1 ([r14.1])).bind fun l16 =>
          some (.inl (l16, Ar.ar .add .i64 s10.2 1))
        else
         some (.inr (.inl s10.1))
        : Option (((List (List GInterval)) × Int) ⊕ (((List (List GInterval))) ⊕ Int)))) N ([], 0) = some (if l.all g = true then .inl (l.map f) else .inr 3) := by
 rw [loop_list l (by omega) (mk := fun (s : List (List GInterval)) i => (s, i)) (body := fun s a => if g a = true then (appL s [f a]).bind fun l16 => some (.inl l16) else some (.inr (.inr 3))) (fin := fun s => .inl s) (s := []) (by omega) ?_ ?_]
 ·have key : ∀ (m : List GExpr) (s : List (List GInterval)), s.length + m.length ≤ 1000 → rangeL (fun s a => if g a = true then (appL s [f a]).bind fun l16 => some (.inl l16) else some (.inr (.inr 3 : List (List GInterval) ⊕ Int))) m s = some (if m.all g = true then .inl (s ++ m.map f) else .inr (.inr 3)) := by
   intro m
   induction m with
   | nil => intro s _; simp [rangeL]
   | cons a m ih =>
    intro s hs
    simp only [List.length_cons] at hs
    unfold rangeL
    by_cases hg : g a = true
    ·simp only [if_pos hg, appL_eq (l := s) (m := [f a]) (by simp; omega), Option.bind_some]
     rw [ih (s ++ [f a]) (by simp; omega)]
     simp [hg]
    ·simp only [if_neg hg, Option.bind_some]
     simp [hg]
  rw [key l [] (by simpa using hl)]
  by_cases z : l.all g = true
  ·simp only [if_pos z, Option.bind_some, List.nil_append]
  ·simp only [if_neg z, Option.bind_some]
 ·intro s i a ha hi
  have hm := List.mem_of_getElem? ha
  have ei : Ar.ar .add .i64 (i : Int) 1 = i + 1 := add_i64 (by omega) (by omega)
  simp only [cmp_lss, len_def, hi, decide_true, if_true, idx_at, ha, Option.bind_some, h a hm, ei]
  by_cases hg : g a = true
  ·simp only [if_pos hg, show Ar.cmp .neq (0 : Int) 0 = false from rfl, Bool.false_eq_true, if_false]
   cases appL s [f a] <;> rfl
  ·simp only [if_neg hg, show Ar.cmp .neq (3 : Int) 0 = true from rfl, if_true]
   rfl
 ·intro s
  simp only [cmp_lss, len_def, decide_eq_true_eq]; rw [if_neg (by omega)]
end Go.Ab

namespace Go.Ab
open Classical
set_option maxRecDepth 100000
def Slv (N : Nat) (field own : Int) (x : GExpr) (P : Option (List GInterval × Int)) (R : Option (List GInterval × Bool)) : Prop :=
 ∃ (a : List GInterval) (ok : Bool) (L : List Int), P = some (if ok = true then (a, 0) else ([], 3)) ∧ R = some (a, ok) ∧ Ord a ∧ 3 * L.length ≤ 4 * x.pre.length ∧ StpL L a
theorem dec789 (op : Int) : (if Ar.cmp .eql op 7 = true then some true else if Ar.cmp .eql op 8 = true then some true else some (Ar.cmp .eql op 9) : Option Bool) = some (decide (op = 7 ∨ op = 8 ∨ op = 9)) := by
 by_cases a : op = 7 <;> by_cases b : op = 8 <;> by_cases c : op = 9 <;> simp [cmp_eql, a, b, c]
theorem solve_eq {N : Nat} {field own : Int} (hN : 40000000 ≤ N) : ∀ (n : Nat) (x : GExpr), x.bulk ≤ n → x.bulk ≤ 16777216 → (∀ y ∈ x.pre, exprBad y = 0) → x.pre.length ≤ 64 →
 Slv N field own x (predicate_solve N n x field own) (ref27_Solve N n x own field) := by
 intro n
 induction n with
 | zero => intro x h; have := bulk_pos_e x; omega
 | succ n ih =>
  intro x hx hb hbad hl
  have nx := node_ok (hbad x (by rw [GExpr.pre_eq]; simp))
  have ho := nx.op
  have har := nx.ar
  unfold predicate_solve ref27_Solve
  by_cases h0 : x.Op = 0
  ·simp only [show Ar.cmp .eql x.Op 0 = true from by simp [cmp_eql, h0], if_true]
   by_cases hk : x.Value.Kind = 1
   ·simp only [show Ar.cmp .neq x.Value.Kind 1 = false from by simp [cmp_neq, hk], show Ar.cmp .eql x.Value.Kind 1 = true from by simp [cmp_eql, hk], Bool.false_eq_true, if_false]
    by_cases hn : x.Value.Num = 1
    ·simp only [show Ar.cmp .eql x.Value.Num 1 = true from by simp [cmp_eql, hn], if_true, rest_nil (N := N) (by omega), Option.bind_some]
     exact ⟨_, true, [], rfl, rfl, whole_one.ord.1, by simp, stp_whole⟩
    ·simp only [show Ar.cmp .eql x.Value.Num 1 = false from by simp [cmp_eql, hn], Bool.false_eq_true, if_false, Option.bind_some]
     exact ⟨[], true, [], rfl, rfl, trivial, by simp, stp_nil⟩
   ·simp only [show Ar.cmp .neq x.Value.Kind 1 = true from by simp [cmp_neq, hk], show Ar.cmp .eql x.Value.Kind 1 = false from by simp [cmp_eql, hk], if_true, Option.bind_some]
    by_cases hn : x.Value.Num = 1
    ·simp only [show Ar.cmp .eql x.Value.Num 1 = true from by simp [cmp_eql, hn], if_true, rest_nil (N := N) (by omega), Option.bind_some]
     exact ⟨_, false, [], rfl, rfl, whole_one.ord.1, by simp, stp_whole⟩
    ·simp only [show Ar.cmp .eql x.Value.Num 1 = false from by simp [cmp_eql, hn], Bool.false_eq_true, if_false]
     exact ⟨[], false, [], rfl, rfl, trivial, by simp, stp_nil⟩
  simp only [show Ar.cmp .eql x.Op 0 = false from by simp [cmp_eql, h0], Bool.false_eq_true, if_false]
  rw [dec789]
  simp only [Option.bind_some, decide_eq_true_eq]
  by_cases h12 : x.Op = 12
  ·
   rw [if_neg (by omega), if_pos h12] at har
   obtain ⟨a, hab, i0, ma, hpre⟩ := argL1 (x := x) (by omega)
   obtain ⟨s, ok, L, s1, s2, s3, s4, s5⟩ := ih a (by have := mem_bulk_e ma; omega) (by have := mem_bulk_e ma; omega) (pre_mem ma hbad) (by omega)
   obtain ⟨r, r1, r2, r3, r4, _⟩ := op_not hN s3 s5 (by omega)
   refine ⟨r, ok, L, ?_, ?_, r3, by omega, r4⟩
   ·simp only [h12, show ¬((12 : Int) = 7 ∨ (12 : Int) = 8 ∨ (12 : Int) = 9) from by decide, if_false, show Ar.cmp .eql (12 : Int) 10 = false from rfl, show Ar.cmp .eql (12 : Int) 11 = false from rfl, show Ar.cmp .eql (12 : Int) 12 = true from rfl, Bool.false_eq_true, if_true, Option.bind_some]
    refine bind_of1' (sets_loop8 (N := N) (l := x.Args) (K := fun y => predicate_solve N n y field own) (f := fun _ => s) (g := fun _ => ok) (fun y hy => ?_) (by omega) (by omega)) ?_
    ·rw [hab] at hy; cases List.mem_singleton.1 hy; exact s1
    ·rw [hab]
     cases ok with
     | true =>
      have e0 : idxL [s] 0 = some s := rfl
      simp only [List.all_cons, List.all_nil, Bool.and_self, if_true, List.map_cons, List.map_nil, e0, Option.bind_some, r1]
     | false => rfl
   ·simp only [h12, show Ar.cmp .eql (12 : Int) 12 = true from rfl, if_true, i0, s2, Option.bind_some, r2]
  ·rw [show (if x.Op = 12 then (1 : Int) else 2) = 2 from if_neg h12] at har
   have e12 : Ar.cmp .eql x.Op 12 = false := by simp [cmp_eql, h12]
   by_cases h5 : x.Op < 5
   ·
    have n1 : ¬ (x.Op = 7 ∨ x.Op = 8 ∨ x.Op = 9) := by omega
    have n2 : Ar.or (Ar.cmp .eql x.Op 7) (Ar.cmp .eql x.Op 8) = false := by simp only [or_def, cmp_eql, Bool.or_eq_false_iff, decide_eq_false_iff_not]; omega
    have n3 : Ar.cmp .eql x.Op 9 = false := by simp only [cmp_eql, decide_eq_false_iff_not]; omega
    have n4 : Ar.cmp .eql x.Op 10 = false := by simp only [cmp_eql, decide_eq_false_iff_not]; omega
    have n5 : Ar.cmp .eql x.Op 11 = false := by simp only [cmp_eql, decide_eq_false_iff_not]; omega
    have n6 : Ar.an (Ar.an (Ar.cmp .neq x.Op 10) (Ar.cmp .neq x.Op 11)) (Ar.cmp .neq x.Op 9) = true := by simp only [an_def, cmp_neq, Bool.and_eq_true, Bool.not_eq_true', decide_eq_false_iff_not]; omega
    simp only [if_neg n1, e12, n2, n3, n4, n5, n6, Bool.false_eq_true, if_false, if_true, Option.bind_some]
    exact ⟨[], false, [], rfl, rfl, trivial, by simp, stp_nil⟩
   ·rw [if_neg h5] at har
    obtain ⟨a, b, hab, i0, i1, ma, mb, hpre⟩ := argL2 (x := x) (by omega)
    have hba := mem_bulk_e ma
    have hbb := mem_bulk_e mb
    obtain ⟨s, os, Ls, s1, s2, s3, s4, s5⟩ := ih a (by omega) (by omega) (pre_mem ma hbad) (by omega)
    obtain ⟨u, ou, Lu, u1, u2, u3, u4, u5⟩ := ih b (by omega) (by omega) (pre_mem mb hbad) (by omega)
    have loop : ∃ fs : List (List GInterval) ⊕ Int, fs = (if (os && ou) = true then .inl [s, u] else .inr 3) ∧ ∀ F : (List (List GInterval) ⊕ Int) → Option (List GInterval × Int), ∀ r, F fs = r → (loopN (fun (s10 : (List (List GInterval)) × Int) =>
     (
      if Ar.cmp .lss s10.2 (Ar.len x.Args) = true then
       (idxL x.Args s10.2).bind fun x13 =>
       (predicate_solve N n x13 field own).bind fun r14 =>
       if Ar.cmp .neq r14.2 0 = true then
        some (.inr (.inr r14.2))
       else
        (appL s10.1 ([r14.1])).bind fun l16 =>
        some (.inl (l16, Ar.ar .add .i64 s10.2 1))
      else
       some (.inr (.inl s10.1))
      : Option (((List (List GInterval)) × Int) ⊕ (((List (List GInterval))) ⊕ Int)))) N ([], 0)).bind F = r := by
     refine ⟨_, rfl, fun F r hF => ?_⟩
     rw [loop_list x.Args (by omega) (mk := fun (s : List (List GInterval)) i => (s, i)) (body := fun q y => (predicate_solve N n y field own).bind fun r14 => if Ar.cmp .neq r14.2 0 = true then some (.inr (.inr r14.2)) else (appL q ([r14.1])).bind fun l16 => some (.inl l16)) (fin := fun s => .inl s) (s := []) (by omega) ?_ ?_]
     ·rw [hab]
      rw [← hF]
      have a1 : appL ([] : List (List GInterval)) [s] = some [s] := appL_eq (by simp)
      have a2 : appL [s] [u] = some [s, u] := appL_eq (by simp)
      cases os with
      | true =>
       simp only [if_true] at s1
       cases ou with
       | true =>
        simp only [if_true] at u1
        simp only [rangeL, s1, u1, Option.bind_some, show Ar.cmp .neq (0 : Int) 0 = false from rfl, Bool.false_eq_true, if_false, a1, a2]
        rfl
       | false =>
        simp only [Bool.false_eq_true, if_false] at u1
        simp only [rangeL, s1, u1, Option.bind_some, show Ar.cmp .neq (0 : Int) 0 = false from rfl, show Ar.cmp .neq (3 : Int) 0 = true from rfl, Bool.false_eq_true, if_false, if_true, a1]
        rfl
      | false =>
       simp only [Bool.false_eq_true, if_false] at s1
       simp only [rangeL, s1, Option.bind_some, show Ar.cmp .neq (3 : Int) 0 = true from rfl, if_true]
       rfl
     ·intro q i y hy hi
      have ei : Ar.ar .add .i64 (i : Int) 1 = i + 1 := add_i64 (by omega) (by omega)
      simp only [cmp_lss, len_def, hi, decide_true, if_true, idx_at, hy, Option.bind_some, ei]
      cases predicate_solve N n y field own with
      | none => rfl
      | some r14 =>
       simp only [Option.bind_some]
       by_cases z : Ar.cmp .neq r14.2 0 = true
       ·simp only [if_pos z]; rfl
       ·simp only [if_neg z]
        cases appL q [r14.1] <;> rfl
     ·intro q
      simp only [cmp_lss, len_def, decide_eq_true_eq]; rw [if_neg (by omega)]
    obtain ⟨fs, hfs, loop⟩ := loop
    have e0 : idxL [s, u] 0 = some s := rfl
    have e1 : idxL [s, u] 1 = some u := rfl
    by_cases h9 : x.Op = 7 ∨ x.Op = 8 ∨ x.Op = 9
    ·obtain ⟨r, ok, L, l1, o1, l2, o2, c1, c2, c3, c4, c5, c6, c7, c8⟩ := compared_eq hN i0 i1 (by omega) (by omega) (pre_mem ma hbad) (pre_mem mb hbad) (by omega) h9 (field := field) (own := own)
     have hp1 : 1 ≤ a.pre.length := by rw [GExpr.pre_eq]; simp
     have hp2 : 1 ≤ b.pre.length := by rw [GExpr.pre_eq]; simp
     simp only [if_pos h9, i0, i1, c2, c3, Option.bind_some, c4, e12, Bool.false_eq_true, if_false]
     by_cases h78 : x.Op = 7 ∨ x.Op = 8
     ·have n2 : Ar.or (Ar.cmp .eql x.Op 7) (Ar.cmp .eql x.Op 8) = true := by simp only [or_def, cmp_eql, Bool.or_eq_true, decide_eq_true_eq]; exact h78
      have n9 : Ar.cmp .neq x.Op 9 = true := by simp only [cmp_neq, Bool.not_eq_true', decide_eq_false_iff_not]; omega
      simp only [n2, if_true, c1, Option.bind_some]
      cases ok with
      | true =>
       simp only [if_true, c5 rfl, Option.bind_some]
       exact ⟨r, true, L, rfl, rfl, c6, by omega, c8⟩
      | false =>
       simp only [Bool.false_eq_true, if_false, n9, if_true, Option.bind_some]
       exact ⟨r, false, L, rfl, rfl, c6, by omega, c8⟩
     ·have h9' : x.Op = 9 := by omega
      have n2 : Ar.or (Ar.cmp .eql x.Op 7) (Ar.cmp .eql x.Op 8) = false := by simp only [or_def, cmp_eql, Bool.or_eq_false_iff, decide_eq_false_iff_not]; omega
      have n9 : Ar.cmp .neq x.Op 9 = false := by simp [cmp_neq, h9']
      have n9' : Ar.cmp .eql x.Op 9 = true := by simp [cmp_eql, h9']
      have n10 : Ar.cmp .eql x.Op 10 = false := by simp [cmp_eql, h9']
      have n11 : Ar.cmp .eql x.Op 11 = false := by simp [cmp_eql, h9']
      have n6 : Ar.an (Ar.an (Ar.cmp .neq x.Op 10) (Ar.cmp .neq x.Op 11)) (Ar.cmp .neq x.Op 9) = false := by rw [n9]; simp [an_def]
      simp only [n2, n9', Bool.false_eq_true, if_false, if_true, c1, Option.bind_some]
      cases ok with
      | true =>
       simp only [if_true, c5 rfl, Option.bind_some]
       exact ⟨r, true, L, rfl, rfl, c6, by omega, c8⟩
      | false =>
       obtain ⟨w, w1, w2, w3, w4⟩ := op_same hN s3 u3 s5 u5 (by omega)
       simp only [Bool.false_eq_true, if_false, n9, Option.bind_some, n6, s2, u2]
       refine ⟨w, os && ou, Ls ++ Lu, ?_, ?_, w3, by simp; omega, w4⟩
       ·refine loop _ _ ?_
        rw [hfs]
        by_cases z : (os && ou) = true
        ·simp only [if_pos z, n10, n11, Bool.false_eq_true, if_false, e12, e0, e1, Option.bind_some, w1]
        ·simp only [if_neg z]
       ·rw [h9', w2]; rfl
    ·simp only [if_neg h9]
     have n2 : Ar.or (Ar.cmp .eql x.Op 7) (Ar.cmp .eql x.Op 8) = false := by simp only [or_def, cmp_eql, Bool.or_eq_false_iff, decide_eq_false_iff_not]; omega
     have n9 : Ar.cmp .eql x.Op 9 = false := by simp only [cmp_eql, decide_eq_false_iff_not]; omega
     by_cases h10 : x.Op = 10
     ·obtain ⟨w, w1, w2, w3, w4⟩ := op_and hN s3 u3 s5 u5 (by omega)
      have n6 : Ar.an (Ar.an (Ar.cmp .neq x.Op 10) (Ar.cmp .neq x.Op 11)) (Ar.cmp .neq x.Op 9) = false := by simp [an_def, cmp_neq, h10]
      have n10 : Ar.cmp .eql x.Op 10 = true := by simp [cmp_eql, h10]
      simp only [e12, n2, n9, n6, n10, Bool.false_eq_true, if_false, if_true, Option.bind_some, i0, i1, s2, u2]
      refine ⟨w, os && ou, Ls ++ Lu, ?_, ?_, w3, by simp; omega, w4⟩
      ·refine loop _ _ ?_
       rw [hfs]
       by_cases z : (os && ou) = true
       ·simp only [if_pos z, n10, if_true, e0, e1, Option.bind_some, w1]
       ·simp only [if_neg z]
      ·unfold ref27_logical
       simp only [n10, if_true, w2, Option.bind_some]
       rfl
     ·by_cases h11 : x.Op = 11
      ·obtain ⟨w, w1, w2, w3, w4, _⟩ := op_or hN s3 u3 s5 u5 (by omega)
       have l1 := s5.len s3
       have l2 := u5.len u3
       have n6 : Ar.an (Ar.an (Ar.cmp .neq x.Op 10) (Ar.cmp .neq x.Op 11)) (Ar.cmp .neq x.Op 9) = false := by simp [an_def, cmp_neq, h11]
       have n10 : Ar.cmp .eql x.Op 10 = false := by simp [cmp_eql, h11]
       have n11 : Ar.cmp .eql x.Op 11 = true := by simp [cmp_eql, h11]
       simp only [e12, n2, n9, n6, n10, n11, Bool.false_eq_true, if_false, if_true, Option.bind_some, i0, i1, s2, u2]
       refine ⟨w, os && ou, Ls ++ Lu, ?_, ?_, w3, by simp; omega, w4⟩
       ·refine loop _ _ ?_
        rw [hfs]
        by_cases z : (os && ou) = true
        ·simp only [if_pos z, n10, n11, Bool.false_eq_true, if_false, if_true, e0, e1, Option.bind_some, w1]
        ·simp only [if_neg z]
       ·unfold ref27_logical
        simp only [n10, n11, Bool.false_eq_true, if_false, if_true, appL_eq (l := ([] : List GInterval)) (m := s) (by simp; omega), List.nil_append, Option.bind_some, appL_eq (l := s) (m := u) (by omega), w2]
        rfl
      ·have n6 : Ar.an (Ar.an (Ar.cmp .neq x.Op 10) (Ar.cmp .neq x.Op 11)) (Ar.cmp .neq x.Op 9) = true := by simp only [an_def, cmp_neq, Bool.and_eq_true, Bool.not_eq_true', decide_eq_false_iff_not]; omega
       have n10 : Ar.cmp .eql x.Op 10 = false := by simp [cmp_eql, h10]
       have n11 : Ar.cmp .eql x.Op 11 = false := by simp [cmp_eql, h11]
       simp only [e12, n2, n9, n6, n10, n11, Bool.false_eq_true, if_false, if_true, Option.bind_some]
       exact ⟨[], false, [], rfl, rfl, trivial, by simp, stp_nil⟩
end Go.Ab

