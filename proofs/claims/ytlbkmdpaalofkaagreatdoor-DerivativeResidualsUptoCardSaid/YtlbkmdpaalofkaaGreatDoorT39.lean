/- GZR1 GZR2 GZR3 -/
import Derived.Test.YtlbkmdpaalofkaaGreatDoorT37
set_option linter.all false

namespace Go.Ab
mutual
theorem bulk_pre_e : ∀ x : GExpr, (∀ y ∈ x.pre, y.Value.Text.size ≤ 64) → x.bulk ≤ 74 * x.pre.length
 | ⟨op, args, var, field, kind, v⟩, h => by
  have h1 := bulks_pre_e args fun y hy => h y (by rw [GExpr.pre]; exact List.mem_cons_of_mem _ hy)
  have h2 : v.Text.size ≤ 64 := h ⟨op, args, var, field, kind, v⟩ (by rw [GExpr.pre]; exact List.mem_cons_self ..)
  simp only [GExpr.bulk, GExpr.pre, List.length_cons]
  omega
theorem bulks_pre_e : ∀ l : List GExpr, (∀ y ∈ GExpr.pres l, y.Value.Text.size ≤ 64) → GExpr.bulks l ≤ 1 + 74 * (GExpr.pres l).length
 | [], _ => by simp [GExpr.bulks]
 | a :: l, h => by
  have h1 := bulk_pre_e a fun y hy => h y (by rw [GExpr.pres]; exact List.mem_append_left _ hy)
  have h2 := bulks_pre_e l fun y hy => h y (by rw [GExpr.pres]; exact List.mem_append_right _ hy)
  simp only [GExpr.bulks, GExpr.pres, List.length_append]
  omega
end
mutual
theorem bulk_pre_p : ∀ x : GPattern, (∀ y ∈ x.pre, y.Cond.bulk ≤ 4736) → x.bulk ≤ 4743 * x.pre.length
 | ⟨op, args, typ, var, scope, span, c⟩, h => by
  have h1 := bulks_pre_p args fun y hy => h y (by rw [GPattern.pre]; exact List.mem_cons_of_mem _ hy)
  have h2 : c.bulk ≤ 4736 := h ⟨op, args, typ, var, scope, span, c⟩ (by rw [GPattern.pre]; exact List.mem_cons_self ..)
  simp only [GPattern.bulk, GPattern.pre, List.length_cons]
  omega
theorem bulks_pre_p : ∀ l : List GPattern, (∀ y ∈ GPattern.pres l, y.Cond.bulk ≤ 4736) → GPattern.bulks l ≤ 1 + 4743 * (GPattern.pres l).length
 | [], _ => by simp [GPattern.bulks]
 | a :: l, h => by
  have h1 := bulk_pre_p a fun y hy => h y (by rw [GPattern.pres]; exact List.mem_append_left _ hy)
  have h2 := bulks_pre_p l fun y hy => h y (by rw [GPattern.pres]; exact List.mem_append_right _ hy)
  simp only [GPattern.bulks, GPattern.pres, List.length_append]
  omega
end
theorem size_empty : (⟨#[]⟩ : ByteArray).size = 0 := rfl
theorem zeroV_text {v : GValue} (h : zeroV v = true) : v.Text.size ≤ 64 := by
 simp only [zeroV, an_def, cmp_eql, scmp_eql, Bool.and_eq_true, decide_eq_true_eq] at h
 rw [h.2.2.1, size_empty]; omega
theorem valBad_text {v : GValue} (h : valBad v = 0) : v.Text.size ≤ 64 := by
 unfold valBad at h
 by_cases h1 : v.Kind = 0 ∨ v.Kind = 1
 ·rw [if_pos h1] at h
  by_cases h2 : v.Text ≠ ⟨#[]⟩
  ·rw [if_pos h2] at h; cases h
  ·have : v.Text = ⟨#[]⟩ := Classical.not_not.1 h2
   rw [this, size_empty]; omega
 ·rw [if_neg h1] at h
  by_cases h2 : v.Kind = 2
  ·rw [if_pos h2] at h
   by_cases h3 : v.Num ≠ 0
   ·rw [if_pos h3] at h; cases h
   ·rw [if_neg h3] at h
    by_cases h4 : 64 < (v.Text.size : Int)
    ·rw [if_pos h4] at h; cases h
    ·omega
  ·rw [if_neg h2] at h; cases h
theorem exprBad_text {x : GExpr} (h : exprBad x = 0) : x.Value.Text.size ≤ 64 := by
 unfold exprBad at h
 by_cases h0 : x.Op < 0 ∨ 12 < x.Op
 ·rw [if_pos h0] at h; cases h
 rw [if_neg h0] at h
 by_cases h1 : (x.Args.length : Int) ≠ (if x.Op < 5 then 0 else if x.Op = 12 then 1 else 2)
 ·rw [if_pos h1] at h; cases h
 rw [if_neg h1] at h
 by_cases h2 : outB x = true
 ·rw [if_pos h2] at h; cases h
 rw [if_neg h2] at h
 by_cases h3 : kindB x = true
 ·rw [if_pos h3] at h; cases h
 rw [if_neg h3] at h
 by_cases h4 : x.Op = 4 ∨ x.Op = 0
 ·by_cases h5 : valBad x.Value = 0
  ·exact valBad_text h5
  ·rw [if_pos ⟨h4, h5⟩] at h; exact absurd h h5
 ·rw [if_neg (fun e => h4 e.1), if_neg (fun e => h4 (.inl e.1))] at h
  by_cases h6 : junkB x = true
  ·rw [if_pos h6] at h; cases h
  ·have h7 : zeroV x.Value = true := by
    have n4 : ¬ x.Op = 4 := fun e => h4 (.inl e)
    have n0 : ¬ x.Op = 0 := fun e => h4 (.inr e)
    cases hz : zeroV x.Value with
    | true => rfl
    | false =>
     refine absurd ?_ h6
     simp [junkB, or_def, an_def, nt_def, cmp_eql, n4, n0, hz]
   exact zeroV_text h7
theorem exprCheck_small {c : GExpr} (h : exprCheck c = 0) : c.bulk ≤ 4736 := by
 have hp : ¬ 64 < c.pre.length := fun e => by rw [exprCheck, if_pos e] at h; cases h
 have hd : ¬ 12 < c.dep := fun e => by rw [exprCheck, if_neg hp, if_pos e] at h; cases h
 rw [exprCheck, if_neg hp, if_neg hd] at h
 have := bulk_pre_e c fun y hy => exprBad_text (bad1_zero.1 h y hy)
 omega
theorem node_shape {N : Nat} (hN : 40000000 ≤ N) {y : GPattern} (hb : y.bulk ≤ 16777216) (hl : y.Args.length ≤ 64) (h : nodeBad N y = 0) : (0 ≤ y.Op ∧ y.Op ≤ 10) ∧ ∃ s ng, ShapeOk N y s ng ∧ y.Cond.bulk ≤ 4736 := by
 have hc : y.Cond.bulk ≤ 16777216 := by have := GPattern.bulk_eq y; omega
 have hop : 0 ≤ y.Op ∧ y.Op ≤ 10 := by
  by_cases ho : 0 ≤ y.Op ∧ y.Op ≤ 10
  ·exact ho
  ·have h1 := (node_both hN hb hl).1
   unfold pattern_check at h1
   rw [if_pos (op_no ho).1, h] at h1
   cases h1
 obtain ⟨s, ng, hs⟩ := shape_ok N y hop.1 hop.2 hl
 have hz := same8 hN N y.Cond (⟨0, [], 0, 0, 0, (⟨0, 0, ⟨#[]⟩⟩ : GValue)⟩ : GExpr) (by omega) hc
 have h1 := check_patr hN hc hop.1 hop.2 hs hz
 rw [(node_both hN hb hl).2, h] at h1
 have h1 := Option.some.inj h1
 refine ⟨hop, s, ng, hs, ?_⟩
 by_cases ha : s.least ≤ y.Args.length ∧ (y.Args.length : Int) ≤ s.most
 ·rw [if_pos ha] at h1
  unfold patBad at h1
  by_cases e1 : badB s.typed y.Typ 15 = true
  ·rw [if_pos e1] at h1; cases h1
  rw [if_neg e1] at h1
  by_cases e2 : badB s.typed y.Var 15 = true
  ·rw [if_pos e2] at h1; cases h1
  rw [if_neg e2] at h1
  by_cases e3 : badB s.scope y.Scope 63 = true
  ·rw [if_pos e3] at h1; cases h1
  rw [if_neg e3] at h1
  by_cases e4 : badB s.span y.Span 1099511627776 = true
  ·rw [if_pos e4] at h1; cases h1
  rw [if_neg e4] at h1
  by_cases e5 : s.cond = true
  ·by_cases e6 : exprCheck y.Cond = 0
   ·exact exprCheck_small e6
   ·rw [if_pos ⟨e5, e6⟩] at h1; exact absurd h1.symm e6
  ·rw [if_neg (fun e => e5 e.1)] at h1
   by_cases e6 : y.Cond = (⟨0, [], 0, 0, 0, (⟨0, 0, ⟨#[]⟩⟩ : GValue)⟩ : GExpr)
   ·rw [e6]; simp only [GExpr.bulk, GExpr.bulks, size_empty]; omega
   ·rw [if_neg (fun e => by
     have := e.1
     rw [decide_eq_false e6] at this
     simp [e5] at this)] at h1
    cases h1
 ·rw [if_neg ha] at h1; cases h1
theorem rest_small {N : Nat} (hN : 40000000 ≤ N) {x : GPattern} (hb : x.bulk ≤ 16777216) (hz : restBad N x = 0) : x.bulk ≤ 400000 := by
 obtain ⟨hp, hd, hg⟩ := rest_good hz
 have := bulk_pre_p x fun y hy => by
  have h1 := mem_pre x y hy
  have h2 := args_pre y
  obtain ⟨_, _, _, _, h⟩ := node_shape hN (by omega) (by omega) (hg y hy)
  exact h
 omega
end Go.Ab

namespace Go.Ab
def cnt : List (Bool × Bool × GPattern) → Int → Int → Bool
 | [], _, _ => true
 | y :: l, v, s => (if y.1 = true then decide (y.2.2.Var = v) else true) && (if y.2.1 = true then decide (y.2.2.Scope = s) else true) && cnt l (if y.1 = true then v + 1 else v) (if y.2.1 = true then s + 1 else s)
noncomputable def typedOf (y : GPattern) : Bool := match idxL tab_pattern_shapes y.Op with | some s => s.typed | none => false
noncomputable def scopeOf (y : GPattern) : Bool := match idxL tab_pattern_shapes y.Op with | some s => s.scope | none => false
noncomputable def cntP (l : List GPattern) : Bool := cnt (l.map fun y => (typedOf y, scopeOf y, y)) 0 0
def NodeOk (N : Nat) (y : GPattern) : Prop := ∃ s ng, ShapeOk N y s ng
theorem good_nodes {N : Nat} (hN : 40000000 ≤ N) {x : GPattern} (hb : x.bulk ≤ 16777216) (hz : restBad N x = 0) : ∀ y ∈ x.pre, NodeOk N y := fun y hy => by
 obtain ⟨hp, hd, hg⟩ := rest_good hz
 have h1 := mem_pre x y hy
 have h2 := args_pre y
 obtain ⟨_, s, ng, h, _⟩ := node_shape hN (by omega) (by omega) (hg y hy)
 exact ⟨s, ng, h⟩
noncomputable def cstep (s7 : Bool × Int × Int) (y6 : GPattern) : Option ((Bool × Int × Int) ⊕ Unit) :=
 (idxL tab_pattern_shapes y6.Op).bind fun x11 => ((if x11.typed = true then some (Ar.an s7.1 (Ar.cmp .eql y6.Var s7.2.2), Ar.ar .add .i64 s7.2.2 1) else some (s7.1, s7.2.2)) : Option (Bool × Int)).bind fun s12 => if x11.scope = true then some (.inl (Ar.an s12.1 (Ar.cmp .eql y6.Scope s7.2.1), Ar.ar .add .i64 s7.2.1 1, s12.2)) else some (.inl (s12.1, s7.2.1, s12.2))
theorem count_run {N : Nat} : ∀ (l : List GPattern), (∀ y ∈ l, NodeOk N y) → ∀ (b : Bool) (v s : Int), 0 ≤ v → 0 ≤ s → v + l.length ≤ 1000000 → s + l.length ≤ 1000000 →
 ∃ v' s', rangeL cstep l (b, s, v) = some (.inl (b && cnt (l.map fun y => (typedOf y, scopeOf y, y)) v s, s', v'))
 | [], _, b, v, s, _, _, _, _ => ⟨v, s, by simp [rangeL, cnt]⟩
 | y :: l, h, b, v, s, hv, hs, hv2, hs2 => by
  simp only [List.length_cons] at hv2 hs2
  obtain ⟨sh, ng, ok⟩ := h y (by simp)
  have et : typedOf y = sh.typed := by unfold typedOf; rw [ok.tab]
  have es : scopeOf y = sh.scope := by unfold scopeOf; rw [ok.tab]
  have ev : Ar.ar .add .i64 v 1 = v + 1 := add_i64 (by omega) (by omega)
  have ess : Ar.ar .add .i64 s 1 = s + 1 := add_i64 (by omega) (by omega)
  have hr := fun b v' s' h1 h2 h3 h4 => count_run l (fun z hz => h z (by simp [hz])) b v' s' h1 h2 h3 h4
  simp only [List.map_cons, cnt, et, es]
  have step : ∀ b' v2 s2, cstep (b, s, v) y = some (.inl (b', s2, v2)) → rangeL cstep (y :: l) (b, s, v) = rangeL cstep l (b', s2, v2) := fun b' v2 s2 h => by simp only [rangeL, h]
  have hst : ∀ b' v2 s2, (some (.inl (b', s2, v2)) : Option ((Bool × Int × Int) ⊕ Unit)) = (((if sh.typed = true then some (Ar.an b (Ar.cmp .eql y.Var v), Ar.ar .add .i64 v 1) else some (b, v)) : Option (Bool × Int)).bind fun s12 => if sh.scope = true then some (.inl (Ar.an s12.1 (Ar.cmp .eql y.Scope s), Ar.ar .add .i64 s 1, s12.2)) else some (.inl (s12.1, s, s12.2))) → rangeL cstep (y :: l) (b, s, v) = rangeL cstep l (b', s2, v2) := fun b' v2 s2 h => step b' v2 s2 (by rw [h]; unfold cstep; rw [ok.tab]; rfl)
  cases ht : sh.typed <;> cases hc : sh.scope
  ·obtain ⟨v', s', h1⟩ := hr b v s hv hs (by omega) (by omega)
   exact ⟨v', s', by rw [hst b v s (by rw [ht, hc]; rfl)]; simpa using h1⟩
  ·obtain ⟨v', s', h1⟩ := hr (b && decide (y.Scope = s)) v (s + 1) hv (by omega) (by omega) (by omega)
   exact ⟨v', s', by rw [hst (b && decide (y.Scope = s)) v (s + 1) (by simp [ht, hc, ess, cmp_eql, an_def])]; simpa [Bool.and_assoc] using h1⟩
  ·obtain ⟨v', s', h1⟩ := hr (b && decide (y.Var = v)) (v + 1) s (by omega) hs (by omega) (by omega)
   exact ⟨v', s', by rw [hst (b && decide (y.Var = v)) (v + 1) s (by rw [ht, hc, ev, cmp_eql, an_def]; rfl)]; simpa [Bool.and_assoc] using h1⟩
  ·obtain ⟨v', s', h1⟩ := hr (b && decide (y.Var = v) && decide (y.Scope = s)) (v + 1) (s + 1) (by omega) (by omega) (by omega) (by omega)
   exact ⟨v', s', by rw [hst (b && decide (y.Var = v) && decide (y.Scope = s)) (v + 1) (s + 1) (by rw [ht, hc, ev, ess, cmp_eql, cmp_eql, an_def]; rfl)]; simpa [Bool.and_assoc] using h1⟩
theorem pcount_eq {N : Nat} (hN : 40000000 ≤ N) {x : GPattern} (hb : x.bulk ≤ 16777216) (hz : restBad N x = 0) : ∃ v s, pattern_count N x = some (v, s, cntP x.pre) := by
 obtain ⟨hp, hd, hg⟩ := rest_good hz
 obtain ⟨v, s, h⟩ := count_run (N := N) x.pre (good_nodes hN hb hz) true 0 0 (by omega) (by omega) (by omega) (by omega)
 unfold pattern_count
 rw [preorder_eq hN hb]
 simp only [Option.bind_some]
 refine ⟨v, s, bind_of h ?_⟩
 simp [cntP]
noncomputable def chkP (N : Nat) (x : GPattern) : Int := if restBad N x ≠ 0 then restBad N x else if x.pre.any (fun y => Ar.cmp .geq y.Op 8) = true then 1 else if cntP x.pre = true then 0 else 14
theorem pcheck_eq {N : Nat} (hN : 40000000 ≤ N) {x : GPattern} (hb : x.bulk ≤ 16777216) : pattern_Check N x = some (chkP N x) := by
 unfold pattern_Check chkP
 rw [whole_eq hN hb]
 simp only [Option.bind_some]
 by_cases h : restBad N x = 0
 ·rw [if_neg (show ¬ (restBad N x ≠ 0) by simpa using h), if_neg (show ¬ (restBad N x ≠ 0) by simpa using h)]
  by_cases h2 : x.pre.any (fun y => Ar.cmp .geq y.Op 8) = true
  ·rw [if_pos h2, if_pos h2, if_pos (ne_true (by omega))]
  ·rw [if_neg h2, if_neg h2, if_neg (ne_false rfl)]
   obtain ⟨v, s, hr⟩ := pcount_eq hN hb h
   rw [hr]
   simp only [Option.bind_some]
   cases cntP x.pre <;> simp [nt_def]
 ·rw [if_pos h, if_pos (ne_true h), if_pos h]
theorem proper_eq {N : Nat} (l : List GPattern) (hl : l.length < N) (hs : l.length ≤ 1000000) : ref09_proper N l = some (!(l.any fun y => Ar.cmp .geq y.Op 8)) := by
 unfold ref09_proper
 rw [loop_list l (by omega) (mk := fun (_ : Unit) i => i) (body := fun (_ : Unit) a => if Ar.cmp .geq a.Op 8 = true then some (.inr (.inr ())) else some (.inl ())) (fin := fun _ => .inl ()) (s := ()) (by omega) ?_ ?_]
 ·rw [range_test (fun y : GPattern => Ar.cmp .geq y.Op 8) (Sum.inr () : Unit ⊕ Unit) l]
  cases h : l.any fun y => Ar.cmp .geq y.Op 8 <;> simp
 ·intro s i a ha hi
  have e : Ar.ar .add .i64 (i : Int) 1 = i + 1 := add_i64 (by omega) (by omega)
  simp only [cmp_lss, len_def, hi, decide_true, if_true, idx_at, ha, Option.bind_some, e]
  cases Ar.cmp .geq a.Op 8 <;> rfl
 ·intro s; simp [cmp_lss, len_def]
theorem rcheck_eq {N : Nat} (hN : 40000000 ≤ N) {x : GPattern} (hb : x.bulk ≤ 16777216) : ref09_Check N x = some (chkP N x) := by
 unfold ref09_Check chkP
 rw [rest_eqr hN hb]
 simp only [Option.bind_some]
 by_cases h : restBad N x = 0
 ·rw [if_neg (show ¬ (restBad N x ≠ 0) by simpa using h), if_neg (ne_false h), nodes_eq hN N x (by omega) hb]
  have hpb := pre_bulk_p x
  obtain ⟨hp, hd, hg⟩ := rest_good h
  simp only [Option.bind_some]
  rw [proper_eq x.pre (by omega) (by omega)]
  simp only [Option.bind_some]
  by_cases h2 : x.pre.any (fun y => Ar.cmp .geq y.Op 8) = true
  ·rw [if_pos h2, h2, if_pos (show Ar.nt (!true) = true from rfl)]
  ·rw [if_neg h2, if_neg (by simp [nt_def, h2])]
   have hk := good_nodes hN hb h
   obtain ⟨r, k1, k2⟩ := loop_inv (S := Int × Int × Int) (R := Unit ⊕ Unit) (step := fun (s4 : Int × Int × Int) => ((if Ar.cmp .lss s4.2.2 (Ar.len x.pre) = true then (idxL x.pre s4.2.2).bind fun x6 => (ref09_variable N x6).bind fun r7 => ((if r7 = true then (idxL x.pre s4.2.2).bind fun x9 => if Ar.cmp .neq x9.Var s4.1 = true then some (.inr ()) else some (.inl (Ar.ar .add .i64 s4.1 1)) else some (.inl s4.1)) : Option (Int ⊕ Unit)).bind fun s8 => match s8 with
           | .inl y10 => (idxL x.pre s4.2.2).bind fun x11 => (ref09_Negates N x11).bind fun r12 => if r12 = true then (idxL x.pre s4.2.2).bind fun x13 => if Ar.cmp .neq x13.Scope s4.2.1 = true then some (.inr (.inr ())) else some (.inl (y10, Ar.ar .add .i64 s4.2.1 1, Ar.ar .add .i64 s4.2.2 1)) else (idxL x.pre s4.2.2).bind fun x14 => (ref09_Times N x14).bind fun r15 => if r15 = true then (idxL x.pre s4.2.2).bind fun x16 => if Ar.cmp .neq x16.Scope s4.2.1 = true then some (.inr (.inr ())) else some (.inl (y10, Ar.ar .add .i64 s4.2.1 1, Ar.ar .add .i64 s4.2.2 1)) else some (.inl (y10, s4.2.1, Ar.ar .add .i64 s4.2.2 1))
           | .inr y17 => some (.inr (.inr ()))
    else some (.inr (.inl ())))
    : Option ((Int × Int × Int) ⊕ (Unit ⊕ Unit))))
    (fun j s => s.2.2 = (j : Int) ∧ 0 ≤ s.1 ∧ s.1 ≤ j ∧ 0 ≤ s.2.1 ∧ s.2.1 ≤ j ∧ cntP x.pre = cnt ((x.pre.drop j).map fun y => (typedOf y, scopeOf y, y)) s.1 s.2.1)
    (fun r => r = if cntP x.pre = true then .inl () else .inr ()) x.pre.length 0 (0, 0, 0) N (by omega) ⟨rfl, by simp, by simp, by simp, by simp, rfl⟩
    (fun j s _ hj ⟨e, b1, b2, b3, b4, hc⟩ => by
     obtain ⟨v, sc, i⟩ := s
     simp only at e b1 b2 b3 b4 hc
     subst e
     simp only [Nat.zero_add] at hj
     have e1 : idxL x.pre (j : Int) = some x.pre[j] := by rw [idx_at, List.getElem?_eq_getElem hj]
     obtain ⟨sh, ng, ok⟩ := hk _ (List.getElem_mem hj)
     have et : typedOf x.pre[j] = sh.typed := by unfold typedOf; rw [ok.tab]
     have es : scopeOf x.pre[j] = sh.scope := by unfold scopeOf; rw [ok.tab]
     have ev : Ar.ar .add .i64 v 1 = v + 1 := add_i64 (by omega) (by omega)
     have ess : Ar.ar .add .i64 sc 1 = sc + 1 := add_i64 (by omega) (by omega)
     have ei : Ar.ar .add .i64 (j : Int) 1 = ((j + 1 : Nat) : Int) := inc_i64 (by omega)
     rw [List.drop_eq_getElem_cons hj, List.map_cons, cnt] at hc
     simp only [et, es] at hc
     have sco := ok.sco
     rw [if_pos (lt_true (by simp only [len_def]; omega))]
     simp only [e1, Option.bind_some, ok.var, ok.neg, ok.tim, ev, ess, ei]
     by_cases hv : sh.typed = true ∧ x.pre[j].Var ≠ v
     ·rw [if_pos hv.1, if_pos (ne_true hv.2)]
      refine ⟨_, rfl, ?_⟩
      rw [hc]; simp [hv.1, hv.2]
     ·have hv1 : ((if sh.typed = true then if Ar.cmp .neq x.pre[j].Var v = true then some (.inr ()) else some (.inl (v + 1)) else some (.inl v)) : Option (Int ⊕ Unit)) = some (.inl (if sh.typed = true then v + 1 else v)) := by
       by_cases ht : sh.typed = true
       ·rw [if_pos ht, if_pos ht, if_neg (ne_false (Classical.not_not.1 fun e => hv ⟨ht, e⟩))]
       ·rw [if_neg ht, if_neg ht]
      rw [hv1]
      simp only [Option.bind_some]
      have hcv : (if sh.typed = true then decide (x.pre[j].Var = v) else true) = true := by
       by_cases ht : sh.typed = true
       ·rw [if_pos ht]; exact decide_eq_true (Classical.not_not.1 fun e => hv ⟨ht, e⟩)
       ·rw [if_neg ht]
      rw [hcv, Bool.true_and] at hc
      have hvb : 0 ≤ (if sh.typed = true then v + 1 else v) ∧ (if sh.typed = true then v + 1 else v) ≤ ((j + 1 : Nat) : Int) := by split <;> omega
      generalize (if sh.typed = true then v + 1 else v) = v' at hc hvb ⊢
      by_cases hs : sh.scope = true
      ·rw [if_pos hs, if_pos hs] at hc
       by_cases hsc : x.pre[j].Scope = sc
       ·have hgo : 0 ≤ sc + 1 ∧ sc + 1 ≤ ((j + 1 : Nat) : Int) ∧ cntP x.pre = cnt ((x.pre.drop (j + 1)).map fun y => (typedOf y, scopeOf y, y)) v' (sc + 1) := by
         refine ⟨?_, ?_, ?_⟩
         ·omega
         ·omega
         ·rw [hc, decide_eq_true hsc, Bool.true_and]
        by_cases hng : ng = true
        ·rw [if_pos hng, if_neg (ne_false hsc)]; exact ⟨_, rfl, rfl, hvb.1, hvb.2, hgo⟩
        ·have hsp : sh.span = true := by rw [hs] at sco; simpa [hng] using sco.symm
         rw [if_neg hng, if_pos hsp, if_neg (ne_false hsc)]; exact ⟨_, rfl, rfl, hvb.1, hvb.2, hgo⟩
       ·have hno : cntP x.pre = false := by rw [hc, decide_eq_false hsc, Bool.false_and]
        by_cases hng : ng = true
        ·rw [if_pos hng, if_pos (ne_true hsc)]
         exact ⟨_, rfl, by rw [hno]; rfl⟩
        ·have hsp : sh.span = true := by rw [hs] at sco; simpa [hng] using sco.symm
         rw [if_neg hng, if_pos hsp, if_pos (ne_true hsc)]
         exact ⟨_, rfl, by rw [hno]; rfl⟩
      ·rw [if_neg hs, if_neg hs, Bool.true_and] at hc
       have hs0 : sh.scope = false := by simpa using hs
       rw [hs0] at sco
       have hng : ¬ ng = true := fun e => by rw [e] at sco; cases sco
       have hsp : ¬ sh.span = true := fun e => by rw [e] at sco; simp at sco
       rw [if_neg hng, if_neg hsp]
       refine ⟨_, rfl, rfl, hvb.1, hvb.2, b3, ?_, hc⟩
       show sc ≤ _; omega)
    (fun s ⟨e, _, _, _, _, hc⟩ => by
     obtain ⟨v, sc, i⟩ := s
     simp only [Nat.zero_add] at e hc
     subst e
     rw [List.drop_length] at hc
     rw [if_neg (lt_false (by simp only [len_def]; omega))]
     refine ⟨_, rfl, ?_⟩
     rw [hc]; rfl)
   refine bind_of k1 ?_
   subst k2
   cases cntP x.pre <;> rfl
 ·rw [if_pos h, if_pos (ne_true h)]
end Go.Ab

namespace Go.Ab
theorem lock {S R R' : Type} {f : S → Option (S ⊕ R)} {g : S → Option (S ⊕ R')} (I : S → Prop) (Q : R → R' → Prop) (m : S → Nat)
 (h : ∀ s, I s → (∃ s', f s = some (.inl s') ∧ g s = some (.inl s') ∧ I s' ∧ m s' < m s) ∨ (∃ r r', f s = some (.inr r) ∧ g s = some (.inr r') ∧ Q r r')) :
 ∀ (N : Nat) (s : S), I s → m s < N → ∃ r r', loopN f N s = some r ∧ loopN g N s = some r' ∧ Q r r'
 | 0, s, _, hm => by omega
 | N + 1, s, hi, hm => by
  rcases h s hi with ⟨s', h1, h2, h3, h4⟩ | ⟨r, r', h1, h2, h3⟩
  ·obtain ⟨r, r', k1, k2, k3⟩ := lock I Q m h N s' h3 (by omega)
   exact ⟨r, r', by simp only [loopN, h1, k1], by simp only [loopN, h2, k2], k3⟩
  ·exact ⟨r, r', by simp only [loopN, h1], by simp only [loopN, h2], h3⟩
theorem wths_mem {α : Type} [DecidableEq α] {x : α} : ∀ (l acc : List α), x ∈ l.foldl wth acc → x ∈ acc ∨ x ∈ l
 | [], acc, h => .inl h
 | y :: l, acc, h => by
  rcases wths_mem l (wth acc y) h with h | h
  ·rcases wth_mem.1 h with h | h
   ·exact .inl h
   ·exact .inr (by simp [h])
  ·exact .inr (by simp [h])
theorem wths_len {α : Type} [DecidableEq α] : ∀ (l acc : List α), (l.foldl wth acc).length ≤ acc.length + l.length ∧ acc.length ≤ (l.foldl wth acc).length
 | [], acc => by simp
 | y :: l, acc => by
  have h := wths_len l (wth acc y)
  have h2 : (wth acc y).length ≤ acc.length + 1 ∧ acc.length ≤ (wth acc y).length := by
   unfold wth; split <;> simp
  simp only [List.foldl_cons, List.length_cons]
  omega
theorem inner_p {N : Nat} (hN : 40000000 ≤ N) (l out : List GPattern) (hl : l.length ≤ 2048) (ho : out.length ≤ 256) (hb : ∀ q ∈ l, q.bulk ≤ 16777216) :
 loopN (fun (s7 : (List GPattern) × Int) => ((if Ar.cmp .lss s7.2 (Ar.len l) = true then (idxL l s7.2).bind fun x10 => (derivative_index N s7.1 x10).bind fun r11 => if Ar.cmp .lss r11 0 = true then (appL s7.1 ([x10])).bind fun l13 => some (.inl (l13, Ar.ar .add .i64 s7.2 1)) else some (.inl (s7.1, Ar.ar .add .i64 s7.2 1)) else some (.inr s7.1)) : Option (((List GPattern) × Int) ⊕ (List GPattern)))) N (out, 0) = some (l.foldl wth out) := by
 rw [loop_run (s0 := (out, (0 : Int))) (st := fun j => ((l.take j).foldl wth out, (j : Int))) (k := l.length) (r := l.foldl wth out) rfl (by omega) ?_ ?_]
 ·intro j hj
  have e1 : idxL l (j : Int) = some l[j] := by rw [idx_at, List.getElem?_eq_getElem hj]
  have hlen := (wths_len (l.take j) out).1
  have htl : (l.take j).length ≤ j := by simp; omega
  have htk : (l.take (j + 1)).foldl wth out = wth ((l.take j).foldl wth out) l[j] := by rw [List.take_add_one, List.getElem?_eq_getElem hj, List.foldl_append]; rfl
  rw [if_pos (lt_true (by simp only [len_def]; omega))]
  simp only [e1, Option.bind_some]
  rw [derivative_index_eq hN _ _ (by omega) (hb _ (List.getElem_mem hj))]
  simp only [Option.bind_some]
  rw [inc_i64 (by omega), htk]
  by_cases hin : l[j] ∈ (l.take j).foldl wth out
  ·rw [if_neg (lt_false (Int.not_lt.2 (idxI_nonneg.2 (ex_eq.2 hin)))), wth, if_pos hin]
  ·have h0 : idxP ((l.take j).foldl wth out) l[j] = -1 := idxI_neg fun h => hin (ex_eq.1 h)
   rw [if_pos (lt_true (by rw [h0]; omega)), appL_eq (by simp; omega), wth, if_neg hin]
   rfl
 ·rw [if_neg (lt_false (by simp only [len_def]; omega)), List.take_length]
theorem inner_r {N : Nat} (hN : 40000000 ≤ N) (l out : List GPattern) (hl : l.length ≤ 2048) (ho : out.length ≤ 256) (hb : ∀ q ∈ l, q.bulk ≤ 16777216) (hbo : ∀ q ∈ out, q.bulk ≤ 16777216) :
 loopN (fun (s7 : (List GPattern) × Int) => ((if Ar.cmp .lss s7.2 (Ar.len l) = true then (idxL l s7.2).bind fun x10 => (ref22_index N s7.1 x10).bind fun r11 => if Ar.cmp .lss r11 0 = true then (idxL l s7.2).bind fun x12 => (appL s7.1 ([x12])).bind fun l14 => some (.inl (l14, Ar.ar .add .i64 s7.2 1)) else some (.inl (s7.1, Ar.ar .add .i64 s7.2 1)) else some (.inr s7.1)) : Option (((List GPattern) × Int) ⊕ (List GPattern)))) N (out, 0) = some (l.foldl wth out) := by
 rw [loop_run (s0 := (out, (0 : Int))) (st := fun j => ((l.take j).foldl wth out, (j : Int))) (k := l.length) (r := l.foldl wth out) rfl (by omega) ?_ ?_]
 ·intro j hj
  have e1 : idxL l (j : Int) = some l[j] := by rw [idx_at, List.getElem?_eq_getElem hj]
  have hlen := (wths_len (l.take j) out).1
  have htl : (l.take j).length ≤ j := by simp; omega
  have htk : (l.take (j + 1)).foldl wth out = wth ((l.take j).foldl wth out) l[j] := by rw [List.take_add_one, List.getElem?_eq_getElem hj, List.foldl_append]; rfl
  rw [if_pos (lt_true (by simp only [len_def]; omega))]
  simp only [e1, Option.bind_some]
  rw [indexR hN _ _ (by omega) (fun q hq => by
   rcases wths_mem _ _ hq with hq | hq
   ·exact hbo q hq
   ·exact hb q (List.mem_of_mem_take hq))]
  simp only [Option.bind_some]
  rw [inc_i64 (by omega), htk]
  by_cases hin : l[j] ∈ (l.take j).foldl wth out
  ·rw [if_neg (lt_false (Int.not_lt.2 (idxI_nonneg.2 (ex_eq.2 hin)))), wth, if_pos hin]
  ·have h0 : idxP ((l.take j).foldl wth out) l[j] = -1 := idxI_neg fun h => hin (ex_eq.1 h)
   rw [if_pos (lt_true (by rw [h0]; omega)), appL_eq (by simp; omega), wth, if_neg hin]
   rfl
 ·rw [if_neg (lt_false (by simp only [len_def]; omega)), List.take_length]
def ResOk (N : Nat) (q : GPattern) : Prop := q.bulk ≤ 1100000 ∧ restBad N q = 0 ∧ U q ≤ 400000
theorem derived_res {N : Nat} (hN : 40000000 ≤ N) {x : GPattern} (hx : ResOk N x) : (derivedP N (raw x)).2.2 = 17 ∨ (derivedP N (raw x)).2.2 = 0 ∧ (derivedP N (raw x)).2.1.length ≤ 2048 ∧ ∀ q ∈ (derivedP N (raw x)).2.1, ResOk N q := by
 obtain ⟨h1, h2, h3⟩ := hx
 obtain ⟨hp, hd, hg⟩ := rest_good h2
 unfold derivedP
 by_cases hf : Fail N (raw x)
 ·rw [if_pos hf]; exact .inl rfl
 ·rw [if_neg hf]
  have hr := rests_len (raw x)
  have hl : ¬ 2048 < (dd (raw x)).length := fun h => hf (.inl h)
  refine .inr ⟨rfl, by simp only; omega, fun q hq => ?_⟩
  obtain ⟨y, hy, hnd, rfl⟩ := rests_mem hq
  have hz : restBad N y.2.p = 0 := Classical.not_not.1 fun e => hf (.inr ⟨y, hy, by simpa using hnd, e⟩)
  have hb := (raw_PK hd h1 y hy).ok.rest
  have hU := raw_U x.dep x (Nat.le_refl _) y hy hnd
  have := rest_small hN hb hz
  exact ⟨by omega, hz, by omega⟩
theorem residuals_both {N : Nat} (hN : 40000000 ≤ N) {x : GPattern} (hx : ResOk N x) (hc : chkP N x = 0) : ∃ r : List GPattern × Int, derivative_Residuals N x = some r ∧ ref22_Residuals N x = some r ∧ r.1.length ≤ 256 ∧ ∀ q ∈ r.1, q.bulk ≤ 16777216 := by
 unfold derivative_Residuals ref22_Residuals
 rw [pcheck_eq hN (by have := hx.1; omega), rcheck_eq hN (by have := hx.1; omega)]
 simp only [Option.bind_some, hc]
 rw [if_neg (ne_false rfl), if_neg (ne_false rfl)]
 obtain ⟨r, r', h1, h2, h3⟩ := lock (S := List GPattern × Int) (R := List GPattern ⊕ Int) (R' := List GPattern ⊕ Unit)
  (f := fun (s2 : (List GPattern) × Int) => ((if Ar.cmp .lss s2.2 (Ar.len s2.1) = true then (idxL s2.1 s2.2).bind fun x5 => (derivative_derived N x5).bind fun r6 => if Ar.cmp .neq r6.2.2 0 = true then some (.inr (.inr r6.2.2)) else (loopN (fun (s7 : (List GPattern) × Int) => ((if Ar.cmp .lss s7.2 (Ar.len r6.2.1) = true then (idxL r6.2.1 s7.2).bind fun x10 => (derivative_index N s7.1 x10).bind fun r11 => if Ar.cmp .lss r11 0 = true then (appL s7.1 ([x10])).bind fun l13 => some (.inl (l13, Ar.ar .add .i64 s7.2 1)) else some (.inl (s7.1, Ar.ar .add .i64 s7.2 1)) else some (.inr s7.1)) : Option (((List GPattern) × Int) ⊕ (List GPattern)))) N (s2.1, 0)).bind fun s9 => if Ar.cmp .gtr (Ar.len s9) 256 = true then some (.inr (.inr 17)) else some (.inl (s9, Ar.ar .add .i64 s2.2 1)) else some (.inr (.inl s2.1))) : Option (((List GPattern) × Int) ⊕ (((List GPattern)) ⊕ Int))))
  (g := fun (s2 : (List GPattern) × Int) => ((if Ar.cmp .lss s2.2 (Ar.len s2.1) = true then (idxL s2.1 s2.2).bind fun x5 => (ref22_Derive N x5).bind fun r6 => if Ar.cmp .neq r6.2.2 0 = true then some (.inr (.inr ())) else (loopN (fun (s7 : (List GPattern) × Int) => ((if Ar.cmp .lss s7.2 (Ar.len r6.2.1) = true then (idxL r6.2.1 s7.2).bind fun x10 => (ref22_index N s7.1 x10).bind fun r11 => if Ar.cmp .lss r11 0 = true then (idxL r6.2.1 s7.2).bind fun x12 => (appL s7.1 ([x12])).bind fun l14 => some (.inl (l14, Ar.ar .add .i64 s7.2 1)) else some (.inl (s7.1, Ar.ar .add .i64 s7.2 1)) else some (.inr s7.1)) : Option (((List GPattern) × Int) ⊕ (List GPattern)))) N (s2.1, 0)).bind fun s9 => if Ar.cmp .gtr (Ar.len s9) 256 = true then some (.inr (.inr ())) else some (.inl (s9, Ar.ar .add .i64 s2.2 1)) else some (.inr (.inl s2.1))) : Option (((List GPattern) × Int) ⊕ (((List GPattern)) ⊕ Unit))))
  (fun s => 0 ≤ s.2 ∧ s.2 ≤ s.1.length ∧ s.1.length ≤ 256 ∧ ∀ q ∈ s.1, ResOk N q)
  (fun r r' => (∃ l, r = .inl l ∧ r' = .inl l ∧ l.length ≤ 256 ∧ ∀ q ∈ l, q.bulk ≤ 16777216) ∨ (r = .inr 17 ∧ r' = .inr ()))
  (fun s => 257 - s.2.toNat)
  (fun s ⟨i0, i1, i2, i3⟩ => by
   obtain ⟨out, i⟩ := s
   simp only at i0 i1 i2 i3
   obtain ⟨j, rfl⟩ : ∃ j : Nat, i = j := ⟨i.toNat, by omega⟩
   by_cases hj : j < out.length
   ·have e1 : idxL out (j : Int) = some out[j] := by rw [idx_at, List.getElem?_eq_getElem hj]
    have hk := i3 _ (List.getElem_mem hj)
    simp only [if_pos (lt_true (show (j : Int) < Ar.len out by simp only [len_def]; omega)), e1, Option.bind_some]
    rw [derived_eq hN hk.1 hk.2.1, refDerive_eq hN hk.1 hk.2.1 hk.2.2]
    simp only [Option.bind_some]
    rcases derived_res hN hk with h17 | ⟨h0, hl, hr⟩
    ·rw [if_pos (ne_true (by rw [h17]; omega)), if_pos (ne_true (by rw [h17]; omega)), h17]
     exact .inr ⟨_, _, rfl, rfl, .inr ⟨rfl, rfl⟩⟩
    ·rw [if_neg (ne_false h0), if_neg (ne_false h0)]
     rw [inner_p hN _ out hl i2 (fun q hq => by have := (hr q hq).1; omega), inner_r hN _ out hl i2 (fun q hq => by have := (hr q hq).1; omega) (fun q hq => by have := (i3 q hq).1; omega)]
     simp only [Option.bind_some]
     by_cases hbig : 256 < ((derivedP N (raw out[j])).2.1.foldl wth out).length
     ·rw [if_pos (gt_true (by simp only [len_def]; omega)), if_pos (gt_true (by simp only [len_def]; omega))]
      exact .inr ⟨_, _, rfl, rfl, .inr ⟨rfl, rfl⟩⟩
     ·rw [if_neg (gt_false (by simp only [len_def]; omega)), if_neg (gt_false (by simp only [len_def]; omega))]
      have hlen := (wths_len (derivedP N (raw out[j])).2.1 out).2
      refine .inl ⟨_, rfl, rfl, ⟨?_, ?_, ?_, ?_⟩, ?_⟩
      ·rw [inc_i64 (by omega)]; simp only; omega
      ·rw [inc_i64 (by omega)]; simp only; omega
      ·simp only; omega
      ·intro q hq
       rcases wths_mem _ _ hq with hq | hq
       ·exact i3 q hq
       ·exact hr q hq
      ·rw [inc_i64 (by omega)]; simp only; omega
   ·simp only [if_neg (lt_false (show ¬ (j : Int) < Ar.len out by simp only [len_def]; omega))]
    exact .inr ⟨_, _, rfl, rfl, .inl ⟨out, rfl, rfl, i2, fun q hq => by have := (i3 q hq).1; omega⟩⟩)
  N ([x], 0) ⟨by simp, by simp, by simp, fun q hq => by rw [List.mem_singleton.1 hq]; exact hx⟩ (by simp; omega)
 rw [h1, h2]
 rcases h3 with ⟨l, rfl, rfl, h4, h5⟩ | ⟨rfl, rfl⟩
 ·exact ⟨(l, 0), rfl, rfl, h4, h5⟩
 ·exact ⟨([], 17), rfl, rfl, by simp, fun q hq => by simp at hq⟩
theorem residuals_fail {N : Nat} (hN : 40000000 ≤ N) {x : GPattern} (hb : x.bulk ≤ 16777216) (hc : chkP N x ≠ 0) : derivative_Residuals N x = some ([], chkP N x) ∧ ref22_Residuals N x = some ([], chkP N x) := by
 unfold derivative_Residuals ref22_Residuals
 rw [pcheck_eq hN hb, rcheck_eq hN hb]
 simp only [Option.bind_some]
 rw [if_pos (ne_true hc), if_pos (ne_true hc)]
 exact ⟨rfl, rfl⟩
theorem residuals_law {N : Nat} (hN : 40000000 ≤ N) (awake : law22_awake N = some true) {x : GPattern} (hb : x.bulk ≤ 1048576) : law22_DerivativeResiduals N x = some true := by
 unfold law22_DerivativeResiduals
 obtain ⟨b, h0⟩ := few9 hN (x := x) (by omega)
 rw [h0]
 simp only [Option.bind_some]
 cases b
 ·rw [if_pos (show Ar.nt false = true from rfl), awake]; rfl
 ·rw [if_neg (by simp [nt_def]), rest_eqr hN (by omega)]
  simp only [Option.bind_some]
  by_cases hz : restBad N x = 0
  ·rw [if_pos (eql_true hz)]
   obtain ⟨b, h1, hsm⟩ := small9 hN (x := x) (by omega)
   rw [h1]
   simp only [Option.bind_some]
   cases b
   ·rw [if_pos (show Ar.nt false = true from rfl), awake]; rfl
   ·rw [if_neg (by simp [nt_def])]
    have hU : U x ≤ 400000 := by
     have h2 := U_pow x.dep x (Nat.le_refl _)
     have h3 : 2 ^ x.pre.length ≤ 2 ^ 9 := Nat.pow_le_pow_right (by omega) (hsm rfl)
     have : (2 : Nat) ^ 9 = 512 := rfl
     omega
    have key : ∃ r : List GPattern × Int, derivative_Residuals N x = some r ∧ ref22_Residuals N x = some r ∧ r.1.length ≤ 256 ∧ ∀ q ∈ r.1, q.bulk ≤ 16777216 := by
     by_cases hc : chkP N x = 0
     ·exact residuals_both hN ⟨by omega, hz, hU⟩ hc
     ·obtain ⟨h2, h3⟩ := residuals_fail hN (x := x) (by omega) hc
      exact ⟨_, h2, h3, by simp, fun q hq => by simp at hq⟩
    obtain ⟨r, h2, h3, h4, h5⟩ := key
    rw [h2, h3]
    simp only [Option.bind_some]
    rw [sameAll_eq hN _ _ (by omega) h5]
    simp only [Option.bind_some]
    rw [if_pos (by simp [an_def, cmp_eql]), awake]; rfl
  ·rw [if_neg (by rw [eql_false hz]; simp)]
   have hc : chkP N x ≠ 0 := by unfold chkP; rw [if_pos hz]; exact hz
   obtain ⟨h2, h3⟩ := residuals_fail hN (x := x) (by omega) hc
   rw [h2, h3]
   simp only [Option.bind_some]
   rw [sameAll_eq hN [] [] (by simp) (fun e he => by simp at he)]
   simp only [Option.bind_some]
   rw [if_pos (by simp [an_def, cmp_eql]), awake]; rfl
end Go.Ab

