/- GNE3 GNE4 GNR1 -/
import Derived.Test.YtfeppncgdbbbeaaGreatDoorT39
set_option linter.all false

namespace Go.Ab
theorem foldl_wth_len {α : Type} [DecidableEq α] : ∀ (l m : List α), (l.foldl wth m).length ≤ m.length + l.length
 | [], m => by simp
 | x :: l, m => by
  have := foldl_wth_len l (wth m x)
  have h : (wth m x).length ≤ m.length + 1 := by unfold wth; split <;> simp
  simp only [List.foldl_cons, List.length_cons]; omega
theorem dd_len_le {α : Type} [DecidableEq α] (l : List α) : (dd l).length ≤ l.length := by have := foldl_wth_len l []; simpa [dd] using this
theorem raw_PK {x : GPattern} (hd : x.dep ≤ 12) (hb : x.bulk ≤ 1100000) : ∀ z ∈ raw x, PK z := fun z hz => by
 have h1 := raw_ok x.dep x (Nat.le_refl _) z hz
 have h2 := raw_sz x.dep x (Nat.le_refl _) z hz
 have h3 : x.dep * (x.bulk + 30) ≤ 12 * (1100000 + 30) := Nat.mul_le_mul (by omega) (by omega)
 exact ⟨h1.mono (by omega) (by omega), h2.mono (by omega)⟩
end Go.Ab

namespace Go.Ab
theorem lt_true {a b : Int} (h : a < b) : Ar.cmp .lss a b = true := by rw [cmp_lss]; exact decide_eq_true h
theorem lt_false {a b : Int} (h : ¬ a < b) : ¬ (Ar.cmp .lss a b = true) := by rw [cmp_lss]; simpa using h
theorem derived_small {N : Nat} {x : GPattern} (hd : x.dep ≤ 12) (hb : x.bulk ≤ 1100000) (hU : U x ≤ 400000) : (derivedP N (raw x)).1.length ≤ 1000000 ∧ (∀ e ∈ (derivedP N (raw x)).1, Esz e 1000 ∧ e.Cond.bulk ≤ 16777216 ∧ ∀ c ∈ e.Checks, c.bulk ≤ 16777216) ∧ (derivedP N (raw x)).2.1.length ≤ 1000000 ∧ ∀ p ∈ (derivedP N (raw x)).2.1, p.bulk ≤ 16777216 := by
 have hPK := raw_PK hd hb
 have h1 := dd_len_le (raw x)
 have h2 := raw_len x.dep x (Nat.le_refl _)
 have h3 := rests_len (raw x)
 unfold derivedP
 split
 ·exact ⟨by simp, fun e he => by simp at he, by simp, fun e he => by simp at he⟩
 refine ⟨by simp only [List.length_map]; omega, fun e he => ?_, by simp only; omega, fun p hp => ?_⟩
 ·obtain ⟨y, hy, rfl⟩ := List.mem_map.1 he
  have hk := hPK y (dd_mem.1 hy)
  exact ⟨hk.sz, hk.ok.cond, hk.ok.checks⟩
 obtain ⟨y, hy, _, rfl⟩ := rests_mem hp
 exact (hPK y hy).ok.rest
end Go.Ab

namespace Go.Ab
mutual
theorem bulk_pre_e : ∀ x : GExpr, (∀ y ∈ x.pre, y.Value.Text.size ≤ 64) → x.bulk ≤ 74 * x.pre.length
 | ⟨op, args, var, field, kind, v⟩, h => by
  have h1 := bulks_pre_e args fun y hy => h y (by rw [GExpr.pre]; exact List.mem_cons_of_mem _ hy)
  have h2 : v.Text.size ≤ 64 := h ⟨op, args, var, field, kind, v⟩ (by rw [GExpr.pre]; exact List.mem_cons_self ..)
  simp only [GExpr.bulk, GExpr.pre, List.length_cons]
  omega
theorem bulks_pre_e : ∀ l : List GExpr, (∀ y ∈ GExpr.pres l, y.Value.Text.size ≤ 64) → GExpr.bulks l ≤ 1 + 74 * (GExpr.pres l).length
 | [], _ => by simp [GExpr.bulks]
 | a :: l, h => by
  have h1 := bulk_pre_e a fun y hy => h y (by rw [GExpr.pres]; exact List.mem_append_left _ hy)
  have h2 := bulks_pre_e l fun y hy => h y (by rw [GExpr.pres]; exact List.mem_append_right _ hy)
  simp only [GExpr.bulks, GExpr.pres, List.length_append]
  omega
end
mutual
theorem bulk_pre_p : ∀ x : GPattern, (∀ y ∈ x.pre, y.Cond.bulk ≤ 4736) → x.bulk ≤ 4743 * x.pre.length
 | ⟨op, args, typ, var, scope, span, c⟩, h => by
  have h1 := bulks_pre_p args fun y hy => h y (by rw [GPattern.pre]; exact List.mem_cons_of_mem _ hy)
  have h2 : c.bulk ≤ 4736 := h ⟨op, args, typ, var, scope, span, c⟩ (by rw [GPattern.pre]; exact List.mem_cons_self ..)
  simp only [GPattern.bulk, GPattern.pre, List.length_cons]
  omega
theorem bulks_pre_p : ∀ l : List GPattern, (∀ y ∈ GPattern.pres l, y.Cond.bulk ≤ 4736) → GPattern.bulks l ≤ 1 + 4743 * (GPattern.pres l).length
 | [], _ => by simp [GPattern.bulks]
 | a :: l, h => by
  have h1 := bulk_pre_p a fun y hy => h y (by rw [GPattern.pres]; exact List.mem_append_left _ hy)
  have h2 := bulks_pre_p l fun y hy => h y (by rw [GPattern.pres]; exact List.mem_append_right _ hy)
  simp only [GPattern.bulks, GPattern.pres, List.length_append]
  omega
end
theorem size_empty : (⟨#[]⟩ : ByteArray).size = 0 := rfl
theorem zeroV_text {v : GValue} (h : zeroV v = true) : v.Text.size ≤ 64 := by
 simp only [zeroV, an_def, cmp_eql, scmp_eql, Bool.and_eq_true, decide_eq_true_eq] at h
 rw [h.2.2.1, size_empty]; omega
theorem valBad_text {v : GValue} (h : valBad v = 0) : v.Text.size ≤ 64 := by
 unfold valBad at h
 by_cases h1 : v.Kind = 0 ∨ v.Kind = 1
 ·rw [if_pos h1] at h
  by_cases h2 : v.Text ≠ ⟨#[]⟩
  ·rw [if_pos h2] at h; cases h
  have : v.Text = ⟨#[]⟩ := Classical.not_not.1 h2
  rw [this, size_empty]; omega
 rw [if_neg h1] at h
 by_cases h2 : v.Kind = 2
 ·rw [if_pos h2] at h
  by_cases h3 : v.Num ≠ 0
  ·rw [if_pos h3] at h; cases h
  rw [if_neg h3] at h
  by_cases h4 : 64 < (v.Text.size : Int)
  ·rw [if_pos h4] at h; cases h
  omega
 rw [if_neg h2] at h; cases h
theorem exprBad_text {x : GExpr} (h : exprBad x = 0) : x.Value.Text.size ≤ 64 := by
 unfold exprBad at h
 by_cases h0 : x.Op < 0 ∨ 12 < x.Op
 ·rw [if_pos h0] at h; cases h
 rw [if_neg h0] at h
 by_cases h1 : (x.Args.length : Int) ≠ (if x.Op < 5 then 0 else if x.Op = 12 then 1 else 2)
 ·rw [if_pos h1] at h; cases h
 rw [if_neg h1] at h
 by_cases h2 : outB x = true
 ·rw [if_pos h2] at h; cases h
 rw [if_neg h2] at h
 by_cases h3 : kindB x = true
 ·rw [if_pos h3] at h; cases h
 rw [if_neg h3] at h
 by_cases h4 : x.Op = 4 ∨ x.Op = 0
 ·by_cases h5 : valBad x.Value = 0
  ·exact valBad_text h5
  rw [if_pos ⟨h4, h5⟩] at h; exact absurd h h5
 rw [if_neg (fun e => h4 e.1), if_neg (fun e => h4 (.inl e.1))] at h
 by_cases h6 : junkB x = true
 ·rw [if_pos h6] at h; cases h
 have h7 : zeroV x.Value = true := by
  have n4 : ¬ x.Op = 4 := fun e => h4 (.inl e)
  have n0 : ¬ x.Op = 0 := fun e => h4 (.inr e)
  cases hz : zeroV x.Value with
  | true => rfl
  | false =>
   refine absurd ?_ h6
   simp [junkB, or_def, an_def, nt_def, cmp_eql, n4, n0, hz]
 exact zeroV_text h7
theorem exprCheck_small {c : GExpr} (h : exprCheck c = 0) : c.bulk ≤ 4736 := by
 have hp : ¬ 64 < c.pre.length := fun e => by rw [exprCheck, if_pos e] at h; cases h
 have hd : ¬ 12 < c.dep := fun e => by rw [exprCheck, if_neg hp, if_pos e] at h; cases h
 rw [exprCheck, if_neg hp, if_neg hd] at h
 have := bulk_pre_e c fun y hy => exprBad_text (bad1_zero.1 h y hy)
 omega
theorem node_shape {N : Nat} (hN : 40000000 ≤ N) {y : GPattern} (hb : y.bulk ≤ 16777216) (hl : y.Args.length ≤ 64) (h : nodeBad N y = 0) : (0 ≤ y.Op ∧ y.Op ≤ 10) ∧ ∃ s ng, ShapeOk N y s ng ∧ y.Cond.bulk ≤ 4736 := by
 have hc : y.Cond.bulk ≤ 16777216 := by have := GPattern.bulk_eq y; omega
 have hop : 0 ≤ y.Op ∧ y.Op ≤ 10 := by
  by_cases ho : 0 ≤ y.Op ∧ y.Op ≤ 10
  ·exact ho
  have h1 := (node_both hN hb hl).1
  unfold pattern_check at h1
  rw [if_pos (op_no ho).1, h] at h1
  cases h1
 obtain ⟨s, ng, hs⟩ := shape_ok N y hop.1 hop.2 hl
 have hz := same8 hN N y.Cond (⟨0, [], 0, 0, 0, (⟨0, 0, ⟨#[]⟩⟩ : GValue)⟩ : GExpr) (by omega) hc
 have h1 := check_patr hN hc hop.1 hop.2 hs hz
 rw [(node_both hN hb hl).2, h] at h1
 have h1 := Option.some.inj h1
 refine ⟨hop, s, ng, hs, ?_⟩
 by_cases ha : s.least ≤ y.Args.length ∧ (y.Args.length : Int) ≤ s.most
 ·rw [if_pos ha] at h1
  unfold patBad at h1
  by_cases e1 : badB s.typed y.Typ 15 = true
  ·rw [if_pos e1] at h1; cases h1
  rw [if_neg e1] at h1
  by_cases e2 : badB s.typed y.Var 15 = true
  ·rw [if_pos e2] at h1; cases h1
  rw [if_neg e2] at h1
  by_cases e3 : badB s.scope y.Scope 63 = true
  ·rw [if_pos e3] at h1; cases h1
  rw [if_neg e3] at h1
  by_cases e4 : badB s.span y.Span 1099511627776 = true
  ·rw [if_pos e4] at h1; cases h1
  rw [if_neg e4] at h1
  by_cases e5 : s.cond = true
  ·by_cases e6 : exprCheck y.Cond = 0
   ·exact exprCheck_small e6
   rw [if_pos ⟨e5, e6⟩] at h1; exact absurd h1.symm e6
  rw [if_neg (fun e => e5 e.1)] at h1
  by_cases e6 : y.Cond = (⟨0, [], 0, 0, 0, (⟨0, 0, ⟨#[]⟩⟩ : GValue)⟩ : GExpr)
  ·rw [e6]; simp only [GExpr.bulk, GExpr.bulks, size_empty]; omega
  rw [if_neg (fun e => by
   have := e.1
   rw [decide_eq_false e6] at this
   simp [e5] at this)] at h1
  cases h1
 rw [if_neg ha] at h1; cases h1
theorem rest_small {N : Nat} (hN : 40000000 ≤ N) {x : GPattern} (hb : x.bulk ≤ 16777216) (hz : restBad N x = 0) : x.bulk ≤ 400000 := by
 obtain ⟨hp, hd, hg⟩ := rest_good hz
 have := bulk_pre_p x fun y hy => by
  have h1 := mem_pre x y hy
  have h2 := args_pre y
  obtain ⟨_, _, _, _, h⟩ := node_shape hN (by omega) (by omega) (hg y hy)
  exact h
 omega
end Go.Ab

