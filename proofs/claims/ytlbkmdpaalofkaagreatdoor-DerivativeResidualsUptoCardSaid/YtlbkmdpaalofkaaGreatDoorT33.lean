/- GZM4 GZM5 GZM6 GZM7 GZN1 -/
import Derived.Test.YtlbkmdpaalofkaaGreatDoorT32
import Derived.Laws.Strings
set_option linter.all false

namespace Go.Ab
theorem toList_inj {a b : ByteArray} : a.toList = b.toList ↔ a = b := by
 rw [ByteArray.toList_eq, ByteArray.toList_eq]
 constructor
 ·intro h
  obtain ⟨⟨a⟩⟩ := a
  obtain ⟨⟨b⟩⟩ := b
  simp at h
  subst h; rfl
 ·intro h; rw [h]
theorem scmp_neq (a b : ByteArray) : Ar.scmp .neq a b = !decide (a = b) := by
 show (!(a.toList == b.toList)) = _
 by_cases h : a = b
 ·subst h; simp
 ·have : a.toList ≠ b.toList := fun e => h (toList_inj.1 e)
  simp [h, this]
theorem scmp_eql (a b : ByteArray) : Ar.scmp .eql a b = decide (a = b) := by
 show (a.toList == b.toList) = _
 by_cases h : a = b
 ·subst h; simp
 ·have : a.toList ≠ b.toList := fun e => h (toList_inj.1 e)
  simp [h, this]
theorem arity8 (N : Nat) (op : Int) : expr_arity N op = some (if op < 0 ∨ 12 < op then (0, false) else if op < 5 then (0, true) else if op = 12 then (1, true) else (2, true)) := by
 unfold expr_arity
 simp only [cmp_lss, cmp_gtr, cmp_eql, or_def, Bool.or_eq_true, decide_eq_true_eq]
 split
 ·rfl
 ·split
  ·rfl
  ·split <;> rfl
theorem arity8r (N : Nat) (op : Int) : ref08_arity N op = some (if op < 0 ∨ 12 < op then -1 else if op < 5 then 0 else if op = 12 then 1 else 2) := by
 have h : op < 0 ∨ op = 0 ∨ op = 1 ∨ op = 2 ∨ op = 3 ∨ op = 4 ∨ op = 5 ∨ op = 6 ∨ op = 7 ∨ op = 8 ∨ op = 9 ∨ op = 10 ∨ op = 11 ∨ op = 12 ∨ 12 < op := by omega
 unfold ref08_arity
 simp only [cmp_eql]
 rcases h with h | h | h | h | h | h | h | h | h | h | h | h | h | h | h
 all_goals first
  | (subst h; rfl)
  | (have h0 : op ≠ 0 := by omega
     have h1 : op ≠ 1 := by omega
     have h2 : op ≠ 2 := by omega
     have h3 : op ≠ 3 := by omega
     have h4 : op ≠ 4 := by omega
     have h5 : op ≠ 5 := by omega
     have h6 : op ≠ 6 := by omega
     have h7 : op ≠ 7 := by omega
     have h8 : op ≠ 8 := by omega
     have h9 : op ≠ 9 := by omega
     have ha : op ≠ 10 := by omega
     have hb : op ≠ 11 := by omega
     have hc : op ≠ 12 := by omega
     simp [h0, h1, h2, h3, h4, h5, h6, h7, h8, h9, ha, hb, hc, h])
theorem uses8 (N : Nat) (op : Int) : expr_uses N op = some (decide (op = 1 ∨ op = 2 ∨ op = 3 ∨ op = 4), decide (op = 1 ∨ op = 4)) := by
 unfold expr_uses
 simp only [cmp_eql, decide_eq_true_eq]
 by_cases h1 : op = 1
 ·simp [h1]
 ·by_cases h4 : op = 4
  ·simp [h4]
  ·by_cases h2 : op = 2
   ·simp [h2]
   ·by_cases h3 : op = 3 <;> simp [h1, h2, h3, h4]
theorem uses8r (N : Nat) (op : Int) : ref08_uses N op = some (decide (op = 1 ∨ op = 2 ∨ op = 3 ∨ op = 4), decide (op = 1 ∨ op = 4)) := by
 unfold ref08_uses
 simp only [cmp_eql, or_def]
 by_cases h1 : op = 1
 ·simp [h1]
 ·by_cases h4 : op = 4
  ·simp [h4]
  ·by_cases h2 : op = 2
   ·simp [h2]
   ·by_cases h3 : op = 3 <;> simp [h1, h2, h3, h4]
def valBad (v : GValue) : Int :=
 if v.Kind = 0 ∨ v.Kind = 1 then
  if v.Text ≠ ⟨#[]⟩ then 3
  else if v.Kind = 0 ∧ (v.Num < -1099511627776 ∨ 1099511627776 < v.Num) ∨ v.Kind = 1 ∧ v.Num ≠ 0 ∧ v.Num ≠ 1 then 2 else 0
 else if v.Kind = 2 then (if v.Num ≠ 0 then 3 else if 64 < (v.Text.size : Int) then 13 else 0) else 1
theorem value_eq (N : Nat) (v : GValue) : value_Check N v = some (valBad v) := by
 obtain ⟨k, n, t⟩ := v
 unfold value_Check value_size valBad
 simp only [cmp_eql, cmp_neq, cmp_lss, cmp_gtr, an_def, or_def, scmp_neq, slen_def]
 by_cases h0 : k = 0
 ·subst h0
  by_cases ht : t = ⟨#[]⟩
  ·subst ht
   by_cases h1 : n < -1099511627776 ∨ 1099511627776 < n
   ·simp [h1]
   ·simp [h1]; decide
  ·simp [ht]
 ·by_cases h1 : k = 1
  ·subst h1
   by_cases ht : t = ⟨#[]⟩
   ·subst ht
    by_cases h2 : n = 0
    ·simp [h2]; decide
    ·by_cases h3 : n = 1
     ·simp [h3]; decide
     ·simp [h2, h3]
   ·simp [ht]
  ·by_cases h2 : k = 2
   ·subst h2
    by_cases hn : n = 0
    ·simp [hn]; split <;> rfl
    ·simp [hn]
   ·simp [h0, h1, h2]
theorem value_eqr (N : Nat) (v : GValue) : ref01_Check N v = some (valBad v) := by
 obtain ⟨k, n, t⟩ := v
 unfold ref01_Check valBad
 simp only [cmp_eql, cmp_neq, cmp_lss, cmp_gtr, an_def, or_def, scmp_neq, slen_def]
 by_cases h0 : k = 0
 ·subst h0
  by_cases ht : t = ⟨#[]⟩
  ·subst ht
   by_cases h1 : n < -1099511627776 ∨ 1099511627776 < n
   ·simp [h1]
   ·simp [h1]
  ·simp [ht]
 ·by_cases h1 : k = 1
  ·subst h1
   by_cases ht : t = ⟨#[]⟩
   ·subst ht
    by_cases h2 : n = 0
    ·simp [h2]
    ·by_cases h3 : n = 1
     ·simp [h3]
     ·have : n < 0 ∨ 1 < n := by omega
      simp [h2, h3, this]
   ·simp [ht]
  ·by_cases h2 : k = 2
   ·subst h2
    by_cases hn : n = 0
    ·simp [hn]; split <;> rfl
    ·simp [hn]
   ·have : k < 0 ∨ 2 < k := by omega
    simp [h0, h1, h2, this]
theorem suits_eq (N : Nat) (k : Int) (v : GValue) : expr_suits N k v = some (decide (v.Kind = 0 ∨ k = 4 ∨ k = 5)) := by
 unfold expr_suits
 simp only [cmp_eql, or_def]
 by_cases h1 : v.Kind = 0 <;> by_cases h2 : k = 4 <;> by_cases h3 : k = 5 <;> simp [h1, h2, h3]
theorem suits_eqr (N : Nat) (k : Int) (v : GValue) (h : k ≠ 0) : ref07_Suits N k v = some (decide (v.Kind = 0 ∨ k = 4 ∨ k = 5)) := by
 unfold ref07_Suits
 simp only [cmp_eql, or_def]
 by_cases h1 : v.Kind = 0 <;> by_cases h2 : k = 4 <;> by_cases h3 : k = 5 <;> simp [h, h1, h2, h3]
def usesV (op : Int) : Bool := decide (op = 1 ∨ op = 2 ∨ op = 3 ∨ op = 4)
def usesF (op : Int) : Bool := decide (op = 1 ∨ op = 4)
noncomputable def outB (x : GExpr) : Bool := Ar.or (Ar.an (usesV x.Op) (Ar.or (Ar.cmp .lss x.Var 0) (Ar.cmp .geq x.Var 16))) (Ar.an (usesF x.Op) (Ar.or (Ar.cmp .lss x.Field 0) (Ar.cmp .geq x.Field 8)))
noncomputable def kindB (x : GExpr) : Bool := Ar.an (Ar.cmp .eql x.Op 4) (Ar.or (Ar.cmp .lss x.Kind 1) (Ar.cmp .gtr x.Kind 5))
noncomputable def zeroV (v : GValue) : Bool := Ar.an (Ar.cmp .eql v.Kind 0) (Ar.an (Ar.cmp .eql v.Num 0) (Ar.an (Ar.scmp .eql v.Text (⟨#[]⟩)) true))
noncomputable def suitB (x : GExpr) : Bool := Ar.or (Ar.nt (decide (x.Value.Kind = 0 ∨ x.Kind = 4 ∨ x.Kind = 5))) (Ar.an (Ar.cmp .eql x.Kind 1) (Ar.nt (zeroV x.Value)))
noncomputable def junkB (x : GExpr) : Bool := Ar.or (Ar.or (Ar.or (Ar.an (Ar.nt (usesV x.Op)) (Ar.cmp .neq x.Var 0)) (Ar.an (Ar.nt (usesF x.Op)) (Ar.cmp .neq x.Field 0))) (Ar.an (Ar.nt (Ar.cmp .eql x.Op 4)) (Ar.cmp .neq x.Kind 0))) (Ar.an (Ar.nt (Ar.or (Ar.cmp .eql x.Op 4) (Ar.cmp .eql x.Op 0))) (Ar.nt (zeroV x.Value)))
noncomputable def exprBad (x : GExpr) : Int :=
 if x.Op < 0 ∨ 12 < x.Op then 1
 else if (x.Args.length : Int) ≠ (if x.Op < 5 then 0 else if x.Op = 12 then 1 else 2) then 15
 else if outB x = true then 2
 else if kindB x = true then 1
 else if (x.Op = 4 ∨ x.Op = 0) ∧ valBad x.Value ≠ 0 then valBad x.Value
 else if x.Op = 4 ∧ suitB x = true then 9
 else if junkB x = true then 3 else 0
theorem node_eq8r (N : Nat) (x : GExpr) : ref08_node N x = some (exprBad x) := by
 unfold ref08_node exprBad
 rw [arity8r, uses8r]
 simp only [Option.bind_some]
 by_cases h0 : x.Op < 0 ∨ 12 < x.Op
 ·rw [if_pos h0, if_pos h0]; rfl
 rw [if_neg h0, if_neg h0]
 have ha : ¬ (Ar.cmp .lss (if x.Op < 5 then 0 else if x.Op = 12 then 1 else 2) 0 = true) := by
  rw [cmp_lss]; simp only [decide_eq_true_eq]; split
  ·omega
  ·split <;> omega
 rw [if_neg ha]
 by_cases h1 : (x.Args.length : Int) ≠ (if x.Op < 5 then 0 else if x.Op = 12 then 1 else 2)
 ·rw [if_pos h1, if_pos (by simp [cmp_neq, len_def, h1])]
 rw [if_neg h1, if_neg (by simp only [cmp_neq, len_def]; simpa using h1)]
 change (if outB x = true then some 2 else _) = _
 by_cases h2 : outB x = true
 ·rw [if_pos h2, if_pos h2]
 rw [if_neg h2, if_neg h2]
 change (if kindB x = true then some 1 else _) = _
 by_cases h3 : kindB x = true
 ·rw [if_pos h3, if_pos h3]
 rw [if_neg h3, if_neg h3]
 rw [value_eqr]
 have e4 : (Ar.or (Ar.cmp .eql x.Op 4) (Ar.cmp .eql x.Op 0) = true) ↔ (x.Op = 4 ∨ x.Op = 0) := by simp [cmp_eql, or_def]
 have e6 : (Ar.cmp .eql x.Op 4 = true) ↔ x.Op = 4 := by simp [cmp_eql]
 by_cases h4 : x.Op = 4 ∨ x.Op = 0
 ·rw [if_pos (e4.2 h4)]
  simp only [Option.bind_some]
  by_cases h5 : valBad x.Value = 0
  ·have n5 : ¬ (Ar.cmp .neq (valBad x.Value) 0 = true) := by simp [cmp_neq, h5]
   have n5' : ¬ ((x.Op = 4 ∨ x.Op = 0) ∧ valBad x.Value ≠ 0) := fun h => h.2 h5
   rw [if_neg n5, if_neg n5']
   simp only [Option.bind_some]
   by_cases h6 : x.Op = 4
   ·rw [if_pos (e6.2 h6)]
    have hk : x.Kind ≠ 0 := by
     intro e
     apply h3
     simp [kindB, an_def, or_def, cmp_eql, cmp_lss, h6, e]
    rw [suits_eqr N _ _ hk]
    simp only [Option.bind_some]
    change (if suitB x = true then some 9 else if junkB x = true then some 3 else some 0) = _
    by_cases h7 : suitB x = true
    ·rw [if_pos h7, if_pos (show x.Op = 4 ∧ suitB x = true from ⟨h6, h7⟩)]
    ·rw [if_neg h7, if_neg (show ¬ (x.Op = 4 ∧ suitB x = true) from fun h => h7 h.2)]
     by_cases h8 : junkB x = true
     ·rw [if_pos h8, if_pos h8]
     ·rw [if_neg h8, if_neg h8]
   ·rw [if_neg (show ¬ (Ar.cmp .eql x.Op 4 = true) from fun h => h6 (e6.1 h)), if_neg (show ¬ (x.Op = 4 ∧ suitB x = true) from fun h => h6 h.1)]
    change (if junkB x = true then some 3 else some 0) = _
    by_cases h8 : junkB x = true
    ·rw [if_pos h8, if_pos h8]
    ·rw [if_neg h8, if_neg h8]
  ·have n5 : Ar.cmp .neq (valBad x.Value) 0 = true := by simp [cmp_neq, h5]
   rw [if_pos n5, if_pos (show (x.Op = 4 ∨ x.Op = 0) ∧ valBad x.Value ≠ 0 from ⟨h4, h5⟩)]
   rfl
 ·rw [if_neg (show ¬ (Ar.or (Ar.cmp .eql x.Op 4) (Ar.cmp .eql x.Op 0) = true) from fun h => h4 (e4.1 h)), if_neg (show ¬ ((x.Op = 4 ∨ x.Op = 0) ∧ valBad x.Value ≠ 0) from fun h => h4 h.1)]
  simp only [Option.bind_some]
  have h6 : ¬ x.Op = 4 := fun e => h4 (.inl e)
  rw [if_neg (show ¬ (Ar.cmp .eql x.Op 4 = true) from fun h => h6 (e6.1 h)), if_neg (show ¬ (x.Op = 4 ∧ suitB x = true) from fun h => h6 h.1)]
  change (if junkB x = true then some 3 else some 0) = _
  by_cases h8 : junkB x = true
  ·rw [if_pos h8, if_pos h8]
  ·rw [if_neg h8, if_neg h8]
theorem node_eq8 (N : Nat) (x : GExpr) : expr_node N x = some (exprBad x) := by
 unfold expr_node exprBad
 rw [arity8, uses8]
 simp only [Option.bind_some]
 by_cases h0 : x.Op < 0 ∨ 12 < x.Op
 ·rw [if_pos h0, if_pos h0]; rfl
 rw [if_neg h0, if_neg h0]
 have ha : (if x.Op < 5 then ((0 : Int), true) else if x.Op = 12 then (1, true) else (2, true)) = ((if x.Op < 5 then 0 else if x.Op = 12 then 1 else 2), true) := by
  split
  ·rfl
  ·split <;> rfl
 rw [ha]
 rw [if_neg (by simp [nt_def])]
 by_cases h1 : (x.Args.length : Int) ≠ (if x.Op < 5 then 0 else if x.Op = 12 then 1 else 2)
 ·rw [if_pos h1, if_pos (by simp [cmp_neq, len_def, h1])]
 rw [if_neg h1, if_neg (by simp only [cmp_neq, len_def]; simpa using h1)]
 change (if outB x = true then some 2 else _) = _
 by_cases h2 : outB x = true
 ·rw [if_pos h2, if_pos h2]
 rw [if_neg h2, if_neg h2]
 change (if kindB x = true then some 1 else _) = _
 by_cases h3 : kindB x = true
 ·rw [if_pos h3, if_pos h3]
 rw [if_neg h3, if_neg h3]
 unfold expr_constants
 rw [value_eq]
 have e4 : (Ar.or (Ar.cmp .eql x.Op 4) (Ar.cmp .eql x.Op 0) = true) ↔ (x.Op = 4 ∨ x.Op = 0) := by simp [cmp_eql, or_def]
 have e6 : (Ar.cmp .eql x.Op 4 = true) ↔ x.Op = 4 := by simp [cmp_eql]
 by_cases h4 : x.Op = 4 ∨ x.Op = 0
 ·rw [if_pos (e4.2 h4)]
  simp only [Option.bind_some]
  by_cases h5 : valBad x.Value = 0
  ·have n5 : ¬ (Ar.cmp .neq (valBad x.Value) 0 = true) := by simp [cmp_neq, h5]
   have n5' : ¬ ((x.Op = 4 ∨ x.Op = 0) ∧ valBad x.Value ≠ 0) := fun h => h.2 h5
   rw [if_neg n5, if_neg n5']
   by_cases h6 : x.Op = 4
   ·rw [if_pos (e6.2 h6), suits_eq]
    simp only [Option.bind_some]
    change (((if suitB x = true then some 9 else some 0) : Option Int).bind _ ).bind _ = _
    by_cases h7 : suitB x = true
    ·rw [if_pos h7, if_pos (show x.Op = 4 ∧ suitB x = true from ⟨h6, h7⟩)]; rfl
    ·rw [if_neg h7, if_neg (show ¬ (x.Op = 4 ∧ suitB x = true) from fun h => h7 h.2)]
     change (if junkB x = true then some 3 else some 0) = _
     by_cases h8 : junkB x = true
     ·rw [if_pos h8, if_pos h8]
     ·rw [if_neg h8, if_neg h8]
   ·rw [if_neg (show ¬ (Ar.cmp .eql x.Op 4 = true) from fun h => h6 (e6.1 h)), if_neg (show ¬ (x.Op = 4 ∧ suitB x = true) from fun h => h6 h.1)]
    change (if junkB x = true then some 3 else some 0) = _
    by_cases h8 : junkB x = true
    ·rw [if_pos h8, if_pos h8]
    ·rw [if_neg h8, if_neg h8]
  ·have n5 : Ar.cmp .neq (valBad x.Value) 0 = true := by simp [cmp_neq, h5]
   rw [if_pos n5, if_pos (show (x.Op = 4 ∨ x.Op = 0) ∧ valBad x.Value ≠ 0 from ⟨h4, h5⟩)]
   simp only [Option.bind_some]
   rw [if_pos n5]
   rfl
 ·rw [if_neg (show ¬ (Ar.or (Ar.cmp .eql x.Op 4) (Ar.cmp .eql x.Op 0) = true) from fun h => h4 (e4.1 h)), if_neg (show ¬ ((x.Op = 4 ∨ x.Op = 0) ∧ valBad x.Value ≠ 0) from fun h => h4 h.1)]
  have h6 : ¬ x.Op = 4 := fun e => h4 (.inl e)
  rw [if_neg (show ¬ (x.Op = 4 ∧ suitB x = true) from fun h => h6 h.1)]
  change (if junkB x = true then some 3 else some 0) = _
  by_cases h8 : junkB x = true
  ·rw [if_pos h8, if_pos h8]
  ·rw [if_neg h8, if_neg h8]
end Go.Ab

namespace Go.Ab
theorem gt_true {a b : Int} (h : b < a) : Ar.cmp .gtr a b = true := by rw [cmp_gtr]; exact decide_eq_true h
theorem gt_false {a b : Int} (h : ¬ b < a) : ¬ (Ar.cmp .gtr a b = true) := by rw [cmp_gtr]; simpa using h
theorem ne_true {a b : Int} (h : a ≠ b) : Ar.cmp .neq a b = true := by rw [cmp_neq]; simpa using h
theorem ne_false {a b : Int} (h : a = b) : ¬ (Ar.cmp .neq a b = true) := by rw [cmp_neq]; simpa using h
noncomputable def exprCheck (x : GExpr) : Int := if 64 < x.pre.length then 5 else if 12 < x.dep then 12 else bad1 exprBad x.pre
theorem check_eq8 {N : Nat} (hN : 40000000 ≤ N) {x : GExpr} (hb : x.bulk ≤ 16777216) : expr_Check N x = some (exprCheck x) := by
 unfold expr_Check exprCheck
 rw [size_eq_e hN N x (by omega) hb]
 simp only [Option.bind_some]
 by_cases h1 : 64 < x.pre.length
 ·rw [if_pos h1, if_pos (gt_true (by omega))]
 ·rw [if_neg h1, if_neg (gt_false (by omega))]
  by_cases h2 : 12 < x.dep
  ·rw [if_pos h2, if_pos (gt_true (by omega))]
  ·rw [if_neg h2, if_neg (gt_false (by omega)), visit_eq hN N x (by omega) hb fun y _ => node_eq8 N y]
   rfl
theorem check_eq8r {N : Nat} (hN : 40000000 ≤ N) {x : GExpr} (hb : x.bulk ≤ 16777216) : ref08_Check N x = some (exprCheck x) := by
 unfold ref08_Check exprCheck
 obtain ⟨r, h0, c1, c2, c3⟩ := count_eq hN 64 N x (by omega) hb
 rw [h0]
 simp only [Option.bind_some]
 by_cases h1 : 64 < x.pre.length
 ·rw [if_pos h1, if_pos (gt_true (by omega))]
 ·rw [if_neg h1, if_neg (gt_false (by omega)), depth_eq_e hN N x (by omega) hb]
  simp only [Option.bind_some]
  by_cases h2 : 12 < x.dep
  ·rw [if_pos h2, if_pos (gt_true (by omega))]
  ·rw [if_neg h2, if_neg (gt_false (by omega)), nodes8_eq hN (fun y => node_eq8r N y) N x (by omega) hb]
   rfl
noncomputable def headB (a b : GExpr) : Bool := Ar.or (Ar.or (Ar.or (Ar.or (Ar.or (Ar.cmp .neq a.Op b.Op) (Ar.cmp .neq a.Var b.Var)) (Ar.cmp .neq a.Field b.Field)) (Ar.cmp .neq a.Kind b.Kind)) (Ar.nt (Ar.an (Ar.cmp .eql a.Value.Kind b.Value.Kind) (Ar.an (Ar.cmp .eql a.Value.Num b.Value.Num) (Ar.an (Ar.scmp .eql a.Value.Text b.Value.Text) true))))) (Ar.cmp .neq (Ar.len a.Args) (Ar.len b.Args))
theorem same_same (N : Nat) : ∀ (n : Nat) (a b : GExpr), expr_Same N n a b = ref08_Same N n a b
 | 0, _, _ => rfl
 | n + 1, a, b => by
  unfold expr_Same ref08_Same
  simp only [same_same N n]
theorem same_zero {N : Nat} (hN : 40000000 ≤ N) (x : GExpr) : ∃ b, ref08_Same N N x (⟨0, [], 0, 0, 0, (⟨0, 0, ⟨#[]⟩⟩ : GValue)⟩ : GExpr) = some b := by
 obtain ⟨M, rfl⟩ : ∃ M, N = M + 1 := ⟨N - 1, by omega⟩
 rw [ref08_Same]
 generalize hz : (⟨0, [], 0, 0, 0, (⟨0, 0, ⟨#[]⟩⟩ : GValue)⟩ : GExpr) = z
 change ∃ b, (if headB x z = true then some false else _) = some b
 by_cases h : headB x z = true
 ·rw [if_pos h]; exact ⟨_, rfl⟩
 ·rw [if_neg h]
  have hlen : x.Args.length = 0 := by
   subst hz
   simp only [headB, or_def, cmp_neq, len_def, List.length_nil] at h
   simp at h
   simpa using h.2
  have : x.Args = [] := List.length_eq_zero_iff.1 hlen
  refine ⟨true, ?_⟩
  rw [show M + 1 = (M + 1 - 1) + 1 by omega]
  simp only [loopN, this, cmp_lss, len_def]
  rfl
end Go.Ab

namespace Go.Ab
def badB (u : Bool) (n m : Int) : Bool := u && (decide (n < 0) || decide (m < n))
def unusedB (u : Bool) (n : Int) : Bool := u || decide (n = 0)
theorem within_eq (N : Nat) (u : Bool) (n m : Int) : pattern_within N u n m = some (!badB u n m) := by
 unfold pattern_within
 simp only [or_def, an_def, nt_def, cmp_geq, cmp_leq, badB]
 cases u
 ·rfl
 ·by_cases h1 : n < 0 <;> by_cases h2 : m < n <;> simp [h1, h2] <;> omega
theorem unused_eq (N : Nat) (u : Bool) (n : Int) : pattern_unused N u n = some (unusedB u n) := rfl
theorem bad_eq (N : Nat) (u : Bool) (n m : Int) : ref09_bad N u n m = some (badB u n m) := rfl
noncomputable def patBad (s : Gpattern_shape) (x : GPattern) (sz : Bool) : Int :=
 if badB s.typed x.Typ 15 = true then 2
 else if badB s.typed x.Var 15 = true then 2
 else if badB s.scope x.Scope 63 = true then 2
 else if badB s.span x.Span 1099511627776 = true then 2
 else if s.cond = true ∧ exprCheck x.Cond ≠ 0 then exprCheck x.Cond
 else if (s.cond || sz) = true ∧ unusedB s.typed x.Typ = true ∧ unusedB s.typed x.Var = true ∧ unusedB s.scope x.Scope = true ∧ unusedB s.span x.Span = true then 0 else 3
structure ShapeOk (N : Nat) (x : GPattern) (s : Gpattern_shape) (ng : Bool) : Prop where
 tab : idxL tab_pattern_shapes x.Op = some s
 var : ref09_variable N x = some s.typed
 neg : ref09_Negates N x = some ng
 tim : ref09_Times N x = some s.span
 con : ref09_condition N x = some s.cond
 sco : s.scope = (ng || s.span)
 ari : ref09_arity N x = some (decide (s.least ≤ x.Args.length ∧ (x.Args.length : Int) ≤ s.most))
theorem dec_eq (n k : Int) : decide (n = k) = (decide (k ≤ n) && decide (n ≤ k)) := by
 rw [← Bool.decide_and]
 exact decide_eq_decide.2 ⟨fun h => by omega, fun h => by omega⟩
theorem shape_ok (N : Nat) (x : GPattern) (h0 : 0 ≤ x.Op) (h1 : x.Op ≤ 10) (hl : x.Args.length ≤ 64) : ∃ s ng, ShapeOk N x s ng := by
 obtain ⟨op, args, typ, var, scope, span, c⟩ := x
 simp only at h0 h1 hl
 have h : op = 0 ∨ op = 1 ∨ op = 2 ∨ op = 3 ∨ op = 4 ∨ op = 5 ∨ op = 6 ∨ op = 7 ∨ op = 8 ∨ op = 9 ∨ op = 10 := by omega
 rcases h with h | h | h | h | h | h | h | h | h | h | h
 all_goals
  subst h
  refine ⟨_, _, rfl, rfl, rfl, rfl, rfl, rfl, ?_⟩
  unfold ref09_arity
  simp only [cmp_eql, cmp_geq, len_def]
  simp
  try first | omega | exact dec_eq _ _
theorem op_ok {x : GPattern} (h0 : 0 ≤ x.Op) (h1 : x.Op ≤ 10) : ¬ (Ar.or (Ar.cmp .lss x.Op 0) (Ar.cmp .geq x.Op 11) = true) := by
 simp only [or_def, cmp_lss, cmp_geq, Bool.or_eq_true, decide_eq_true_eq]; omega
theorem op_okr {x : GPattern} (h0 : 0 ≤ x.Op) (h1 : x.Op ≤ 10) : ¬ (Ar.or (Ar.cmp .lss x.Op 0) (Ar.cmp .gtr x.Op 10) = true) := by
 simp only [or_def, cmp_lss, cmp_gtr, Bool.or_eq_true, decide_eq_true_eq]; omega
theorem op_no {x : GPattern} (h : ¬ (0 ≤ x.Op ∧ x.Op ≤ 10)) : Ar.or (Ar.cmp .lss x.Op 0) (Ar.cmp .geq x.Op 11) = true ∧ Ar.or (Ar.cmp .lss x.Op 0) (Ar.cmp .gtr x.Op 10) = true := by
 simp only [or_def, cmp_lss, cmp_geq, cmp_gtr, Bool.or_eq_true, decide_eq_true_eq]; omega
theorem check_pat {N : Nat} (hN : 40000000 ≤ N) {x : GPattern} (hb : x.Cond.bulk ≤ 16777216) (h0 : 0 ≤ x.Op) (h1 : x.Op ≤ 10) {s : Gpattern_shape} {ng : Bool} (hs : ShapeOk N x s ng) {sz : Bool}
 (hz : ref08_Same N N x.Cond (⟨0, [], 0, 0, 0, (⟨0, 0, ⟨#[]⟩⟩ : GValue)⟩ : GExpr) = some sz) :
 pattern_check N x = some (if s.least ≤ x.Args.length ∧ (x.Args.length : Int) ≤ s.most then patBad s x sz else 15) := by
 unfold pattern_check
 rw [if_neg (op_ok h0 h1), hs.tab]
 simp only [Option.bind_some]
 by_cases ha : s.least ≤ x.Args.length ∧ (x.Args.length : Int) ≤ s.most
 ·rw [if_pos ha, if_neg (by simp only [or_def, cmp_lss, cmp_gtr, len_def, Bool.or_eq_true, decide_eq_true_eq]; omega)]
  rw [within_eq, within_eq, within_eq, within_eq, check_eq8 hN hb, same_same, hz]
  simp only [unused_eq, Option.bind_some]
  unfold patBad
  generalize badB s.typed x.Typ 15 = b1
  generalize badB s.typed x.Var 15 = b2
  generalize badB s.scope x.Scope 63 = b3
  generalize badB s.span x.Span 1099511627776 = b4
  generalize unusedB s.typed x.Typ = c1
  generalize unusedB s.typed x.Var = c2
  generalize unusedB s.scope x.Scope = c3
  generalize unusedB s.span x.Span = c4
  generalize exprCheck x.Cond = ec
  cases b1 with
  | true => rfl
  | false =>
   cases b2 with
   | true => rfl
   | false =>
    cases b3 with
    | true => rfl
    | false =>
     cases b4 with
     | true => rfl
     | false =>
      cases s.cond with
      | false =>
       cases sz with
       | false => rfl
       | true =>
        cases c1 with
        | false => rfl
        | true =>
         cases c2 with
         | false => rfl
         | true =>
          cases c3 with
          | false => rfl
          | true =>
           cases c4 <;> rfl
      | true =>
       by_cases he : ec = 0
       ·subst he
        cases c1 with
        | false => cases sz <;> rfl
        | true =>
         cases c2 with
         | false => cases sz <;> rfl
         | true =>
          cases c3 with
          | false => cases sz <;> rfl
          | true =>
           cases c4 <;> cases sz <;> rfl
       ·simp [nt_def, ne_true he, he]
 ·rw [if_neg ha, if_pos (by simp only [or_def, cmp_lss, cmp_gtr, len_def, Bool.or_eq_true, decide_eq_true_eq]; omega)]
theorem junk1_eq (u : Bool) (n : Int) : Ar.an (Ar.nt u) (Ar.cmp .neq n 0) = !unusedB u n := by
 simp only [an_def, nt_def, cmp_neq, unusedB, Bool.not_or]
theorem junk_eq (u w : Bool) (t v sc : Int) : Ar.or (Ar.an (Ar.nt u) (Ar.or (Ar.cmp .neq t 0) (Ar.cmp .neq v 0))) (Ar.an (Ar.nt w) (Ar.cmp .neq sc 0)) = ((!unusedB u t || !unusedB u v) || !unusedB w sc) := by
 rw [junk1_eq]
 simp only [or_def, an_def, nt_def, cmp_neq, unusedB]
 cases u <;> simp
theorem check_patr {N : Nat} (hN : 40000000 ≤ N) {x : GPattern} (hb : x.Cond.bulk ≤ 16777216) (h0 : 0 ≤ x.Op) (h1 : x.Op ≤ 10) {s : Gpattern_shape} {ng : Bool} (hs : ShapeOk N x s ng) {sz : Bool}
 (hz : ref08_Same N N x.Cond (⟨0, [], 0, 0, 0, (⟨0, 0, ⟨#[]⟩⟩ : GValue)⟩ : GExpr) = some sz) :
 ref09_node N x = some (if s.least ≤ x.Args.length ∧ (x.Args.length : Int) ≤ s.most then patBad s x sz else 15) := by
 unfold ref09_node
 rw [if_neg (op_okr h0 h1), hs.ari, hs.var, hs.neg, hs.tim, hs.con, check_eq8r hN hb, hz]
 simp only [Option.bind_some]
 by_cases ha : s.least ≤ x.Args.length ∧ (x.Args.length : Int) ≤ s.most
 ·rw [if_pos ha, if_neg (by simp [nt_def, ha])]
  have sco := hs.sco
  simp only [bad_eq, Option.bind_some]
  cases ng
  ·rw [if_neg (by simp)]
   simp only [Bool.false_or] at sco
   rw [junk_eq, junk1_eq]
   unfold patBad
   rw [sco]
   generalize badB s.typed x.Typ 15 = b1
   generalize badB s.typed x.Var 15 = b2
   generalize badB s.span x.Scope 63 = b3
   generalize badB s.span x.Span 1099511627776 = b4
   generalize unusedB s.typed x.Typ = c1
   generalize unusedB s.typed x.Var = c2
   generalize unusedB s.span x.Scope = c3
   generalize unusedB s.span x.Span = c4
   generalize exprCheck x.Cond = ec
   cases b1 with
   | true => rfl
   | false =>
    cases b2 with
    | true => rfl
    | false =>
     cases b3 with
     | true => rfl
     | false =>
      cases b4 with
      | true => rfl
      | false =>
       cases s.cond with
       | false => cases sz <;> cases c1 <;> cases c2 <;> cases c3 <;> cases c4 <;> rfl
       | true =>
        by_cases he : ec = 0
        ·subst he; cases sz <;> cases c1 <;> cases c2 <;> cases c3 <;> cases c4 <;> rfl
        ·simp [ne_true he, he]
  ·rw [if_pos rfl]
   simp only [Bool.true_or] at sco
   rw [junk_eq, junk1_eq]
   unfold patBad
   rw [sco]
   generalize badB s.typed x.Typ 15 = b1
   generalize badB s.typed x.Var 15 = b2
   generalize badB true x.Scope 63 = b3
   generalize badB s.span x.Span 1099511627776 = b4
   generalize unusedB s.typed x.Typ = c1
   generalize unusedB s.typed x.Var = c2
   generalize unusedB true x.Scope = c3
   generalize unusedB s.span x.Span = c4
   generalize exprCheck x.Cond = ec
   cases b1 with
   | true => rfl
   | false =>
    cases b2 with
    | true => rfl
    | false =>
     cases b3 with
     | true => rfl
     | false =>
      cases b4 with
      | true => rfl
      | false =>
       cases s.cond with
       | false => cases sz <;> cases c1 <;> cases c2 <;> cases c3 <;> cases c4 <;> rfl
       | true =>
        by_cases he : ec = 0
        ·subst he; cases sz <;> cases c1 <;> cases c2 <;> cases c3 <;> cases c4 <;> rfl
        ·simp [ne_true he, he]
 ·rw [if_neg ha, if_pos (by simp only [nt_def, decide_eq_false ha]; rfl)]
end Go.Ab

namespace Go.Ab
mutual
theorem mem_pre : ∀ (x y : GPattern), y ∈ x.pre → y.bulk ≤ x.bulk ∧ y.pre.length ≤ x.pre.length
 | ⟨op, args, typ, var, scope, span, c⟩, y, h => by
  rw [GPattern.pre] at h
  rcases List.mem_cons.1 h with rfl | h
  ·exact ⟨Nat.le_refl _, Nat.le_refl _⟩
  ·have := mem_pres args y h
   simp only [GPattern.bulk, GPattern.pre, List.length_cons]
   omega
theorem mem_pres : ∀ (l : List GPattern) (y : GPattern), y ∈ GPattern.pres l → y.bulk ≤ GPattern.bulks l ∧ y.pre.length ≤ (GPattern.pres l).length
 | [], y, h => by simp [GPattern.pres] at h
 | a :: l, y, h => by
  rw [GPattern.pres] at h
  rcases List.mem_append.1 h with h | h
  ·have := mem_pre a y h
   simp only [GPattern.bulks, GPattern.pres, List.length_append]; omega
  ·have := mem_pres l y h
   simp only [GPattern.bulks, GPattern.pres, List.length_append]; omega
end
theorem args_pres : ∀ l : List GPattern, l.length ≤ (GPattern.pres l).length
 | [] => Nat.le_refl _
 | a :: l => by
  have := args_pres l
  simp only [GPattern.pres, GPattern.pre_eq a, List.length_append, List.length_cons]; omega
theorem args_pre (x : GPattern) : x.Args.length < x.pre.length := by
 rw [GPattern.pre_eq]; have := args_pres x.Args; simp only [List.length_cons]; omega
noncomputable def nodeBad (N : Nat) (y : GPattern) : Int := (ref09_node N y).getD 0
theorem node_both {N : Nat} (hN : 40000000 ≤ N) {y : GPattern} (hb : y.bulk ≤ 16777216) (hl : y.Args.length ≤ 64) : pattern_check N y = some (nodeBad N y) ∧ ref09_node N y = some (nodeBad N y) := by
 have hc : y.Cond.bulk ≤ 16777216 := by have := GPattern.bulk_eq y; omega
 have key : ∃ r, pattern_check N y = some r ∧ ref09_node N y = some r := by
  by_cases h : 0 ≤ y.Op ∧ y.Op ≤ 10
  ·obtain ⟨s, ng, hs⟩ := shape_ok N y h.1 h.2 hl
   obtain ⟨sz, hz⟩ := same_zero hN y.Cond
   exact ⟨_, check_pat hN hc h.1 h.2 hs hz, check_patr hN hc h.1 h.2 hs hz⟩
  ·obtain ⟨h1, h2⟩ := op_no h
   exact ⟨1, by unfold pattern_check; rw [if_pos h1], by unfold ref09_node; rw [if_pos h2]⟩
 obtain ⟨r, h1, h2⟩ := key
 have e : nodeBad N y = r := by unfold nodeBad; rw [h2]; rfl
 rw [e]; exact ⟨h1, h2⟩
noncomputable def restBad (N : Nat) (x : GPattern) : Int := if 64 < x.pre.length then 5 else if 12 < x.dep then 12 else bad1 (nodeBad N) x.pre
theorem preorder_eq {N : Nat} (hN : 40000000 ≤ N) {x : GPattern} (hb : x.bulk ≤ 16777216) : pattern_preorder N x = some x.pre := by
 unfold pattern_preorder pattern_preorder_1
 rw [walk_eq hN N x (by omega) hb]
 simp [thenE]
theorem rest_eq {N : Nat} (hN : 40000000 ≤ N) {x : GPattern} (hb : x.bulk ≤ 16777216) : pattern_CheckRest N x = some (restBad N x) := by
 unfold pattern_CheckRest restBad
 rw [size_eq hN N x (by omega) hb]
 simp only [Option.bind_some]
 by_cases h1 : 64 < x.pre.length
 ·rw [if_pos h1, if_pos (gt_true (by omega))]
 ·rw [if_neg h1, if_neg (gt_false (by omega))]
  by_cases h2 : 12 < x.dep
  ·rw [if_pos h2, if_pos (gt_true (by omega))]
  ·rw [if_neg h2, if_neg (gt_false (by omega)), preorder_eq hN hb]
   simp only [Option.bind_some]
   rw [range_bad (f := nodeBad N) fun y hy => (node_both hN (by have := mem_pre x y hy; omega) (by have := mem_pre x y hy; have := args_pre y; omega)).1]
   by_cases h3 : bad1 (nodeBad N) x.pre = 0
   ·rw [if_pos h3]; simp [h3]
   ·rw [if_neg h3]; rfl
theorem rest_eqr {N : Nat} (hN : 40000000 ≤ N) {x : GPattern} (hb : x.bulk ≤ 16777216) : ref09_CheckRest N x = some (restBad N x) := by
 unfold ref09_CheckRest restBad
 obtain ⟨r, h0, c1, c2, c3⟩ := total_eq hN 64 N x (by omega) hb
 rw [h0]
 simp only [Option.bind_some]
 by_cases h1 : 64 < x.pre.length
 ·rw [if_pos h1, if_pos (gt_true (by omega))]
 ·rw [if_neg h1, if_neg (gt_false (by omega)), depth_eq hN N x (by omega) hb]
  simp only [Option.bind_some]
  by_cases h2 : 12 < x.dep
  ·rw [if_pos h2, if_pos (gt_true (by omega))]
  ·rw [if_neg h2, if_neg (gt_false (by omega)), nodes_eq hN N x (by omega) hb]
   simp only [Option.bind_some]
   rw [loop_list x.pre (by omega) (mk := fun (_ : Unit) i => i) (body := stepBad (ref09_node N)) (fin := fun _ => .inl ()) (s := ()) (by omega) ?_ ?_]
   ·rw [range_stepBad (f := nodeBad N) fun y hy => (node_both hN (by have := mem_pre x y hy; omega) (by have := mem_pre x y hy; have := args_pre y; omega)).2]
    by_cases h3 : bad1 (nodeBad N) x.pre = 0
    ·simp [h3]
    ·simp [h3]
   ·intro s i a ha hi
    have e : Ar.ar .add .i64 (i : Int) 1 = i + 1 := add_i64 (by omega) (by omega)
    simp only [cmp_lss, len_def, hi, decide_true, if_true, idx_at, ha, Option.bind_some, e, stepBad, cmp_neq]
    cases ref09_node N a with
    | none => rfl
    | some r => by_cases h : r = 0 <;> simp [h]
   ·intro s; simp [cmp_lss, len_def]
end Go.Ab

namespace Go.Ab
def Good (N : Nat) (x : GPattern) : Prop := ∀ y ∈ x.pre, nodeBad N y = 0
theorem sub_pres_p {a y : GPattern} (hy : y ∈ a.pre) : ∀ l : List GPattern, a ∈ l → y ∈ GPattern.pres l
 | [], h => by simp at h
 | b :: l, h => by
  rcases List.mem_cons.1 h with rfl | h
  ·simp [GPattern.pres, hy]
  ·simp [GPattern.pres, sub_pres_p hy l h]
theorem Good.arg {N : Nat} {x a : GPattern} (h : Good N x) (ha : a ∈ x.Args) : Good N a := fun y hy => h y (by
 rw [GPattern.pre_eq]; exact List.mem_cons_of_mem _ (sub_pres_p hy _ ha))
theorem pre_arg {x a : GPattern} (ha : a ∈ x.Args) : a.pre.length < x.pre.length := by
 have := (mem_pres x.Args a (sub_pres_p (by rw [GPattern.pre_eq]; simp) _ ha)).2
 rw [GPattern.pre_eq x]; simp only [List.length_cons]; omega
theorem arg0 {N : Nat} (hN : 40000000 ≤ N) {y : GPattern} (hb : y.bulk ≤ 16777216) (hl : y.Args.length ≤ 64) (h : nodeBad N y = 0) (ho : y.Op = 1 ∨ y.Op = 7 ∨ y.Op = 8 ∨ y.Op = 9 ∨ y.Op = 10) : ∃ a r, y.Args = a :: r := by
 have hc : y.Cond.bulk ≤ 16777216 := by have := GPattern.bulk_eq y; omega
 obtain ⟨s, ng, hs⟩ := shape_ok N y (by omega) (by omega) hl
 obtain ⟨sz, hz⟩ := same_zero hN y.Cond
 have h1 := check_patr hN hc (by omega) (by omega) hs hz
 rw [(node_both hN hb hl).2, h] at h1
 have h2 : s.least ≤ y.Args.length := by
  have h1 := Option.some.inj h1
  by_cases hc : s.least ≤ y.Args.length ∧ (y.Args.length : Int) ≤ s.most
  ·exact hc.1
  ·rw [if_neg hc] at h1; cases h1
 have h3 : 1 ≤ s.least := by
  have ht := hs.tab
  rcases ho with h | h | h | h | h <;> rw [h] at ht <;> cases ht <;> decide
 match he : y.Args, h2 with
 | [], h2 => simp at h2; omega
 | a :: r, _ => exact ⟨a, r, rfl⟩
theorem eql_true {a b : Int} (h : a = b) : Ar.cmp .eql a b = true := by rw [cmp_eql]; exact decide_eq_true h
theorem eql_false {a b : Int} (h : ¬ a = b) : Ar.cmp .eql a b = false := by rw [cmp_eql]; exact decide_eq_false h
theorem few8 {N : Nat} (hN : 40000000 ≤ N) {x : GExpr} (hb : x.bulk ≤ 16777216) : ∃ b, ref08_Few N x = some b := by
 unfold ref08_Few
 obtain ⟨r, h0, _⟩ := count_eq hN 200 N x (by omega) hb
 rw [h0]
 simp only [Option.bind_some]
 split
 ·rw [depth_eq_e hN N x (by omega) hb]; exact ⟨_, rfl⟩
 ·exact ⟨_, rfl⟩
theorem range_some_mem {α : Type} {F : α → Option Bool} : ∀ (l : List α), (∀ a ∈ l, ∃ b, F a = some b) → ∃ o, rangeL (fun (_ : Unit) a => (F a).bind fun r => if Ar.nt r = true then some (Sum.inr (Sum.inr (α := Unit) ())) else some (.inl ())) l () = some o
 | [], _ => ⟨_, rfl⟩
 | a :: l, h => by
  obtain ⟨b, hb⟩ := h a (by simp)
  unfold rangeL
  rw [hb]
  cases b with
  | false => exact ⟨_, rfl⟩
  | true => exact range_some_mem l fun a ha => h a (by simp [ha])
theorem few9 {N : Nat} (hN : 40000000 ≤ N) {x : GPattern} (hb : x.bulk ≤ 16777216) : ∃ b, ref09_Few N x = some b := by
 unfold ref09_Few
 obtain ⟨r, h0, _⟩ := total_eq hN 150 N x (by omega) hb
 rw [h0]
 simp only [Option.bind_some]
 split
 ·exact ⟨_, rfl⟩
 ·rw [depth_eq hN N x (by omega) hb]
  simp only [Option.bind_some]
  split
  ·exact ⟨_, rfl⟩
  ·rw [nodes_eq hN N x (by omega) hb]
   simp only [Option.bind_some]
   have hp := pre_bulk_p x
   rw [loop_list x.pre (by omega) (mk := fun (_ : Unit) i => i) (body := fun (_ : Unit) a => (ref08_Few N a.Cond).bind fun r => if Ar.nt r = true then some (.inr (.inr ())) else some (.inl ())) (fin := fun _ => .inl ()) (s := ()) (by omega) ?_ ?_]
   ·obtain ⟨o, ho⟩ := range_some_mem (F := fun (a : GPattern) => ref08_Few N a.Cond) x.pre fun a ha => few8 hN (by have := (mem_pre x a ha).1; have := GPattern.bulk_eq a; omega)
    rw [ho]
    cases o with
    | inl _ => exact ⟨_, rfl⟩
    | inr o => cases o <;> exact ⟨_, rfl⟩
   ·intro s i a ha hi
    have e : Ar.ar .add .i64 (i : Int) 1 = i + 1 := add_i64 (by omega) (by omega)
    simp only [cmp_lss, len_def, hi, decide_true, if_true, idx_at, ha, Option.bind_some, e]
    cases ref08_Few N a.Cond with
    | none => rfl
    | some r => cases r <;> rfl
   ·intro s; simp [cmp_lss, len_def]
end Go.Ab

