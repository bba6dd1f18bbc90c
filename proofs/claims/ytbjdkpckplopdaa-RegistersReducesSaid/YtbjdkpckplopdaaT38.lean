/- AbM1 GRE1 -/
import Derived.Test.YtbjdkpckplopdaaT37
import Derived.Test.YtbjdkpckplopdaaT23
import Derived.Test.YtbjdkpckplopdaaT31
import Derived.Laws.Strings
set_option linter.all false

namespace Go.Ab
theorem cmp_lss (a b : Int) : Ar.cmp .lss a b = decide (a < b) := rfl
theorem cmp_leq (a b : Int) : Ar.cmp .leq a b = decide (a ≤ b) := rfl
theorem cmp_gtr (a b : Int) : Ar.cmp .gtr a b = decide (b < a) := rfl
theorem cmp_geq (a b : Int) : Ar.cmp .geq a b = decide (b ≤ a) := rfl
theorem cmp_eql (a b : Int) : Ar.cmp .eql a b = decide (a = b) := rfl
theorem cmp_neq (a b : Int) : Ar.cmp .neq a b = !decide (a = b) := rfl
theorem nt_def (a : Bool) : Ar.nt a = !a := rfl
theorem an_def (a b : Bool) : Ar.an a b = (a && b) := rfl
theorem or_def (a b : Bool) : Ar.or a b = (a || b) := rfl
theorem len_def {α : Type} (l : List α) : Ar.len l = (l.length : Int) := rfl
theorem wrap_i64 {n : Int} (h0 : -9223372036854775808 ≤ n) (h1 : n < 9223372036854775808) : IntKind.wrap .i64 n = n := by
 have e : IntKind.wrap .i64 n = (if n % 18446744073709551616 ≥ 9223372036854775808 then n % 18446744073709551616 - 18446744073709551616 else n % 18446744073709551616) := by
  unfold IntKind.wrap
  simp [IntKind.bits, IntKind.signed]
 rw [e]
 split <;> omega
theorem add_i64 {a b : Int} (h0 : -9223372036854775808 ≤ a + b) (h1 : a + b < 9223372036854775808) : Ar.ar .add .i64 a b = a + b := wrap_i64 h0 h1
theorem loop_places {S σ R α : Type} (l : List α) (hl : l.length < 1000000000000) (step : S → Option (S ⊕ R)) (mk : σ → Int → S) (body : σ → α → Option (σ ⊕ R)) (fin : σ → R)
 (hstep : ∀ s (i : Nat) x, l[i]? = some x → step (mk s i) = (body s x).bind fun o => match o with | .inl s' => some (.inl (mk s' (i + 1))) | .inr r => some (.inr r))
 (hend : ∀ s, step (mk s l.length) = some (.inr (fin s))) :
 ∀ (k : Nat) (i : Nat) (s : σ) (N : Nat), i + k = l.length → k < N → loopN step N (mk s i) = (rangeL body (l.drop i) s).bind fun o => match o with | .inl s => some (fin s) | .inr r => some r := by
 intro k
 induction k with
 | zero =>
  intro i s N hi hN
  obtain ⟨N, rfl⟩ : ∃ M, N = M + 1 := ⟨N - 1, by omega⟩
  have e : l.drop i = [] := List.drop_eq_nil_of_le (by omega)
  have ei : ((i : Nat) : Int) = l.length := by omega
  rw [e, ei]
  simp only [loopN, hend, rangeL, Option.bind_some]
 | succ k ih =>
  intro i s N hi hN
  obtain ⟨N, rfl⟩ : ∃ M, N = M + 1 := ⟨N - 1, by omega⟩
  have hlt : i < l.length := by omega
  have hx : l[i]? = some l[i] := by simp [hlt]
  have e : l.drop i = l[i] :: l.drop (i + 1) := List.drop_eq_getElem_cons hlt
  rw [e]
  simp only [loopN, hstep s i _ hx, rangeL]
  cases hb : body s l[i] with
  | none => rfl
  | some o =>
   cases o with
   | inl s' =>
    simp only [Option.bind_some]
    have := ih (i + 1) s' N (by omega) (by omega)
    rw [show ((i : Int) + 1) = ((i + 1 : Nat) : Int) by omega]
    exact this
   | inr r => rfl
theorem idx_at {α : Type} {l : List α} {i : Nat} : idxL l (i : Int) = l[i]? := by simp [idxL]
theorem loop_list {S σ R α : Type} (l : List α) (hl : l.length < 1000000000000) {step : S → Option (S ⊕ R)} (mk : σ → Int → S) (body : σ → α → Option (σ ⊕ R)) (fin : σ → R) (s : σ) {N : Nat} (hN : l.length < N)
 (hstep : ∀ s (i : Nat) x, l[i]? = some x → (i : Int) < l.length → step (mk s i) = (body s x).bind fun o => match o with | .inl s' => some (.inl (mk s' (i + 1))) | .inr r => some (.inr r))
 (hend : ∀ s, step (mk s l.length) = some (.inr (fin s))) : loopN step N (mk s 0) = (rangeL body l s).bind fun o => match o with | .inl s => some (fin s) | .inr r => some r := by
 have := loop_places l hl step mk body fin (fun s i x h => hstep s i x h (by
  rcases Nat.lt_or_ge i l.length with h' | h'
  ·omega
  ·rw [List.getElem?_eq_none h'] at h; cases h)) hend l.length 0 s N (by omega) hN
 simpa using this
end Go.Ab

namespace Go.Ab
mutual
def GExpr.bulk : GExpr → Nat
 | ⟨_, args, _, _, _, v⟩ => GExpr.bulks args + v.Text.size + 9
def GExpr.bulks : List GExpr → Nat
 | [] => 1
 | a :: r => GExpr.bulk a + GExpr.bulks r
end
mutual
def GExpr.pre : GExpr → List GExpr
 | ⟨op, args, var, field, kind, val⟩ => ⟨op, args, var, field, kind, val⟩ :: GExpr.pres args
def GExpr.pres : List GExpr → List GExpr
 | [] => []
 | a :: r => GExpr.pre a ++ GExpr.pres r
end
mutual
def GExpr.dep : GExpr → Nat
 | ⟨_, args, _, _, _, _⟩ => GExpr.deps args + 1
def GExpr.deps : List GExpr → Nat
 | [] => 0
 | a :: r => max (GExpr.dep a) (GExpr.deps r)
end
mutual
theorem pre_bulk_e : ∀ x : GExpr, x.pre.length ≤ x.bulk
 | ⟨op, args, var, field, kind, val⟩ => by
  have := pres_bulk_e args
  simp only [GExpr.pre, GExpr.bulk, List.length_cons]; omega
theorem pres_bulk_e : ∀ l : List GExpr, (GExpr.pres l).length ≤ GExpr.bulks l
 | [] => by simp [GExpr.pres]
 | a :: l => by
  have h1 := pre_bulk_e a
  have h2 := pres_bulk_e l
  simp only [GExpr.pres, GExpr.bulks, List.length_append]; omega
end
mutual
theorem dep_bulk_e : ∀ x : GExpr, x.dep ≤ x.bulk
 | ⟨op, args, var, field, kind, val⟩ => by
  have := deps_bulk_e args
  simp only [GExpr.dep, GExpr.bulk]; omega
theorem deps_bulk_e : ∀ l : List GExpr, GExpr.deps l ≤ GExpr.bulks l
 | [] => by simp [GExpr.deps]
 | a :: l => by
  have h1 := dep_bulk_e a
  have h2 := deps_bulk_e l
  simp only [GExpr.deps, GExpr.bulks]; omega
end
section
variable {α : Type}
end
theorem toList_inj {a b : ByteArray} : a.toList = b.toList ↔ a = b := by
 rw [ByteArray.toList_eq, ByteArray.toList_eq]
 constructor
 ·intro h
  obtain ⟨⟨a⟩⟩ := a
  obtain ⟨⟨b⟩⟩ := b
  simp at h
  subst h; rfl
 ·intro h; rw [h]
theorem scmp_eql (a b : ByteArray) : Ar.scmp .eql a b = decide (a = b) := by
 show (a.toList == b.toList) = _
 by_cases h : a = b
 ·subst h; simp
 ·have : a.toList ≠ b.toList := fun e => h (toList_inj.1 e)
  simp [h, this]
end Go.Ab

