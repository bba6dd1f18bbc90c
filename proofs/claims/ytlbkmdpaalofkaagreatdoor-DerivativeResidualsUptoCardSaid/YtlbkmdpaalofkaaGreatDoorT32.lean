/- AbM1 GZM1 GZM2 GZM3 -/
import Derived.Test.YtlbkmdpaalofkaaGreatDoorT31
import Derived.Test.YtlbkmdpaalofkaaGreatDoorT19
import Derived.Test.YtlbkmdpaalofkaaGreatDoorT24
set_option linter.all false

namespace Go.Ab
theorem cmp_lss (a b : Int) : Ar.cmp .lss a b = decide (a < b) := rfl
theorem cmp_leq (a b : Int) : Ar.cmp .leq a b = decide (a ≤ b) := rfl
theorem cmp_gtr (a b : Int) : Ar.cmp .gtr a b = decide (b < a) := rfl
theorem cmp_geq (a b : Int) : Ar.cmp .geq a b = decide (b ≤ a) := rfl
theorem cmp_eql (a b : Int) : Ar.cmp .eql a b = decide (a = b) := rfl
theorem cmp_neq (a b : Int) : Ar.cmp .neq a b = !decide (a = b) := rfl
theorem nt_def (a : Bool) : Ar.nt a = !a := rfl
theorem an_def (a b : Bool) : Ar.an a b = (a && b) := rfl
theorem or_def (a b : Bool) : Ar.or a b = (a || b) := rfl
theorem len_def {α : Type} (l : List α) : Ar.len l = (l.length : Int) := rfl
theorem mx_def (a b : Int) : Ar.mx a b = if a < b then b else a := rfl
theorem slen_def (s : ByteArray) : Ar.slen s = (s.size : Int) := rfl
theorem wrap_i64 {n : Int} (h0 : -9223372036854775808 ≤ n) (h1 : n < 9223372036854775808) : IntKind.wrap .i64 n = n := by
 have e : IntKind.wrap .i64 n = (if n % 18446744073709551616 ≥ 9223372036854775808 then n % 18446744073709551616 - 18446744073709551616 else n % 18446744073709551616) := by
  unfold IntKind.wrap
  simp [IntKind.bits, IntKind.signed]
 rw [e]
 split <;> omega
theorem add_i64 {a b : Int} (h0 : -9223372036854775808 ≤ a + b) (h1 : a + b < 9223372036854775808) : Ar.ar .add .i64 a b = a + b := wrap_i64 h0 h1
theorem loop_places {S σ R α : Type} (l : List α) (hl : l.length < 1000000000000) (step : S → Option (S ⊕ R)) (mk : σ → Int → S) (body : σ → α → Option (σ ⊕ R)) (fin : σ → R)
 (hstep : ∀ s (i : Nat) x, l[i]? = some x → step (mk s i) = (body s x).bind fun o => match o with | .inl s' => some (.inl (mk s' (i + 1))) | .inr r => some (.inr r))
 (hend : ∀ s, step (mk s l.length) = some (.inr (fin s))) :
 ∀ (k : Nat) (i : Nat) (s : σ) (N : Nat), i + k = l.length → k < N → loopN step N (mk s i) = (rangeL body (l.drop i) s).bind fun o => match o with | .inl s => some (fin s) | .inr r => some r := by
 intro k
 induction k with
 | zero =>
  intro i s N hi hN
  obtain ⟨N, rfl⟩ : ∃ M, N = M + 1 := ⟨N - 1, by omega⟩
  have e : l.drop i = [] := List.drop_eq_nil_of_le (by omega)
  have ei : ((i : Nat) : Int) = l.length := by omega
  rw [e, ei]
  simp only [loopN, hend, rangeL, Option.bind_some]
 | succ k ih =>
  intro i s N hi hN
  obtain ⟨N, rfl⟩ : ∃ M, N = M + 1 := ⟨N - 1, by omega⟩
  have hlt : i < l.length := by omega
  have hx : l[i]? = some l[i] := by simp [hlt]
  have e : l.drop i = l[i] :: l.drop (i + 1) := List.drop_eq_getElem_cons hlt
  rw [e]
  simp only [loopN, hstep s i _ hx, rangeL]
  cases hb : body s l[i] with
  | none => rfl
  | some o =>
   cases o with
   | inl s' =>
    simp only [Option.bind_some]
    have := ih (i + 1) s' N (by omega) (by omega)
    rw [show ((i : Int) + 1) = ((i + 1 : Nat) : Int) by omega]
    exact this
   | inr r => rfl
theorem idx_at {α : Type} {l : List α} {i : Nat} : idxL l (i : Int) = l[i]? := by simp [idxL]
theorem loopE_places {β S σ R α : Type} (l : List α) (step : S → Option (List β × (S ⊕ R))) (mk : σ → Int → S) (body : σ → α → Option (List β × (σ ⊕ R))) (fin : σ → R)
 (hstep : ∀ s (i : Nat) x, l[i]? = some x → step (mk s i) = (body s x).bind fun o => match o with | (w, .inl s') => some (w, .inl (mk s' (i + 1))) | (w, .inr r) => some (w, .inr r))
 (hend : ∀ s, step (mk s l.length) = some ([], .inr (fin s))) :
 ∀ (k : Nat) (i : Nat) (s : σ) (N : Nat), i + k = l.length → k < N → loopE step N (mk s i) = (rangeE body (l.drop i) s).bind fun o => match o with | (w, .inl s) => some (w, fin s) | (w, .inr r) => some (w, r) := by
 intro k
 induction k with
 | zero =>
  intro i s N hi hN
  obtain ⟨N, rfl⟩ : ∃ M, N = M + 1 := ⟨N - 1, by omega⟩
  have e : l.drop i = [] := List.drop_eq_nil_of_le (by omega)
  have ei : ((i : Nat) : Int) = l.length := by omega
  rw [e, ei]
  simp only [loopE, hend, rangeE, Option.bind_some]
 | succ k ih =>
  intro i s N hi hN
  obtain ⟨N, rfl⟩ : ∃ M, N = M + 1 := ⟨N - 1, by omega⟩
  have hlt : i < l.length := by omega
  have hx : l[i]? = some l[i] := by simp [hlt]
  have e : l.drop i = l[i] :: l.drop (i + 1) := List.drop_eq_getElem_cons hlt
  rw [e]
  simp only [loopE, hstep s i _ hx, rangeE]
  cases hb : body s l[i] with
  | none => rfl
  | some o =>
   obtain ⟨w, o⟩ := o
   cases o with
   | inl s' =>
    simp only [Option.bind_some]
    have := ih (i + 1) s' N (by omega) (by omega)
    rw [show ((i : Int) + 1) = ((i + 1 : Nat) : Int) by omega, this]
    cases hr : rangeE body (l.drop (i + 1)) s' with
    | none => rfl
    | some q =>
     obtain ⟨w', o'⟩ := q
     cases o' <;> rfl
   | inr r => rfl
theorem loop_list {S σ R α : Type} (l : List α) (hl : l.length < 1000000000000) {step : S → Option (S ⊕ R)} (mk : σ → Int → S) (body : σ → α → Option (σ ⊕ R)) (fin : σ → R) (s : σ) {N : Nat} (hN : l.length < N)
 (hstep : ∀ s (i : Nat) x, l[i]? = some x → (i : Int) < l.length → step (mk s i) = (body s x).bind fun o => match o with | .inl s' => some (.inl (mk s' (i + 1))) | .inr r => some (.inr r))
 (hend : ∀ s, step (mk s l.length) = some (.inr (fin s))) : loopN step N (mk s 0) = (rangeL body l s).bind fun o => match o with | .inl s => some (fin s) | .inr r => some r := by
 have := loop_places l hl step mk body fin (fun s i x h => hstep s i x h (by
  rcases Nat.lt_or_ge i l.length with h' | h'
  ·omega
  ·rw [List.getElem?_eq_none h'] at h; cases h)) hend l.length 0 s N (by omega) hN
 simpa using this
theorem loopE_list {β S σ R α : Type} (l : List α) {step : S → Option (List β × (S ⊕ R))} (mk : σ → Int → S) (body : σ → α → Option (List β × (σ ⊕ R))) (fin : σ → R) (s : σ) {N : Nat} (hN : l.length < N)
 (hstep : ∀ s (i : Nat) x, l[i]? = some x → (i : Int) < l.length → step (mk s i) = (body s x).bind fun o => match o with | (w, .inl s') => some (w, .inl (mk s' (i + 1))) | (w, .inr r) => some (w, .inr r))
 (hend : ∀ s, step (mk s l.length) = some ([], .inr (fin s))) : loopE step N (mk s 0) = (rangeE body l s).bind fun o => match o with | (w, .inl s) => some (w, fin s) | (w, .inr r) => some (w, r) := by
 have := loopE_places l step mk body fin (fun s i x h => hstep s i x h (by
  rcases Nat.lt_or_ge i l.length with h' | h'
  ·omega
  ·rw [List.getElem?_eq_none h'] at h; cases h)) hend l.length 0 s N (by omega) hN
 simpa using this
theorem range_run {α σ R : Type} {step : σ → α → Option (σ ⊕ R)} (I : List α → σ → Prop) (hs : ∀ x r s, I (x :: r) s → ∃ s', step s x = some (.inl s') ∧ I r s') : ∀ {l : List α} {s : σ}, I l s → ∃ s', rangeL step l s = some (.inl s') ∧ I [] s'
 | [], s, h => ⟨s, rfl, h⟩
 | x :: l, s, h => by
  obtain ⟨s', h1, h2⟩ := hs x l s h
  obtain ⟨s2, h3, h4⟩ := range_run I hs h2
  exact ⟨s2, by simp only [rangeL, h1, h3], h4⟩
theorem rangeE_run {α β σ R : Type} {step : σ → α → Option (List β × (σ ⊕ R))} (I : List α → List β → σ → Prop) (hs : ∀ x r w s, I (x :: r) w s → ∃ w' s', step s x = some (w', .inl s') ∧ I r (w ++ w') s') :
 ∀ {l : List α} {w : List β} {s : σ}, I l w s → ∃ w' s', rangeE step l s = some (w', .inl s') ∧ I [] (w ++ w') s'
 | [], w, s, h => ⟨[], s, rfl, by simpa using h⟩
 | x :: l, w, s, h => by
  obtain ⟨w1, s1, h1, h2⟩ := hs x l w s h
  obtain ⟨w2, s2, h3, h4⟩ := rangeE_run I hs h2
  exact ⟨w1 ++ w2, s2, by simp only [rangeE, h1, h3], by rw [← List.append_assoc]; exact h4⟩
def bad1 {α : Type} (f : α → Int) : List α → Int
 | [] => 0
 | x :: l => if f x = 0 then bad1 f l else f x
theorem bad1_zero {α : Type} {f : α → Int} : ∀ {l : List α}, bad1 f l = 0 ↔ ∀ x ∈ l, f x = 0
 | [] => by simp [bad1]
 | x :: l => by
  unfold bad1
  split
  ·rename_i h; rw [bad1_zero]; simp [h]
  ·rename_i h; simp [h]
theorem bad1_append {α : Type} {f : α → Int} : ∀ {l m : List α}, bad1 f (l ++ m) = if bad1 f l = 0 then bad1 f m else bad1 f l
 | [], m => by simp [bad1]
 | x :: l, m => by
  simp only [List.cons_append, bad1]
  split
  ·rw [bad1_append]
  ·rename_i h; simp [h]
theorem range_bad {α : Type} {F : α → Option Int} {f : α → Int} : ∀ {l : List α}, (∀ x ∈ l, F x = some (f x)) →
 rangeL (fun (_ : Unit) x => (F x).bind fun r => if Ar.cmp .neq r 0 = true then some (Sum.inr r) else some (.inl ())) l () = some (if bad1 f l = 0 then .inl () else .inr (bad1 f l))
 | [], _ => rfl
 | x :: l, h => by
  have h1 := range_bad (l := l) fun y hy => h y (by simp [hy])
  unfold rangeL
  simp only [h x (by simp), Option.bind_some, cmp_neq, bad1]
  by_cases hz : f x = 0
  ·simp only [hz, decide_true, Bool.not_true, Bool.false_eq_true, if_false, if_true]
   simpa only [cmp_neq] using h1
  ·simp [hz]
noncomputable def stepBad {α : Type} (F : α → Option Int) (_ : Unit) (a : α) : Option (Unit ⊕ (Unit ⊕ Int)) := (F a).bind fun r => if Ar.cmp .neq r 0 = true then some (.inr (.inr r)) else some (.inl ())
theorem range_stepBad {α : Type} {F : α → Option Int} {f : α → Int} : ∀ {l : List α}, (∀ x ∈ l, F x = some (f x)) → rangeL (stepBad F) l () = some (if bad1 f l = 0 then .inl () else .inr (.inr (bad1 f l)))
 | [], _ => rfl
 | x :: l, h => by
  have h1 := range_stepBad (l := l) fun y hy => h y (by simp [hy])
  unfold rangeL stepBad
  simp only [h x (by simp), Option.bind_some, cmp_neq, bad1]
  by_cases hz : f x = 0
  ·simp only [hz, decide_true, Bool.not_true, Bool.false_eq_true, if_false, if_true]
   exact h1
  ·simp [hz]
end Go.Ab

namespace Go.Ab
mutual
def GExpr.pre : GExpr → List GExpr
 | ⟨op, args, var, field, kind, val⟩ => ⟨op, args, var, field, kind, val⟩ :: GExpr.pres args
def GExpr.pres : List GExpr → List GExpr
 | [] => []
 | a :: r => GExpr.pre a ++ GExpr.pres r
end
mutual
def GExpr.dep : GExpr → Nat
 | ⟨_, args, _, _, _, _⟩ => GExpr.deps args + 1
def GExpr.deps : List GExpr → Nat
 | [] => 0
 | a :: r => max (GExpr.dep a) (GExpr.deps r)
end
mutual
def GPattern.pre : GPattern → List GPattern
 | ⟨op, args, typ, var, scope, span, c⟩ => ⟨op, args, typ, var, scope, span, c⟩ :: GPattern.pres args
def GPattern.pres : List GPattern → List GPattern
 | [] => []
 | a :: r => GPattern.pre a ++ GPattern.pres r
end
mutual
def GPattern.dep : GPattern → Nat
 | ⟨_, args, _, _, _, _, _⟩ => GPattern.deps args + 1
def GPattern.deps : List GPattern → Nat
 | [] => 0
 | a :: r => max (GPattern.dep a) (GPattern.deps r)
end
theorem GExpr.pre_eq (x : GExpr) : x.pre = x :: GExpr.pres x.Args := by cases x; simp [GExpr.pre]
theorem GPattern.pre_eq (x : GPattern) : x.pre = x :: GPattern.pres x.Args := by cases x; simp [GPattern.pre]
theorem GExpr.dep_eq (x : GExpr) : x.dep = GExpr.deps x.Args + 1 := by cases x; simp [GExpr.dep]
theorem GPattern.dep_eq (x : GPattern) : x.dep = GPattern.deps x.Args + 1 := by cases x; simp [GPattern.dep]
theorem GExpr.bulk_eq (x : GExpr) : x.bulk = GExpr.bulks x.Args + x.Value.Text.size + 9 := by cases x; simp [GExpr.bulk]
theorem GPattern.bulk_eq (x : GPattern) : x.bulk = GPattern.bulks x.Args + x.Cond.bulk + 6 := by cases x; simp [GPattern.bulk]
theorem bulks_e : ∀ (l : List GExpr), (∀ a ∈ l, GExpr.bulk a ≤ GExpr.bulks l) ∧ l.length ≤ GExpr.bulks l
 | [] => ⟨fun a h => by simp at h, by simp [GExpr.bulks]⟩
 | b :: l => by
  have h := bulks_e l
  have hb := GExpr.bulk_eq b
  simp only [GExpr.bulks, List.length_cons]
  refine ⟨fun a ha => ?_, by omega⟩
  rcases List.mem_cons.1 ha with rfl | ha
  ·omega
  ·have := h.1 a ha; omega
theorem bulks_p : ∀ (l : List GPattern), (∀ a ∈ l, GPattern.bulk a ≤ GPattern.bulks l) ∧ l.length ≤ GPattern.bulks l
 | [] => ⟨fun a h => by simp at h, by simp [GPattern.bulks]⟩
 | b :: l => by
  have h := bulks_p l
  have hb := GPattern.bulk_eq b
  simp only [GPattern.bulks, List.length_cons]
  refine ⟨fun a ha => ?_, by omega⟩
  rcases List.mem_cons.1 ha with rfl | ha
  ·omega
  ·have := h.1 a ha; omega
mutual
theorem pre_bulk_e : ∀ x : GExpr, x.pre.length ≤ x.bulk
 | ⟨op, args, var, field, kind, val⟩ => by
  have := pres_bulk_e args
  simp only [GExpr.pre, GExpr.bulk, List.length_cons]; omega
theorem pres_bulk_e : ∀ l : List GExpr, (GExpr.pres l).length ≤ GExpr.bulks l
 | [] => by simp [GExpr.pres]
 | a :: l => by
  have h1 := pre_bulk_e a
  have h2 := pres_bulk_e l
  simp only [GExpr.pres, GExpr.bulks, List.length_append]; omega
end
mutual
theorem pre_bulk_p : ∀ x : GPattern, x.pre.length ≤ x.bulk
 | ⟨op, args, typ, var, scope, span, c⟩ => by
  have := pres_bulk_p args
  simp only [GPattern.pre, GPattern.bulk, List.length_cons]; omega
theorem pres_bulk_p : ∀ l : List GPattern, (GPattern.pres l).length ≤ GPattern.bulks l
 | [] => by simp [GPattern.pres]
 | a :: l => by
  have h1 := pre_bulk_p a
  have h2 := pres_bulk_p l
  simp only [GPattern.pres, GPattern.bulks, List.length_append]; omega
end
mutual
theorem dep_bulk_e : ∀ x : GExpr, x.dep ≤ x.bulk
 | ⟨op, args, var, field, kind, val⟩ => by
  have := deps_bulk_e args
  simp only [GExpr.dep, GExpr.bulk]; omega
theorem deps_bulk_e : ∀ l : List GExpr, GExpr.deps l ≤ GExpr.bulks l
 | [] => by simp [GExpr.deps]
 | a :: l => by
  have h1 := dep_bulk_e a
  have h2 := deps_bulk_e l
  simp only [GExpr.deps, GExpr.bulks]; omega
end
mutual
theorem dep_bulk_p : ∀ x : GPattern, x.dep ≤ x.bulk
 | ⟨op, args, typ, var, scope, span, c⟩ => by
  have := deps_bulk_p args
  simp only [GPattern.dep, GPattern.bulk]; omega
theorem deps_bulk_p : ∀ l : List GPattern, GPattern.deps l ≤ GPattern.bulks l
 | [] => by simp [GPattern.deps]
 | a :: l => by
  have h1 := dep_bulk_p a
  have h2 := deps_bulk_p l
  simp only [GPattern.deps, GPattern.bulks]; omega
end
def Cut (lim : Int) (cnt : Nat) (r : Int) : Prop := 1 ≤ r ∧ r ≤ cnt ∧ (r = cnt ∨ lim < r)
section
variable {α : Type}
theorem range_count {lim : Int} {f : α → Option Int} {cnt : α → Nat} {B : Nat} (hB : B ≤ 1000000000000) : ∀ (l : List α) (s : Int), 0 ≤ s → s + (l.map cnt).sum ≤ B → (∀ a ∈ l, ∃ r, f a = some r ∧ Cut lim (cnt a) r) →
 ∃ o, rangeL (fun (s : Int) x => if s ≤ lim then (f x).bind fun r => some (.inl (Ar.ar .add .i64 s r)) else some (.inr s)) l s = some o ∧
  ∃ v, v = (match o with | .inl s => s | .inr s => s) ∧ s ≤ v ∧ v ≤ s + (l.map cnt).sum ∧ (v = s + (l.map cnt).sum ∨ lim < v)
 | [], s, h0, _, _ => ⟨.inl s, rfl, s, rfl, Int.le_refl _, by simp, .inl (by simp)⟩
 | a :: l, s, h0, hb, hf => by
  simp only [List.map_cons, List.sum_cons] at hb ⊢
  unfold rangeL
  by_cases hs : s ≤ lim
  ·obtain ⟨r, h1, h2, h3, h4⟩ := hf a (by simp)
   simp only [if_pos hs, h1, Option.bind_some]
   have e : Ar.ar .add .i64 s r = s + r := add_i64 (by omega) (by omega)
   rw [e]
   obtain ⟨o, k1, v, k2, k3, k4, k5⟩ := range_count hB l (s + r) (by omega) (by omega) fun b hb => hf b (by simp [hb])
   refine ⟨o, k1, v, k2, by omega, by omega, ?_⟩
   rcases k5 with k5 | k5
   ·rcases h4 with h4 | h4
    ·left; omega
    ·right; omega
   ·exact .inr k5
  ·simp only [if_neg hs]
   exact ⟨_, rfl, s, rfl, Int.le_refl _, by omega, .inr (by omega)⟩
end
theorem sum_pres_p : ∀ l : List GPattern, (l.map fun a => a.pre.length).sum = (GPattern.pres l).length
 | [] => rfl
 | a :: l => by simp [GPattern.pres, sum_pres_p l]
theorem sum_pres_e : ∀ l : List GExpr, (l.map fun a => a.pre.length).sum = (GExpr.pres l).length
 | [] => rfl
 | a :: l => by simp [GExpr.pres, sum_pres_e l]
theorem total_eq {N : Nat} (hN : 40000000 ≤ N) (lim : Int) : ∀ (n : Nat) (x : GPattern), x.bulk ≤ n → x.bulk ≤ 16777216 → ∃ r, ref09_Total N n x lim = some r ∧ Cut lim x.pre.length r := by
 intro n
 induction n with
 | zero => intro x h; have := GPattern.bulk_eq x; omega
 | succ n ih =>
  intro x hx hb
  have hxb := GPattern.bulk_eq x
  have hB := bulks_p x.Args
  have hpb := pres_bulk_p x.Args
  unfold ref09_Total
  rw [loop_list x.Args (by omega) (mk := fun (s : Int) i => (s, i)) (body := fun (s : Int) a => if s ≤ lim then (ref09_Total N n a lim).bind fun r => some (.inl (Ar.ar .add .i64 s r)) else some (.inr s)) (fin := fun s => s) (s := 1) (by omega) ?_ ?_]
  ·obtain ⟨o, k1, v, k2, k3, k4, k5⟩ := range_count (lim := lim) (f := fun a => ref09_Total N n a lim) (cnt := fun a => a.pre.length) (B := 40000000) (by omega) x.Args 1 (by omega) (by rw [sum_pres_p]; omega) fun a ha => ih a (by have := hB.1 a ha; omega) (by have := hB.1 a ha; omega)
   rw [sum_pres_p] at k4 k5
   have hpe : x.pre.length = (GPattern.pres x.Args).length + 1 := by rw [GPattern.pre_eq]; rfl
   simp only [k1, Option.bind_some]
   refine ⟨v, ?_, by omega, by omega, ?_⟩
   ·cases o <;> simp_all
   ·rcases k5 with k5 | k5
    ·left; omega
    ·right; exact k5
  ·intro s i a ha hi
   have e : Ar.ar .add .i64 (i : Int) 1 = i + 1 := add_i64 (by omega) (by omega)
   simp only [cmp_lss, cmp_leq, an_def, len_def, hi, decide_true, Bool.true_and, idx_at, ha, Option.bind_some, e, decide_eq_true_eq]
   split
   ·cases ref09_Total N n a lim <;> rfl
   ·rfl
  ·intro s
   simp [cmp_lss, an_def, len_def]
end Go.Ab

namespace Go.Ab
theorem mem_bulk {x a : GPattern} (h : a ∈ x.Args) : a.bulk < x.bulk := by
 have h1 := (bulks_p x.Args).1 a h
 have h2 := GPattern.bulk_eq x
 omega
theorem mem_bulk_e {x a : GExpr} (h : a ∈ x.Args) : a.bulk < x.bulk := by
 have h1 := (bulks_e x.Args).1 a h
 have h2 := GExpr.bulk_eq x
 omega
theorem len_bulk (x : GPattern) : x.Args.length ≤ x.bulk := by
 have h1 := (bulks_p x.Args).2
 have h2 := GPattern.bulk_eq x
 omega
theorem len_bulk_e (x : GExpr) : x.Args.length ≤ x.bulk := by
 have h1 := (bulks_e x.Args).2
 have h2 := GExpr.bulk_eq x
 omega
theorem bulk_pos (x : GPattern) : 0 < x.bulk := by have := GPattern.bulk_eq x; omega
theorem bulk_pos_e (x : GExpr) : 0 < x.bulk := by have := GExpr.bulk_eq x; omega
theorem depth_eq {N : Nat} (hN : 40000000 ≤ N) : ∀ (n : Nat) (x : GPattern), x.bulk ≤ n → x.bulk ≤ 16777216 → ref09_Depth N n x = some (x.dep : Int) := by
 intro n
 induction n with
 | zero => intro x h; have := bulk_pos x; omega
 | succ n ih =>
  intro x hx hb
  have hl := len_bulk x
  unfold ref09_Depth
  rw [loop_list x.Args (by omega) (mk := fun (s : Int) i => (s, i)) (body := fun (s : Int) a => (ref09_Depth N n a).bind fun r => some (.inl (Ar.mx s r))) (fin := fun s => s) (s := 0) (by omega) ?_ ?_]
  ·obtain ⟨s', k1, k2⟩ := range_run (R := Int) (step := fun (s : Int) a => (ref09_Depth N n a).bind fun r => some (.inl (Ar.mx s r))) (fun r s => (∀ a ∈ r, a ∈ x.Args) ∧ 0 ≤ s ∧ max s (GPattern.deps r : Int) = (GPattern.deps x.Args : Int)) (fun a r s ⟨h1, h2, h3⟩ => by
    have hm := mem_bulk (h1 a (by simp))
    refine ⟨_, by rw [ih a (by omega) (by omega)]; rfl, fun b hb => h1 b (by simp [hb]), ?_, ?_⟩
    ·rw [mx_def]; split <;> omega
    ·rw [← h3, mx_def]; simp only [GPattern.deps]; split <;> omega) (l := x.Args) (s := 0) ⟨fun a h => h, Int.le_refl _, by omega⟩
   simp only [k1, Option.bind_some]
   have e : s' = (GPattern.deps x.Args : Int) := by have := k2.2.2; simp only [GPattern.deps] at this; omega
   have hd := deps_bulk_p x.Args
   have hd2 := GPattern.bulk_eq x
   rw [e, add_i64 (by omega) (by omega), GPattern.dep_eq]
   rfl
  ·intro s i a ha hi
   have e : Ar.ar .add .i64 (i : Int) 1 = i + 1 := add_i64 (by omega) (by omega)
   simp only [cmp_lss, len_def, hi, decide_true, if_true, idx_at, ha, Option.bind_some, e]
   cases ref09_Depth N n a <;> rfl
  ·intro s; simp [cmp_lss, len_def]
theorem appL_eq {α : Type} {l m : List α} (h : l.length + m.length ≤ 1073741824) : appL l m = some (l ++ m) := by simp [appL, h]
theorem nodes_eq {N : Nat} (hN : 40000000 ≤ N) : ∀ (n : Nat) (x : GPattern), x.bulk ≤ n → x.bulk ≤ 16777216 → ref09_Nodes N n x = some x.pre := by
 intro n
 induction n with
 | zero => intro x h; have := bulk_pos x; omega
 | succ n ih =>
  intro x hx hb
  have hl := len_bulk x
  unfold ref09_Nodes
  rw [loop_list x.Args (by omega) (mk := fun (s : List GPattern) i => (s, i)) (body := fun (s : List GPattern) a => (ref09_Nodes N n a).bind fun r => (appL s r).bind fun l => some (.inl l)) (fin := fun s => s) (s := [x]) (by omega) ?_ ?_]
  ·have hp := pre_bulk_p x
   have hpe := GPattern.pre_eq x
   obtain ⟨s', k1, k2⟩ := range_run (R := List GPattern) (step := fun (s : List GPattern) a => (ref09_Nodes N n a).bind fun r => (appL s r).bind fun l => some (.inl l)) (fun r s => (∀ a ∈ r, a ∈ x.Args) ∧ s ++ GPattern.pres r = x.pre) (fun a r s ⟨h1, h2⟩ => by
    have hm := mem_bulk (h1 a (by simp))
    have hlen := congrArg List.length h2
    simp only [GPattern.pres, List.length_append] at hlen
    refine ⟨_, by rw [ih a (by omega) (by omega)]; simp only [Option.bind_some]; rw [appL_eq (by omega)]; rfl, fun b hb => h1 b (by simp [hb]), ?_⟩
    rw [← h2]; simp [GPattern.pres]) (l := x.Args) (s := [x]) ⟨fun a h => h, by rw [hpe]; rfl⟩
   simp only [k1, Option.bind_some]
   have := k2.2
   simp only [GPattern.pres, List.append_nil] at this
   rw [this]
  ·intro s i a ha hi
   have e : Ar.ar .add .i64 (i : Int) 1 = i + 1 := add_i64 (by omega) (by omega)
   simp only [cmp_lss, len_def, hi, decide_true, if_true, idx_at, ha, Option.bind_some, e]
   cases ref09_Nodes N n a with
   | none => rfl
   | some r => simp only [Option.bind_some]; cases appL s r <;> rfl
  ·intro s; simp [cmp_lss, len_def]
theorem size_eq {N : Nat} (hN : 40000000 ≤ N) : ∀ (n : Nat) (x : GPattern), x.bulk ≤ n → x.bulk ≤ 16777216 → pattern_Size N n x = some ((x.pre.length : Int), (x.dep : Int)) := by
 intro n
 induction n with
 | zero => intro x h; have := bulk_pos x; omega
 | succ n ih =>
  intro x hx hb
  have hl := len_bulk x
  unfold pattern_Size
  rw [loop_list x.Args (by omega) (mk := fun (s : Int × Int) i => (s.1, s.2, i)) (body := fun (s : Int × Int) a => (pattern_Size N n a).bind fun r => some (.inl (Ar.ar .add .i64 s.1 r.1, Ar.mx s.2 r.2))) (fin := fun s => s) (s := (1, 0)) (by omega) ?_ ?_]
  ·have hp := pres_bulk_p x.Args
   have hd := deps_bulk_p x.Args
   have hbe := GPattern.bulk_eq x
   obtain ⟨s', k1, k2⟩ := range_run (R := Int × Int) (step := fun (s : Int × Int) a => (pattern_Size N n a).bind fun r => some (.inl (Ar.ar .add .i64 s.1 r.1, Ar.mx s.2 r.2))) (fun r s => (∀ a ∈ r, a ∈ x.Args) ∧ 0 ≤ s.2 ∧ 0 ≤ s.1 ∧ s.1 + (GPattern.pres r).length = (GPattern.pres x.Args).length + 1 ∧ max s.2 (GPattern.deps r : Int) = (GPattern.deps x.Args : Int)) (fun a r s ⟨h1, h2, h3, h4, h5⟩ => by
    have hm := mem_bulk (h1 a (by simp))
    simp only [GPattern.pres, List.length_append, GPattern.deps] at h4 h5
    refine ⟨_, by rw [ih a (by omega) (by omega)]; rfl, fun b hb => h1 b (by simp [hb]), ?_, ?_, ?_, ?_⟩
    ·simp only [mx_def]; split <;> omega
    ·rw [add_i64 (by omega) (by omega)]; omega
    ·rw [add_i64 (by omega) (by omega)]; omega
    ·rw [← h5]; simp only [mx_def]; split <;> omega) (l := x.Args) (s := (1, 0)) ⟨fun a h => h, by simp, by simp, by simp only; omega, by simp only; omega⟩
   simp only [k1, Option.bind_some]
   obtain ⟨_, _, _, e1, e2⟩ := k2
   simp only [GPattern.pres, List.length_nil, GPattern.deps] at e1 e2
   have e3 : s'.1 = (x.pre.length : Int) := by rw [GPattern.pre_eq]; simp only [List.length_cons]; omega
   have e4 : s'.2 = (GPattern.deps x.Args : Int) := by omega
   rw [e3, e4, add_i64 (by omega) (by omega), GPattern.dep_eq]
   rfl
  ·intro s i a ha hi
   have e : Ar.ar .add .i64 (i : Int) 1 = i + 1 := add_i64 (by omega) (by omega)
   simp only [cmp_lss, len_def, hi, decide_true, if_true, idx_at, ha, Option.bind_some, e]
   cases pattern_Size N n a <;> rfl
  ·intro s; simp [cmp_lss, len_def]
theorem walk_eq {N : Nat} (hN : 40000000 ≤ N) : ∀ (n : Nat) (x : GPattern), x.bulk ≤ n → x.bulk ≤ 16777216 → pattern_walk N n x = some x.pre := by
 intro n
 induction n with
 | zero => intro x h; have := bulk_pos x; omega
 | succ n ih =>
  intro x hx hb
  have hl := len_bulk x
  unfold pattern_walk
  rw [loopE_list x.Args (mk := fun (_ : Unit) i => i) (body := fun (_ : Unit) a => (pattern_walk N n a).bind fun l => some (l, .inl ())) (fin := fun _ => ()) (s := ()) (by omega) ?_ ?_]
  ·obtain ⟨w, s', k1, k2⟩ := rangeE_run (R := Unit) (step := fun (_ : Unit) a => (pattern_walk N n a).bind fun l => some (l, .inl ())) (fun r w s => (∀ a ∈ r, a ∈ x.Args) ∧ w ++ GPattern.pres r = GPattern.pres x.Args) (fun a r w s ⟨h1, h2⟩ => by
    have hm := mem_bulk (h1 a (by simp))
    refine ⟨a.pre, (), by rw [ih a (by omega) (by omega)]; rfl, fun b hb => h1 b (by simp [hb]), ?_⟩
    rw [← h2]; simp [GPattern.pres]) (l := x.Args) (w := []) (s := ()) ⟨fun a h => h, by simp⟩
   have e : w = GPattern.pres x.Args := by have := k2.2; simpa [GPattern.pres] using this
   rw [k1, e, GPattern.pre_eq]
   simp [thenE]
  ·intro s i a ha hi
   have e : Ar.ar .add .i64 (i : Int) 1 = i + 1 := add_i64 (by omega) (by omega)
   simp only [cmp_lss, len_def, hi, decide_true, if_true, idx_at, ha, Option.bind_some, e]
   cases pattern_walk N n a <;> simp [thenE]
  ·intro s; simp [cmp_lss, len_def]
end Go.Ab

namespace Go.Ab
theorem count_eq {N : Nat} (hN : 40000000 ≤ N) (lim : Int) : ∀ (n : Nat) (x : GExpr), x.bulk ≤ n → x.bulk ≤ 16777216 → ∃ r, ref08_Count N n x lim = some r ∧ Cut lim x.pre.length r := by
 intro n
 induction n with
 | zero => intro x h; have := bulk_pos_e x; omega
 | succ n ih =>
  intro x hx hb
  have hxb := GExpr.bulk_eq x
  have hB := bulks_e x.Args
  have hpb := pres_bulk_e x.Args
  unfold ref08_Count
  rw [loop_list x.Args (by omega) (mk := fun (s : Int) i => (s, i)) (body := fun (s : Int) a => if s ≤ lim then (ref08_Count N n a lim).bind fun r => some (.inl (Ar.ar .add .i64 s r)) else some (.inr s)) (fin := fun s => s) (s := 1) (by omega) ?_ ?_]
  ·obtain ⟨o, k1, v, k2, k3, k4, k5⟩ := range_count (lim := lim) (f := fun a => ref08_Count N n a lim) (cnt := fun a => a.pre.length) (B := 40000000) (by omega) x.Args 1 (by omega) (by rw [sum_pres_e]; omega) fun a ha => ih a (by have := hB.1 a ha; omega) (by have := hB.1 a ha; omega)
   rw [sum_pres_e] at k4 k5
   have hpe : x.pre.length = (GExpr.pres x.Args).length + 1 := by rw [GExpr.pre_eq]; rfl
   simp only [k1, Option.bind_some]
   refine ⟨v, ?_, by omega, by omega, ?_⟩
   ·cases o <;> simp_all
   ·rcases k5 with k5 | k5
    ·left; omega
    ·right; exact k5
  ·intro s i a ha hi
   have e : Ar.ar .add .i64 (i : Int) 1 = i + 1 := add_i64 (by omega) (by omega)
   simp only [cmp_lss, cmp_leq, an_def, len_def, hi, decide_true, Bool.true_and, idx_at, ha, Option.bind_some, e, decide_eq_true_eq]
   split
   ·cases ref08_Count N n a lim <;> rfl
   ·rfl
  ·intro s
   simp [cmp_lss, an_def, len_def]
theorem depth_eq_e {N : Nat} (hN : 40000000 ≤ N) : ∀ (n : Nat) (x : GExpr), x.bulk ≤ n → x.bulk ≤ 16777216 → ref08_Depth N n x = some (x.dep : Int) := by
 intro n
 induction n with
 | zero => intro x h; have := bulk_pos_e x; omega
 | succ n ih =>
  intro x hx hb
  have hl := len_bulk_e x
  unfold ref08_Depth
  rw [loop_list x.Args (by omega) (mk := fun (s : Int) i => (s, i)) (body := fun (s : Int) a => (ref08_Depth N n a).bind fun r => some (.inl (Ar.mx s r))) (fin := fun s => s) (s := 0) (by omega) ?_ ?_]
  ·obtain ⟨s', k1, k2⟩ := range_run (R := Int) (step := fun (s : Int) a => (ref08_Depth N n a).bind fun r => some (.inl (Ar.mx s r))) (fun r s => (∀ a ∈ r, a ∈ x.Args) ∧ 0 ≤ s ∧ max s (GExpr.deps r : Int) = (GExpr.deps x.Args : Int)) (fun a r s ⟨h1, h2, h3⟩ => by
    have hm := mem_bulk_e (h1 a (by simp))
    refine ⟨_, by rw [ih a (by omega) (by omega)]; rfl, fun b hb => h1 b (by simp [hb]), ?_, ?_⟩
    ·rw [mx_def]; split <;> omega
    ·rw [← h3, mx_def]; simp only [GExpr.deps]; split <;> omega) (l := x.Args) (s := 0) ⟨fun a h => h, Int.le_refl _, by omega⟩
   simp only [k1, Option.bind_some]
   have e : s' = (GExpr.deps x.Args : Int) := by have := k2.2.2; simp only [GExpr.deps] at this; omega
   have hd := deps_bulk_e x.Args
   have hd2 := GExpr.bulk_eq x
   rw [e, add_i64 (by omega) (by omega), GExpr.dep_eq]
   rfl
  ·intro s i a ha hi
   have e : Ar.ar .add .i64 (i : Int) 1 = i + 1 := add_i64 (by omega) (by omega)
   simp only [cmp_lss, len_def, hi, decide_true, if_true, idx_at, ha, Option.bind_some, e]
   cases ref08_Depth N n a <;> rfl
  ·intro s; simp [cmp_lss, len_def]
theorem size_eq_e {N : Nat} (hN : 40000000 ≤ N) : ∀ (n : Nat) (x : GExpr), x.bulk ≤ n → x.bulk ≤ 16777216 → expr_Size N n x = some ((x.pre.length : Int), (x.dep : Int)) := by
 intro n
 induction n with
 | zero => intro x h; have := bulk_pos_e x; omega
 | succ n ih =>
  intro x hx hb
  have hl := len_bulk_e x
  unfold expr_Size
  rw [loop_list x.Args (by omega) (mk := fun (s : Int × Int) i => (s.1, s.2, i)) (body := fun (s : Int × Int) a => (expr_Size N n a).bind fun r => some (.inl (Ar.ar .add .i64 s.1 r.1, Ar.mx s.2 r.2))) (fin := fun s => s) (s := (1, 0)) (by omega) ?_ ?_]
  ·have hp := pres_bulk_e x.Args
   have hd := deps_bulk_e x.Args
   have hbe := GExpr.bulk_eq x
   obtain ⟨s', k1, k2⟩ := range_run (R := Int × Int) (step := fun (s : Int × Int) a => (expr_Size N n a).bind fun r => some (.inl (Ar.ar .add .i64 s.1 r.1, Ar.mx s.2 r.2))) (fun r s => (∀ a ∈ r, a ∈ x.Args) ∧ 0 ≤ s.2 ∧ 0 ≤ s.1 ∧ s.1 + (GExpr.pres r).length = (GExpr.pres x.Args).length + 1 ∧ max s.2 (GExpr.deps r : Int) = (GExpr.deps x.Args : Int)) (fun a r s ⟨h1, h2, h3, h4, h5⟩ => by
    have hm := mem_bulk_e (h1 a (by simp))
    simp only [GExpr.pres, List.length_append, GExpr.deps] at h4 h5
    refine ⟨_, by rw [ih a (by omega) (by omega)]; rfl, fun b hb => h1 b (by simp [hb]), ?_, ?_, ?_, ?_⟩
    ·simp only [mx_def]; split <;> omega
    ·rw [add_i64 (by omega) (by omega)]; omega
    ·rw [add_i64 (by omega) (by omega)]; omega
    ·rw [← h5]; simp only [mx_def]; split <;> omega) (l := x.Args) (s := (1, 0)) ⟨fun a h => h, by simp, by simp, by simp only; omega, by simp only; omega⟩
   simp only [k1, Option.bind_some]
   obtain ⟨_, _, _, e1, e2⟩ := k2
   simp only [GExpr.pres, List.length_nil, GExpr.deps] at e1 e2
   have e3 : s'.1 = (x.pre.length : Int) := by rw [GExpr.pre_eq]; simp only [List.length_cons]; omega
   have e4 : s'.2 = (GExpr.deps x.Args : Int) := by omega
   rw [e3, e4, add_i64 (by omega) (by omega), GExpr.dep_eq]
   rfl
  ·intro s i a ha hi
   have e : Ar.ar .add .i64 (i : Int) 1 = i + 1 := add_i64 (by omega) (by omega)
   simp only [cmp_lss, len_def, hi, decide_true, if_true, idx_at, ha, Option.bind_some, e]
   cases expr_Size N n a <;> rfl
  ·intro s; simp [cmp_lss, len_def]
theorem bad_pres {f : GExpr → Int} : ∀ l : List GExpr, bad1 (fun a => bad1 f a.pre) l = bad1 f (GExpr.pres l)
 | [] => rfl
 | a :: l => by rw [GExpr.pres, bad1_append, bad1, bad_pres l]
theorem sub_pres {a y : GExpr} (hy : y ∈ a.pre) : ∀ l : List GExpr, a ∈ l → y ∈ GExpr.pres l
 | [], h => by simp at h
 | b :: l, h => by
  rcases List.mem_cons.1 h with rfl | h
  ·simp [GExpr.pres, hy]
  ·simp [GExpr.pres, sub_pres hy l h]
theorem visit_eq {N : Nat} (hN : 40000000 ≤ N) {F : GExpr → Option Int} {f : GExpr → Int} : ∀ (n : Nat) (x : GExpr), x.bulk ≤ n → x.bulk ≤ 16777216 → (∀ y ∈ x.pre, F y = some (f y)) → expr_visit N n x F = some (bad1 f x.pre) := by
 intro n
 induction n with
 | zero => intro x h; have := bulk_pos_e x; omega
 | succ n ih =>
  intro x hx hb hF
  have hl := len_bulk_e x
  have hpe := GExpr.pre_eq x
  unfold expr_visit
  rw [hF x (by rw [hpe]; simp)]
  simp only [Option.bind_some, cmp_neq]
  rw [hpe, bad1]
  by_cases hz : f x = 0
  ·simp only [hz, decide_true, Bool.not_true, Bool.false_eq_true, if_false, if_true]
   rw [loop_list x.Args (by omega) (mk := fun (_ : Unit) i => i) (body := stepBad fun a => expr_visit N n a F) (fin := fun _ => .inl ()) (s := ()) (by omega) ?_ ?_]
   ·rw [range_stepBad (f := fun a => bad1 f a.pre) fun a ha => ih a (by have := mem_bulk_e ha; omega) (by have := mem_bulk_e ha; omega) fun y hy => hF y (by rw [hpe]; exact List.mem_cons_of_mem _ (sub_pres hy _ ha)), bad_pres]
    by_cases hz3 : bad1 f (GExpr.pres x.Args) = 0
    ·simp [hz3]
    ·simp [hz3]
   ·intro s i a ha hi
    have e : Ar.ar .add .i64 (i : Int) 1 = i + 1 := add_i64 (by omega) (by omega)
    simp only [cmp_lss, len_def, hi, decide_true, if_true, idx_at, ha, Option.bind_some, e, stepBad, cmp_neq]
    cases expr_visit N n a F with
    | none => rfl
    | some r => by_cases h : r = 0 <;> simp [h]
   ·intro s; simp [cmp_lss, len_def]
  ·simp [hz]
theorem nodes8_eq {N : Nat} (hN : 40000000 ≤ N) {f : GExpr → Int} (hF : ∀ y, ref08_node N y = some (f y)) : ∀ (n : Nat) (x : GExpr), x.bulk ≤ n → x.bulk ≤ 16777216 → ref08_nodes N n x = some (bad1 f x.pre) := by
 intro n
 induction n with
 | zero => intro x h; have := bulk_pos_e x; omega
 | succ n ih =>
  intro x hx hb
  have hl := len_bulk_e x
  have hpe := GExpr.pre_eq x
  unfold ref08_nodes
  rw [hF x]
  simp only [Option.bind_some, cmp_neq]
  rw [hpe, bad1]
  by_cases hz : f x = 0
  ·simp only [hz, decide_true, Bool.not_true, Bool.false_eq_true, if_false, if_true]
   rw [loop_list x.Args (by omega) (mk := fun (_ : Unit) i => i) (body := stepBad fun a => ref08_nodes N n a) (fin := fun _ => .inl ()) (s := ()) (by omega) ?_ ?_]
   ·rw [range_stepBad (f := fun a => bad1 f a.pre) fun a ha => ih a (by have := mem_bulk_e ha; omega) (by have := mem_bulk_e ha; omega), bad_pres]
    by_cases hz3 : bad1 f (GExpr.pres x.Args) = 0
    ·simp [hz3]
    ·simp [hz3]
   ·intro s i a ha hi
    have e : Ar.ar .add .i64 (i : Int) 1 = i + 1 := add_i64 (by omega) (by omega)
    simp only [cmp_lss, len_def, hi, decide_true, if_true, idx_at, ha, Option.bind_some, e, stepBad, cmp_neq]
    cases ref08_nodes N n a with
    | none => rfl
    | some r => by_cases h : r = 0 <;> simp [h]
   ·intro s; simp [cmp_lss, len_def]
  ·simp [hz]
end Go.Ab

