/- GSE1 -/
import Derived.Test.YtbjdkpckplopdaaGreatT37
import Derived.Test.YtbjdkpckplopdaaGreatT31
import Derived.Laws.Strings
set_option linter.all false

namespace Go.Ab
mutual
def GExpr.bulk : GExpr → Nat
 | ⟨_, args, _, _, _, v⟩ => GExpr.bulks args + v.Text.size + 9
def GExpr.bulks : List GExpr → Nat
 | [] => 1
 | a :: r => GExpr.bulk a + GExpr.bulks r
end
mutual
def GExpr.pre : GExpr → List GExpr
 | ⟨op, args, var, field, kind, val⟩ => ⟨op, args, var, field, kind, val⟩ :: GExpr.pres args
def GExpr.pres : List GExpr → List GExpr
 | [] => []
 | a :: r => GExpr.pre a ++ GExpr.pres r
end
mutual
def GExpr.dep : GExpr → Nat
 | ⟨_, args, _, _, _, _⟩ => GExpr.deps args + 1
def GExpr.deps : List GExpr → Nat
 | [] => 0
 | a :: r => max (GExpr.dep a) (GExpr.deps r)
end
theorem GExpr.pre_eq (x : GExpr) : x.pre = x :: GExpr.pres x.Args := by cases x; simp [GExpr.pre]
theorem GExpr.dep_eq (x : GExpr) : x.dep = GExpr.deps x.Args + 1 := by cases x; simp [GExpr.dep]
theorem GExpr.bulk_eq (x : GExpr) : x.bulk = GExpr.bulks x.Args + x.Value.Text.size + 9 := by cases x; simp [GExpr.bulk]
theorem bulks_e : ∀ (l : List GExpr), (∀ a ∈ l, GExpr.bulk a ≤ GExpr.bulks l) ∧ l.length ≤ GExpr.bulks l
 | [] => ⟨fun a h => by simp at h, by simp [GExpr.bulks]⟩
 | b :: l => by
  have h := bulks_e l
  have hb := GExpr.bulk_eq b
  simp only [GExpr.bulks, List.length_cons]
  refine ⟨fun a ha => ?_, by omega⟩
  rcases List.mem_cons.1 ha with rfl | ha
  ·omega
  ·have := h.1 a ha; omega
mutual
theorem pre_bulk_e : ∀ x : GExpr, x.pre.length ≤ x.bulk
 | ⟨op, args, var, field, kind, val⟩ => by
  have := pres_bulk_e args
  simp only [GExpr.pre, GExpr.bulk, List.length_cons]; omega
theorem pres_bulk_e : ∀ l : List GExpr, (GExpr.pres l).length ≤ GExpr.bulks l
 | [] => by simp [GExpr.pres]
 | a :: l => by
  have h1 := pre_bulk_e a
  have h2 := pres_bulk_e l
  simp only [GExpr.pres, GExpr.bulks, List.length_append]; omega
end
mutual
theorem dep_bulk_e : ∀ x : GExpr, x.dep ≤ x.bulk
 | ⟨op, args, var, field, kind, val⟩ => by
  have := deps_bulk_e args
  simp only [GExpr.dep, GExpr.bulk]; omega
theorem deps_bulk_e : ∀ l : List GExpr, GExpr.deps l ≤ GExpr.bulks l
 | [] => by simp [GExpr.deps]
 | a :: l => by
  have h1 := dep_bulk_e a
  have h2 := deps_bulk_e l
  simp only [GExpr.deps, GExpr.bulks]; omega
end
def Cut (lim : Int) (cnt : Nat) (r : Int) : Prop := 1 ≤ r ∧ r ≤ cnt ∧ (r = cnt ∨ lim < r)
section
variable {α : Type}
theorem range_count {lim : Int} {f : α → Option Int} {cnt : α → Nat} {B : Nat} (hB : B ≤ 1000000000000) : ∀ (l : List α) (s : Int), 0 ≤ s → s + (l.map cnt).sum ≤ B → (∀ a ∈ l, ∃ r, f a = some r ∧ Cut lim (cnt a) r) →
 ∃ o, rangeL (fun (s : Int) x => if s ≤ lim then (f x).bind fun r => some (.inl (Ar.ar .add .i64 s r)) else some (.inr s)) l s = some o ∧
  ∃ v, v = (match o with | .inl s => s | .inr s => s) ∧ s ≤ v ∧ v ≤ s + (l.map cnt).sum ∧ (v = s + (l.map cnt).sum ∨ lim < v)
 | [], s, h0, _, _ => ⟨.inl s, rfl, s, rfl, Int.le_refl _, by simp, .inl (by simp)⟩
 | a :: l, s, h0, hb, hf => by
  simp only [List.map_cons, List.sum_cons] at hb ⊢
  unfold rangeL
  by_cases hs : s ≤ lim
  ·obtain ⟨r, h1, h2, h3, h4⟩ := hf a (by simp)
   simp only [if_pos hs, h1, Option.bind_some]
   have e : Ar.ar .add .i64 s r = s + r := add_i64 (by omega) (by omega)
   rw [e]
   obtain ⟨o, k1, v, k2, k3, k4, k5⟩ := range_count hB l (s + r) (by omega) (by omega) fun b hb => hf b (by simp [hb])
   refine ⟨o, k1, v, k2, by omega, by omega, ?_⟩
   rcases k5 with k5 | k5
   ·rcases h4 with h4 | h4
    ·left; omega
    ·right; omega
   ·exact .inr k5
  ·simp only [if_neg hs]
   exact ⟨_, rfl, s, rfl, Int.le_refl _, by omega, .inr (by omega)⟩
end
theorem sum_pres_e : ∀ l : List GExpr, (l.map fun a => a.pre.length).sum = (GExpr.pres l).length
 | [] => rfl
 | a :: l => by simp [GExpr.pres, sum_pres_e l]
theorem mem_bulk_e {x a : GExpr} (h : a ∈ x.Args) : a.bulk < x.bulk := by
 have h1 := (bulks_e x.Args).1 a h
 have h2 := GExpr.bulk_eq x
 omega
theorem len_bulk_e (x : GExpr) : x.Args.length ≤ x.bulk := by
 have h1 := (bulks_e x.Args).2
 have h2 := GExpr.bulk_eq x
 omega
theorem bulk_pos_e (x : GExpr) : 0 < x.bulk := by have := GExpr.bulk_eq x; omega
theorem appL_eq {α : Type} {l m : List α} (h : l.length + m.length ≤ 1073741824) : appL l m = some (l ++ m) := by simp [appL, h]
theorem count_eq {N : Nat} (hN : 40000000 ≤ N) (lim : Int) : ∀ (n : Nat) (x : GExpr), x.bulk ≤ n → x.bulk ≤ 16777216 → ∃ r, ref08_Count N n x lim = some r ∧ Cut lim x.pre.length r := by
 intro n
 induction n with
 | zero => intro x h; have := bulk_pos_e x; omega
 | succ n ih =>
  intro x hx hb
  have hxb := GExpr.bulk_eq x
  have hB := bulks_e x.Args
  have hpb := pres_bulk_e x.Args
  unfold ref08_Count
  rw [loop_list x.Args (by omega) (mk := fun (s : Int) i => (s, i)) (body := fun (s : Int) a => if s ≤ lim then (ref08_Count N n a lim).bind fun r => some (.inl (Ar.ar .add .i64 s r)) else some (.inr s)) (fin := fun s => s) (s := 1) (by omega) ?_ ?_]
  ·obtain ⟨o, k1, v, k2, k3, k4, k5⟩ := range_count (lim := lim) (f := fun a => ref08_Count N n a lim) (cnt := fun a => a.pre.length) (B := 40000000) (by omega) x.Args 1 (by omega) (by rw [sum_pres_e]; omega) fun a ha => ih a (by have := hB.1 a ha; omega) (by have := hB.1 a ha; omega)
   rw [sum_pres_e] at k4 k5
   have hpe : x.pre.length = (GExpr.pres x.Args).length + 1 := by rw [GExpr.pre_eq]; rfl
   simp only [k1, Option.bind_some]
   refine ⟨v, ?_, by omega, by omega, ?_⟩
   ·cases o <;> simp_all
   ·rcases k5 with k5 | k5
    ·left; omega
    ·right; exact k5
  ·intro s i a ha hi
   have e : Ar.ar .add .i64 (i : Int) 1 = i + 1 := add_i64 (by omega) (by omega)
   simp only [cmp_lss, cmp_leq, an_def, len_def, hi, decide_true, Bool.true_and, idx_at, ha, Option.bind_some, e, decide_eq_true_eq]
   split
   ·cases ref08_Count N n a lim <;> rfl
   ·rfl
  ·intro s
   simp [cmp_lss, an_def, len_def]
theorem depth_eq_e {N : Nat} (hN : 40000000 ≤ N) : ∀ (n : Nat) (x : GExpr), x.bulk ≤ n → x.bulk ≤ 16777216 → ref08_Depth N n x = some (x.dep : Int) := by
 intro n
 induction n with
 | zero => intro x h; have := bulk_pos_e x; omega
 | succ n ih =>
  intro x hx hb
  have hl := len_bulk_e x
  unfold ref08_Depth
  rw [loop_list x.Args (by omega) (mk := fun (s : Int) i => (s, i)) (body := fun (s : Int) a => (ref08_Depth N n a).bind fun r => some (.inl (Ar.mx s r))) (fin := fun s => s) (s := 0) (by omega) ?_ ?_]
  ·obtain ⟨s', k1, k2⟩ := range_run (R := Int) (step := fun (s : Int) a => (ref08_Depth N n a).bind fun r => some (.inl (Ar.mx s r))) (fun r s => (∀ a ∈ r, a ∈ x.Args) ∧ 0 ≤ s ∧ max s (GExpr.deps r : Int) = (GExpr.deps x.Args : Int)) (fun a r s ⟨h1, h2, h3⟩ => by
    have hm := mem_bulk_e (h1 a (by simp))
    refine ⟨_, by rw [ih a (by omega) (by omega)]; rfl, fun b hb => h1 b (by simp [hb]), ?_, ?_⟩
    ·rw [mx_def]; split <;> omega
    ·rw [← h3, mx_def]; simp only [GExpr.deps]; split <;> omega) (l := x.Args) (s := 0) ⟨fun a h => h, Int.le_refl _, by omega⟩
   simp only [k1, Option.bind_some]
   have e : s' = (GExpr.deps x.Args : Int) := by have := k2.2.2; simp only [GExpr.deps] at this; omega
   have hd := deps_bulk_e x.Args
   have hd2 := GExpr.bulk_eq x
   rw [e, add_i64 (by omega) (by omega), GExpr.dep_eq]
   rfl
  ·intro s i a ha hi
   have e : Ar.ar .add .i64 (i : Int) 1 = i + 1 := add_i64 (by omega) (by omega)
   simp only [cmp_lss, len_def, hi, decide_true, if_true, idx_at, ha, Option.bind_some, e]
   cases ref08_Depth N n a <;> rfl
  ·intro s; simp [cmp_lss, len_def]
theorem size_eq_e {N : Nat} (hN : 40000000 ≤ N) : ∀ (n : Nat) (x : GExpr), x.bulk ≤ n → x.bulk ≤ 16777216 → expr_Size N n x = some ((x.pre.length : Int), (x.dep : Int)) := by
 intro n
 induction n with
 | zero => intro x h; have := bulk_pos_e x; omega
 | succ n ih =>
  intro x hx hb
  have hl := len_bulk_e x
  unfold expr_Size
  rw [loop_list x.Args (by omega) (mk := fun (s : Int × Int) i => (s.1, s.2, i)) (body := fun (s : Int × Int) a => (expr_Size N n a).bind fun r => some (.inl (Ar.ar .add .i64 s.1 r.1, Ar.mx s.2 r.2))) (fin := fun s => s) (s := (1, 0)) (by omega) ?_ ?_]
  ·have hp := pres_bulk_e x.Args
   have hd := deps_bulk_e x.Args
   have hbe := GExpr.bulk_eq x
   obtain ⟨s', k1, k2⟩ := range_run (R := Int × Int) (step := fun (s : Int × Int) a => (expr_Size N n a).bind fun r => some (.inl (Ar.ar .add .i64 s.1 r.1, Ar.mx s.2 r.2))) (fun r s => (∀ a ∈ r, a ∈ x.Args) ∧ 0 ≤ s.2 ∧ 0 ≤ s.1 ∧ s.1 + (GExpr.pres r).length = (GExpr.pres x.Args).length + 1 ∧ max s.2 (GExpr.deps r : Int) = (GExpr.deps x.Args : Int)) (fun a r s ⟨h1, h2, h3, h4, h5⟩ => by
    have hm := mem_bulk_e (h1 a (by simp))
    simp only [GExpr.pres, List.length_append, GExpr.deps] at h4 h5
    refine ⟨_, by rw [ih a (by omega) (by omega)]; rfl, fun b hb => h1 b (by simp [hb]), ?_, ?_, ?_, ?_⟩
    ·simp only [mx_def]; split <;> omega
    ·rw [add_i64 (by omega) (by omega)]; omega
    ·rw [add_i64 (by omega) (by omega)]; omega
    ·rw [← h5]; simp only [mx_def]; split <;> omega) (l := x.Args) (s := (1, 0)) ⟨fun a h => h, by simp, by simp, by simp only; omega, by simp only; omega⟩
   simp only [k1, Option.bind_some]
   obtain ⟨_, _, _, e1, e2⟩ := k2
   simp only [GExpr.pres, List.length_nil, GExpr.deps] at e1 e2
   have e3 : s'.1 = (x.pre.length : Int) := by rw [GExpr.pre_eq]; simp only [List.length_cons]; omega
   have e4 : s'.2 = (GExpr.deps x.Args : Int) := by omega
   rw [e3, e4, add_i64 (by omega) (by omega), GExpr.dep_eq]
   rfl
  ·intro s i a ha hi
   have e : Ar.ar .add .i64 (i : Int) 1 = i + 1 := add_i64 (by omega) (by omega)
   simp only [cmp_lss, len_def, hi, decide_true, if_true, idx_at, ha, Option.bind_some, e]
   cases expr_Size N n a <;> rfl
  ·intro s; simp [cmp_lss, len_def]
theorem bad_pres {f : GExpr → Int} : ∀ l : List GExpr, bad1 (fun a => bad1 f a.pre) l = bad1 f (GExpr.pres l)
 | [] => rfl
 | a :: l => by rw [GExpr.pres, bad1_append, bad1, bad_pres l]
theorem sub_pres {a y : GExpr} (hy : y ∈ a.pre) : ∀ l : List GExpr, a ∈ l → y ∈ GExpr.pres l
 | [], h => by simp at h
 | b :: l, h => by
  rcases List.mem_cons.1 h with rfl | h
  ·simp [GExpr.pres, hy]
  ·simp [GExpr.pres, sub_pres hy l h]
theorem visit_eq {N : Nat} (hN : 40000000 ≤ N) {F : GExpr → Option Int} {f : GExpr → Int} : ∀ (n : Nat) (x : GExpr), x.bulk ≤ n → x.bulk ≤ 16777216 → (∀ y ∈ x.pre, F y = some (f y)) → expr_visit N n x F = some (bad1 f x.pre) := by
 intro n
 induction n with
 | zero => intro x h; have := bulk_pos_e x; omega
 | succ n ih =>
  intro x hx hb hF
  have hl := len_bulk_e x
  have hpe := GExpr.pre_eq x
  unfold expr_visit
  rw [hF x (by rw [hpe]; simp)]
  simp only [Option.bind_some, cmp_neq]
  rw [hpe, bad1]
  by_cases hz : f x = 0
  ·simp only [hz, decide_true, Bool.not_true, Bool.false_eq_true, if_false, if_true]
   rw [loop_list x.Args (by omega) (mk := fun (_ : Unit) i => i) (body := stepBad fun a => expr_visit N n a F) (fin := fun _ => .inl ()) (s := ()) (by omega) ?_ ?_]
   ·rw [range_stepBad (f := fun a => bad1 f a.pre) fun a ha => ih a (by have := mem_bulk_e ha; omega) (by have := mem_bulk_e ha; omega) fun y hy => hF y (by rw [hpe]; exact List.mem_cons_of_mem _ (sub_pres hy _ ha)), bad_pres]
    by_cases hz3 : bad1 f (GExpr.pres x.Args) = 0
    ·simp [hz3]
    ·simp [hz3]
   ·intro s i a ha hi
    have e : Ar.ar .add .i64 (i : Int) 1 = i + 1 := add_i64 (by omega) (by omega)
    simp only [cmp_lss, len_def, hi, decide_true, if_true, idx_at, ha, Option.bind_some, e, stepBad, cmp_neq]
    cases expr_visit N n a F with
    | none => rfl
    | some r => by_cases h : r = 0 <;> simp [h]
   ·intro s; simp [cmp_lss, len_def]
  ·simp [hz]
theorem toList_inj {a b : ByteArray} : a.toList = b.toList ↔ a = b := by
 rw [ByteArray.toList_eq, ByteArray.toList_eq]
 constructor
 ·intro h
  obtain ⟨⟨a⟩⟩ := a
  obtain ⟨⟨b⟩⟩ := b
  simp at h
  subst h; rfl
 ·intro h; rw [h]
theorem scmp_neq (a b : ByteArray) : Ar.scmp .neq a b = !decide (a = b) := by
 show (!(a.toList == b.toList)) = _
 by_cases h : a = b
 ·subst h; simp
 ·have : a.toList ≠ b.toList := fun e => h (toList_inj.1 e)
  simp [h, this]
theorem scmp_eql (a b : ByteArray) : Ar.scmp .eql a b = decide (a = b) := by
 show (a.toList == b.toList) = _
 by_cases h : a = b
 ·subst h; simp
 ·have : a.toList ≠ b.toList := fun e => h (toList_inj.1 e)
  simp [h, this]
theorem arity8 (N : Nat) (op : Int) : expr_arity N op = some (if op < 0 ∨ 12 < op then (0, false) else if op < 5 then (0, true) else if op = 12 then (1, true) else (2, true)) := by
 unfold expr_arity
 simp only [cmp_lss, cmp_gtr, cmp_eql, or_def, Bool.or_eq_true, decide_eq_true_eq]
 split
 ·rfl
 ·split
  ·rfl
  ·split <;> rfl
theorem uses8 (N : Nat) (op : Int) : expr_uses N op = some (decide (op = 1 ∨ op = 2 ∨ op = 3 ∨ op = 4), decide (op = 1 ∨ op = 4)) := by
 unfold expr_uses
 simp only [cmp_eql, decide_eq_true_eq]
 by_cases h1 : op = 1
 ·simp [h1]
 ·by_cases h4 : op = 4
  ·simp [h4]
  ·by_cases h2 : op = 2
   ·simp [h2]
   ·by_cases h3 : op = 3 <;> simp [h1, h2, h3, h4]
def valBad (v : GValue) : Int :=
 if v.Kind = 0 ∨ v.Kind = 1 then
  if v.Text ≠ ⟨#[]⟩ then 3
  else if v.Kind = 0 ∧ (v.Num < -1099511627776 ∨ 1099511627776 < v.Num) ∨ v.Kind = 1 ∧ v.Num ≠ 0 ∧ v.Num ≠ 1 then 2 else 0
 else if v.Kind = 2 then (if v.Num ≠ 0 then 3 else if 64 < (v.Text.size : Int) then 13 else 0) else 1
theorem value_eq (N : Nat) (v : GValue) : value_Check N v = some (valBad v) := by
 obtain ⟨k, n, t⟩ := v
 unfold value_Check value_size valBad
 simp only [cmp_eql, cmp_neq, cmp_lss, cmp_gtr, an_def, or_def, scmp_neq, slen_def]
 by_cases h0 : k = 0
 ·subst h0
  by_cases ht : t = ⟨#[]⟩
  ·subst ht
   by_cases h1 : n < -1099511627776 ∨ 1099511627776 < n
   ·simp [h1]
   ·simp [h1]; decide
  ·simp [ht]
 ·by_cases h1 : k = 1
  ·subst h1
   by_cases ht : t = ⟨#[]⟩
   ·subst ht
    by_cases h2 : n = 0
    ·simp [h2]; decide
    ·by_cases h3 : n = 1
     ·simp [h3]; decide
     ·simp [h2, h3]
   ·simp [ht]
  ·by_cases h2 : k = 2
   ·subst h2
    by_cases hn : n = 0
    ·simp [hn]; split <;> rfl
    ·simp [hn]
   ·simp [h0, h1, h2]
theorem suits_eq (N : Nat) (k : Int) (v : GValue) : expr_suits N k v = some (decide (v.Kind = 0 ∨ k = 4 ∨ k = 5)) := by
 unfold expr_suits
 simp only [cmp_eql, or_def]
 by_cases h1 : v.Kind = 0 <;> by_cases h2 : k = 4 <;> by_cases h3 : k = 5 <;> simp [h1, h2, h3]
def usesV (op : Int) : Bool := decide (op = 1 ∨ op = 2 ∨ op = 3 ∨ op = 4)
def usesF (op : Int) : Bool := decide (op = 1 ∨ op = 4)
noncomputable def outB (x : GExpr) : Bool := Ar.or (Ar.an (usesV x.Op) (Ar.or (Ar.cmp .lss x.Var 0) (Ar.cmp .geq x.Var 16))) (Ar.an (usesF x.Op) (Ar.or (Ar.cmp .lss x.Field 0) (Ar.cmp .geq x.Field 8)))
noncomputable def kindB (x : GExpr) : Bool := Ar.an (Ar.cmp .eql x.Op 4) (Ar.or (Ar.cmp .lss x.Kind 1) (Ar.cmp .gtr x.Kind 5))
noncomputable def zeroV (v : GValue) : Bool := Ar.an (Ar.cmp .eql v.Kind 0) (Ar.an (Ar.cmp .eql v.Num 0) (Ar.an (Ar.scmp .eql v.Text (⟨#[]⟩)) true))
noncomputable def suitB (x : GExpr) : Bool := Ar.or (Ar.nt (decide (x.Value.Kind = 0 ∨ x.Kind = 4 ∨ x.Kind = 5))) (Ar.an (Ar.cmp .eql x.Kind 1) (Ar.nt (zeroV x.Value)))
noncomputable def junkB (x : GExpr) : Bool := Ar.or (Ar.or (Ar.or (Ar.an (Ar.nt (usesV x.Op)) (Ar.cmp .neq x.Var 0)) (Ar.an (Ar.nt (usesF x.Op)) (Ar.cmp .neq x.Field 0))) (Ar.an (Ar.nt (Ar.cmp .eql x.Op 4)) (Ar.cmp .neq x.Kind 0))) (Ar.an (Ar.nt (Ar.or (Ar.cmp .eql x.Op 4) (Ar.cmp .eql x.Op 0))) (Ar.nt (zeroV x.Value)))
noncomputable def exprBad (x : GExpr) : Int :=
 if x.Op < 0 ∨ 12 < x.Op then 1
 else if (x.Args.length : Int) ≠ (if x.Op < 5 then 0 else if x.Op = 12 then 1 else 2) then 15
 else if outB x = true then 2
 else if kindB x = true then 1
 else if (x.Op = 4 ∨ x.Op = 0) ∧ valBad x.Value ≠ 0 then valBad x.Value
 else if x.Op = 4 ∧ suitB x = true then 9
 else if junkB x = true then 3 else 0
theorem node_eq8 (N : Nat) (x : GExpr) : expr_node N x = some (exprBad x) := by
 unfold expr_node exprBad
 rw [arity8, uses8]
 simp only [Option.bind_some]
 by_cases h0 : x.Op < 0 ∨ 12 < x.Op
 ·rw [if_pos h0, if_pos h0]; rfl
 rw [if_neg h0, if_neg h0]
 have ha : (if x.Op < 5 then ((0 : Int), true) else if x.Op = 12 then (1, true) else (2, true)) = ((if x.Op < 5 then 0 else if x.Op = 12 then 1 else 2), true) := by
  split
  ·rfl
  ·split <;> rfl
 rw [ha]
 rw [if_neg (by simp [nt_def])]
 by_cases h1 : (x.Args.length : Int) ≠ (if x.Op < 5 then 0 else if x.Op = 12 then 1 else 2)
 ·rw [if_pos h1, if_pos (by simp [cmp_neq, len_def, h1])]
 rw [if_neg h1, if_neg (by simp only [cmp_neq, len_def]; simpa using h1)]
 change (if outB x = true then some 2 else _) = _
 by_cases h2 : outB x = true
 ·rw [if_pos h2, if_pos h2]
 rw [if_neg h2, if_neg h2]
 change (if kindB x = true then some 1 else _) = _
 by_cases h3 : kindB x = true
 ·rw [if_pos h3, if_pos h3]
 rw [if_neg h3, if_neg h3]
 unfold expr_constants
 rw [value_eq]
 have e4 : (Ar.or (Ar.cmp .eql x.Op 4) (Ar.cmp .eql x.Op 0) = true) ↔ (x.Op = 4 ∨ x.Op = 0) := by simp [cmp_eql, or_def]
 have e6 : (Ar.cmp .eql x.Op 4 = true) ↔ x.Op = 4 := by simp [cmp_eql]
 by_cases h4 : x.Op = 4 ∨ x.Op = 0
 ·rw [if_pos (e4.2 h4)]
  simp only [Option.bind_some]
  by_cases h5 : valBad x.Value = 0
  ·have n5 : ¬ (Ar.cmp .neq (valBad x.Value) 0 = true) := by simp [cmp_neq, h5]
   have n5' : ¬ ((x.Op = 4 ∨ x.Op = 0) ∧ valBad x.Value ≠ 0) := fun h => h.2 h5
   rw [if_neg n5, if_neg n5']
   by_cases h6 : x.Op = 4
   ·rw [if_pos (e6.2 h6), suits_eq]
    simp only [Option.bind_some]
    change (((if suitB x = true then some 9 else some 0) : Option Int).bind _ ).bind _ = _
    by_cases h7 : suitB x = true
    ·rw [if_pos h7, if_pos (show x.Op = 4 ∧ suitB x = true from ⟨h6, h7⟩)]; rfl
    ·rw [if_neg h7, if_neg (show ¬ (x.Op = 4 ∧ suitB x = true) from fun h => h7 h.2)]
     change (if junkB x = true then some 3 else some 0) = _
     by_cases h8 : junkB x = true
     ·rw [if_pos h8, if_pos h8]
     ·rw [if_neg h8, if_neg h8]
   ·rw [if_neg (show ¬ (Ar.cmp .eql x.Op 4 = true) from fun h => h6 (e6.1 h)), if_neg (show ¬ (x.Op = 4 ∧ suitB x = true) from fun h => h6 h.1)]
    change (if junkB x = true then some 3 else some 0) = _
    by_cases h8 : junkB x = true
    ·rw [if_pos h8, if_pos h8]
    ·rw [if_neg h8, if_neg h8]
  ·have n5 : Ar.cmp .neq (valBad x.Value) 0 = true := by simp [cmp_neq, h5]
   rw [if_pos n5, if_pos (show (x.Op = 4 ∨ x.Op = 0) ∧ valBad x.Value ≠ 0 from ⟨h4, h5⟩)]
   simp only [Option.bind_some]
   rw [if_pos n5]
   rfl
 ·rw [if_neg (show ¬ (Ar.or (Ar.cmp .eql x.Op 4) (Ar.cmp .eql x.Op 0) = true) from fun h => h4 (e4.1 h)), if_neg (show ¬ ((x.Op = 4 ∨ x.Op = 0) ∧ valBad x.Value ≠ 0) from fun h => h4 h.1)]
  have h6 : ¬ x.Op = 4 := fun e => h4 (.inl e)
  rw [if_neg (show ¬ (x.Op = 4 ∧ suitB x = true) from fun h => h6 h.1)]
  change (if junkB x = true then some 3 else some 0) = _
  by_cases h8 : junkB x = true
  ·rw [if_pos h8, if_pos h8]
  ·rw [if_neg h8, if_neg h8]
theorem gt_true {a b : Int} (h : b < a) : Ar.cmp .gtr a b = true := by rw [cmp_gtr]; exact decide_eq_true h
theorem gt_false {a b : Int} (h : ¬ b < a) : ¬ (Ar.cmp .gtr a b = true) := by rw [cmp_gtr]; simpa using h
theorem ne_true {a b : Int} (h : a ≠ b) : Ar.cmp .neq a b = true := by rw [cmp_neq]; simpa using h
theorem ne_false {a b : Int} (h : a = b) : ¬ (Ar.cmp .neq a b = true) := by rw [cmp_neq]; simpa using h
noncomputable def exprCheck (x : GExpr) : Int := if 64 < x.pre.length then 5 else if 12 < x.dep then 12 else bad1 exprBad x.pre
theorem check_eq8 {N : Nat} (hN : 40000000 ≤ N) {x : GExpr} (hb : x.bulk ≤ 16777216) : expr_Check N x = some (exprCheck x) := by
 unfold expr_Check exprCheck
 rw [size_eq_e hN N x (by omega) hb]
 simp only [Option.bind_some]
 by_cases h1 : 64 < x.pre.length
 ·rw [if_pos h1, if_pos (gt_true (by omega))]
 ·rw [if_neg h1, if_neg (gt_false (by omega))]
  by_cases h2 : 12 < x.dep
  ·rw [if_pos h2, if_pos (gt_true (by omega))]
  ·rw [if_neg h2, if_neg (gt_false (by omega)), visit_eq hN N x (by omega) hb fun y _ => node_eq8 N y]
   rfl
end Go.Ab

