/- GSV4 GSA1 GSA2 GSA3 GSA4 -/
import Derived.Test.YtbjdkpckplopdaaGreatT40
import Derived.Test.YtbjdkpckplopdaaGreatT43
set_option linter.all false

namespace Go.Ab
noncomputable section
open Classical
theorem keepE_len (n : Nat) (b : Bool) (e : GEvent) : (keepE n b e).Values.length = e.Values.length := by simp [keepE]
theorem keepE_get {n k : Nat} (hn : n < 512) (hk : k < 8) (ht : n.testBit k = true) (b : Bool) (e : GEvent) : (keepE n b e).Values.getD k zVal = e.Values.getD k zVal := by
 have hb := (bit_test hn hk).2 ht
 unfold keepE
 simp only [List.getD_eq_getElem?_getD, List.getElem?_map, List.getElem?_zipIdx, Nat.zero_add]
 cases e.Values[k]? with
 | none => rfl
 | some v =>
  simp only [Option.map_some, Option.getD_some]
  exact if_pos ⟨hk, hb⟩
theorem row_nil (p : Nat × Nat) : keptRow p [] = [] := by
 unfold keptRow
 split <;> rfl
theorem row_getLast {p : Nat × Nat} (h0 : p ≠ (0, 0)) (l : List GEvent) : (keptRow p l).getLast? = l.getLast?.map (keepE (if p.2 = 0 then p.1 else p.2 ||| p.1) (timeB p.1)) := by
 rcases List.eq_nil_or_concat l with rfl | ⟨q, x, rfl⟩
 ·rw [row_nil]; rfl
 ·rw [List.concat_eq_append]
  by_cases h2 : p.2 = 0
  ·rw [row_last h0 h2, if_pos h2]; simp
  ·rw [row_all h2, if_neg h2, List.zipIdx_append]
   simp
theorem readP_keep {n : Nat} (hn : n < 512) (b : Bool) {x : GExpr} (e : GEvent) (hop : x.Op = 1 ∨ x.Op = 2) (h1 : x.Op = 1 → 0 ≤ x.Field ∧ x.Field < 8 ∧ n.testBit x.Field.toNat = true) (h2 : x.Op = 2 → b = true) : readP (keepE n b e) x = readP e x := by
 unfold readP
 by_cases ho : x.Op = 2
 ·rw [if_pos ho, if_pos ho]
  simp [keepE, h2 ho]
 ·rw [if_neg ho, if_neg ho]
  obtain ⟨a, b', c⟩ := h1 (by omega)
  have : fieldP (keepE n b e) x.Field = fieldP e x.Field := by
   unfold fieldP
   rw [keepE_len, keepE_get hn (by omega) c]
  rw [this]
theorem totalP_keep {x : GExpr} (hf : 0 ≤ x.Field ∧ x.Field < 8) {l m : List GEvent} (hl : m.length = l.length) (h : ∀ (i : Nat) e, l[i]? = some e → ∃ n b, n < 512 ∧ n.testBit x.Field.toNat = true ∧ m[i]? = some (keepE n b e)) : totalP m x = totalP l x := by
 have e1 : (m.map fun e => e.Values.getD x.Field.toNat zVal) = l.map fun e => e.Values.getD x.Field.toNat zVal := by
  apply List.ext_getElem? ; intro i
  rw [List.getElem?_map, List.getElem?_map]
  cases he : l[i]? with
  | none => rw [List.getElem?_eq_none (by rw [hl]; exact List.getElem?_eq_none_iff.1 he)]
            try rfl
  | some e =>
   obtain ⟨n, b, hn, ht, hm⟩ := h i e he
   rw [hm]
   simp only [Option.map_some, Option.some.injEq]
   exact keepE_get hn (by omega) ht b e
 have e2 : (m.map fun e => decide (x.Field < (e.Values.length : Int))) = l.map fun e => decide (x.Field < (e.Values.length : Int)) := by
  apply List.ext_getElem? ; intro i
  rw [List.getElem?_map, List.getElem?_map]
  cases he : l[i]? with
  | none => rw [List.getElem?_eq_none (by rw [hl]; exact List.getElem?_eq_none_iff.1 he)]
            try rfl
  | some e =>
   obtain ⟨n, b, hn, ht, hm⟩ := h i e he
   rw [hm]
   simp only [Option.map_some, keepE_len]
 have e3 : (m.all fun e => decide (x.Field < (e.Values.length : Int))) = l.all fun e => decide (x.Field < (e.Values.length : Int)) := by
  have : ∀ q : List GEvent, (q.all fun e => decide (x.Field < (e.Values.length : Int))) = (q.map fun e => decide (x.Field < (e.Values.length : Int))).all id := fun q => by simp [List.all_map]
  rw [this, this, e2]
 unfold totalP
 rw [e1, e3]
theorem evs_kept (f : NF) (env : GEnv) (v : Int) : evsP (keptP f env) v = keptRow (f v) (evsP env v) := by
 have hl : (keptP f env).Vars.length = env.Vars.length := by simp [keptP]
 unfold evsP
 rw [hl]
 by_cases h : v < 0 ∨ (env.Vars.length : Int) ≤ v
 ·rw [if_pos h, if_pos h, row_nil]
 ·rw [if_neg h, if_neg h]
  have hi : v.toNat < env.Vars.length := by omega
  have hv : ((v.toNat : Nat) : Int) = v := by omega
  simp only [keptP, List.getD_eq_getElem?_getD, List.getElem?_map, List.getElem?_zipIdx, List.getElem?_eq_getElem hi, Option.map_some, Option.getD_some, Nat.zero_add, hv]
theorem leaf_kept {f : NF} (fo : f.ok) (env : GEnv) (own : Int) (ev : GEvent) {y : GExpr} (hy : NodeOk y) (hop : 0 ≤ y.Op ∧ y.Op < 5) (hf : bor (f y.Var) (nodeP own y) = f y.Var) : leafP (keptP f env) own ev y = leafP env own ev y := by
 have h1 : (nodeP own y).1 ||| (f y.Var).1 = (f y.Var).1 := by rw [Nat.or_comm]; exact congrArg Prod.fst hf
 have h2 : (nodeP own y).2 ||| (f y.Var).2 = (f y.Var).2 := by rw [Nat.or_comm]; exact congrArg Prod.snd hf
 obtain ⟨o1, o2⟩ := fo y.Var
 unfold leafP
 rw [evs_kept]
 generalize f y.Var = p at h1 h2 o1 o2
 generalize evsP env y.Var = l
 by_cases c0 : y.Op = 0
 ·rw [if_pos c0, if_pos c0]
 rw [if_neg c0, if_neg c0]
 by_cases c3 : y.Op = 3
 ·rw [if_pos c3, if_pos c3]
  have hn : (nodeP own y).2 = 256 := by unfold nodeP allP; simp [c3]
  rw [hn] at h2
  have hp : p.2 ≠ 0 := by intro e; rw [e] at h2; cases h2
  rw [row_all hp]; simp
 rw [if_neg c3, if_neg c3]
 by_cases c4 : y.Op = 4
 ·rw [if_pos c4, if_pos c4]
  have hfl := hy.field (.inr c4)
  have hn : (nodeP own y).2 = 2 ^ y.Field.toNat := by unfold nodeP allP; simp [c4]
  rw [hn] at h2
  have ht : p.2.testBit y.Field.toNat = true := test_le h2 (by simp)
  have hp : p.2 ≠ 0 := by intro e; rw [e] at ht; simp at ht
  rw [row_all hp]
  refine totalP_keep hfl (by simp) fun i e he => ?_
  simp only [List.getElem?_map, List.getElem?_zipIdx, he, Option.map_some, Nat.zero_add]
  by_cases hl : i + 1 = l.length
  ·exact ⟨p.2 ||| p.1, timeB p.1, or_lt o2 o1, by rw [Nat.testBit_or, ht]; rfl, by rw [if_pos hl]⟩
  ·exact ⟨p.2, false, o2, ht, by rw [if_neg hl]⟩
 rw [if_neg c4, if_neg c4]
 unfold lastP'
 by_cases hv : y.Var = own
 ·rw [if_neg (by simpa using hv), if_neg (by simpa using hv)]
 ·rw [if_pos hv, if_pos hv]
  have hn : (nodeP own y).1 = lastP y := by unfold nodeP; simp [hv]
  rw [hn] at h1
  have hop2 : y.Op = 1 ∨ y.Op = 2 := by omega
  have hp1 : p.1 ≠ 0 := by
   intro e
   rw [e] at h1
   unfold lastP at h1
   rcases hop2 with h | h
   ·rw [if_pos h] at h1
    have := Nat.two_pow_pos y.Field.toNat
    simp at h1
   ·rw [if_neg (by omega), if_pos h] at h1; cases h1
  rw [row_getLast (fun e => hp1 (by rw [e]))]
  cases l.getLast? with
  | none => rfl
  | some x =>
   simp only [Option.map_some]
   have hle : ∀ i, p.1.testBit i = true → (if p.2 = 0 then p.1 else p.2 ||| p.1).testBit i = true := fun i hi => by
    split
    ·exact hi
    ·rw [Nat.testBit_or, hi]; simp
   refine readP_keep (by split; exact o1; exact or_lt o2 o1) _ x hop2 (fun h => ?_) fun h => ?_
   ·have hfl := hy.field (.inl h)
    refine ⟨hfl.1, hfl.2, hle _ (test_le h1 ?_)⟩
    unfold lastP
    rw [if_pos h]; simp
   ·rw [time_test o1]
    refine test_le h1 ?_
    unfold lastP
    rw [if_neg (by omega), if_pos h]; rfl
mutual
theorem exprF_le (own : Int) : ∀ x : GExpr, ∀ y ∈ x.pre, (exprF own x).join (nodeF own y) = exprF own x
 | ⟨op, args, var, field, kind, val⟩, y, hy => by
  rw [exprF_eq]
  rw [GExpr.pre_eq] at hy
  rcases List.mem_cons.1 hy with rfl | hy
  ·rw [NF.join_comm, ← NF.join_assoc, NF.join_self]
  ·rw [NF.join_assoc, exprsF_le own args y hy]
theorem exprsF_le (own : Int) : ∀ l : List GExpr, ∀ y ∈ GExpr.pres l, (exprsF own l).join (nodeF own y) = exprsF own l
 | [], y, hy => by simp [GExpr.pres] at hy
 | a :: l, y, hy => by
  simp only [GExpr.pres, List.mem_append] at hy
  simp only [exprsF]
  rcases hy with hy | hy
  ·rw [NF.join_comm (exprF own a), NF.join_assoc, exprF_le own a y hy]
  ·rw [NF.join_assoc, exprsF_le own l y hy]
end
theorem eval_kept {f : NF} (fo : f.ok) (env : GEnv) (own : Int) (ev : GEvent) {x : GExpr} (hf : f.join (exprF own x) = f) : evalA (keptP f env) own ev x = evalA env own ev x := by
 unfold evalA
 by_cases h : exprCheck x = 0
 ·rw [if_pos h, if_pos h]
  obtain ⟨_, _, h3⟩ := exprCheck_ok h
  refine evalP_congr x fun y hy ha => ?_
  have hb := exprCheck_bad h y hy
  refine leaf_kept fo env own ev (h3 y hy) ?_ ?_
  ·have := bad_arity hb
   rw [ha] at this
   simp only [List.length_nil] at this
   obtain ⟨q1, q2, q3⟩ := this
   by_cases h5 : y.Op < 5
   ·exact ⟨q1, h5⟩
   ·rw [if_neg h5] at q3
    split at q3 <;> omega
  ·have e1 : f.join (nodeF own y) = f := by
    rw [← hf, NF.join_assoc, exprF_le own x y hy]
   have := congrFun e1 y.Var
   simpa [NF.join, nodeF, NF.one] using this
 ·rw [if_neg h, if_neg h]
theorem rows_few {env : GEnv} (h : fewE env = true) : rowsE env := by
 obtain ⟨h1, h2⟩ := fewE_small h
 exact ⟨h1, fun l hl => (h2 l hl).1⟩
theorem idx_pos {α : Type} {l : List α} {v : Int} (h0 : 0 ≤ v) (h : v.toNat < l.length) : idxL l v = some l[v.toNat] := by
 obtain ⟨n, rfl⟩ := Int.eq_ofNat_of_zero_le h0
 rw [idx_at, List.getElem?_eq_getElem (by simpa using h)]; rfl
end
end Go.Ab

namespace Go.Ab
noncomputable section
theorem range_badI {α A : Type} {F : α → Int} {body : Unit → α → Option (Unit ⊕ (A ⊕ Int))} : ∀ {l : List α}, (∀ x ∈ l, body () x = some (if F x = 0 then .inl () else .inr (.inr (F x)))) → rangeL body l () = some (if bad1 F l = 0 then .inl () else .inr (.inr (bad1 F l)))
 | [], _ => rfl
 | x :: l, h => by
  unfold rangeL
  rw [h x (by simp)]
  unfold bad1
  by_cases hx : F x = 0
  ·rw [if_pos hx, if_pos hx]
   exact range_badI fun y hy => h y (by simp [hy])
  ·rw [if_neg hx, if_neg hx, if_neg hx]
theorem loop_badI {α A : Type} {N : Nat} (hN : 40000000 ≤ N) (l : List α) (hl : l.length < 1000000) {u : A} {step : Int → Option (Int ⊕ (A ⊕ Int))} {F : α × Nat → Int}
 (hstep : ∀ (i : Nat) x, l[i]? = some x → (i : Int) < l.length → step i = some (if F (x, i) = 0 then .inl ((i : Int) + 1) else .inr (.inr (F (x, i)))))
 (hend : step (l.length : Int) = some (.inr (.inl u))) : loopN step N 0 = some (if bad1 F l.zipIdx = 0 then .inl u else .inr (bad1 F l.zipIdx)) := by
 rw [loop_idx l (by omega) (fun (_ : Unit) i => i) (fun _ q => some (if F q = 0 then .inl () else .inr (.inr (F q)))) (fun _ => .inl u) () (by omega) ?_ (fun _ => hend)]
 ·rw [range_badI (F := F) (fun x _ => rfl)]
  by_cases h : bad1 F l.zipIdx = 0
  ·rw [if_pos h, if_pos h]; rfl
  ·rw [if_neg h, if_neg h]; rfl
 ·intro s i x hx hi
  rw [hstep i x hx hi]
  by_cases h : F (x, i) = 0
  ·rw [if_pos h, if_pos h]; rfl
  ·rw [if_neg h, if_neg h]; rfl
theorem bad1_zipIdx {α : Type} {F : α → Int} (l : List α) : bad1 (fun q : α × Nat => F q.1) l.zipIdx = bad1 F l := by
 have : ∀ (l : List α) (k : Nat), bad1 (fun q : α × Nat => F q.1) (l.zipIdx k) = bad1 F l := fun l => by
  induction l with
  | nil => intro k; rfl
  | cons x l ih =>
   intro k
   rw [List.zipIdx_cons]
   unfold bad1
   rw [ih]
 exact this l 0
theorem loop_bad {α A : Type} {N : Nat} (hN : 40000000 ≤ N) (l : List α) (hl : l.length < 1000000) {u : A} {step : Int → Option (Int ⊕ (A ⊕ Int))} {F : α → Int}
 (hstep : ∀ (i : Nat) x, l[i]? = some x → (i : Int) < l.length → x ∈ l → step i = some (if F x = 0 then .inl ((i : Int) + 1) else .inr (.inr (F x))))
 (hend : step (l.length : Int) = some (.inr (.inl u))) : loopN step N 0 = some (if bad1 F l = 0 then .inl u else .inr (bad1 F l)) := by
 rw [loop_badI hN l hl (F := fun q : α × Nat => F q.1) (fun i x hx hi => hstep i x hx hi (List.mem_of_getElem? hx)) hend, bad1_zipIdx]
theorem range_any {α R : Type} {p : α → Bool} {r : R} {body : Unit → α → Option (Unit ⊕ R)} : ∀ {l : List α}, (∀ x ∈ l, body () x = some (if p x = true then .inr r else .inl ())) → rangeL body l () = some (if l.any p = true then .inr r else .inl ())
 | [], _ => rfl
 | x :: l, h => by
  unfold rangeL
  rw [h x (by simp), List.any_cons]
  by_cases hx : p x = true
  ·rw [if_pos hx, hx]; rfl
  ·rw [if_neg hx]
   rw [Bool.not_eq_true] at hx
   rw [hx, Bool.false_or]
   exact range_any fun y hy => h y (by simp [hy])
theorem loop_anyT {α A B : Type} {N : Nat} (hN : 40000000 ≤ N) (l : List α) {k : Nat} (hk : k ≤ l.length) (hl : l.length < 1000000) {u : A} {w : B} {step : Int → Option (Int ⊕ (A ⊕ B))} {p : α → Bool}
 (hstep : ∀ (i : Nat) x, l[i]? = some x → i < k → step i = some (if p x = true then .inr (.inr w) else .inl ((i : Int) + 1)))
 (hend : step (k : Int) = some (.inr (.inl u))) : loopN step N 0 = some (if (l.take k).any p = true then .inr w else .inl u) := by
 have hlen : (l.take k).length = k := by rw [List.length_take]; omega
 rw [loop_list (l.take k) (by omega) (fun (_ : Unit) i => i) (fun _ x => some (if p x = true then .inr (.inr w) else .inl ())) (fun _ => .inl u) () (by omega) ?_ (fun _ => by rw [hlen]; exact hend)]
 ·rw [range_any (p := p) (r := .inr w) (fun x _ => rfl)]
  by_cases h : (l.take k).any p = true
  ·rw [if_pos h, if_pos h]; rfl
  ·rw [if_neg h, if_neg h]; rfl
 ·intro s i x hx hi
  have hik : i < k := by omega
  rw [List.getElem?_take_of_lt hik] at hx
  rw [hstep i x hx hik]
  by_cases h : p x = true
  ·rw [if_pos h, if_pos h]; rfl
  ·rw [if_neg h, if_neg h]; rfl
theorem loop_index {α : Type} {N : Nat} (hN : 40000000 ≤ N) (l : List α) (hl : l.length < 1000000) {step : Int → Option (Int ⊕ (Unit ⊕ Int))} {p : α → Bool}
 (hstep : ∀ (i : Nat) x, l[i]? = some x → (i : Int) < l.length → step i = some (if p x = true then .inr (.inr (i : Int)) else .inl ((i : Int) + 1)))
 (hend : step (l.length : Int) = some (.inr (.inl ()))) : ∃ o, loopN step N 0 = some o ∧ ((l.any p = false ∧ o = .inl ()) ∨ (l.any p = true ∧ ∃ i : Nat, o = .inr (i : Int))) := by
 have key : ∀ (l : List α) (k : Nat), ∃ o, rangeL (R := Unit ⊕ Int) (fun (_ : Unit) (q : α × Nat) => some (if p q.1 = true then .inr (.inr (q.2 : Int)) else .inl ())) (l.zipIdx k) () = some o ∧ ((l.any p = false ∧ o = .inl ()) ∨ (l.any p = true ∧ ∃ i : Nat, o = .inr (.inr (i : Int)))) := fun l => by
  induction l with
  | nil => intro k; exact ⟨_, rfl, .inl ⟨rfl, rfl⟩⟩
  | cons x l ih =>
   intro k
   rw [List.zipIdx_cons, List.any_cons]
   unfold rangeL
   by_cases hx : p x = true
   ·simp only [hx, if_true]
    exact ⟨_, rfl, .inr ⟨rfl, k, rfl⟩⟩
   ·rw [Bool.not_eq_true] at hx
    simp only [hx, Bool.false_or]
    exact ih (k + 1)
 obtain ⟨o, h1, h2⟩ := key l 0
 rw [loop_idx l (by omega) (fun (_ : Unit) i => i) (fun _ q => some (if p q.1 = true then .inr (.inr (q.2 : Int)) else .inl ())) (fun _ => .inl ()) () (by omega) ?_ (fun _ => hend), h1]
 ·rcases h2 with ⟨h2, rfl⟩ | ⟨h2, i, rfl⟩
  ·exact ⟨_, rfl, .inl ⟨h2, rfl⟩⟩
  ·exact ⟨_, rfl, .inr ⟨h2, i, rfl⟩⟩
 ·intro s i x hx hi
  rw [hstep i x hx hi]
  by_cases h : p x = true
  ·rw [if_pos h, if_pos h]; rfl
  ·rw [if_neg h, if_neg h]; rfl
theorem lt_len {α : Type} {l : List α} {i : Nat} (h : (i : Int) < l.length) : Ar.cmp .lss (i : Int) (Ar.len l) = true := by rw [cmp_lss, len_def]; exact decide_eq_true h
theorem lt_end {α : Type} {l : List α} : ¬ Ar.cmp .lss (l.length : Int) (Ar.len l) = true := by rw [cmp_lss, len_def]; simp
theorem gt64 {α : Type} {l : List α} : (Ar.cmp .gtr (Ar.len l) 64 = true) ↔ 64 < l.length := by rw [cmp_gtr, len_def, decide_eq_true_eq]; omega
theorem slice_take {α : Type} {l : List α} {i : Nat} (h : i ≤ l.length) : sliceL l none (some (i : Int)) none = some (l.take i) := by
 unfold sliceL
 rw [if_pos]
 ·simp
 ·simp only [Option.getD_none, Option.getD_some]
  exact ⟨by omega, by omega, by omega, by omega, fun h => by cases h⟩
end
end Go.Ab

namespace Go.Ab
noncomputable section
def inB (i n : Int) : Bool := decide (0 ≤ i) && decide (i < n)
theorem eql_true {a b : Int} (h : a = b) : Ar.cmp .eql a b = true := by rw [cmp_eql]; exact decide_eq_true h
theorem eql_false {a b : Int} (h : ¬ a = b) : ¬ (Ar.cmp .eql a b = true) := by rw [cmp_eql]; simpa using h
theorem within_eq (N : Nat) (i n : Int) : automaton_within N i n = some (inB i n) := by
 unfold automaton_within inB
 rw [an_def, cmp_geq, cmp_lss]
def guardBad (a : GAutomaton) (l : List GGuard) (q : GGuard × Nat) : Int :=
 if (inB q.1.Scope a.Scopes && inB q.1.Typ 16 && inB q.1.Var a.Vars) = true then
  if ((l.take q.2).any fun h => decide (h.Scope = q.1.Scope)) = true then 7 else exprCheck q.1.Cond
 else 2
def guardsBad (a : GAutomaton) (l : List GGuard) : Int := if 64 < l.length then 5 else bad1 (guardBad a l) l.zipIdx
theorem contains_guard {N : Nat} (hN : 40000000 ≤ N) (l : List GGuard) (hl : l.length < 1000000) (g : GGuard) : slices_ContainsFunc_LGuard_Guard N l (fun y1 => automaton_guards_1 N y1 g) = some (l.any fun h => decide (h.Scope = g.Scope)) := by
 unfold slices_ContainsFunc_LGuard_Guard slices_IndexFunc_LGuard_Guard
 obtain ⟨o, h1, h2⟩ := loop_index hN l hl (step := fun (s1 : Int) =>
  (
   if Ar.cmp .lss s1 (Ar.len l) = true then
    (idxL l s1).bind fun x3 =>
    (automaton_guards_1 N x3 g).bind fun r4 =>
    if r4 = true then
     some (.inr (.inr s1))
    else
     some (.inl (Ar.ar .add .i64 s1 1))
   else
    some (.inr (.inl ()))
   : Option ((Int) ⊕ (Unit ⊕ Int)))) (p := fun h => decide (h.Scope = g.Scope)) (fun i x hx hi => by
  try dsimp only
  rw [if_pos (lt_len hi), idx_at, hx]
  simp only [Option.bind_some]
  unfold automaton_guards_1
  simp only [Option.bind_some]
  by_cases h : x.Scope = g.Scope
  ·rw [if_pos (eql_true h), if_pos (decide_eq_true h)]
  ·rw [if_neg (eql_false h), if_neg (by simpa using h), add_i64 (by omega) (by omega)]) (by (try dsimp only); rw [if_neg lt_end])
 rw [h1]
 rcases h2 with ⟨h2, rfl⟩ | ⟨h2, i, rfl⟩
 ·rw [h2]; rfl
 ·rw [h2]
  simp only [Option.bind_some, cmp_geq]
  rw [decide_eq_true (by omega)]
theorem fault {A : Type} {c : Int} {x : Int} : (if Ar.cmp .neq c 0 = true then some (Sum.inr (Sum.inr (α := A) c)) else some (Sum.inl (x : Int)) : Option (Int ⊕ (A ⊕ Int))) = some (if c = 0 then .inl x else .inr (.inr c)) := by
 by_cases h : c = 0
 ·rw [if_neg (by rw [cmp_neq, h]; decide), if_pos h]
 ·rw [if_pos (by rw [cmp_neq]; simpa using h), if_neg h]
theorem guards_eq {N : Nat} (hN : 40000000 ≤ N) (a : GAutomaton) (l : List GGuard) (hb : ∀ g ∈ l, g.Cond.bulk ≤ 16777216) : automaton_guards N a l = some (guardsBad a l) := by
 unfold automaton_guards guardsBad
 by_cases h64 : 64 < l.length
 ·rw [if_pos (gt64.2 h64), if_pos h64]
 ·rw [if_neg (fun h => h64 (gt64.1 h)), if_neg h64]
  rw [loop_badI hN l (by omega) (F := guardBad a l) (u := ()) ?_ ?_]
  ·by_cases h : bad1 (guardBad a l) l.zipIdx = 0
   ·rw [if_pos h, h]; rfl
   ·rw [if_neg h]; rfl
  ·intro i g hg hi
   try dsimp only
   rw [if_pos (lt_len hi), idx_at, hg]
   simp only [Option.bind_some, within_eq, slice_take (show i ≤ l.length by omega), contains_guard hN (l.take i) (by rw [List.length_take]; omega) g, check_eq8 hN (hb g (List.mem_of_getElem? hg)), add_i64 (show -9223372036854775808 ≤ (i : Int) + 1 by omega) (by omega)]
   unfold guardBad
   generalize inB g.Scope a.Scopes = b1
   generalize inB g.Typ 16 = b2
   generalize inB g.Var a.Vars = b3
   generalize ((l.take i).any fun h => decide (h.Scope = g.Scope)) = b4
   generalize exprCheck g.Cond = c
   cases b1 <;> cases b2 <;> cases b3 <;> cases b4 <;> first | rfl | exact fault
  ·try dsimp only
   rw [if_neg lt_end]
def scopeBad (sc : Int) (l : List Int) (q : Int × Nat) : Int := if inB q.1 sc = true then (if ((l.take q.2).any fun h => decide (h = q.1)) = true then 7 else 0) else 2
def uniqBad (sc : Int) (l : List Int) : Int := bad1 (scopeBad sc l) l.zipIdx
theorem contains_int {N : Nat} (hN : 40000000 ≤ N) (l : List Int) (hl : l.length < 1000000) (v : Int) : slices_Contains_Lint_int N l v = some (l.any fun h => decide (h = v)) := by
 unfold slices_Contains_Lint_int slices_Index_Lint_int
 obtain ⟨o, h1, h2⟩ := loop_index hN l hl (step := fun (s1 : Int) =>
  (
   if Ar.cmp .lss s1 (Ar.len l) = true then
    (idxL l s1).bind fun x3 =>
    if Ar.cmp .eql v x3 = true then
     some (.inr (.inr s1))
    else
     some (.inl (Ar.ar .add .i64 s1 1))
   else
    some (.inr (.inl ()))
   : Option ((Int) ⊕ (Unit ⊕ Int)))) (p := fun h => decide (h = v)) (fun i x hx hi => by
  try dsimp only
  rw [if_pos (lt_len hi), idx_at, hx]
  simp only [Option.bind_some]
  by_cases h : x = v
  ·rw [if_pos (eql_true h.symm), if_pos (decide_eq_true h)]
  ·rw [if_neg (eql_false fun e => h e.symm), if_neg (by simpa using h), add_i64 (by omega) (by omega)]) (by (try dsimp only); rw [if_neg lt_end])
 rw [h1]
 rcases h2 with ⟨h2, rfl⟩ | ⟨h2, i, rfl⟩
 ·rw [h2]; rfl
 ·rw [h2]
  simp only [Option.bind_some, cmp_geq]
  rw [decide_eq_true (by omega)]
theorem scopes_eq {N : Nat} (hN : 40000000 ≤ N) (a : GAutomaton) (ls : List (List Int)) (hls : ls.length < 1000) (hl : ∀ l ∈ ls, l.length < 1000000) : automaton_scopes N a ls = some (bad1 (uniqBad a.Scopes) ls) := by
 unfold automaton_scopes
 rw [loop_bad hN ls (by omega) (F := uniqBad a.Scopes) (u := ()) ?_ ?_]
 ·by_cases h : bad1 (uniqBad a.Scopes) ls = 0
  ·rw [if_pos h, h]; rfl
  ·rw [if_neg h]; rfl
 ·intro i l hx hi hm
  try dsimp only
  have hll := hl l hm
  rw [if_pos (lt_len hi), idx_at, hx]
  simp only [Option.bind_some]
  rw [loop_badI hN l hll (F := scopeBad a.Scopes l) (u := ()) ?_ ?_]
  ·rw [add_i64 (by omega) (by omega)]
   unfold uniqBad
   by_cases h : bad1 (scopeBad a.Scopes l) l.zipIdx = 0
   ·rw [if_pos h, if_pos h]; rfl
   ·rw [if_neg h, if_neg h]; rfl
  ·intro j s hs hj
   try dsimp only
   rw [if_pos (lt_len hj), idx_at, hs]
   simp only [Option.bind_some, within_eq, slice_take (show j ≤ l.length by omega), contains_int hN (l.take j) (by rw [List.length_take]; omega) s, add_i64 (show -9223372036854775808 ≤ (j : Int) + 1 by omega) (by omega)]
   unfold scopeBad
   generalize inB s a.Scopes = b1
   generalize ((l.take j).any fun h => decide (h = s)) = b4
   cases b1 <;> cases b4 <;> rfl
  ·try dsimp only
   rw [if_neg lt_end]
 ·try dsimp only
  rw [if_neg lt_end]
end
end Go.Ab

namespace Go.Ab
noncomputable section
def spanBad (x : GLimit) : Bool := decide (x.Span < 0) || decide (1099511627776 < x.Span)
theorem limited_eq {N : Nat} (hN : 40000000 ≤ N) (l : List GLimit) (hl : l.length ≤ 1000) : automaton_limited N l = some (l.map (·.Scope)) := by
 unfold automaton_limited
 rw [loop_list l (by omega) (fun (s : List Int) i => (s, i)) (fun s x => (appL s [x.Scope]).bind fun l => some (.inl l)) (fun s => s) [] (by omega) ?_ ?_]
 ·rw [range_mapR (g := fun x : GLimit => x.Scope) (fun s x _ h2 => by unfold appL; rw [if_pos (by simp; omega)]; rfl) (by simp; omega)]
  rfl
 ·intro s i x hx hi
  try dsimp only
  rw [if_pos (lt_len hi), idx_at, hx]
  simp only [Option.bind_some]
  rw [add_i64 (by omega) (by omega)]
  cases appL s [x.Scope] <;> rfl
 ·intro s
  try dsimp only
  rw [if_neg lt_end]
theorem contains_span {N : Nat} (hN : 40000000 ≤ N) (l : List GLimit) (hl : l.length < 1000000) : slices_ContainsFunc_LLimit_Limit N l (fun y1 => automaton_edge_1 N y1) = some (l.any spanBad) := by
 unfold slices_ContainsFunc_LLimit_Limit slices_IndexFunc_LLimit_Limit
 obtain ⟨o, h1, h2⟩ := loop_index hN l hl (step := fun (s1 : Int) =>
  (
   if Ar.cmp .lss s1 (Ar.len l) = true then
    (idxL l s1).bind fun x3 =>
    (automaton_edge_1 N x3).bind fun r4 =>
    if r4 = true then
     some (.inr (.inr s1))
    else
     some (.inl (Ar.ar .add .i64 s1 1))
   else
    some (.inr (.inl ()))
   : Option ((Int) ⊕ (Unit ⊕ Int)))) (p := spanBad) (fun i x hx hi => by
  try dsimp only
  rw [if_pos (lt_len hi), idx_at, hx]
  simp only [Option.bind_some]
  have e : automaton_edge_1 N x = some (spanBad x) := by
   unfold automaton_edge_1 spanBad
   rw [or_def, cmp_lss, cmp_gtr]
  rw [e]
  simp only [Option.bind_some]
  rw [add_i64 (by omega) (by omega)]
  by_cases h : spanBad x = true
  ·rw [if_pos h, if_pos h]
  ·rw [if_neg h, if_neg h]) (by (try dsimp only); rw [if_neg lt_end])
 rw [h1]
 rcases h2 with ⟨h2, rfl⟩ | ⟨h2, i, rfl⟩
 ·rw [h2]; rfl
 ·rw [h2]
  simp only [Option.bind_some, cmp_geq]
  rw [decide_eq_true (by omega)]
def edgeIn (a : GAutomaton) (x : GEdge) : Bool := inB x.From a.States.length && (decide (-1 ≤ x.To) && decide (x.To < a.States.length)) && inB x.Var a.Vars && inB x.Typ 16
def listsOf (x : GEdge) : List (List Int) := [x.Opens, x.Closes, x.Inside, x.Limits.map (·.Scope)]
def edgeBad (a : GAutomaton) (x : GEdge) (before : Int) : Int :=
 if edgeIn a x = true then
  if x.From < before then 14 else
  if exprCheck x.Cond ≠ 0 then exprCheck x.Cond else
  if 64 < x.Checks.length then 5 else
  if bad1 exprCheck x.Checks ≠ 0 then bad1 exprCheck x.Checks else
  if bad1 (uniqBad a.Scopes) (listsOf x) ≠ 0 then bad1 (uniqBad a.Scopes) (listsOf x) else
  if x.Limits.any spanBad = true then 2 else 0
 else 2
def smallX (x : GEdge) : Prop := x.Cond.bulk ≤ 16777216 ∧ (∀ c ∈ x.Checks, c.bulk ≤ 16777216) ∧ x.Checks.length < 1000000 ∧ x.Opens.length < 1000000 ∧ x.Closes.length < 1000000 ∧ x.Inside.length < 1000000 ∧ x.Limits.length ≤ 1000
theorem checks_eq {N : Nat} (hN : 40000000 ≤ N) (l : List GExpr) (hl : l.length < 1000000) {C : GExpr → Option Int} (hC : ∀ c ∈ l, C c = some (exprCheck c)) : loopN (fun (s5 : Int) =>
                  (
                   if Ar.cmp .lss s5 (Ar.len l) = true then
                    (idxL l s5).bind fun x7 =>
                    (C x7).bind fun r8 =>
                    if Ar.cmp .neq r8 0 = true then
                     some (.inr (.inr r8))
                    else
                     some (.inl (Ar.ar .add .i64 s5 1))
                   else
                    some (.inr (.inl ()))
                   : Option ((Int) ⊕ (Unit ⊕ Int)))) N 0 = some (if bad1 exprCheck l = 0 then .inl () else .inr (bad1 exprCheck l)) := by
 refine loop_bad hN l hl (F := exprCheck) (u := ()) (fun i x hx hi hm => ?_) ?_
 ·try dsimp only
  rw [if_pos (lt_len hi), idx_at, hx]
  simp only [Option.bind_some, hC x hm, add_i64 (show -9223372036854775808 ≤ (i : Int) + 1 by omega) (by omega)]
  exact fault
 ·try dsimp only
  rw [if_neg lt_end]
theorem listsOf_len {x : GEdge} (hx : smallX x) : ∀ l ∈ listsOf x, l.length < 1000000 := by
 obtain ⟨_, _, _, h1, h2, h3, h4⟩ := hx
 intro l hl
 unfold listsOf at hl
 simp only [List.mem_cons, List.not_mem_nil, or_false] at hl
 rcases hl with rfl | rfl | rfl | rfl
 ·exact h1
 ·exact h2
 ·exact h3
 ·simp; omega
theorem edge_eq {N : Nat} (hN : 40000000 ≤ N) (a : GAutomaton) (x : GEdge) (b : Int) (hx : smallX x) (ha : a.States.length < 1000000) : automaton_edge N a x b = some (edgeBad a x b) := by
 have hls := listsOf_len hx
 obtain ⟨s1, s2, s3, s4, s5, s6, s7⟩ := hx
 unfold automaton_edge
 rw [check_eq8 hN s1, checks_eq hN x.Checks s3 (C := expr_Check N) (fun c hc => check_eq8 hN (s2 c hc)), limited_eq hN x.Limits s7]
 simp only [within_eq, Option.bind_some]
 have e1 : automaton_scopes N a [x.Opens, x.Closes, x.Inside, x.Limits.map fun y => y.Scope] = some (bad1 (uniqBad a.Scopes) (listsOf x)) := scopes_eq hN a (listsOf x) (by show 4 < _; omega) hls
 rw [e1, contains_span hN _ (by omega)]
 simp only [Option.bind_some]
 unfold edgeBad edgeIn
 have f1 : Ar.or (Ar.or (Ar.nt (inB x.From (Ar.len a.States))) (Ar.cmp .lss x.To (-1))) (Ar.cmp .geq x.To (Ar.len a.States)) = !(inB x.From a.States.length && (decide (-1 ≤ x.To) && decide (x.To < a.States.length))) := by
  rw [or_def, or_def, nt_def, cmp_lss, cmp_geq, len_def, Bool.not_and, Bool.not_and, ← decide_not, ← decide_not, Bool.or_assoc]
  congr 1
  congr 1
  ·exact decide_eq_decide.2 (by omega)
  ·exact decide_eq_decide.2 (by omega)
 rw [f1]
 generalize (inB x.From a.States.length && (decide (-1 ≤ x.To) && decide (x.To < a.States.length))) = b1
 generalize inB x.Var a.Vars = b2
 generalize inB x.Typ 16 = b3
 generalize bad1 (uniqBad a.Scopes) (listsOf x) = c3
 generalize x.Limits.any spanBad = b4
 generalize exprCheck x.Cond = c1
 generalize bad1 exprCheck x.Checks = c2
 cases b1
 ·rfl
 cases b2
 ·rfl
 cases b3
 ·rfl
 show (if Ar.cmp .lss x.From b = true then _ else _) = some (if x.From < b then _ else _)
 by_cases h1 : x.From < b
 ·rw [if_pos (by rw [cmp_lss]; exact decide_eq_true h1), if_pos h1]
 rw [if_neg (by rw [cmp_lss]; simpa using h1), if_neg h1]
 by_cases h2 : c1 = 0
 ·rw [if_neg (show ¬ (Ar.cmp .neq c1 0 = true) by rw [cmp_neq, h2]; decide), if_neg (show ¬ (c1 ≠ 0) from fun k => k h2)]
  by_cases h3 : 64 < x.Checks.length
  ·rw [if_pos (gt64.2 h3), if_pos h3]
  rw [if_neg (fun h => h3 (gt64.1 h)), if_neg h3]
  by_cases h4 : c2 = 0
  ·rw [if_pos h4, if_neg (show ¬ (c2 ≠ 0) from fun k => k h4)]
   dsimp only
   by_cases h5 : c3 = 0
   ·rw [if_neg (show ¬ (Ar.cmp .neq c3 0 = true) by rw [cmp_neq, h5]; decide), if_neg (show ¬ (c3 ≠ 0) from fun k => k h5)]
    cases b4 <;> rfl
   ·rw [if_pos (show Ar.cmp .neq c3 0 = true by rw [cmp_neq]; simpa using h5), if_pos h5]
  ·rw [if_neg h4, if_pos h4]
 ·rw [if_pos (show Ar.cmp .neq c1 0 = true by rw [cmp_neq]; simpa using h2), if_pos h2]
end
end Go.Ab

namespace Go.Ab
noncomputable section
def edgesBad (a : GAutomaton) : Int → List GEdge → Int
 | _, [] => 0
 | b, x :: r => if edgeBad a x b = 0 then edgesBad a x.From r else edgeBad a x b
def autoIn (a : GAutomaton) : Bool := (decide (0 ≤ a.Vars) && decide (a.Vars ≤ 16)) && (decide (0 ≤ a.Scopes) && decide (a.Scopes ≤ 64))
def autoBad (a : GAutomaton) : Int :=
 if autoIn a = true then
  if a.States.length < 1 ∨ 256 < a.States.length ∨ 2048 < a.Edges.length then 5 else
  if bad1 (fun s : GState => guardsBad a s.Guards) a.States = 0 then edgesBad a 0 a.Edges else bad1 (fun s : GState => guardsBad a s.Guards) a.States
 else 2
theorem range_edges {a : GAutomaton} {body : Int → GEdge → Option (Int ⊕ (Unit ⊕ Int))} : ∀ {l : List GEdge} {s : Int}, (∀ s x, x ∈ l → body s x = some (if edgeBad a x s = 0 then .inl x.From else .inr (.inr (edgeBad a x s)))) → ∃ s', rangeL body l s = some (if edgesBad a s l = 0 then .inl s' else .inr (.inr (edgesBad a s l)))
 | [], s, _ => ⟨s, rfl⟩
 | x :: l, s, h => by
  unfold rangeL
  rw [h s x (by simp)]
  unfold edgesBad
  by_cases hx : edgeBad a x s = 0
  ·rw [if_pos hx, if_pos hx]
   exact range_edges fun s y hy => h s y (by simp [hy])
  ·rw [if_neg hx, if_neg hx]
   refine ⟨0, ?_⟩
   rw [if_neg hx]
def okA (a : GAutomaton) : Prop := a.States.length < 1000000 ∧ a.Edges.length < 1000000 ∧ (∀ s ∈ a.States, ∀ g ∈ s.Guards, g.Cond.bulk ≤ 16777216) ∧ ∀ x ∈ a.Edges, smallX x
theorem auto_tail {N : Nat} (hN : 40000000 ≤ N) (a : GAutomaton) (h : okA a) {G : GAutomaton → List GGuard → Option Int} {E : GAutomaton → GEdge → Int → Option Int} (hG : ∀ s ∈ a.States, G a s.Guards = some (guardsBad a s.Guards)) (hE : ∀ x ∈ a.Edges, ∀ b, E a x b = some (edgeBad a x b)) :
 ((loopN
  (fun (s1 : Int) =>
   (
    if Ar.cmp .lss s1 (Ar.len a.States) = true then
     (idxL a.States s1).bind fun x3 =>
     (G a x3.Guards).bind fun r4 =>
     if Ar.cmp .neq r4 0 = true then
      some (.inr (.inr r4))
     else
      some (.inl (Ar.ar .add .i64 s1 1))
    else
     some (.inr (.inl ()))
    : Option ((Int) ⊕ (Unit ⊕ Int))))
  N 0).bind fun s2 =>
 match s2 with
 | .inl _ =>
  (loopN
   (fun (s6 : Int × Int) =>
    (
     if Ar.cmp .lss s6.2 (Ar.len a.Edges) = true then
      (idxL a.Edges s6.2).bind fun x8 =>
      (E a x8 s6.1).bind fun r9 =>
      if Ar.cmp .neq r9 0 = true then
       some (.inr (.inr r9))
      else
       some (.inl (x8.From, Ar.ar .add .i64 s6.2 1))
     else
      some (.inr (.inl ()))
     : Option ((Int × Int) ⊕ (Unit ⊕ Int))))
   N (0, 0)).bind fun s7 =>
  match s7 with
  | .inl _ => some 0
  | .inr y11 => some y11
 | .inr y12 => some y12) = some (if bad1 (fun s : GState => guardsBad a s.Guards) a.States = 0 then edgesBad a 0 a.Edges else bad1 (fun s : GState => guardsBad a s.Guards) a.States) := by
 obtain ⟨h1, h2, _, _⟩ := h
 rw [loop_bad hN a.States h1 (F := fun s : GState => guardsBad a s.Guards) (u := ()) ?_ ?_]
 ·by_cases hs : bad1 (fun s : GState => guardsBad a s.Guards) a.States = 0
  ·rw [if_pos hs, if_pos hs]
   simp only [Option.bind_some]
   rw [loop_list a.Edges (by omega) (fun (s : Int) i => (s, i)) (fun s x => some (if edgeBad a x s = 0 then .inl x.From else .inr (.inr (edgeBad a x s)))) (fun _ => .inl ()) 0 (by omega) ?_ ?_]
   ·obtain ⟨s', hs'⟩ := range_edges (a := a) (l := a.Edges) (s := 0) (body := fun s x => some (if edgeBad a x s = 0 then .inl x.From else .inr (.inr (edgeBad a x s)))) (fun _ _ _ => rfl)
    rw [hs']
    by_cases he : edgesBad a 0 a.Edges = 0
    ·rw [if_pos he, he]; rfl
    ·rw [if_neg he]; rfl
   ·intro s i x hx hi
    try dsimp only
    rw [if_pos (lt_len hi), idx_at, hx]
    simp only [Option.bind_some]
    rw [hE x (List.mem_of_getElem? hx)]
    simp only [Option.bind_some]
    rw [add_i64 (by omega) (by omega)]
    by_cases he : edgeBad a x s = 0
    ·rw [if_neg (show ¬ (Ar.cmp .neq (edgeBad a x s) 0 = true) by rw [cmp_neq, he]; decide), if_pos he]
    ·rw [if_pos (show Ar.cmp .neq (edgeBad a x s) 0 = true by rw [cmp_neq]; simpa using he), if_neg he]
   ·intro s
    try dsimp only
    rw [if_neg lt_end]
  ·rw [if_neg hs, if_neg hs]; rfl
 ·intro i s hs hi hm
  try dsimp only
  rw [if_pos (lt_len hi), idx_at, hs]
  simp only [Option.bind_some]
  rw [hG s hm]
  simp only [Option.bind_some]
  rw [add_i64 (by omega) (by omega)]
  exact fault
 ·try dsimp only
  rw [if_neg lt_end]
theorem acheck_eq {N : Nat} (hN : 40000000 ≤ N) (a : GAutomaton) (h : okA a) : automaton_Check N a = some (autoBad a) := by
 have ht := auto_tail hN a h (G := automaton_guards N) (E := automaton_edge N) (fun s hs => guards_eq hN a _ (h.2.2.1 s hs)) (fun x hx b => edge_eq hN a x b (h.2.2.2 x hx) h.1)
 unfold automaton_Check autoBad
 have f1 : Ar.or (Ar.or (Ar.or (Ar.cmp .lss a.Vars 0) (Ar.cmp .gtr a.Vars 16)) (Ar.cmp .lss a.Scopes 0)) (Ar.cmp .gtr a.Scopes 64) = !autoIn a := by
  unfold autoIn
  simp only [or_def, cmp_lss, cmp_gtr]
  rw [Bool.eq_iff_iff]
  simp only [Bool.or_eq_true, decide_eq_true_eq, Bool.not_eq_true', Bool.and_eq_false_imp, Bool.and_eq_true, decide_eq_false_iff_not]
  omega
 have f2 : (Ar.or (Ar.or (Ar.cmp .lss (Ar.len a.States) 1) (Ar.cmp .gtr (Ar.len a.States) 256)) (Ar.cmp .gtr (Ar.len a.Edges) 2048) = true) ↔ (a.States.length < 1 ∨ 256 < a.States.length ∨ 2048 < a.Edges.length) := by
  simp only [or_def, cmp_lss, cmp_gtr, len_def, Bool.or_eq_true, decide_eq_true_eq]
  omega
 rw [f1]
 cases autoIn a
 ·rfl
 ·rw [if_neg (by decide), if_pos rfl]
  by_cases hc : a.States.length < 1 ∨ 256 < a.States.length ∨ 2048 < a.Edges.length
  ·rw [if_pos (f2.2 hc), if_pos hc]
  ·rw [if_neg (fun k => hc (f2.1 k)), if_neg hc]
   exact ht
end
end Go.Ab

