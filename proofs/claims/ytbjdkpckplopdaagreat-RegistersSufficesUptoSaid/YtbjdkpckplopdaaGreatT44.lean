/- GSV4 -/
import Derived.Test.YtbjdkpckplopdaaGreatT40
import Derived.Test.YtbjdkpckplopdaaGreatT43
set_option linter.all false

namespace Go.Ab
noncomputable section
open Classical
theorem keepE_len (n : Nat) (b : Bool) (e : GEvent) : (keepE n b e).Values.length = e.Values.length := by simp [keepE]
theorem keepE_get {n k : Nat} (hn : n < 512) (hk : k < 8) (ht : n.testBit k = true) (b : Bool) (e : GEvent) : (keepE n b e).Values.getD k zVal = e.Values.getD k zVal := by
 have hb := (bit_test hn hk).2 ht
 unfold keepE
 simp only [List.getD_eq_getElem?_getD, List.getElem?_map, List.getElem?_zipIdx, Nat.zero_add]
 cases e.Values[k]? with
 | none => rfl
 | some v =>
  simp only [Option.map_some, Option.getD_some]
  exact if_pos ⟨hk, hb⟩
theorem row_nil (p : Nat × Nat) : keptRow p [] = [] := by
 unfold keptRow
 split <;> rfl
theorem row_getLast {p : Nat × Nat} (h0 : p ≠ (0, 0)) (l : List GEvent) : (keptRow p l).getLast? = l.getLast?.map (keepE (if p.2 = 0 then p.1 else p.2 ||| p.1) (timeB p.1)) := by
 rcases List.eq_nil_or_concat l with rfl | ⟨q, x, rfl⟩
 ·rw [row_nil]; rfl
 ·rw [List.concat_eq_append]
  by_cases h2 : p.2 = 0
  ·rw [row_last h0 h2, if_pos h2]; simp
  ·rw [row_all h2, if_neg h2, List.zipIdx_append]
   simp
theorem readP_keep {n : Nat} (hn : n < 512) (b : Bool) {x : GExpr} (e : GEvent) (hop : x.Op = 1 ∨ x.Op = 2) (h1 : x.Op = 1 → 0 ≤ x.Field ∧ x.Field < 8 ∧ n.testBit x.Field.toNat = true) (h2 : x.Op = 2 → b = true) : readP (keepE n b e) x = readP e x := by
 unfold readP
 by_cases ho : x.Op = 2
 ·rw [if_pos ho, if_pos ho]
  simp [keepE, h2 ho]
 ·rw [if_neg ho, if_neg ho]
  obtain ⟨a, b', c⟩ := h1 (by omega)
  have : fieldP (keepE n b e) x.Field = fieldP e x.Field := by
   unfold fieldP
   rw [keepE_len, keepE_get hn (by omega) c]
  rw [this]
theorem totalP_keep {x : GExpr} (hf : 0 ≤ x.Field ∧ x.Field < 8) {l m : List GEvent} (hl : m.length = l.length) (h : ∀ (i : Nat) e, l[i]? = some e → ∃ n b, n < 512 ∧ n.testBit x.Field.toNat = true ∧ m[i]? = some (keepE n b e)) : totalP m x = totalP l x := by
 have e1 : (m.map fun e => e.Values.getD x.Field.toNat zVal) = l.map fun e => e.Values.getD x.Field.toNat zVal := by
  apply List.ext_getElem? ; intro i
  rw [List.getElem?_map, List.getElem?_map]
  cases he : l[i]? with
  | none => rw [List.getElem?_eq_none (by rw [hl]; exact List.getElem?_eq_none_iff.1 he)]
            try rfl
  | some e =>
   obtain ⟨n, b, hn, ht, hm⟩ := h i e he
   rw [hm]
   simp only [Option.map_some, Option.some.injEq]
   exact keepE_get hn (by omega) ht b e
 have e2 : (m.map fun e => decide (x.Field < (e.Values.length : Int))) = l.map fun e => decide (x.Field < (e.Values.length : Int)) := by
  apply List.ext_getElem? ; intro i
  rw [List.getElem?_map, List.getElem?_map]
  cases he : l[i]? with
  | none => rw [List.getElem?_eq_none (by rw [hl]; exact List.getElem?_eq_none_iff.1 he)]
            try rfl
  | some e =>
   obtain ⟨n, b, hn, ht, hm⟩ := h i e he
   rw [hm]
   simp only [Option.map_some, keepE_len]
 have e3 : (m.all fun e => decide (x.Field < (e.Values.length : Int))) = l.all fun e => decide (x.Field < (e.Values.length : Int)) := by
  have : ∀ q : List GEvent, (q.all fun e => decide (x.Field < (e.Values.length : Int))) = (q.map fun e => decide (x.Field < (e.Values.length : Int))).all id := fun q => by simp [List.all_map]
  rw [this, this, e2]
 unfold totalP
 rw [e1, e3]
theorem evs_kept (f : NF) (env : GEnv) (v : Int) : evsP (keptP f env) v = keptRow (f v) (evsP env v) := by
 have hl : (keptP f env).Vars.length = env.Vars.length := by simp [keptP]
 unfold evsP
 rw [hl]
 by_cases h : v < 0 ∨ (env.Vars.length : Int) ≤ v
 ·rw [if_pos h, if_pos h, row_nil]
 ·rw [if_neg h, if_neg h]
  have hi : v.toNat < env.Vars.length := by omega
  have hv : ((v.toNat : Nat) : Int) = v := by omega
  simp only [keptP, List.getD_eq_getElem?_getD, List.getElem?_map, List.getElem?_zipIdx, List.getElem?_eq_getElem hi, Option.map_some, Option.getD_some, Nat.zero_add, hv]
theorem leaf_kept {f : NF} (fo : f.ok) (env : GEnv) (own : Int) (ev : GEvent) {y : GExpr} (hy : NodeOk y) (hop : 0 ≤ y.Op ∧ y.Op < 5) (hf : bor (f y.Var) (nodeP own y) = f y.Var) : leafP (keptP f env) own ev y = leafP env own ev y := by
 have h1 : (nodeP own y).1 ||| (f y.Var).1 = (f y.Var).1 := by rw [Nat.or_comm]; exact congrArg Prod.fst hf
 have h2 : (nodeP own y).2 ||| (f y.Var).2 = (f y.Var).2 := by rw [Nat.or_comm]; exact congrArg Prod.snd hf
 obtain ⟨o1, o2⟩ := fo y.Var
 unfold leafP
 rw [evs_kept]
 generalize f y.Var = p at h1 h2 o1 o2
 generalize evsP env y.Var = l
 by_cases c0 : y.Op = 0
 ·rw [if_pos c0, if_pos c0]
 rw [if_neg c0, if_neg c0]
 by_cases c3 : y.Op = 3
 ·rw [if_pos c3, if_pos c3]
  have hn : (nodeP own y).2 = 256 := by unfold nodeP allP; simp [c3]
  rw [hn] at h2
  have hp : p.2 ≠ 0 := by intro e; rw [e] at h2; cases h2
  rw [row_all hp]; simp
 rw [if_neg c3, if_neg c3]
 by_cases c4 : y.Op = 4
 ·rw [if_pos c4, if_pos c4]
  have hfl := hy.field (.inr c4)
  have hn : (nodeP own y).2 = 2 ^ y.Field.toNat := by unfold nodeP allP; simp [c4]
  rw [hn] at h2
  have ht : p.2.testBit y.Field.toNat = true := test_le h2 (by simp)
  have hp : p.2 ≠ 0 := by intro e; rw [e] at ht; simp at ht
  rw [row_all hp]
  refine totalP_keep hfl (by simp) fun i e he => ?_
  simp only [List.getElem?_map, List.getElem?_zipIdx, he, Option.map_some, Nat.zero_add]
  by_cases hl : i + 1 = l.length
  ·exact ⟨p.2 ||| p.1, timeB p.1, or_lt o2 o1, by rw [Nat.testBit_or, ht]; rfl, by rw [if_pos hl]⟩
  ·exact ⟨p.2, false, o2, ht, by rw [if_neg hl]⟩
 rw [if_neg c4, if_neg c4]
 unfold lastP'
 by_cases hv : y.Var = own
 ·rw [if_neg (by simpa using hv), if_neg (by simpa using hv)]
 ·rw [if_pos hv, if_pos hv]
  have hn : (nodeP own y).1 = lastP y := by unfold nodeP; simp [hv]
  rw [hn] at h1
  have hop2 : y.Op = 1 ∨ y.Op = 2 := by omega
  have hp1 : p.1 ≠ 0 := by
   intro e
   rw [e] at h1
   unfold lastP at h1
   rcases hop2 with h | h
   ·rw [if_pos h] at h1
    have := Nat.two_pow_pos y.Field.toNat
    simp at h1
   ·rw [if_neg (by omega), if_pos h] at h1; cases h1
  rw [row_getLast (fun e => hp1 (by rw [e]))]
  cases l.getLast? with
  | none => rfl
  | some x =>
   simp only [Option.map_some]
   have hle : ∀ i, p.1.testBit i = true → (if p.2 = 0 then p.1 else p.2 ||| p.1).testBit i = true := fun i hi => by
    split
    ·exact hi
    ·rw [Nat.testBit_or, hi]; simp
   refine readP_keep (by split; exact o1; exact or_lt o2 o1) _ x hop2 (fun h => ?_) fun h => ?_
   ·have hfl := hy.field (.inl h)
    refine ⟨hfl.1, hfl.2, hle _ (test_le h1 ?_)⟩
    unfold lastP
    rw [if_pos h]; simp
   ·rw [time_test o1]
    refine test_le h1 ?_
    unfold lastP
    rw [if_neg (by omega), if_pos h]; rfl
mutual
theorem exprF_le (own : Int) : ∀ x : GExpr, ∀ y ∈ x.pre, (exprF own x).join (nodeF own y) = exprF own x
 | ⟨op, args, var, field, kind, val⟩, y, hy => by
  rw [exprF_eq]
  rw [GExpr.pre_eq] at hy
  rcases List.mem_cons.1 hy with rfl | hy
  ·rw [NF.join_comm, ← NF.join_assoc, NF.join_self]
  ·rw [NF.join_assoc, exprsF_le own args y hy]
theorem exprsF_le (own : Int) : ∀ l : List GExpr, ∀ y ∈ GExpr.pres l, (exprsF own l).join (nodeF own y) = exprsF own l
 | [], y, hy => by simp [GExpr.pres] at hy
 | a :: l, y, hy => by
  simp only [GExpr.pres, List.mem_append] at hy
  simp only [exprsF]
  rcases hy with hy | hy
  ·rw [NF.join_comm (exprF own a), NF.join_assoc, exprF_le own a y hy]
  ·rw [NF.join_assoc, exprsF_le own l y hy]
end
theorem eval_kept {f : NF} (fo : f.ok) (env : GEnv) (own : Int) (ev : GEvent) {x : GExpr} (hf : f.join (exprF own x) = f) : evalA (keptP f env) own ev x = evalA env own ev x := by
 unfold evalA
 by_cases h : exprCheck x = 0
 ·rw [if_pos h, if_pos h]
  obtain ⟨_, _, h3⟩ := exprCheck_ok h
  refine evalP_congr x fun y hy ha => ?_
  have hb := exprCheck_bad h y hy
  refine leaf_kept fo env own ev (h3 y hy) ?_ ?_
  ·have := bad_arity hb
   rw [ha] at this
   simp only [List.length_nil] at this
   obtain ⟨q1, q2, q3⟩ := this
   by_cases h5 : y.Op < 5
   ·exact ⟨q1, h5⟩
   ·rw [if_neg h5] at q3
    split at q3 <;> omega
  ·have e1 : f.join (nodeF own y) = f := by
    rw [← hf, NF.join_assoc, exprF_le own x y hy]
   have := congrFun e1 y.Var
   simpa [NF.join, nodeF, NF.one] using this
 ·rw [if_neg h, if_neg h]
theorem rows_few {env : GEnv} (h : fewE env = true) : rowsE env := by
 obtain ⟨h1, h2⟩ := fewE_small h
 exact ⟨h1, fun l hl => (h2 l hl).1⟩
theorem suf_tail {N : Nat} (hN : 40000000 ≤ N) (aw : law26_awake N = some true) {x : GExpr} (hb : x.bulk ≤ 16777216) {env : GEnv} (he : fewE env = true) (v : Int) (ev : GEvent) :
 ((registers_Read N x v).bind fun r10 =>
  if Ar.cmp .neq r10.2 0 = true then
   (law26_awake N).bind fun r11 =>
   if r11 = true then
    (expr_Check N x).bind fun r12 =>
    some (Ar.cmp .eql r10.2 r12)
   else
    some false
  else
   (registers_Reduce N r10.1 env).bind fun r13 =>
   if Ar.cmp .neq r13.2 0 = true then
    some false
   else
    (expr_Eval N x env v ev).bind fun r14 =>
    (expr_Eval N x r13.1 v ev).bind fun r15 =>
    (registers_Agree N r10.1 env r13.1).bind fun r16 =>
    (law26_awake N).bind fun r17 =>
    some (Ar.an (Ar.an (Ar.an (Ar.an r17 (Ar.cmp .eql r14.2 r15.2)) (Ar.an (Ar.cmp .eql r14.1.Kind r15.1.Kind) (Ar.an (Ar.cmp .eql r14.1.Num r15.1.Num) (Ar.an (Ar.scmp .eql r14.1.Text r15.1.Text) true)))) (Ar.cmp .eql r16.2 0)) r16.1)) = some true := by
 rw [Read_eq hN v hb]
 simp only [Option.bind_some]
 unfold readA
 by_cases h : exprCheck x = 0
 ·rw [if_pos h]
  obtain ⟨_, _, h3⟩ := exprCheck_ok h
  obtain ⟨fo, fs⟩ := exprF_good v x h3
  rw [if_neg (ne_false rfl), reduce_eq hN fo fs he]
  simp only [Option.bind_some]
  have hk := kept_few (f := exprF v x) he
  rw [if_neg (ne_false rfl), eval_eq hN (rows_few he) v ev hb, eval_eq hN (rows_few hk) v ev hb, agree_eq hN fo fs he hk, aw, eval_kept fo env v ev (NF.join_self _), kept_kept fo fo (NF.join_self _)]
  simp [an_def, cmp_eql, scmp_eql]
 ·rw [if_neg h, if_pos (ne_true h), aw]
  simp only [Option.bind_some, if_true]
  rw [check_eq8 hN hb]
  simp [cmp_eql]
theorem idx_pos {α : Type} {l : List α} {v : Int} (h0 : 0 ≤ v) (h : v.toNat < l.length) : idxL l v = some l[v.toNat] := by
 obtain ⟨n, rfl⟩ := Int.eq_ofNat_of_zero_le h0
 rw [idx_at, List.getElem?_eq_getElem (by simpa using h)]; rfl
theorem suffices_said {N : Nat} (hN : 40000000 ≤ N) (aw : law26_awake N = some true) {x : GExpr} (hb : x.bulk ≤ 16777216) (env : GEnv) (own : GS30) : law26_RegistersSuffices N x env own = some true := by
 unfold law26_RegistersSuffices
 obtain ⟨b, h1⟩ := few8_eq hN hb
 rw [h1]
 simp only [Option.bind_some]
 by_cases hb1 : Ar.nt b = true
 ·rw [if_pos hb1, aw]; rfl
 rw [if_neg hb1]
 obtain ⟨c, h2, h3⟩ := few_env_eq hN env
 rw [h2]
 simp only [Option.bind_some]
 by_cases hc1 : Ar.nt c = true
 ·rw [if_pos hc1, aw]; rfl
 rw [if_neg hc1]
 have he : fewE env = true := h3 (by rw [nt_def] at hc1; simpa using hc1)
 have T := fun v ev => suf_tail hN aw hb he v ev
 by_cases p1 : Ar.cmp .geq own.E0 0 = true
 ·rw [if_pos p1]
  by_cases p2 : Ar.cmp .lss own.E0 (Ar.len env.Vars) = true
  ·rw [if_pos p2]
   by_cases p3 : Ar.cmp .geq own.E1 0 = true
   ·rw [if_pos p3]
    rw [cmp_geq] at p1 p3
    rw [cmp_lss, len_def] at p2
    have q1 : (own.E0.toNat : Int) = own.E0 := by have := of_decide_eq_true p1; omega
    have q2 : own.E0.toNat < env.Vars.length := by have := of_decide_eq_true p2; omega
    have q3 : (own.E1.toNat : Int) = own.E1 := by have := of_decide_eq_true p3; omega
    have e1 : idxL env.Vars own.E0 = some env.Vars[own.E0.toNat] := idx_pos (by omega) q2
    rw [e1]
    simp only [Option.bind_some]
    by_cases p4 : Ar.cmp .lss own.E1 (Ar.len env.Vars[own.E0.toNat]) = true
    ·rw [if_pos p4]
     rw [cmp_lss, len_def] at p4
     have q4 : own.E1.toNat < (env.Vars[own.E0.toNat]).length := by have := of_decide_eq_true p4; omega
     have e2 : idxL env.Vars[own.E0.toNat] own.E1 = some (env.Vars[own.E0.toNat])[own.E1.toNat] := idx_pos (by omega) q4
     rw [e2]
     exact T _ _
    ·rw [if_neg p4]
     exact T _ _
   ·rw [if_neg p3]; exact T _ _
  ·rw [if_neg p2]; exact T _ _
 ·rw [if_neg p1]; exact T _ _
end
end Go.Ab

