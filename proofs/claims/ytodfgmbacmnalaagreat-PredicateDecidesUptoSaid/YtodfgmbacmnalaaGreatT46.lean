/- GQV1 GQV2 GQV3 -/
import Derived.Test.YtodfgmbacmnalaaGreatT45
set_option linter.all false

namespace Go.Ab
noncomputable section
def zVal : GValue := ⟨0, 0, ⟨#[]⟩⟩
def wrongP (k : Int) (v : GValue) : Int := if valBad v ≠ 0 then valBad v else if v.Kind = 0 ∨ (k ≠ 1 ∧ k ≠ 2 ∧ k ≠ 3) then 0 else 9
def combP (k : Int) (a b : GValue) : GValue :=
 if k = 1 then ⟨0, Ar.ar .add .i64 a.Num b.Num, ⟨#[]⟩⟩ else if k = 2 then ⟨0, Ar.mn a.Num b.Num, ⟨#[]⟩⟩ else if k = 3 then ⟨0, Ar.mx a.Num b.Num, ⟨#[]⟩⟩ else if k = 4 then a else if k = 5 then b else zVal
def singP (k : Int) (v : GValue) : GValue := if k = 0 then zVal else v
def foldP (k : Int) : List GValue → GValue
 | [] => zVal
 | v :: l => l.foldl (fun a b => combP k a (singP k b)) (singP k v)
def aggP (k : Int) (l : List GValue) (o : GValue) : GValue × Int :=
 if k < 0 ∨ 5 < k then (zVal, 1) else if 4096 < l.length then (zVal, 5) else if bad1 (wrongP k) l ≠ 0 then (zVal, bad1 (wrongP k) l) else if wrongP k o ≠ 0 then (zVal, wrongP k o)
 else if k = 0 then (⟨0, l.length, ⟨#[]⟩⟩, 0) else if l = [] ∧ k ≠ 1 then (o, 0) else (foldP k l, 0)
theorem suits_aggr (N : Nat) (k : Int) (v : GValue) : aggregate_suits N k v = some (decide (v.Kind = 0 ∨ (k ≠ 1 ∧ k ≠ 2 ∧ k ≠ 3))) := by
 unfold aggregate_suits
 simp only [or_def, an_def, cmp_eql, cmp_neq, Option.some.injEq]
 by_cases h0 : v.Kind = 0 <;> by_cases h1 : k = 1 <;> by_cases h2 : k = 2 <;> by_cases h3 : k = 3 <;> simp [h0, h1, h2, h3]
theorem wrong_eq (N : Nat) (k : Int) (v : GValue) : aggregate_wrong N k v = some (wrongP k v) := by
 unfold aggregate_wrong wrongP
 rw [value_eq, suits_aggr]
 simp only [Option.bind_some]
 by_cases h : valBad v = 0
 ·rw [if_neg (ne_false h), if_neg (show ¬ valBad v ≠ 0 by simpa using h)]
  by_cases h2 : v.Kind = 0 ∨ (k ≠ 1 ∧ k ≠ 2 ∧ k ≠ 3)
  ·rw [if_neg (by rw [nt_def, decide_eq_true h2]; decide), if_pos h2]
  ·rw [if_pos (by rw [nt_def, decide_eq_false h2]; rfl), if_neg h2]
 ·rw [if_pos (ne_true h), if_pos h]
theorem wrong_ok {k : Int} {v : GValue} (h : wrongP k v = 0) : valBad v = 0 ∧ (v.Kind = 0 ∨ (k ≠ 1 ∧ k ≠ 2 ∧ k ≠ 3)) := by
 unfold wrongP at h
 split at h
 ·rename_i h1; exact absurd h h1
 ·rename_i h1
  split at h
  ·rename_i h2; exact ⟨by simpa using h1, h2⟩
  ·cases h
theorem val_num {v : GValue} (h : valBad v = 0) (hk : v.Kind = 0) : v.Text = ⟨#[]⟩ ∧ -1099511627776 ≤ v.Num ∧ v.Num ≤ 1099511627776 := by
 unfold valBad at h
 rw [if_pos (.inl hk)] at h
 split at h
 ·cases h
 ·rename_i h1
  split at h
  ·cases h
  ·rename_i h2
   refine ⟨by simpa using h1, ?_⟩
   simp only [hk, true_and] at h2
   omega
theorem num_val {n : Int} (h0 : -1099511627776 ≤ n) (h1 : n ≤ 1099511627776) : valBad ⟨0, n, ⟨#[]⟩⟩ = 0 := by
 unfold valBad
 simp only [true_or, if_true, ne_eq, not_true_eq_false, if_false]
 rw [if_neg (by simp; omega)]
structure GoodA (k : Int) (n : Nat) (v : GValue) : Prop where
 c : k = 0 → v = zVal
 s : k = 1 → v.Kind = 0 ∧ v.Text = ⟨#[]⟩ ∧ -(1099511627776 * (n : Int)) ≤ v.Num ∧ v.Num ≤ 1099511627776 * (n : Int)
 m : k = 2 ∨ k = 3 → valBad v = 0 ∧ v.Kind = 0
 f : k = 4 ∨ k = 5 → valBad v = 0
theorem good_one {k : Int} {v : GValue} (h : wrongP k v = 0) : GoodA k 1 (singP k v) := by
 obtain ⟨h1, h2⟩ := wrong_ok h
 unfold singP
 by_cases k0 : k = 0
 ·rw [if_pos k0]; exact ⟨fun _ => rfl, by omega, by omega, by omega⟩
 ·rw [if_neg k0]
  refine ⟨by omega, fun e => ?_, fun e => ⟨h1, by omega⟩, fun _ => h1⟩
  have hk : v.Kind = 0 := by omega
  obtain ⟨a, b, c⟩ := val_num h1 hk
  exact ⟨hk, a, by omega, by omega⟩
theorem good_comb {k : Int} {n : Nat} {a v : GValue} (ha : GoodA k n a) (hn : n ≤ 4096) (h : wrongP k v = 0) : GoodA k (n + 1) (combP k a (singP k v)) := by
 obtain ⟨h1, h2⟩ := wrong_ok h
 unfold combP
 by_cases k1 : k = 1
 ·rw [if_pos k1]
  have hk : v.Kind = 0 := by omega
  obtain ⟨_, b, c⟩ := val_num h1 hk
  obtain ⟨_, _, d, e⟩ := ha.s k1
  have e1 : singP k v = v := if_neg (by omega)
  rw [e1]
  have e2 : Ar.ar .add .i64 a.Num v.Num = a.Num + v.Num := add_i64 (by omega) (by omega)
  rw [e2]
  exact ⟨by omega, fun _ => ⟨rfl, rfl, by simp only; omega, by simp only; omega⟩, by omega, by omega⟩
 rw [if_neg k1]
 by_cases k2 : k = 2
 ·rw [if_pos k2]
  have hk : v.Kind = 0 := by omega
  obtain ⟨_, b, c⟩ := val_num h1 hk
  obtain ⟨d, e⟩ := ha.m (.inl k2)
  obtain ⟨_, d1, d2⟩ := val_num d e
  have e1 : singP k v = v := if_neg (by omega)
  rw [e1]
  refine ⟨by omega, by omega, fun _ => ⟨?_, rfl⟩, by omega⟩
  show valBad ⟨0, if v.Num < a.Num then v.Num else a.Num, ⟨#[]⟩⟩ = 0
  split <;> exact num_val (by omega) (by omega)
 rw [if_neg k2]
 by_cases k3 : k = 3
 ·rw [if_pos k3]
  have hk : v.Kind = 0 := by omega
  obtain ⟨_, b, c⟩ := val_num h1 hk
  obtain ⟨d, e⟩ := ha.m (.inr k3)
  obtain ⟨_, d1, d2⟩ := val_num d e
  have e1 : singP k v = v := if_neg (by omega)
  rw [e1]
  refine ⟨by omega, by omega, fun _ => ⟨?_, rfl⟩, by omega⟩
  show valBad ⟨0, if a.Num < v.Num then v.Num else a.Num, ⟨#[]⟩⟩ = 0
  split <;> exact num_val (by omega) (by omega)
 rw [if_neg k3]
 by_cases k4 : k = 4
 ·rw [if_pos k4]; exact ⟨by omega, by omega, by omega, fun _ => ha.f (.inl k4)⟩
 rw [if_neg k4]
 by_cases k5 : k = 5
 ·rw [if_pos k5]
  have e1 : singP k v = v := if_neg (by omega)
  rw [e1]
  exact ⟨by omega, by omega, by omega, fun _ => h1⟩
 rw [if_neg k5]
 exact ⟨fun _ => rfl, by omega, by omega, by omega⟩
theorem combine_eq {N : Nat} {k : Int} (h0 : 0 ≤ k) (h5 : k ≤ 5) (a b : GValue) : aggregate_combine N k a b = some (combP k a b) := by
 have h : k = 0 ∨ k = 1 ∨ k = 2 ∨ k = 3 ∨ k = 4 ∨ k = 5 := by omega
 rcases h with rfl | rfl | rfl | rfl | rfl | rfl <;> rfl
theorem single_eq (N : Nat) (k : Int) (v : GValue) : aggregate_single N k v = some (singP k v) := by
 unfold aggregate_single singP
 rw [cmp_eql]
 by_cases h : k = 0
 ·rw [if_pos (decide_eq_true h), if_pos h]; rfl
 ·rw [if_neg (by simpa using h), if_neg h]
def accP (k : Int) (l : List GValue) : GAccumulator := ⟨k, l.length, foldP k l⟩
theorem foldP_snoc (k : Int) (l : List GValue) (v : GValue) : foldP k (l ++ [v]) = if l = [] then singP k v else combP k (foldP k l) (singP k v) := by
 cases l with
 | nil => rfl
 | cons a l => simp [foldP, List.foldl_append]
theorem step_eq {N : Nat} {k : Int} (h0 : 0 ≤ k) (h5 : k ≤ 5) (l : List GValue) (hl : l.length ≤ 4096) (v : GValue) : aggregate_Of_1 N (accP k l) v k = some (accP k (l ++ [v])) := by
 unfold aggregate_Of_1
 rw [single_eq]
 simp only [Option.bind_some]
 unfold aggregate_merged
 rw [cmp_eql, cmp_eql]
 have e : accP k (l ++ [v]) = ⟨k, (l.length : Int) + 1, if l = [] then singP k v else combP k (foldP k l) (singP k v)⟩ := by
  unfold accP; rw [foldP_snoc]; simp
 rw [e]
 cases l with
 | nil => rfl
 | cons a l =>
  have hc : ¬ (decide ((accP k (a :: l)).Count = 0) = true) := by
   show ¬ decide (((a :: l).length : Int) = 0) = true
   simp only [List.length_cons, decide_eq_true_eq]; omega
  rw [if_neg hc, if_neg (by simp)]
  show ((aggregate_combine N k (foldP k (a :: l)) (singP k v)).bind _).bind _ = _
  rw [combine_eq h0 h5]
  simp only [Option.bind_some, accP, reduceCtorEq, if_false]
  rw [add_i64 (by simp at hl ⊢; omega) (by simp at hl ⊢; omega)]
theorem good_acc {k : Int} : ∀ (n : Nat) {l : List GValue}, l.length = n → l ≠ [] → l.length ≤ 4096 → (∀ v ∈ l, wrongP k v = 0) → GoodA k l.length (foldP k l) := by
 intro n
 induction n with
 | zero => intro l h0 h; exact absurd (List.eq_nil_of_length_eq_zero h0) h
 | succ n ih =>
  intro l h0 h hn hv
  rcases List.eq_nil_or_concat l with rfl | ⟨q, v, rfl⟩
  ·exact absurd rfl h
  ·rw [List.concat_eq_append] at *
   rw [foldP_snoc, List.length_append]
   have hw := hv v (by simp)
   simp only [List.length_append, List.length_cons, List.length_nil] at hn h0
   by_cases h : q = []
   ·subst h; rw [if_pos rfl]; exact good_one hw
   ·rw [if_neg h]; exact good_comb (ih (by omega) h (by omega) fun x hx => hv x (by simp [hx])) (by omega) hw
theorem aggcheck_eq {N : Nat} {k : Int} (h0 : 0 ≤ k) (h5 : k ≤ 5) {l : List GValue} (hl : l.length ≤ 4096) (hv : ∀ v ∈ l, wrongP k v = 0) : aggregate_Check N (accP k l) = some 0 := by
 unfold aggregate_Check aggregate_known
 simp only [Option.bind_some]
 have e1 : ¬ (Ar.nt (Ar.an (Ar.cmp .geq (accP k l).Kind 0) (Ar.cmp .leq (accP k l).Kind 5)) = true) := by
  show ¬ ((!(decide (0 ≤ k) && decide (k ≤ 5))) = true)
  simp; omega
 have e2 : ¬ (Ar.or (Ar.cmp .lss (accP k l).Count 0) (Ar.cmp .gtr (accP k l).Count 4096) = true) := by
  show ¬ ((decide ((l.length : Int) < 0) || decide (4096 < (l.length : Int))) = true)
  simp; omega
 rw [if_neg e1, if_neg e2]
 by_cases hz : l = [] ∨ k = 0
 ·have e3 : Ar.or (Ar.cmp .eql (accP k l).Count 0) (Ar.cmp .eql (accP k l).Kind 0) = true := by
   show (decide ((l.length : Int) = 0) || decide (k = 0)) = true
   rcases hz with rfl | h
   ·rfl
   ·simp [h]
  have e4 : (accP k l).Value = zVal := by
   by_cases hn : l = []
   ·subst hn; rfl
   ·exact (good_acc _ rfl hn hl hv).c (hz.resolve_left hn)
  rw [if_pos e3, e4]
  exact if_neg (by simp [nt_def, an_def, cmp_eql, scmp_eql, zVal])
 ·have hn : l ≠ [] := fun h => hz (.inl h)
  have hk : k ≠ 0 := fun h => hz (.inr h)
  have hlen : l.length ≠ 0 := fun h => hn (List.eq_nil_of_length_eq_zero h)
  have e3 : ¬ (Ar.or (Ar.cmp .eql (accP k l).Count 0) (Ar.cmp .eql (accP k l).Kind 0) = true) := by
   show ¬ ((decide ((l.length : Int) = 0) || decide (k = 0)) = true)
   simp [hk, hn]
  rw [if_neg e3]
  have g := good_acc _ rfl hn hl hv
  by_cases k1 : k = 1
  ·rw [if_pos (show Ar.cmp .eql (accP k l).Kind 1 = true from decide_eq_true k1)]
   obtain ⟨a, b, c, d⟩ := g.s k1
   have ev : (accP k l).Value = foldP k l := rfl
   have ec : (accP k l).Count = (l.length : Int) := rfl
   have em : Ar.ar .mul .i64 (l.length : Int) 1099511627776 = (l.length : Int) * 1099511627776 := wrap_i64 (by omega) (by omega)
   have en : Ar.neg .i64 ((l.length : Int) * 1099511627776) = - ((l.length : Int) * 1099511627776) := by
    show IntKind.wrap .i64 (0 - (l.length : Int) * 1099511627776) = _
    rw [wrap_i64 (by omega) (by omega)]; omega
   rw [ev, ec, em, en]
   rw [if_neg]
   simp only [nt_def, an_def, cmp_eql, cmp_geq, cmp_leq, scmp_eql]
   rw [decide_eq_true a, decide_eq_true b, decide_eq_true (show -((l.length : Int) * 1099511627776) ≤ (foldP k l).Num by omega), decide_eq_true (show (foldP k l).Num ≤ (l.length : Int) * 1099511627776 by omega)]
   decide
  ·rw [if_neg (show ¬ (Ar.cmp .eql (accP k l).Kind 1 = true) from (by show ¬ decide (k = 1) = true; simpa using k1))]
   have hvb : valBad (foldP k l) = 0 := by
    by_cases h23 : k = 2 ∨ k = 3
    ·exact (g.m h23).1
    ·exact g.f (by omega)
   have hsu : (foldP k l).Kind = 0 ∨ (k ≠ 1 ∧ k ≠ 2 ∧ k ≠ 3) := by
    by_cases h23 : k = 2 ∨ k = 3
    ·exact .inl (g.m h23).2
    ·exact .inr (by omega)
   show ((value_Check N (foldP k l)).bind _) = _
   rw [value_eq, hvb]
   simp only [Option.bind_some]
   rw [if_pos (show Ar.cmp .eql 0 0 = true from rfl)]
   show ((aggregate_suits N k (foldP k l)).bind _) = _
   rw [suits_aggr, decide_eq_true hsu]
   rfl
theorem agg_eq {N : Nat} (hN : 40000000 ≤ N) (k : Int) {l : List GValue} (hl : l.length < 1000000) (o : GValue) : aggregate_Of N k l o = some (aggP k l o) := by
 unfold aggregate_Of aggP aggregate_known
 simp only [Option.bind_some]
 by_cases h0 : k < 0 ∨ 5 < k
 ·rw [if_pos (by show (!(decide (0 ≤ k) && decide (k ≤ 5))) = true; simp; omega), if_pos h0]; rfl
 rw [if_neg (by show ¬ ((!(decide (0 ≤ k) && decide (k ≤ 5))) = true); simp; omega), if_neg h0]
 by_cases h1 : 4096 < l.length
 ·rw [if_pos (gt_true (by rw [len_def]; omega)), if_pos h1]; rfl
 rw [if_neg (gt_false (by rw [len_def]; omega)), if_neg h1]
 rw [loop_list l (by omega) (mk := fun (_ : Unit) i => i) (body := stepBad fun v => aggregate_wrong N k v) (fin := fun _ => .inl ()) (s := ()) (by omega) ?_ ?_]
 ·rw [range_stepBad (f := wrongP k) fun v _ => wrong_eq N k v]
  by_cases h2 : bad1 (wrongP k) l = 0
  ·rw [if_pos h2, if_neg (show ¬ bad1 (wrongP k) l ≠ 0 by simpa using h2)]
   have hv := bad1_zero.1 h2
   simp only [Option.bind_some]
   have hf : aggregate_folded_Accumulator_Value N (⟨k, 0, ⟨0, 0, ⟨#[]⟩⟩⟩ : GAccumulator) l (fun y1 y2 => aggregate_Of_1 N y1 y2 k) = some (accP k l) := by
    unfold aggregate_folded_Accumulator_Value
    rw [loop_list l (by omega) (mk := fun (s : GAccumulator) i => (i, s)) (body := fun s v => (aggregate_Of_1 N s v k).bind fun r => some (.inl r)) (fin := fun s => s) (s := ⟨k, 0, ⟨0, 0, ⟨#[]⟩⟩⟩) (by omega) ?_ ?_]
    ·obtain ⟨s', k1, p, k2, k3⟩ := range_run (R := GAccumulator) (step := fun s v => (aggregate_Of_1 N s v k).bind fun r => some (.inl r)) (fun r s => ∃ p, p ++ r = l ∧ s = accP k p) (fun v r s ⟨p, e1, e2⟩ => by
      subst e2
      refine ⟨_, by rw [step_eq (by omega) (by omega) p (by have := congrArg List.length e1; simp at this; omega)]; rfl, p ++ [v], by simpa using e1, rfl⟩) (l := l) (s := ⟨k, 0, ⟨0, 0, ⟨#[]⟩⟩⟩) ⟨[], rfl, rfl⟩
     simp only [k1, Option.bind_some]
     rw [List.append_nil] at k2
     rw [k3, k2]
    ·intro s i a ha hi
     have e : Ar.ar .add .i64 (i : Int) 1 = i + 1 := add_i64 (by omega) (by omega)
     simp only [cmp_lss, len_def, hi, decide_true, if_true, idx_at, ha, Option.bind_some, e]
     cases aggregate_Of_1 N s a k <;> rfl
    ·intro s; simp [cmp_lss, len_def]
   rw [hf]
   simp only [Option.bind_some]
   unfold aggregate_Result
   rw [aggcheck_eq (by omega) (by omega) (by omega) hv]
   simp only [Option.bind_some]
   rw [if_neg (show ¬ (Ar.cmp .neq 0 0 = true) by decide)]
   show ((aggregate_wrong N k o).bind _).bind _ = _
   rw [wrong_eq]
   simp only [Option.bind_some]
   by_cases h3 : wrongP k o = 0
   ·rw [if_neg (ne_false h3), if_neg (show ¬ wrongP k o ≠ 0 by simpa using h3)]
    by_cases h4 : k = 0
    ·rw [if_pos (show Ar.cmp .eql (accP k l).Kind 0 = true from decide_eq_true h4), if_pos h4]; rfl
    ·rw [if_neg (show ¬ (Ar.cmp .eql (accP k l).Kind 0 = true) from (by show ¬ decide (k = 0) = true; simpa using h4)), if_neg h4]
     by_cases h5 : l = [] ∧ k ≠ 1
     ·rw [if_pos (show Ar.an (Ar.cmp .eql (accP k l).Count 0) (Ar.cmp .neq (accP k l).Kind 1) = true by show (decide ((l.length : Int) = 0) && !decide (k = 1)) = true; simp [h5.1, h5.2]), if_pos h5]; rfl
     ·rw [if_neg (show ¬ (Ar.an (Ar.cmp .eql (accP k l).Count 0) (Ar.cmp .neq (accP k l).Kind 1) = true) by show ¬ ((decide ((l.length : Int) = 0) && !decide (k = 1)) = true); simpa using h5), if_neg h5]; rfl
   ·rw [if_pos (ne_true h3), if_pos h3]; rfl
  ·rw [if_neg h2, if_pos h2]; rfl
 ·intro s i a ha hi
  have e : Ar.ar .add .i64 (i : Int) 1 = i + 1 := add_i64 (by omega) (by omega)
  simp only [cmp_lss, len_def, hi, decide_true, if_true, idx_at, ha, Option.bind_some, e, stepBad, cmp_neq]
  cases aggregate_wrong N k a with
  | none => rfl
  | some r => by_cases h : r = 0 <;> simp [h]
 ·intro s; simp [cmp_lss, len_def]
end
end Go.Ab

namespace Go.Ab
noncomputable section
def evsP (env : GEnv) (v : Int) : List GEvent := if v < 0 ∨ (env.Vars.length : Int) ≤ v then [] else env.Vars.getD v.toNat []
def fieldP (e : GEvent) (k : Int) : GValue × Int := if (e.Values.length : Int) ≤ k then (zVal, 6) else (e.Values.getD k.toNat zVal, 0)
def totalP (rows : List GEvent) (x : GExpr) : GValue × Int :=
 if (rows.all fun e => decide (x.Field < (e.Values.length : Int))) = true then aggP x.Kind (rows.map fun e => e.Values.getD x.Field.toNat zVal) x.Value else (zVal, 6)
def lastP' (rows : List GEvent) (own : Int) (ev : GEvent) (v : Int) : Option GEvent := if v ≠ own then rows.getLast? else some ev
def readP (y : GEvent) (x : GExpr) : GValue × Int :=
 if x.Op = 2 then (⟨0, y.Time, ⟨#[]⟩⟩, 0) else if (fieldP y x.Field).2 ≠ 0 then (zVal, (fieldP y x.Field).2) else if valBad (fieldP y x.Field).1 ≠ 0 then (zVal, valBad (fieldP y x.Field).1) else ((fieldP y x.Field).1, 0)
def leafP (env : GEnv) (own : Int) (ev : GEvent) (x : GExpr) : GValue × Int :=
 if x.Op = 0 then (x.Value, 0) else if x.Op = 3 then (⟨0, (evsP env x.Var).length, ⟨#[]⟩⟩, 0) else if x.Op = 4 then totalP (evsP env x.Var) x
 else match lastP' (evsP env x.Var) own ev x.Var with | none => (zVal, 10) | some y => readP y x
theorem bad_arity {x : GExpr} (hx : exprBad x = 0) : 0 ≤ x.Op ∧ x.Op ≤ 12 ∧ (x.Args.length : Int) = (if x.Op < 5 then 0 else if x.Op = 12 then 1 else 2) := by
 unfold exprBad at hx
 by_cases h1 : x.Op < 0 ∨ 12 < x.Op
 ·rw [if_pos h1] at hx; cases hx
 rw [if_neg h1] at hx
 by_cases h2 : (x.Args.length : Int) ≠ (if x.Op < 5 then 0 else if x.Op = 12 then 1 else 2)
 ·rw [if_pos h2] at hx; cases hx
 exact ⟨by omega, by omega, by simpa using h2⟩
def rowsE (e : GEnv) : Prop := e.Vars.length < 1000000 ∧ ∀ l ∈ e.Vars, l.length < 1000000
theorem evs_len {env : GEnv} (h : rowsE env) (v : Int) : (evsP env v).length < 1000000 := by
 unfold evsP
 split
 ·simp
 ·rename_i hv
  have hi : v.toNat < env.Vars.length := by omega
  rw [List.getD_eq_getElem?_getD, List.getElem?_eq_getElem hi]
  exact h.2 _ (List.getElem_mem hi)
theorem evevents_eq (N : Nat) (env : GEnv) (own : Int) (ev : GEvent) (u : Unit) (v : Int) : expr_evaluator_events N ⟨env, own, ev, u⟩ v = some (evsP env v) := by
 unfold expr_evaluator_events evsP
 by_cases h : v < 0 ∨ (env.Vars.length : Int) ≤ v
 ·rw [if_pos (by simp only [or_def, cmp_lss, cmp_geq, len_def]; simpa using h), if_pos h]
 ·rw [if_neg (by simp only [or_def, cmp_lss, cmp_geq, len_def]; simpa using h), if_neg h]
  have hi : v.toNat < env.Vars.length := by omega
  have hv : v = (v.toNat : Int) := by omega
  rw [hv, idx_at]
  simp only [List.getD_eq_getElem?_getD, Int.toNat_natCast, List.getElem?_eq_getElem hi, Option.bind_some, Option.getD_some]
theorem evfield_eq (N : Nat) (e : GEvent) {k : Int} (hk : 0 ≤ k) : expr_field N e k = some (fieldP e k) := by
 unfold expr_field fieldP
 by_cases h : (e.Values.length : Int) ≤ k
 ·rw [if_pos (by rw [cmp_geq, len_def]; exact decide_eq_true h), if_pos h]; rfl
 ·rw [if_neg (by rw [cmp_geq, len_def]; simpa using h), if_neg h]
  have hi : k.toNat < e.Values.length := by omega
  have hv : k = (k.toNat : Int) := by omega
  rw [hv, idx_at]
  simp only [List.getD_eq_getElem?_getD, Int.toNat_natCast, List.getElem?_eq_getElem hi, Option.bind_some, Option.getD_some]
theorem range_take {α β R : Type} {body : List β → α → Option (List β ⊕ R)} {p : α → Bool} {g : α → β} {r : R} : ∀ {l : List α} {s : List β}, s.length + l.length ≤ 1000000 → (∀ (s : List β) x, x ∈ l → s.length ≤ 1000000 → body s x = some (if p x = true then .inl (s ++ [g x]) else .inr r)) →
 rangeL body l s = some (if l.all p = true then .inl (s ++ l.map g) else .inr r)
 | [], s, _, _ => by simp [rangeL]
 | x :: l, s, hl, h => by
  simp only [rangeL, h s x (by simp) (by simp at hl; omega)]
  by_cases hp : p x = true
  ·simp only [hp, if_true]
   rw [range_take (by simp at hl ⊢; omega) fun s y hy => h s y (by simp [hy])]
   simp [hp]
  ·simp [hp]
theorem evtotal_eq {N : Nat} (hN : 40000000 ≤ N) {env : GEnv} (he : rowsE env) (own : Int) (ev : GEvent) (u : Unit) {x : GExpr} (hf : 0 ≤ x.Field) : expr_evaluator_total N ⟨env, own, ev, u⟩ x = some (totalP (evsP env x.Var) x) := by
 have hl := evs_len he x.Var
 unfold expr_evaluator_total totalP
 rw [evevents_eq]
 simp only [Option.bind_some]
 generalize evsP env x.Var = rows at hl
 rw [loop_list rows (by omega) (mk := fun (s : List GValue) i => (s, i)) (body := fun s e => (expr_field N e x.Field).bind fun r => if Ar.cmp .neq r.2 0 = true then some (.inr (.inr r.2)) else (appL s [r.1]).bind fun l => some (.inl l)) (fin := fun s => .inl s) (s := []) (by omega) ?_ ?_]
 ·rw [range_take (p := fun e => decide (x.Field < (e.Values.length : Int))) (g := fun e => e.Values.getD x.Field.toNat zVal) (r := .inr 6) (by simp; omega) (fun s e _ hs => by
   rw [evfield_eq N e hf]
   unfold fieldP
   by_cases h : (e.Values.length : Int) ≤ x.Field
   ·rw [if_pos h, if_neg (by simpa using h)]; rfl
   ·rw [if_neg h, if_pos (by simpa using h)]
    simp only [Option.bind_some]
    rw [if_neg (by decide), appL_eq (by simp; omega)]; rfl)]
  by_cases h : (rows.all fun e => decide (x.Field < (e.Values.length : Int))) = true
  ·rw [if_pos h, if_pos h]
   simp only [Option.bind_some, List.nil_append]
   rw [agg_eq hN _ (by simpa using hl)]
   rfl
  ·rw [if_neg h, if_neg h]; rfl
 ·intro s i a ha hi
  have e : Ar.ar .add .i64 (i : Int) 1 = i + 1 := add_i64 (by omega) (by omega)
  simp only [cmp_lss, len_def, hi, decide_true, if_true, idx_at, ha, Option.bind_some, e]
  cases expr_field N a x.Field with
  | none => rfl
  | some r =>
   simp only [Option.bind_some]
   split
   ·rfl
   ·cases appL s [r.1] <;> rfl
 ·intro s; simp [cmp_lss, len_def]
theorem evleaf_eq {N : Nat} (hN : 40000000 ≤ N) {env : GEnv} (he : rowsE env) (own : Int) (ev : GEvent) (u : Unit) {x : GExpr} (hx : exprBad x = 0) (ha : x.Args = []) : expr_evaluator_leaf N ⟨env, own, ev, u⟩ x = some (leafP env own ev x) := by
 have hok := fldOk hx
 have hop : 0 ≤ x.Op ∧ x.Op < 5 := by
  have := bad_arity hx
  rw [ha] at this
  simp only [List.length_nil] at this
  obtain ⟨h1, h2, h3⟩ := this
  by_cases h5 : x.Op < 5
  ·exact ⟨h1, h5⟩
  ·rw [if_neg h5] at h3
   split at h3 <;> omega
 have hl := evs_len he x.Var
 unfold expr_evaluator_leaf leafP
 rw [evevents_eq]
 simp only [Option.bind_some]
 by_cases h0 : x.Op = 0
 ·rw [if_pos (by rw [cmp_eql]; exact decide_eq_true h0), if_pos h0]
 rw [if_neg (by rw [cmp_eql]; simpa using h0), if_neg h0]
 by_cases h3 : x.Op = 3
 ·rw [if_pos (by rw [cmp_eql]; exact decide_eq_true h3), if_pos h3]; rfl
 rw [if_neg (by rw [cmp_eql]; simpa using h3), if_neg h3]
 by_cases h4 : x.Op = 4
 ·rw [if_pos (by rw [cmp_eql]; exact decide_eq_true h4), if_pos h4, evtotal_eq hN he own ev u (hok.1 (.inr h4)).1]; rfl
 rw [if_neg (by rw [cmp_eql]; simpa using h4), if_neg h4]
 have key : ((if Ar.cmp .neq x.Var own = true then if Ar.cmp .eql (Ar.len (evsP env x.Var)) 0 = true then some (.inr ()) else (idxL (evsP env x.Var) (Ar.ar .sub .i64 (Ar.len (evsP env x.Var)) 1)).bind fun x6 => some (.inl x6) else some (.inl ev)) : Option (GEvent ⊕ Unit)) = some (match lastP' (evsP env x.Var) own ev x.Var with | some y => .inl y | none => .inr ()) := by
  unfold lastP'
  by_cases hv : x.Var = own
  ·rw [if_neg (ne_false hv), if_neg (by simpa using hv)]
  ·rw [if_pos (ne_true hv), if_pos hv]
   generalize evsP env x.Var = rows at hl
   rcases List.eq_nil_or_concat rows with rfl | ⟨q, y, rfl⟩
   ·rfl
   ·rw [List.concat_eq_append] at *
    have e1 : Ar.ar .sub .i64 (Ar.len (q ++ [y])) 1 = (q.length : Int) := by
     have : Ar.ar .sub .i64 (Ar.len (q ++ [y])) 1 = Ar.len (q ++ [y]) - 1 := wrap_i64 (by rw [len_def]; omega) (by rw [len_def]; omega)
     rw [this, len_def]; simp
    rw [if_neg (by rw [cmp_eql, len_def]; simp; omega), e1, idx_at]
    simp
 have key2 := congrArg (fun o => o.bind fun s5 => match s5 with
  | .inl y7 =>
   if Ar.cmp .eql x.Op 2 = true then
    some ((⟨0, y7.Time, ⟨#[]⟩⟩ : GValue), (0 : Int))
   else
    (expr_field N y7 x.Field).bind fun r8 =>
    ((
     if Ar.cmp .eql r8.2 0 = true then
      (value_Check N r8.1).bind fun r10 =>
      some r10
     else
      some r8.2
    ) : Option (Int)).bind fun s9 =>
    if Ar.cmp .neq s9 0 = true then
     some ((⟨0, 0, ⟨#[]⟩⟩ : GValue), s9)
    else
     some (r8.1, 0)
  | .inr y11 =>
   some ((⟨0, 0, ⟨#[]⟩⟩ : GValue), 10)) key
 refine key2.trans ?_
 cases hy : lastP' (evsP env x.Var) own ev x.Var with
 | none => rfl
 | some y =>
  simp only [Option.bind_some]
  unfold readP
  by_cases h2 : x.Op = 2
  ·rw [if_pos (by rw [cmp_eql]; exact decide_eq_true h2), if_pos h2]
  rw [if_neg (by rw [cmp_eql]; simpa using h2), if_neg h2]
  have h1 : x.Op = 1 := by omega
  rw [evfield_eq N y (hok.1 (.inl h1)).1]
  simp only [Option.bind_some]
  by_cases hb : (fieldP y x.Field).2 = 0
  ·rw [if_pos (by rw [cmp_eql]; exact decide_eq_true hb), value_eq, if_neg (by simpa using hb)]
   simp only [Option.bind_some]
   by_cases hc : valBad (fieldP y x.Field).1 = 0
   ·rw [if_neg (ne_false hc), if_neg (by simpa using hc)]
   ·rw [if_pos (ne_true hc), if_pos hc]; rfl
  ·rw [if_neg (by rw [cmp_eql]; simpa using hb), if_pos hb]
   simp only [Option.bind_some]
   rw [if_pos (ne_true hb)]; rfl
end
end Go.Ab

namespace Go.Ab
noncomputable section
def flagP (b : Bool) : GValue := if b = true then ⟨1, 1, ⟨#[]⟩⟩ else ⟨1, 0, ⟨#[]⟩⟩
def kindOk (op : Int) (kinds : List Int) (k : Int) : Bool :=
 if op = 5 ∨ op = 6 ∨ op = 7 ∨ op = 8 then decide (k = 0) else if op = 10 ∨ op = 11 ∨ op = 12 then decide (k = 1) else if op = 9 then decide (k = kinds.getD 0 0) else true
def opndP (op : Int) (kinds : List Int) : Int := if kinds.all (kindOk op kinds) = true then 0 else 9
instance (x y : GValue) : Decidable (x = y) := by
 obtain ⟨a, b, c⟩ := x
 obtain ⟨d, e, f⟩ := y
 exact decidable_of_iff (a = d ∧ b = e ∧ c = f) (by simp)
def applyP (op : Int) (l : List GValue) : GValue :=
 let a := l.getD 0 zVal
 let b := l.getD (l.length - 1) zVal
 if op = 9 then flagP (decide (a = l.getD 1 zVal)) else if op = 5 then ⟨0, Ar.ar .add .i64 a.Num b.Num, ⟨#[]⟩⟩ else if op = 6 then ⟨0, Ar.ar .sub .i64 a.Num b.Num, ⟨#[]⟩⟩
 else if op = 7 then flagP (decide (a.Num < b.Num)) else if op = 8 then flagP (decide (a.Num ≤ b.Num)) else if op = 10 then flagP (decide (a.Num = 1) && decide (b.Num = 1)) else if op = 11 then flagP (decide (a.Num = 1) || decide (b.Num = 1)) else flagP (!decide (a.Num = 1))
mutual
def evalP (R : GExpr → GValue × Int) : GExpr → GValue × Int
 | ⟨op, args, var, field, kind, val⟩ =>
  if args.length = 0 then R ⟨op, args, var, field, kind, val⟩ else
  match evalsP R args with
  | .inr f => (zVal, f)
  | .inl l => if opndP op (l.map (·.Kind)) ≠ 0 then (zVal, opndP op (l.map (·.Kind))) else (applyP op l, 0)
def evalsP (R : GExpr → GValue × Int) : List GExpr → List GValue ⊕ Int
 | [] => .inl []
 | a :: r => if (evalP R a).2 ≠ 0 then .inr (evalP R a).2 else match evalsP R r with | .inr f => .inr f | .inl l => .inl ((evalP R a).1 :: l)
end
theorem evalP_eq (R : GExpr → GValue × Int) (x : GExpr) : evalP R x = if x.Args.length = 0 then R x else
 match evalsP R x.Args with
 | .inr f => (zVal, f)
 | .inl l => if opndP x.Op (l.map (·.Kind)) ≠ 0 then (zVal, opndP x.Op (l.map (·.Kind))) else (applyP x.Op l, 0) := by cases x; simp only [evalP]
theorem evalsP_len {R : GExpr → GValue × Int} : ∀ {l : List GExpr} {r : List GValue}, evalsP R l = .inl r → r.length = l.length
 | [], r, h => by simp only [evalsP, Sum.inl.injEq] at h; subst h; rfl
 | a :: l, r, h => by
  simp only [evalsP] at h
  split at h
  ·cases h
  ·cases hr : evalsP R l with
   | inr f => rw [hr] at h; cases h
   | inl q => rw [hr] at h; simp only [Sum.inl.injEq] at h; subst h; simp [evalsP_len hr]
def AgreeL (R S : GExpr → GValue × Int) (x : GExpr) : Prop := ∀ y ∈ x.pre, y.Args = [] → R y = S y
mutual
theorem evalP_congr {R S : GExpr → GValue × Int} : ∀ x : GExpr, AgreeL R S x → evalP R x = evalP S x
 | ⟨op, args, var, field, kind, val⟩, h => by
  rw [evalP_eq, evalP_eq]
  by_cases h0 : args.length = 0
  ·simp only [h0, if_true]
   exact h _ (by rw [GExpr.pre_eq]; simp) (List.eq_nil_of_length_eq_zero h0)
  ·simp only [h0, if_false]
   rw [evalsP_congr args fun y hy => h y (by rw [GExpr.pre_eq]; exact List.mem_cons_of_mem _ hy)]
theorem evalsP_congr {R S : GExpr → GValue × Int} : ∀ l : List GExpr, (∀ y ∈ GExpr.pres l, y.Args = [] → R y = S y) → evalsP R l = evalsP S l
 | [], _ => rfl
 | a :: l, h => by
  simp only [evalsP]
  rw [evalP_congr a fun y hy => h y (by simp [GExpr.pres, hy]), evalsP_congr l fun y hy => h y (by simp [GExpr.pres, hy])]
end
theorem flag_eq (N : Nat) (b : Bool) : expr_flag N b = some (flagP b) := by
 unfold expr_flag value_Bool flagP
 cases b <;> rfl
theorem eoperands_eq {N : Nat} (hN : 40000000 ≤ N) (op : Int) {kinds : List Int} (hl : kinds.length < 1000000) : expr_operands N op kinds = some (opndP op kinds) := by
 unfold expr_operands opndP
 rw [loop_list kinds (by omega) (mk := fun (_ : Unit) i => i) (body := fun _ k => some (if kindOk op kinds k = true then .inl () else .inr (.inr ()))) (fin := fun _ => .inl ()) (s := ()) (by omega) ?_ ?_]
 ·rw [range_allE (p := kindOk op kinds) (r := .inr ()) fun x _ => rfl]
  by_cases h : kinds.all (kindOk op kinds) = true
  ·rw [if_pos h, if_pos h]; rfl
  ·rw [if_neg h, if_neg h]; rfl
 ·intro s i k hk hi
  have e : Ar.ar .add .i64 (i : Int) 1 = i + 1 := add_i64 (by omega) (by omega)
  have h0 : idxL kinds 0 = some (kinds.getD 0 0) := by
   have : idxL kinds 0 = kinds[0]? := idx_at (i := 0)
   rw [this, List.getD_eq_getElem?_getD, List.getElem?_eq_getElem (by omega)]; rfl
  simp only [cmp_lss, len_def, hi, decide_true, if_true, idx_at, hk, Option.bind_some, e, cmp_eql, h0, nt_def]
  unfold kindOk
  by_cases a5 : op = 5
  ·subst a5; by_cases hz : k = 0 <;> simp [hz]
  by_cases a6 : op = 6
  ·subst a6; by_cases hz : k = 0 <;> simp [hz]
  by_cases a7 : op = 7
  ·subst a7; by_cases hz : k = 0 <;> simp [hz]
  by_cases a8 : op = 8
  ·subst a8; by_cases hz : k = 0 <;> simp [hz]
  by_cases a10 : op = 10
  ·subst a10; by_cases hz : k = 1 <;> simp [hz]
  by_cases a11 : op = 11
  ·subst a11; by_cases hz : k = 1 <;> simp [hz]
  by_cases a12 : op = 12
  ·subst a12; by_cases hz : k = 1 <;> simp [hz]
  by_cases a9 : op = 9
  ·subst a9
   generalize kinds.getD 0 0 = z
   by_cases hz : k = z <;> simp [hz]
  ·simp [a5, a6, a7, a8, a9, a10, a11, a12]
 ·intro s; simp [cmp_lss, len_def]
theorem range_evals {α : Type} {F : GExpr → Option (GValue × Int)} {R : GExpr → GValue × Int} : ∀ {l : List GExpr} {s : List GValue × List Int}, s.2 = s.1.map (·.Kind) → s.1.length + l.length ≤ 1000000 → (∀ a ∈ l, F a = some (evalP R a)) →
 rangeL (fun (s : List GValue × List Int) a => (F a).bind fun r8 => if Ar.cmp .neq r8.2 0 = true then some (Sum.inr (Sum.inr (α := α) r8.2)) else (appL s.1 [r8.1]).bind fun l9 => (appL s.2 [r8.1.Kind]).bind fun l12 => some (.inl (l9, l12))) l s =
  some (match evalsP R l with | .inr f => .inr (.inr f) | .inl q => .inl (s.1 ++ q, (s.1 ++ q).map (·.Kind)))
 | [], s, h, _, _ => by obtain ⟨a, b⟩ := s; dsimp only at h; subst h; simp [rangeL, evalsP]
 | a :: l, s, h, hl, hF => by
  obtain ⟨s1, s2⟩ := s
  dsimp only at h; subst h
  simp only [List.length_cons] at hl
  simp only [rangeL, evalsP, hF a (by simp), Option.bind_some, cmp_neq]
  by_cases hz : (evalP R a).2 = 0
  ·simp only [hz, decide_true, Bool.not_true, Bool.false_eq_true, if_false, ne_eq, not_true_eq_false]
   rw [appL_eq (by simp; omega), appL_eq (by simp; omega)]
   simp only [Option.bind_some]
   have ih := range_evals (α := α) (F := F) (R := R) (l := l) (s := (s1 ++ [(evalP R a).1], s1.map (·.Kind) ++ [(evalP R a).1.Kind])) (by simp) (by simp; omega) fun b hb => hF b (by simp [hb])
   simp only [cmp_neq] at ih
   rw [ih]
   cases evalsP R l with
   | inr f => rfl
   | inl q => simp
  ·simp [hz]
theorem getD_len {l : List GValue} {i : Nat} (h : i < l.length) : l[i]? = some (l.getD i zVal) := by
 rw [List.getD_eq_getElem?_getD, List.getElem?_eq_getElem h]; rfl
theorem eval_node {N : Nat} (hN : 40000000 ≤ N) {env : GEnv} (he : rowsE env) (own : Int) (ev : GEvent) (u : Unit) : ∀ (n : Nat) (x : GExpr), x.dep ≤ n → x.bulk ≤ 16777216 → (∀ y ∈ x.pre, exprBad y = 0) → expr_evaluator_eval N n ⟨env, own, ev, u⟩ x = some (evalP (leafP env own ev) x) := by
 intro n
 induction n with
 | zero => intro x h; rw [GExpr.dep_eq] at h; omega
 | succ n ih =>
  intro x hd hb hbad
  have hx := hbad x (by rw [GExpr.pre_eq]; simp)
  have hd' := GExpr.dep_eq x
  unfold expr_evaluator_eval
  rw [evalP_eq]
  by_cases h0 : x.Args.length = 0
  ·rw [if_pos (by rw [cmp_eql, len_def]; exact decide_eq_true (by omega)), if_pos h0, evleaf_eq hN he own ev u hx (List.eq_nil_of_length_eq_zero h0)]; rfl
  rw [if_neg (by rw [cmp_eql, len_def]; simpa using (show ¬ (x.Args.length : Int) = 0 by omega)), if_neg h0]
  obtain ⟨a1, a2, a3⟩ := bad_arity hx
  have hlen : x.Args.length ≤ 2 := by
   split at a3
   ·omega
   ·split at a3 <;> omega
  have hop5 : 5 ≤ x.Op := by
   by_cases h5 : x.Op < 5
   ·rw [if_pos h5] at a3; omega
   ·omega
  have hF : ∀ a ∈ x.Args, expr_evaluator_eval N n ⟨env, own, ev, u⟩ a = some (evalP (leafP env own ev) a) := fun a ha => ih a (by have := edeps_le ha; omega) (by have := mem_bulk_e ha; omega) fun y hy => hbad y (by rw [GExpr.pre_eq]; exact List.mem_cons_of_mem _ (epres_mem ha hy))
  rw [loop_list x.Args (by omega) (mk := fun (s : List GValue × List Int) i => (s.1, s.2, i)) (body := fun (s : List GValue × List Int) a => (expr_evaluator_eval N n ⟨env, own, ev, u⟩ a).bind fun r8 => if Ar.cmp .neq r8.2 0 = true then some (.inr (.inr r8.2)) else (appL s.1 [r8.1]).bind fun l9 => (appL s.2 [r8.1.Kind]).bind fun l12 => some (.inl (l9, l12))) (fin := fun s => .inl s) (s := ([], [])) (by omega) ?_ ?_]
  ·rw [range_evals (R := leafP env own ev) rfl (by simp; omega) hF]
   cases hq : evalsP (leafP env own ev) x.Args with
   | inr f => rfl
   | inl q =>
    simp only [Option.bind_some, List.nil_append]
    have hql := evalsP_len hq
    rw [eoperands_eq hN _ (by simp; omega)]
    simp only [Option.bind_some]
    by_cases hz : opndP x.Op (q.map (·.Kind)) = 0
    ·rw [if_neg (ne_false hz), if_neg (show ¬ opndP x.Op (q.map (·.Kind)) ≠ 0 by simpa using hz)]
     have hi0 : idxL q 0 = some (q.getD 0 zVal) := by
      have : idxL q 0 = q[0]? := idx_at (i := 0)
      rw [this, getD_len (by omega)]
     have hiL : idxL q (Ar.ar .sub .i64 (Ar.len q) 1) = some (q.getD (q.length - 1) zVal) := by
      have e : Ar.ar .sub .i64 (Ar.len q) 1 = ((q.length - 1 : Nat) : Int) := by
       have : Ar.ar .sub .i64 (Ar.len q) 1 = Ar.len q - 1 := wrap_i64 (by rw [len_def]; omega) (by rw [len_def]; omega)
       rw [this, len_def]; omega
      rw [e, idx_at, getD_len (by omega)]
     unfold applyP
     by_cases h9 : x.Op = 9
     ·rw [if_pos (by rw [cmp_eql]; exact decide_eq_true h9)]
      have h2 : x.Args.length = 2 := by rw [if_neg (by omega), if_neg (by omega)] at a3; omega
      have hi1 : idxL q 1 = some (q.getD 1 zVal) := by
       have : idxL q 1 = q[1]? := idx_at (i := 1)
       rw [this, getD_len (by omega)]
      rw [hi0, hi1]
      simp only [Option.bind_some]
      rw [flag_eq]
      simp only [Option.bind_some, h9, if_true, Option.some.injEq, Prod.mk.injEq, and_true]
      congr 1
      generalize q.getD 0 zVal = v
      generalize q.getD 1 zVal = w
      obtain ⟨v1, v2, v3⟩ := v
      obtain ⟨w1, w2, w3⟩ := w
      simp only [an_def, cmp_eql, scmp_eql, GValue.mk.injEq, Bool.and_true, Bool.decide_and]
     rw [if_neg (by rw [cmp_eql]; simpa using h9)]
     rw [hi0, hiL]
     simp only [Option.bind_some, expr_operations_1, expr_operations_2, expr_operations_3, expr_operations_4, expr_operations_5, expr_operations_6, expr_operations_7, expr_operations_8, flag_eq, cmp_eql, cmp_lss, cmp_leq, an_def, or_def, cmp_neq, if_neg h9]
     have hop : x.Op = 5 ∨ x.Op = 6 ∨ x.Op = 7 ∨ x.Op = 8 ∨ x.Op = 10 ∨ x.Op = 11 ∨ x.Op = 12 := by omega
     rcases hop with h | h | h | h | h | h | h <;> simp [h]
    ·rw [if_pos (ne_true hz), if_pos hz]; rfl
  ·intro s i a ha hi
   have e : Ar.ar .add .i64 (i : Int) 1 = i + 1 := add_i64 (by omega) (by omega)
   simp only [cmp_lss, len_def, hi, decide_true, if_true, idx_at, ha, Option.bind_some, e]
   cases expr_evaluator_eval N n ⟨env, own, ev, u⟩ a with
   | none => rfl
   | some r =>
    simp only [Option.bind_some]
    split
    ·rfl
    ·cases appL s.1 [r.1] with
     | none => rfl
     | some l =>
      simp only [Option.bind_some]
      cases appL s.2 [r.1.Kind] <;> rfl
  ·intro s; simp [cmp_lss, len_def]
def evalA (env : GEnv) (own : Int) (ev : GEvent) (x : GExpr) : GValue × Int := if exprCheck x = 0 then evalP (leafP env own ev) x else (zVal, exprCheck x)
theorem exprCheck_bad {x : GExpr} (h : exprCheck x = 0) : ∀ y ∈ x.pre, exprBad y = 0 := by
 unfold exprCheck at h
 split at h
 ·omega
 split at h
 ·omega
 exact bad1_zero.1 h
theorem eval_eq {N : Nat} (hN : 40000000 ≤ N) {env : GEnv} (he : rowsE env) (own : Int) (ev : GEvent) {x : GExpr} (hb : x.bulk ≤ 16777216) : expr_Eval N x env own ev = some (evalA env own ev x) := by
 unfold expr_Eval evalA
 rw [check_eq8 hN hb]
 simp only [Option.bind_some]
 by_cases h : exprCheck x = 0
 ·rw [if_neg (ne_false h), if_pos h]
  have hd := dep_bulk_e x
  rw [eval_node hN he own ev () N x (by omega) hb (exprCheck_bad h)]
  rfl
 ·rw [if_pos (ne_true h), if_neg h]; rfl
end
end Go.Ab

