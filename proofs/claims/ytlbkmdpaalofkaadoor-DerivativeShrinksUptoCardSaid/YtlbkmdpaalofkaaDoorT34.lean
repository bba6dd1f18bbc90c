/- Proved: for every pattern that reads as data of bulk at most 1048576, with the package variable shapes as the program lays it, the law DerivativeShrinks returns true and its argument reads behind the call as it read before. -/
import Derived.Test.YtlbkmdpaalofkaaDoorT33
import Derived.Test.YtlbkmdpaalofkaaDoorT29
set_option linter.unusedVariables false
set_option linter.unusedSimpArgs false
set_option linter.unusedSectionVars false

/- The law of shrinking, in plain terms. -/
namespace Go.Ab

theorem range_test {α R : Type} (P : α → Bool) (r : R) : ∀ l : List α, rangeL (fun (_ : Unit) y => if P y = true then some (Sum.inr r) else some (.inl ())) l () = some (if l.any P = true then .inr r else .inl ())
  | [] => rfl
  | y :: l => by
    unfold rangeL
    cases h : P y with
    | true => simp [h]
    | false =>
      simp only [Bool.false_eq_true, if_false, List.any_cons, h, Bool.false_or]
      exact range_test P r l

/-- Every node of a checked pattern has its operands. -/
theorem Good.sub {N : Nat} {x y : GPattern} (h : Good N x) (hy : y ∈ x.pre) : nodeBad N y = 0 := h y hy

theorem whole_eq {N : Nat} (hN : 40000000 ≤ N) {x : GPattern} (hb : x.bulk ≤ 16777216) : pattern_whole N x = some (if restBad N x ≠ 0 then restBad N x else if x.pre.any (fun y => Ar.cmp .geq y.Op 8) = true then 1 else 0) := by
  unfold pattern_whole
  rw [rest_eq hN hb]
  simp only [Option.bind_some]
  by_cases h : restBad N x = 0
  · rw [if_neg (ne_false h), if_neg (by simpa using h), preorder_eq hN hb]
    simp only [Option.bind_some]
    rw [range_test (fun y : GPattern => Ar.cmp .geq y.Op 8) (1 : Int) x.pre]
    by_cases h2 : x.pre.any (fun y => Ar.cmp .geq y.Op 8) = true
    · rw [if_pos h2, if_pos h2]; rfl
    · rw [if_neg h2, if_neg h2]; rfl
  · rw [if_pos (ne_true h), if_pos h]

theorem rest_good {N : Nat} {x : GPattern} (hz : restBad N x = 0) : x.pre.length ≤ 64 ∧ x.dep ≤ 12 ∧ Good N x := by
  have hp : x.pre.length ≤ 64 := by
    by_cases h : 64 < x.pre.length
    · rw [restBad, if_pos h] at hz; cases hz
    · omega
  have hd : ¬ 12 < x.dep := fun h => by rw [restBad, if_neg (by omega), if_pos h] at hz; cases hz
  rw [restBad, if_neg (by omega), if_neg hd] at hz
  exact ⟨hp, by omega, bad1_zero.1 hz⟩

theorem node_arity {N : Nat} (hN : 40000000 ≤ N) {x y : GPattern} (hb : x.bulk ≤ 16777216) (hp : x.pre.length ≤ 64) (hg : Good N x) (hy : y ∈ x.pre) : Arity y := by
  have h1 := mem_pre x y hy
  have h2 := args_pre y
  exact arity_ok hN (by omega) (by omega) (hg y hy)

theorem idx_tab {i : Int} (h0 : 0 ≤ i) (h1 : i ≤ 10) : ∃ s, idxL tab_pattern_shapes i = some s := by
  unfold idxL
  rw [if_pos h0, List.getElem?_eq_getElem (by show i.toNat < 11; omega)]
  exact ⟨_, rfl⟩

theorem count_some {N : Nat} (hN : 40000000 ≤ N) {x : GPattern} (hb : x.bulk ≤ 16777216) (hz : restBad N x = 0) : ∃ r, pattern_count N x = some r := by
  obtain ⟨hp, hd, hg⟩ := rest_good hz
  unfold pattern_count
  rw [preorder_eq hN hb]
  simp only [Option.bind_some]
  obtain ⟨s', k1, k2⟩ := range_run (R := Unit) (step := fun (s7 : Bool × Int × Int) (y6 : GPattern) => (idxL tab_pattern_shapes y6.Op).bind fun x11 => ((if x11.typed = true then some (Ar.an s7.1 (Ar.cmp .eql y6.Var s7.2.2), Ar.ar .add .i64 s7.2.2 1) else some (s7.1, s7.2.2)) : Option (Bool × Int)).bind fun s12 => if x11.scope = true then some (.inl (Ar.an s12.1 (Ar.cmp .eql y6.Scope s7.2.1), Ar.ar .add .i64 s7.2.1 1, s12.2)) else some (.inl (s12.1, s7.2.1, s12.2)))
    (fun l s => ∀ y ∈ l, y ∈ x.pre) (fun y l s h => by
      have ha := node_arity hN hb hp hg (h y (by simp))
      obtain ⟨t, ht⟩ := idx_tab ha.op.1 ha.op.2
      simp only [ht, Option.bind_some]
      cases t.typed <;> cases t.scope <;> exact ⟨_, rfl, fun z hz => h z (by simp [hz])⟩) (l := x.pre) (s := (true, 0, 0)) (fun y h => h)
  rw [k1]
  exact ⟨_, rfl⟩

theorem checkP_eq {N : Nat} (hN : 40000000 ≤ N) {x : GPattern} (hb : x.bulk ≤ 16777216) : ∃ c, pattern_Check N x = some c ∧ (c = 0 → restBad N x = 0 ∧ ∀ y ∈ x.pre, y.Op < 8) := by
  unfold pattern_Check
  rw [whole_eq hN hb]
  simp only [Option.bind_some]
  by_cases h : restBad N x = 0
  · rw [if_neg (show ¬ (restBad N x ≠ 0) by simpa using h)]
    by_cases h2 : x.pre.any (fun y => Ar.cmp .geq y.Op 8) = true
    · rw [if_pos h2, if_pos (ne_true (by omega))]
      exact ⟨1, rfl, fun h => by cases h⟩
    · rw [if_neg h2, if_neg (ne_false rfl)]
      obtain ⟨r, hr⟩ := count_some hN hb h
      rw [hr]
      simp only [Option.bind_some]
      have h3 : ∀ y ∈ x.pre, y.Op < 8 := fun y hy => by
        rcases Int.lt_or_le y.Op 8 with h | h
        · exact h
        · exact absurd (List.any_eq_true.2 ⟨y, hy, by rw [cmp_geq]; simpa using h⟩) h2
      split
      · exact ⟨14, rfl, fun h => by cases h⟩
      · exact ⟨0, rfl, fun _ => ⟨h, h3⟩⟩
  · rw [if_pos h, if_pos (ne_true h)]
    exact ⟨_, rfl, fun h2 => absurd h2 h⟩

theorem small9 {N : Nat} (hN : 40000000 ≤ N) {x : GPattern} (hb : x.bulk ≤ 16777216) : ∃ b, ref09_Small N x = some b ∧ (b = true → x.pre.length ≤ 9) := by
  unfold ref09_Small
  obtain ⟨r, h0, c1, c2, c3⟩ := total_eq hN 9 N x (by omega) hb
  rw [h0]
  simp only [Option.bind_some]
  by_cases h : 9 < r
  · rw [if_pos (gt_true h)]; exact ⟨_, rfl, fun h => by cases h⟩
  · rw [if_neg (gt_false h), nodes_eq hN N x (by omega) hb]
    have hpb := pre_bulk_p x
    simp only [Option.bind_some]
    have key : ∃ o, loopN (fun (s3 : Int) => ((if Ar.cmp .lss s3 (Ar.len x.pre) = true then (idxL x.pre s3).bind fun x5 => (ref08_Count N N x5.Cond 20).bind fun r6 => if Ar.cmp .gtr r6 20 = true then some (.inr (.inr ())) else some (.inl (Ar.ar .add .i64 s3 1)) else some (.inr (.inl ()))) : Option (Int ⊕ (Unit ⊕ Unit)))) N 0 = some o ∧ True := loop_inv (fun j s => s = (j : Int)) (fun _ => True) x.pre.length 0 0 N (by omega) rfl (fun j s _ hj e => by
      subst e
      simp only [Nat.zero_add] at hj
      have e1 : idxL x.pre (j : Int) = some x.pre[j] := by rw [idx_at, List.getElem?_eq_getElem hj]
      have hm := (mem_pre x _ (List.getElem_mem hj)).1
      have hc := GPattern.bulk_eq x.pre[j]
      obtain ⟨r6, h6, _⟩ := count_eq hN 20 N x.pre[j].Cond (by omega) (by omega)
      rw [if_pos (by simp only [cmp_lss, len_def]; exact decide_eq_true (by omega)), e1]
      simp only [Option.bind_some, h6]
      by_cases h7 : 20 < r6
      · rw [if_pos (gt_true h7)]; exact ⟨_, rfl, trivial⟩
      · rw [if_neg (gt_false h7)]; exact ⟨_, rfl, inc_i64 (by omega)⟩) (fun s e => by
      subst e
      exact ⟨.inl (), by simp [cmp_lss, len_def], trivial⟩)
    obtain ⟨o, ho, _⟩ := key
    rw [ho]
    have hl : x.pre.length ≤ 9 := by omega
    cases o with
    | inl _ => exact ⟨_, rfl, fun _ => hl⟩
    | inr _ => exact ⟨_, rfl, fun _ => hl⟩

/-- The number of events. -/
def nEv (x : GPattern) : Nat := (x.pre.filter fun y => decide (y.Op = 0)).length
def nEvs (l : List GPattern) : Nat := ((GPattern.pres l).filter fun y => decide (y.Op = 0)).length
theorem nEv_eq (x : GPattern) : nEv x = (if x.Op = 0 then 1 else 0) + nEvs x.Args := by
  unfold nEv nEvs
  rw [GPattern.pre_eq, List.filter_cons]
  by_cases h : x.Op = 0
  · simp [h]; omega
  · simp [h]
theorem nEvs_nil : nEvs [] = 0 := rfl
theorem nEvs_cons (a : GPattern) (l : List GPattern) : nEvs (a :: l) = nEv a + nEvs l := by simp [nEvs, nEv, GPattern.pres]
theorem nEvs_app : ∀ l m : List GPattern, nEvs (l ++ m) = nEvs l + nEvs m
  | [], m => by simp [nEvs_nil]
  | a :: l, m => by simp only [List.cons_append, nEvs_cons, nEvs_app l m]; omega
theorem nEvs_mem {a : GPattern} : ∀ {l : List GPattern}, a ∈ l → nEv a ≤ nEvs l
  | b :: l, h => by
    rw [nEvs_cons]
    rcases List.mem_cons.1 h with rfl | h
    · omega
    · have := nEvs_mem h; omega
theorem nEv_nd {op : Int} (h : op ≠ 0) (l : List GPattern) : nEv (nd op l) = nEvs l := by rw [nEv_eq]; simp [nd, h]
theorem nEv_listP {op : Int} (h : op ≠ 0) (l : List GPattern) : nEv (listP op l) = nEvs l := by
  match l with
  | [] => simp only [listP, nEv_nd h]
  | [x] => simp only [listP, nEvs_cons, nEvs_nil]; rfl
  | x :: y :: l => simp only [listP, nEv_nd h]
theorem nEvs_take (l : List GPattern) (i : Nat) : nEvs (l.take i) + nEvs (l.drop i) = nEvs l := by rw [← nEvs_app, List.take_append_drop]
theorem nEvs_set : ∀ (l : List GPattern) (i : Nat) (hi : i < l.length) (p : GPattern), nEvs (l.set i p) + nEv l[i] = nEvs l + nEv p
  | a :: l, 0, _, p => by simp only [List.set_cons_zero, nEvs_cons, List.getElem_cons_zero]; omega
  | a :: l, i + 1, hi, p => by
    have := nEvs_set l i (by simpa using hi) p
    simp only [List.set_cons_succ, nEvs_cons, List.getElem_cons_succ]; omega

theorem getD_map_raw_at {l : List GPattern} {i : Nat} {y : Pr} (h : y ∈ (l.map raw).getD i []) : ∃ (hi : i < l.length), y ∈ raw l[i] := by
  by_cases hi : i < l.length
  · rw [getD_map_at hi] at h; exact ⟨hi, h⟩
  · rw [List.getD_eq_getElem?_getD, List.getElem?_map, List.getElem?_eq_none (by omega)] at h
    simp at h

/-- Patterns with operands where they belong, without PatternPlus and PatternMore. -/
structure Flat (x : GPattern) : Prop where
  ar : ∀ y ∈ x.pre, Arity y
  no : ∀ y ∈ x.pre, y.Op ≠ 4 ∧ y.Op ≠ 8
theorem Flat.arg {x a : GPattern} (h : Flat x) (ha : a ∈ x.Args) : Flat a := by
  have : ∀ y ∈ a.pre, y ∈ x.pre := fun y hy => by rw [GPattern.pre_eq]; exact List.mem_cons_of_mem _ (sub_pres_p hy _ ha)
  exact ⟨fun y hy => h.ar y (this y hy), fun y hy => h.no y (this y hy)⟩
theorem self_pre (x : GPattern) : x ∈ x.pre := by rw [GPattern.pre_eq]; simp

theorem nEv_pos : ∀ (d : Nat) (x : GPattern), x.dep ≤ d → (∀ y ∈ x.pre, Arity y) → 1 ≤ nEv x := by
  intro d
  induction d with
  | zero => intro x h; rw [GPattern.dep_eq] at h; omega
  | succ d ih =>
    intro x hd h
    have ha := h x (self_pre x)
    rw [nEv_eq]
    by_cases h0 : x.Op = 0
    · rw [if_pos h0]; omega
    · have hex : ∃ a, a ∈ x.Args := by
        have hop := ha.op
        by_cases h3 : x.Op ≤ 3
        · have := ha.two (by omega) h3
          exact ⟨x.Args[0], List.getElem_mem _⟩
        · by_cases h8 : x.Op = 8
          · obtain ⟨a, b, e⟩ := ha.more h8; exact ⟨a, by rw [e]; simp⟩
          · obtain ⟨a, e⟩ := ha.one (by omega) h8; exact ⟨a, by rw [e]; simp⟩
      obtain ⟨a, hm⟩ := hex
      have h1 := ih a (by have := dep_mem hm; omega) fun y hy => h y (by rw [GPattern.pre_eq]; exact List.mem_cons_of_mem _ (sub_pres_p hy _ hm))
      have h2 := nEvs_mem hm
      omega

theorem raw_shrinks : ∀ (d : Nat) (x : GPattern), x.dep ≤ d → Flat x → ∀ y ∈ raw x, ¬ y.2.done = true → nEv y.2.p < nEv x := by
  intro d
  induction d with
  | zero => intro x h; rw [GPattern.dep_eq] at h; omega
  | succ d ih =>
    intro x hd hf y hy hnd
    have hno := hf.no x (self_pre x)
    have hrec : ∀ a ∈ x.Args, ∀ y ∈ raw a, ¬ y.2.done = true → nEv y.2.p < nEv a := fun a ha => ih a (by have := dep_mem ha; omega) (hf.arg ha)
    have hpos : ∀ a ∈ x.Args, 1 ≤ nEv a := fun a ha => nEv_pos a.dep a (Nat.le_refl _) (hf.arg ha).ar
    rw [raw_eq] at hy
    have hxe := nEv_eq x
    unfold comb at hy
    split at hy
    · rw [List.mem_singleton.1 hy] at hnd; exact absurd rfl hnd
    rename_i h0
    rw [if_neg h0] at hxe
    split at hy
    · obtain ⟨z, hz, rfl⟩ := List.mem_map.1 hy
      match he : x.Args, hz with
      | [], hz => simp at hz
      | a :: l, hz =>
        have hz : z ∈ raw a := by simpa using hz
        have ha : a ∈ x.Args := by rw [he]; simp
        have h1 := hpos a ha
        rw [he, nEvs_cons] at hxe
        rw [he] at hnd
        simp only [List.drop_succ_cons, List.drop_zero] at hnd ⊢
        have e : nEv (contR z.2 l).p = (if z.2.done = true then 0 else nEv z.2.p) + nEvs l ∨ (contR z.2 l).done = true := by
          unfold contR
          split
          · right; rfl
          · left
            simp only
            rw [nEv_listP (by omega)]
            split
            · omega
            · rw [nEvs_cons]
        rcases e with e | e
        · rw [e]
          split
          · omega
          · rename_i hz2
            have := hrec a ha z hz hz2
            omega
        · exact absurd e hnd
    split at hy
    · obtain ⟨i, _, hz⟩ := List.mem_flatMap.1 hy
      obtain ⟨a, ha, hz⟩ := getD_map_raw hz
      have h1 := hrec a ha y hz hnd
      have h2 := nEvs_mem ha
      omega
    split at hy
    · obtain ⟨i, _, hz⟩ := List.mem_flatMap.1 hy
      obtain ⟨z, hz2, rfl⟩ := List.mem_map.1 hz
      obtain ⟨hi, hz⟩ := getD_map_raw_at hz2
      have hm := List.getElem_mem hi
      have h1 := hpos _ hm
      simp only [joinR]
      rw [nEv_listP (by omega)]
      split
      · rw [nEvs_app]
        have h2 := nEvs_take x.Args i
        rw [List.drop_eq_getElem_cons hi, nEvs_cons] at h2
        omega
      · rename_i hzd
        have h2 := nEvs_set x.Args i hi z.2.p
        have h3 := hrec _ hm z hz hzd
        omega
    split at hy
    · rename_i h4; exact absurd h4 hno.1
    split at hy
    · rename_i h8; exact absurd h8 hno.2
    · obtain ⟨z, hz, rfl⟩ := List.mem_map.1 hy
      obtain ⟨a, ha, hz⟩ := headD_map_raw hz
      simp only [inn, innR] at hnd ⊢
      split at hnd
      · rename_i h; exact absurd h hnd
      · rename_i hzd
        rw [if_neg hzd]
        have h1 := hrec a ha z hz hzd
        have h2 := nEvs_mem ha
        have e : nEv { x with Op := innOp x, Args := [z.2.p] } = nEv z.2.p := by
          rw [nEv_eq]
          have : innOp x ≠ 0 := by unfold innOp; split; omega; split <;> omega
          simp only [if_neg this, nEvs_cons, nEvs_nil]; omega
        rw [e]; omega

theorem events_eq {N : Nat} (hN : 40000000 ≤ N) {x : GPattern} (hb : x.bulk ≤ 16777216) : law22_events N x = some (nEv x : Int) := by
  have hpb := pre_bulk_p x
  unfold law22_events
  rw [nodes_eq hN N x (by omega) hb]
  simp only [Option.bind_some]
  rw [loop_run (s0 := ((0 : Int), (0 : Int))) (st := fun j => ((((x.pre.take j).filter fun y => decide (y.Op = 0)).length : Int), (j : Int))) (k := x.pre.length) (r := (nEv x : Int)) (by simp) (by omega) ?_ ?_]
  · rfl
  · intro j hj
    have e1 : idxL x.pre (j : Int) = some x.pre[j] := by rw [idx_at, List.getElem?_eq_getElem hj]
    have hle := List.length_filter_le (fun y : GPattern => decide (y.Op = 0)) (x.pre.take j)
    have hlt := List.length_take_le j x.pre
    have e2 : ((x.pre.take (j + 1)).filter fun y => decide (y.Op = 0)).length = ((x.pre.take j).filter fun y => decide (y.Op = 0)).length + (if x.pre[j].Op = 0 then 1 else 0) := by
      rw [List.take_add_one, List.getElem?_eq_getElem hj, List.filter_append, List.length_append]
      by_cases h : x.pre[j].Op = 0 <;> simp [h]
    simp only [e1, Option.bind_some, cmp_lss, len_def, cmp_eql, decide_eq_true_eq]
    rw [if_pos (by omega), e2]
    by_cases h : x.pre[j].Op = 0
    · rw [if_pos h, if_pos h, inc_i64 (by omega), inc_i64 (by omega)]
    · rw [if_neg h, if_neg h, inc_i64 (by omega)]; rfl
  · simp [cmp_lss, len_def, nEv]

def frontP : GPattern := ⟨0, [], 1, 15, 0, 0, ⟨0, [], 0, 0, 0, ⟨1, 1, ⟨#[]⟩⟩⟩⟩

theorem front_good (x : GPattern) : nodeBad 40000000 frontP = 0 ∧ nodeBad 40000000 (nd 1 [frontP, x]) = 0 := ⟨by kernel_rfl, by kernel_rfl⟩

theorem dep_pre : ∀ (d : Nat) (x : GPattern), x.dep ≤ d → x.dep ≤ x.pre.length := by
  intro d
  induction d with
  | zero => intro x h; rw [GPattern.dep_eq] at h; omega
  | succ d ih =>
    intro x hd
    rw [GPattern.dep_eq, GPattern.pre_eq]
    have key : ∀ l : List GPattern, (∀ a ∈ l, a.dep ≤ d) → GPattern.deps l ≤ (GPattern.pres l).length := fun l => by
      induction l with
      | nil => intro _; simp [GPattern.deps]
      | cons a l ihl =>
        intro h
        have h1 := ih a (h a (by simp))
        have h2 := ihl fun b hb => h b (by simp [hb])
        simp only [GPattern.deps, GPattern.pres, List.length_append]
        omega
    have := key x.Args fun a ha => by have := dep_mem ha; omega
    simp only [List.length_cons]; omega

theorem sameAll_eq {N : Nat} (hN : 40000000 ≤ N) (l m : List GPattern) (hl : l.length ≤ 1000000) (hb : ∀ p ∈ l, p.bulk ≤ 16777216) : ref22_SameAll N l m = some (decide (l = m)) := by
  unfold ref22_SameAll
  by_cases hlm : l.length = m.length
  · rw [if_neg (by simp [cmp_neq, len_def, hlm]), eq_loop l m hlm (by omega) _ (fun x hx y _ => same9 hN N x y (by have := hb x hx; omega) (hb x hx)) (by omega)]
    by_cases h : l = m <;> simp [h]
  · rw [if_pos (by simp only [cmp_neq, len_def, Bool.not_eq_true', decide_eq_false_iff_not]; omega), decide_eq_false fun e => hlm (by rw [e])]

theorem derive_eq {N : Nat} (hN : 40000000 ≤ N) {x : GPattern} (hb : x.bulk ≤ 1100000) (hz : restBad N x = 0) : derivative_Derive N x = some (derivedP N (raw x)) := by
  unfold derivative_Derive
  rw [rest_eq hN (by omega), derived_eq hN hb hz]
  simp only [Option.bind_some]
  rw [if_neg (ne_false hz)]

theorem rests_len (w : List Pr) : (rests w).length ≤ (dd w).length := by
  have key : ∀ (v w : List Pr), (rests w).length ≤ (dd w).length → (rests (w ++ v)).length ≤ (dd (w ++ v)).length := fun v => by
    induction v with
    | nil => intro w h; simpa using h
    | cons y v ih =>
      intro w h
      have := ih (w ++ [y]) (by
        rw [rests_snoc, dd_snoc]
        unfold rstep wth
        split
        · split
          · exact h
          · simp only [List.length_append, List.length_cons, List.length_nil]; omega
        · rename_i hd
          by_cases hy : y ∈ dd w
          · rw [if_pos (rests_has (dd_mem.1 hy) hd), if_pos hy]; exact h
          · rw [if_neg hy]; split <;> (simp only [List.length_append, List.length_cons, List.length_nil]; omega))
      simpa using this
  simpa using key w [] (by simp [rests])

theorem bind_of {α β : Type} {m : Option α} {F : α → Option β} {a : α} {r : Option β} (h1 : m = some a) (h2 : F a = r) : m.bind F = r := by rw [h1]; exact h2

theorem shrinks_law (awake : law22_awake 40000000 = some true) {x : GPattern} (hb : x.bulk ≤ 1048576) : law22_DerivativeShrinks 40000000 x = some true := by
  have hN : 40000000 ≤ 40000000 := Nat.le_refl _
  unfold law22_DerivativeShrinks
  obtain ⟨b, h0, hsm⟩ := small9 hN (x := x) (by omega)
  rw [h0]
  simp only [Option.bind_some]
  cases b
  · rw [if_pos (show Ar.nt false = true from rfl), awake]; rfl
  · rw [if_neg (by simp [nt_def])]
    have hp9 := hsm rfl
    obtain ⟨c, h1, hc⟩ := checkP_eq hN (x := x) (by omega)
    rw [h1]
    simp only [Option.bind_some]
    by_cases hc0 : c = 0
    · obtain ⟨hz, hop⟩ := hc hc0
      obtain ⟨hp, hd, hg⟩ := rest_good hz
      rw [if_neg (ne_false hc0), derive_eq hN (by omega) hz]
      simp only [Option.bind_some]
      by_cases hF : Fail 40000000 (raw x)
      · unfold derivedP
        rw [if_pos hF, if_pos (ne_true (by simp only; omega)), if_pos (eql_true rfl), awake]; rfl
      · have e1 : derivedP 40000000 (raw x) = ((dd (raw x)).map (eg (rests (raw x))), rests (raw x), 0) := by unfold derivedP; rw [if_neg hF]
        rw [e1, if_neg (ne_false rfl), nodes_eq hN 40000000 x (by omega) (by omega)]
        simp only [Option.bind_some]
        have hdd : (dd (raw x)).length ≤ 2048 := by
          rcases Nat.lt_or_ge 2048 (dd (raw x)).length with h | h
          · exact absurd (.inl h) hF
          · exact h
        have hrl := rests_len (raw x)
        have hpb := pre_bulk_p x
        have hrb : ∀ p ∈ rests (raw x), p.bulk ≤ 16777216 := fun p hp => by
          obtain ⟨y, hy, _, e⟩ := rests_mem hp
          have h1 := (raw_ok x.dep x (Nat.le_refl _) y hy).rest
          have h3 : x.dep * (x.bulk + 30) ≤ 12 * (1100000 + 30) := Nat.mul_le_mul (by omega) (by omega)
          rw [e] at h1; omega
        have hcf : slices_ContainsFunc_LPattern_Pattern 40000000 x.pre (fun y1 => law22_DerivativeShrinks_1 40000000 y1) = some (decide (∃ y ∈ x.pre, y.Op = 4)) := by
          unfold slices_ContainsFunc_LPattern_Pattern
          rw [indexP_eq x.pre (by omega) _ (fun y => decide (y.Op = 4)) (fun y _ => by unfold law22_DerivativeShrinks_1; rw [cmp_eql]) (by omega)]
          simp only [Option.bind_some, cmp_geq]
          congr 1
          rw [decide_eq_decide, idxI_nonneg]
          simp
        rw [hcf]
        simp only [Option.bind_some]
        refine bind_of (a := Sum.inl ()) ?_ ?_
        ·
          by_cases h4 : ∃ y ∈ x.pre, y.Op = 4
          · rw [if_neg (by simp [nt_def, h4])]
          · rw [if_pos (by simp only [nt_def, decide_eq_false h4, Bool.not_false])]
            rw [loop_run (s0 := (0 : Int)) (st := fun j => (j : Int)) (k := (rests (raw x)).length) (r := (Sum.inl () : Unit ⊕ Unit)) rfl (by omega) ?_ ?_]
            · rfl
            · intro j hj
              have e1 : idxL (rests (raw x)) (j : Int) = some (rests (raw x))[j] := by rw [idx_at, List.getElem?_eq_getElem hj]
              have hm := List.getElem_mem hj
              obtain ⟨y, hy, hyd, hye⟩ := rests_mem hm
              have hfl : Flat x := ⟨fun y hy => node_arity hN (by omega) hp hg hy, fun y hy => ⟨fun h => h4 ⟨y, hy, h⟩, fun h => by have := hop y hy; omega⟩⟩
              have hlt := raw_shrinks x.dep x (Nat.le_refl _) hfl y hy hyd
              rw [hye] at hlt
              rw [if_pos (by simp only [cmp_lss, len_def]; exact decide_eq_true (by omega)), e1]
              simp only [Option.bind_some]
              rw [events_eq hN (hrb _ hm), events_eq hN (by omega)]
              simp only [Option.bind_some]
              rw [if_neg (by simp only [cmp_geq, decide_eq_true_eq]; omega), inc_i64 (by omega)]
            · rw [if_neg (by simp [cmp_lss, len_def])]
        simp only
        have htr : law22_truth 40000000 = some ⟨0, [], 0, 0, 0, ⟨1, 1, ⟨#[]⟩⟩⟩ := by kernel_rfl
        have hno : law22_node 40000000 1 [frontP, x] = some (nd 1 [frontP, x]) := rfl
        rw [htr]
        simp only [Option.bind_some]
        change ((law22_node 40000000 1 [frontP, x]).bind _) = _
        rw [hno]
        simp only [Option.bind_some]
        have hpre : (nd 1 [frontP, x]).pre = nd 1 [frontP, x] :: frontP :: x.pre := by
          rw [GPattern.pre_eq]; simp [nd, frontP, GPattern.pres, GPattern.pre]
        have hdep : (nd 1 [frontP, x]).dep ≤ x.dep + 1 := by
          have := GPattern.dep_eq x
          rw [GPattern.dep_eq]; simp only [nd, GPattern.deps, frontP, GPattern.dep]; omega
        have hdx := dep_pre x.dep x (Nat.le_refl _)
        have hgood : restBad 40000000 (nd 1 [frontP, x]) = 0 := by
          unfold restBad
          rw [hpre]
          rw [if_neg (by simp; omega), if_neg (by omega), bad1_zero]
          intro y hy
          rcases List.mem_cons.1 hy with rfl | hy
          · exact (front_good x).2
          rcases List.mem_cons.1 hy with rfl | hy
          · exact (front_good x).1
          · exact hg y hy
        have hfb : frontP.bulk = 17 := by rw [GPattern.bulk_eq, GExpr.bulk_eq]; rfl
        rw [derive_eq hN (by rw [nd_bulk]; simp only [GPattern.bulks, hfb]; omega) hgood]
        have hraw : raw (nd 1 [frontP, x]) = [(⟨0, 0, 15, 1, ⟨0, [], 0, 0, 0, ⟨1, 1, ⟨#[]⟩⟩⟩, [], [], [], [], []⟩, ⟨false, x⟩)] := by
          rw [raw_eq]
          have : raw frontP = [(⟨0, 0, 15, 1, ⟨0, [], 0, 0, 0, ⟨1, 1, ⟨#[]⟩⟩⟩, [], [], [], [], []⟩, doneR)] := by rw [raw_eq]; rfl
          simp only [nd, comb, List.map_cons, List.map_nil, List.headD_cons, this]
          rfl
        have hF2 : ¬ Fail 40000000 (raw (nd 1 [frontP, x])) := by
          rw [hraw]
          rintro (h | ⟨y, hy, h1, h2⟩)
          · simp [dd, wth] at h
          · rw [List.mem_singleton.1 hy] at h2; exact h2 hz
        have e2 : derivedP 40000000 (raw (nd 1 [frontP, x])) = ([⟨0, 0, 15, 1, ⟨0, [], 0, 0, 0, ⟨1, 1, ⟨#[]⟩⟩⟩, [], [], [], [], []⟩], [x], 0) := by
          unfold derivedP
          rw [if_neg hF2, hraw]
          have er : rests [((⟨0, 0, 15, 1, ⟨0, [], 0, 0, 0, ⟨1, 1, ⟨#[]⟩⟩⟩, [], [], [], [], []⟩, ⟨false, x⟩) : Pr)] = [x] := by simp [rests, rstep, wth]
          rw [er]
          simp [dd, wth, eg, toOf, idxP, idxI, List.findIdx?_cons]
        rw [e2]
        simp only [Option.bind_some]
        rw [if_pos (by rfl)]
        have i0 : ∀ e : GEdge, idxL [e] 0 = some e := fun e => rfl
        simp only [i0, Option.bind_some]
        rw [if_pos (by rfl), if_pos (by rfl), if_pos (by rfl), sameAll_eq hN [x] [x] (by simp) (by intro p hp; rw [List.mem_singleton.1 hp]; omega)]
        simp only [Option.bind_some, decide_true, if_true]
        rw [awake]; rfl
    · rw [if_pos (ne_true hc0), awake]; rfl

end Go.Ab

/- The law of shrinking: the statement and its card. -/
namespace Go.Proofs.YtlbkmdpaalofkaaDoor.derivativeShrinks
open Go.ChangeShapes Go.WideShapes Go.ChangeAt Go.RowKit Go.Ab
set_option maxRecDepth 100000

theorem awake_ok : law22_awake 40000000 = some true := by kernel_rfl

theorem law (x : GPattern) (hx : x.bulk ≤ 1048576) : CallP Tryd.prog 4 [Encs.eGPattern x] (.bool true) := by
  have h := c4 _ x true (shrinks_law awake_ok hx)
  rw [← Encs.eGPattern_eq] at h
  exact h

theorem own : ownKnob Tryd.prog.godebug = none := by kernel_rfl
theorem u4 : Tryd.prog.underlying 4 = some .bool := by kernel_rfl
theorem laidOut : laidOutB Tryd.prog = true := by kernel_rfl

theorem contract (H : Type) (enc : TypeId × Value → H) (W : World) (base : Nat) (args : Array Value) (ds gs : List (DataW H)) (before : List MemPlace)
    (hval : ∀ (j : Nat) t v, Tryd.f4.params[j]? = some t → args[j]? = some v → Value.okWide Tryd.prog W .any base t v)
    (hW : DataW.Whole enc Tryd.prog Tryd.f4.params.toList Rows.derivativeShrinksSpec.vars false W args.toList ds gs before) (hL : laidMetH Tryd.prog Rows.derivativeShrinksRow.laid W) (hb : Rows.uptoSmall H (ds ++ gs) = true) :
    Calls Tryd.prog 4 args W fun e W' => ∃ v, e = .returned v ∧ Rows.derivativeShrinksSpec.post enc Tryd.prog Tryd.f4 false true false false W args v W' := by
  have hW' := hW
  obtain ⟨p, q, hA0, hV, rfl, hfz, hnd⟩ := hW
  have hA : DataW.TrodAll enc Tryd.prog W 0 (fun _ => true) true Tryd.f4.params.toList args.toList ds p := hA0
  rw [Tryd.params4] at hA hval
  obtain ⟨v0, vs0, d0, ds0, p0, q0, hargs, rfl, rfl, h0, r0⟩ := trodAll_cons hA
  obtain ⟨rfl, rfl, rfl⟩ := trodAll_nil r0
  obtain rfl : args = #[v0] := by cases args; simp_all
  obtain ⟨rfl, rfl⟩ := trodVars_none hV
  have hbulk : Rows.uptoBulk d0 ≤ 1048576 := by
    have := of_decide_eq_true hb
    simpa [Rows.uptoBulkAll] using this
  have hlt : ∀ x ∈ p0, x.block < W.heap.size := fun x hx => by
    have := hW'.lt x (by simp [hx])
    simpa using this
  refine (law_run hL Tryd.call4 law (hval 0 29 v0 rfl rfl) h0 hbulk).mono fun e W' ⟨he, hbl⟩ => ?_
  subst he
  refine ⟨_, rfl, _, _, _, [], p0 ++ [], [], hW', ?_, ?_, rfl, hbl.frame _, fun h => by cases h⟩
  · exact trodAll_cons_mk (shut_bool u4 _) trodAll_mk0
  · exact trodAll_cons_mk (Below.trod laidOut (by kernel_rfl) (of_decide_eq_true (by kernel_rfl)) h0 hbl hlt) trodAll_mk0

/-- A pattern for the witness. -/
def arg0 : Value := .agg #[.int .i64 0, .slice none 0 0, .int .i64 0, .int .i64 0, .int .i64 0, .int .i64 0, .int .i64 0, .slice none 0 0, .int .i64 0, .int .i64 0, .int .i64 0, .int .i64 0, .int .i64 0, .string ⟨#[]⟩]
noncomputable def laidWorld (os : Os) : World :=
  { World.holding Tryd.prog os ⟨#[], #[], []⟩ with heap := (World.holding Tryd.prog os ⟨#[], #[], []⟩).heap.modify 0 fun
      | .cells _ t frozen => .cells #[.int .i64 0, .int .i64 0, .bool true, .bool true, .bool false, .bool false, .int .i64 2, .int .i64 64, .bool false, .bool false, .bool false, .bool false, .int .i64 2, .int .i64 64, .bool false, .bool false, .bool false, .bool false, .int .i64 2, .int .i64 64, .bool false, .bool false, .bool false, .bool false, .int .i64 1, .int .i64 1, .bool false, .bool false, .bool false, .bool false, .int .i64 1, .int .i64 1, .bool true, .bool true, .bool true, .bool false, .int .i64 1, .int .i64 1, .bool false, .bool false, .bool true, .bool true, .int .i64 1, .int .i64 1, .bool false, .bool true, .bool false, .bool false, .int .i64 2, .int .i64 2, .bool false, .bool false, .bool false, .bool false, .int .i64 1, .int .i64 1, .bool true, .bool true, .bool true, .bool false, .int .i64 1, .int .i64 1, .bool false, .bool false, .bool true, .bool true] t frozen
      | o => o }
theorem laid_met (os : Os) : laidMet Tryd.prog Rows.derivativeShrinksRow.laid ((laidWorld os).forCall (fun _ _ => 0) ⟨#[], #[arg0], []⟩).memory :=
  laidMet_of_run' 8 (by kernel_rfl) (by kernel_rfl)
def datum {H : Type} : DataW H := .agg [.lit (.int .i64 0), .nil, .lit (.int .i64 0), .lit (.int .i64 0), .lit (.int .i64 0), .lit (.int .i64 0), .agg [.lit (.int .i64 0), .nil, .lit (.int .i64 0), .lit (.int .i64 0), .lit (.int .i64 0), .agg [.lit (.int .i64 0), .lit (.int .i64 0), .lit (.string [])]]]
theorem reads (os : Os) {H : Type} (enc : TypeId × Value → H) : ∃ places, DataW.whole enc Tryd.prog ((laidWorld os).forCall (fun _ _ => 0) ⟨#[], #[arg0], []⟩).memory Tryd.f4.params.toList Rows.derivativeShrinksSpec.vars false #[arg0].toList 8 = some ([datum], [], places) :=
  ⟨[], by kernel_rfl⟩

theorem liftedUpto (os : Os) (started : os.Started) (H : Type) (enc : TypeId × Value → H) (F : Stop.Interp) :
    ReturnsInHanded {} Tryd.checked os 4 .any ((Rows.OpenSpec.upto Rows.derivativeShrinksSpec).preRow enc Tryd.prog Tryd.f4 Rows.derivativeShrinksUptoRow.domain false Rows.derivativeShrinksUptoRow.laid) (((Rows.OpenSpec.upto Rows.derivativeShrinksSpec).at F).post enc Tryd.prog Tryd.f4 false true false false) := by
  obtain ⟨places, hx⟩ := reads os enc
  refine returnsInHanded_of_row (C := Tryd.checked) (s := Rows.OpenSpec.upto Rows.derivativeShrinksSpec) own started (by kernel_rfl) Tryd.func4
    (witness_row_at (enc := enc) (C := Tryd.checked) false (laidWorld os) #[arg0] rfl (by kernel_rfl) (by kernel_rfl) (by kernel_rfl)
      (OpenSpec.preRow_of_cond 8 hx (by kernel_rfl) (fun k hk => by cases hk; kernel_rfl) (by kernel_rfl) (laid_met os))) ?_
  intro W base args ds gs before hval hW _ hcond _ hL _ _
  exact contract H enc W base args ds gs before hval hW hL (hcond _ rfl)

theorem saidUpto : Rows.DerivativeShrinksUptoSaid :=
  OpenClaim.holds_of_cond 4 Tryd.f4 rfl rfl rfl rfl rfl rfl rfl ⟨rfl, rfl, rfl, rfl, rfl⟩ rfl rfl rfl rfl rfl (by kernel_rfl) Tryd.func4 (by kernel_rfl)
    (of_decide_eq_true (by kernel_rfl)) (by unfold Func.isWrapper; first | (rw [if_pos (by decide +kernel)]; kernel_rfl) | (rw [if_neg (by decide +kernel)]; exact ⟨rfl, rfl⟩))
    (fun os started H enc _ F => by rw [OpenClaim.pre_eq_preRow]; exact liftedUpto os started H enc F)

theorem plain (f : FuncId) (fn : Func) (hf : Tryd.pinned.checked.prog.funcNamed "tidegate/tidegatelaw22.DerivativeShrinks" = some f) (hfn : Tryd.pinned.checked.prog.funcs[f]? = some fn) :
    false = Tryd.pinned.checked.prog.looks [] ∧ ∀ (j : Nat) t, fn.params[j]? = some t → Tryd.pinned.checked.prog.wantsStandIn t = false := by
  obtain rfl : f = 4 := Option.some.inj ((show Tryd.prog.funcNamed "tidegate/tidegatelaw22.DerivativeShrinks" = some 4 by kernel_rfl).symm.trans hf) |>.symm
  obtain rfl : fn = Tryd.f4 := (Option.some.inj (Tryd.func4.symm.trans hfn)).symm
  refine ⟨by kernel_rfl, fun j t ht => ?_⟩
  rw [Tryd.params4] at ht
  obtain rfl : t = 29 := by simpa using Array.mem_of_getElem? ht
  exact (show Tryd.prog.wantsStandIn 29 = false by kernel_rfl)

/-- The card. -/
theorem cardUpto : Rows.DerivativeShrinksUptoCardSaid :=
  Claim7.holds_tied_plain_at .later [] _ _ _ _ saidUpto (fun _ h => by cases h) (by kernel_rfl) (fun _ h => by cases h) derivativeShrinksUpto_row_tie rfl ⟨rfl, rfl⟩ (by kernel_rfl) rfl plain (by kernel_rfl)
#print axioms cardUpto
end Go.Proofs.YtlbkmdpaalofkaaDoor.derivativeShrinks

