/- GNR2 GNR3 GNR4 -/
import Derived.Test.YtfeppncgdbbbeaaGreatDoorT40
set_option linter.all false

namespace Go.Ab
def cnt : List (Bool × Bool × GPattern) → Int → Int → Bool
 | [], _, _ => true
 | y :: l, v, s => (if y.1 = true then decide (y.2.2.Var = v) else true) && (if y.2.1 = true then decide (y.2.2.Scope = s) else true) && cnt l (if y.1 = true then v + 1 else v) (if y.2.1 = true then s + 1 else s)
noncomputable def typedOf (y : GPattern) : Bool := match idxL tab_pattern_shapes y.Op with | some s => s.typed | none => false
noncomputable def scopeOf (y : GPattern) : Bool := match idxL tab_pattern_shapes y.Op with | some s => s.scope | none => false
noncomputable def cntP (l : List GPattern) : Bool := cnt (l.map fun y => (typedOf y, scopeOf y, y)) 0 0
def NodeOk (N : Nat) (y : GPattern) : Prop := ∃ s ng, ShapeOk N y s ng
theorem good_nodes {N : Nat} (hN : 40000000 ≤ N) {x : GPattern} (hb : x.bulk ≤ 16777216) (hz : restBad N x = 0) : ∀ y ∈ x.pre, NodeOk N y := fun y hy => by
 obtain ⟨hp, hd, hg⟩ := rest_good hz
 have h1 := mem_pre x y hy
 have h2 := args_pre y
 obtain ⟨_, s, ng, h, _⟩ := node_shape hN (by omega) (by omega) (hg y hy)
 exact ⟨s, ng, h⟩
noncomputable def cstep (s7 : Bool × Int × Int) (y6 : GPattern) : Option ((Bool × Int × Int) ⊕ Unit) :=
 (idxL tab_pattern_shapes y6.Op).bind fun x11 => ((if x11.typed = true then some (Ar.an s7.1 (Ar.cmp .eql y6.Var s7.2.2), Ar.ar .add .i64 s7.2.2 1) else some (s7.1, s7.2.2)) : Option (Bool × Int)).bind fun s12 => if x11.scope = true then some (.inl (Ar.an s12.1 (Ar.cmp .eql y6.Scope s7.2.1), Ar.ar .add .i64 s7.2.1 1, s12.2)) else some (.inl (s12.1, s7.2.1, s12.2))
theorem count_run {N : Nat} : ∀ (l : List GPattern), (∀ y ∈ l, NodeOk N y) → ∀ (b : Bool) (v s : Int), 0 ≤ v → 0 ≤ s → v + l.length ≤ 1000000 → s + l.length ≤ 1000000 →
 ∃ v' s', rangeL cstep l (b, s, v) = some (.inl (b && cnt (l.map fun y => (typedOf y, scopeOf y, y)) v s, s', v'))
 | [], _, b, v, s, _, _, _, _ => ⟨v, s, by simp [rangeL, cnt]⟩
 | y :: l, h, b, v, s, hv, hs, hv2, hs2 => by
  simp only [List.length_cons] at hv2 hs2
  obtain ⟨sh, ng, ok⟩ := h y (by simp)
  have et : typedOf y = sh.typed := by unfold typedOf; rw [ok.tab]
  have es : scopeOf y = sh.scope := by unfold scopeOf; rw [ok.tab]
  have ev : Ar.ar .add .i64 v 1 = v + 1 := add_i64 (by omega) (by omega)
  have ess : Ar.ar .add .i64 s 1 = s + 1 := add_i64 (by omega) (by omega)
  have hr := fun b v' s' h1 h2 h3 h4 => count_run l (fun z hz => h z (by simp [hz])) b v' s' h1 h2 h3 h4
  simp only [List.map_cons, cnt, et, es]
  have step : ∀ b' v2 s2, cstep (b, s, v) y = some (.inl (b', s2, v2)) → rangeL cstep (y :: l) (b, s, v) = rangeL cstep l (b', s2, v2) := fun b' v2 s2 h => by simp only [rangeL, h]
  have hst : ∀ b' v2 s2, (some (.inl (b', s2, v2)) : Option ((Bool × Int × Int) ⊕ Unit)) = (((if sh.typed = true then some (Ar.an b (Ar.cmp .eql y.Var v), Ar.ar .add .i64 v 1) else some (b, v)) : Option (Bool × Int)).bind fun s12 => if sh.scope = true then some (.inl (Ar.an s12.1 (Ar.cmp .eql y.Scope s), Ar.ar .add .i64 s 1, s12.2)) else some (.inl (s12.1, s, s12.2))) → rangeL cstep (y :: l) (b, s, v) = rangeL cstep l (b', s2, v2) := fun b' v2 s2 h => step b' v2 s2 (by rw [h]; unfold cstep; rw [ok.tab]; rfl)
  cases ht : sh.typed <;> cases hc : sh.scope
  ·obtain ⟨v', s', h1⟩ := hr b v s hv hs (by omega) (by omega)
   exact ⟨v', s', by rw [hst b v s (by rw [ht, hc]; rfl)]; simpa using h1⟩
  ·obtain ⟨v', s', h1⟩ := hr (b && decide (y.Scope = s)) v (s + 1) hv (by omega) (by omega) (by omega)
   exact ⟨v', s', by rw [hst (b && decide (y.Scope = s)) v (s + 1) (by simp [ht, hc, ess, cmp_eql, an_def])]; simpa [Bool.and_assoc] using h1⟩
  ·obtain ⟨v', s', h1⟩ := hr (b && decide (y.Var = v)) (v + 1) s (by omega) hs (by omega) (by omega)
   exact ⟨v', s', by rw [hst (b && decide (y.Var = v)) (v + 1) s (by rw [ht, hc, ev, cmp_eql, an_def]; rfl)]; simpa [Bool.and_assoc] using h1⟩
  obtain ⟨v', s', h1⟩ := hr (b && decide (y.Var = v) && decide (y.Scope = s)) (v + 1) (s + 1) (by omega) (by omega) (by omega) (by omega)
  exact ⟨v', s', by rw [hst (b && decide (y.Var = v) && decide (y.Scope = s)) (v + 1) (s + 1) (by rw [ht, hc, ev, ess, cmp_eql, cmp_eql, an_def]; rfl)]; simpa [Bool.and_assoc] using h1⟩
theorem pcount_eq {N : Nat} (hN : 40000000 ≤ N) {x : GPattern} (hb : x.bulk ≤ 16777216) (hz : restBad N x = 0) : ∃ v s, pattern_count N x = some (v, s, cntP x.pre) := by
 obtain ⟨hp, hd, hg⟩ := rest_good hz
 obtain ⟨v, s, h⟩ := count_run (N := N) x.pre (good_nodes hN hb hz) true 0 0 (by omega) (by omega) (by omega) (by omega)
 unfold pattern_count
 rw [preorder_eq hN hb]
 simp only [Option.bind_some]
 refine ⟨v, s, bind_of h ?_⟩
 simp [cntP]
noncomputable def chkP (N : Nat) (x : GPattern) : Int := if restBad N x ≠ 0 then restBad N x else if x.pre.any (fun y => Ar.cmp .geq y.Op 8) = true then 1 else if cntP x.pre = true then 0 else 14
theorem pcheck_eq {N : Nat} (hN : 40000000 ≤ N) {x : GPattern} (hb : x.bulk ≤ 16777216) : pattern_Check N x = some (chkP N x) := by
 unfold pattern_Check chkP
 rw [whole_eq hN hb]
 simp only [Option.bind_some]
 by_cases h : restBad N x = 0
 ·rw [if_neg (show ¬ (restBad N x ≠ 0) by simpa using h), if_neg (show ¬ (restBad N x ≠ 0) by simpa using h)]
  by_cases h2 : x.pre.any (fun y => Ar.cmp .geq y.Op 8) = true
  ·rw [if_pos h2, if_pos h2, if_pos (ne_true (by omega))]
  rw [if_neg h2, if_neg h2, if_neg (ne_false rfl)]
  obtain ⟨v, s, hr⟩ := pcount_eq hN hb h
  rw [hr]
  simp only [Option.bind_some]
  cases cntP x.pre <;> simp [nt_def]
 rw [if_pos h, if_pos (ne_true h), if_pos h]
end Go.Ab

namespace Go.Ab
theorem lock {S R R' : Type} {f : S → Option (S ⊕ R)} {g : S → Option (S ⊕ R')} (I : S → Prop) (Q : R → R' → Prop) (m : S → Nat)
 (h : ∀ s, I s → (∃ s', f s = some (.inl s') ∧ g s = some (.inl s') ∧ I s' ∧ m s' < m s) ∨ (∃ r r', f s = some (.inr r) ∧ g s = some (.inr r') ∧ Q r r')) :
 ∀ (N : Nat) (s : S), I s → m s < N → ∃ r r', loopN f N s = some r ∧ loopN g N s = some r' ∧ Q r r'
 | 0, s, _, hm => by omega
 | N + 1, s, hi, hm => by
  rcases h s hi with ⟨s', h1, h2, h3, h4⟩ | ⟨r, r', h1, h2, h3⟩
  ·obtain ⟨r, r', k1, k2, k3⟩ := lock I Q m h N s' h3 (by omega)
   exact ⟨r, r', by simp only [loopN, h1, k1], by simp only [loopN, h2, k2], k3⟩
  exact ⟨r, r', by simp only [loopN, h1], by simp only [loopN, h2], h3⟩
theorem wths_mem {α : Type} [DecidableEq α] {x : α} : ∀ (l acc : List α), x ∈ l.foldl wth acc → x ∈ acc ∨ x ∈ l
 | [], acc, h => .inl h
 | y :: l, acc, h => by
  rcases wths_mem l (wth acc y) h with h | h
  ·rcases wth_mem.1 h with h | h
   ·exact .inl h
   exact .inr (by simp [h])
  exact .inr (by simp [h])
theorem wths_len {α : Type} [DecidableEq α] : ∀ (l acc : List α), (l.foldl wth acc).length ≤ acc.length + l.length ∧ acc.length ≤ (l.foldl wth acc).length
 | [], acc => by simp
 | y :: l, acc => by
  have h := wths_len l (wth acc y)
  have h2 : (wth acc y).length ≤ acc.length + 1 ∧ acc.length ≤ (wth acc y).length := by
   unfold wth; split <;> simp
  simp only [List.foldl_cons, List.length_cons]
  omega
theorem inner_p {N : Nat} (hN : 40000000 ≤ N) (l out : List GPattern) (hl : l.length ≤ 2048) (ho : out.length ≤ 256) (hb : ∀ q ∈ l, q.bulk ≤ 16777216) :
 loopN (fun (s7 : (List GPattern) × Int) => ((if Ar.cmp .lss s7.2 (Ar.len l) = true then (idxL l s7.2).bind fun x10 => (derivative_index N s7.1 x10).bind fun r11 => if Ar.cmp .lss r11 0 = true then (appL s7.1 ([x10])).bind fun l13 => some (.inl (l13, Ar.ar .add .i64 s7.2 1)) else some (.inl (s7.1, Ar.ar .add .i64 s7.2 1)) else some (.inr s7.1)) : Option (((List GPattern) × Int) ⊕ (List GPattern)))) N (out, 0) = some (l.foldl wth out) := by
 rw [loop_run (s0 := (out, (0 : Int))) (st := fun j => ((l.take j).foldl wth out, (j : Int))) (k := l.length) (r := l.foldl wth out) rfl (by omega) ?_ ?_]
 ·intro j hj
  have e1 : idxL l (j : Int) = some l[j] := by rw [idx_at, List.getElem?_eq_getElem hj]
  have hlen := (wths_len (l.take j) out).1
  have htl : (l.take j).length ≤ j := by simp; omega
  have htk : (l.take (j + 1)).foldl wth out = wth ((l.take j).foldl wth out) l[j] := by rw [List.take_add_one, List.getElem?_eq_getElem hj, List.foldl_append]; rfl
  rw [if_pos (lt_true (by simp only [len_def]; omega))]
  simp only [e1, Option.bind_some]
  rw [derivative_index_eq hN _ _ (by omega) (hb _ (List.getElem_mem hj))]
  simp only [Option.bind_some]
  rw [inc_i64 (by omega), htk]
  by_cases hin : l[j] ∈ (l.take j).foldl wth out
  ·rw [if_neg (lt_false (Int.not_lt.2 (idxI_nonneg.2 (ex_eq.2 hin)))), wth, if_pos hin]
  have h0 : idxP ((l.take j).foldl wth out) l[j] = -1 := idxI_neg fun h => hin (ex_eq.1 h)
  rw [if_pos (lt_true (by rw [h0]; omega)), appL_eq (by simp; omega), wth, if_neg hin]
  rfl
 rw [if_neg (lt_false (by simp only [len_def]; omega)), List.take_length]
def ResOk (N : Nat) (q : GPattern) : Prop := q.bulk ≤ 1100000 ∧ restBad N q = 0 ∧ U q ≤ 400000
theorem derived_res {N : Nat} (hN : 40000000 ≤ N) {x : GPattern} (hx : ResOk N x) : (derivedP N (raw x)).2.2 = 17 ∨ (derivedP N (raw x)).2.2 = 0 ∧ (derivedP N (raw x)).2.1.length ≤ 2048 ∧ ∀ q ∈ (derivedP N (raw x)).2.1, ResOk N q := by
 obtain ⟨h1, h2, h3⟩ := hx
 obtain ⟨hp, hd, hg⟩ := rest_good h2
 unfold derivedP
 by_cases hf : Fail N (raw x)
 ·rw [if_pos hf]; exact .inl rfl
 rw [if_neg hf]
 have hr := rests_len (raw x)
 have hl : ¬ 2048 < (dd (raw x)).length := fun h => hf (.inl h)
 refine .inr ⟨rfl, by simp only; omega, fun q hq => ?_⟩
 obtain ⟨y, hy, hnd, rfl⟩ := rests_mem hq
 have hz : restBad N y.2.p = 0 := Classical.not_not.1 fun e => hf (.inr ⟨y, hy, by simpa using hnd, e⟩)
 have hb := (raw_PK hd h1 y hy).ok.rest
 have hU := raw_U x.dep x (Nat.le_refl _) y hy hnd
 have := rest_small hN hb hz
 exact ⟨by omega, hz, by omega⟩
end Go.Ab

namespace Go.Ab
theorem raw_ind {Q : GPattern → Pr → Prop} (h0 : ∀ x : GPattern, x.Op = 0 → Q x (⟨0, 0, x.Var, x.Typ, x.Cond, [], [], [], [], []⟩, doneR))
 (h1 : ∀ (x a : GPattern) l z, x.Op = 1 → x.Args = a :: l → z ∈ raw a → Q a z → Q x (z.1, contR z.2 l))
 (h2 : ∀ (x a : GPattern) z, x.Op = 2 → a ∈ x.Args → z ∈ raw a → Q a z → Q x z)
 (h3 : ∀ (x : GPattern) i (hi : i < x.Args.length) z, x.Op = 3 → z ∈ raw x.Args[i] → Q x.Args[i] z → Q x (z.1, joinR x.Args i z.2))
 (h4 : ∀ (x a : GPattern) l z y, x.Op = 4 → x.Args = a :: l → z ∈ raw a → Q a z → y ∈ rep x z → Q x y)
 (h8 : ∀ (x a : GPattern) l z y, x.Op = 8 → x.Args = a :: l → z ∈ raw a → Q a z → y ∈ rep (nd 4 l) z → Q x y)
 (hi : ∀ (x a : GPattern) l z, x.Op ≠ 0 → x.Op ≠ 1 → x.Op ≠ 2 → x.Op ≠ 3 → x.Op ≠ 4 → x.Op ≠ 8 → x.Args = a :: l → z ∈ raw a → Q a z → Q x (inn x z)) :
 ∀ (d : Nat) (x : GPattern), x.dep ≤ d → ∀ y ∈ raw x, Q x y := by
 intro d
 induction d with
 | zero => intro x h; rw [GPattern.dep_eq] at h; omega
 | succ d ih =>
  intro x hd y hy
  have hrec : ∀ a ∈ x.Args, ∀ y ∈ raw a, Q a y := fun a ha => ih a (by have := dep_mem ha; omega)
  rw [raw_eq] at hy
  unfold comb at hy
  by_cases o0 : x.Op = 0
  ·rw [if_pos o0] at hy
   rw [List.mem_singleton.1 hy]; exact h0 x o0
  rw [if_neg o0] at hy
  have hhead : ∀ z, z ∈ (x.Args.map raw).headD [] → ∃ a l, x.Args = a :: l ∧ z ∈ raw a ∧ Q a z := fun z hz => by
   match he : x.Args, hz with
   | [], hz => simp at hz
   | a :: l, hz => exact ⟨a, l, rfl, by simpa using hz, hrec a (by rw [he]; simp) z (by simpa using hz)⟩
  by_cases o1 : x.Op = 1
  ·rw [if_pos o1] at hy
   obtain ⟨z, hz, rfl⟩ := List.mem_map.1 hy
   obtain ⟨a, l, e, hza, hq⟩ := hhead z hz
   rw [e]; exact h1 x a l z o1 e hza hq
  rw [if_neg o1] at hy
  by_cases o2 : x.Op = 2
  ·rw [if_pos o2] at hy
   obtain ⟨i, _, hz⟩ := List.mem_flatMap.1 hy
   obtain ⟨a, ha, hz⟩ := getD_map_raw hz
   exact h2 x a y o2 ha hz (hrec a ha y hz)
  rw [if_neg o2] at hy
  by_cases o3 : x.Op = 3
  ·rw [if_pos o3] at hy
   obtain ⟨i, _, hz⟩ := List.mem_flatMap.1 hy
   obtain ⟨z, hz2, rfl⟩ := List.mem_map.1 hz
   have hlt : i < x.Args.length := by
    rcases Nat.lt_or_ge i x.Args.length with h | h
    ·exact h
    rw [List.getD_eq_getElem?_getD, List.getElem?_map, List.getElem?_eq_none h] at hz2; simp at hz2
   rw [getD_map_at hlt] at hz2
   exact h3 x i hlt z o3 hz2 (hrec _ (List.getElem_mem hlt) z hz2)
  rw [if_neg o3] at hy
  by_cases o4 : x.Op = 4
  ·rw [if_pos o4] at hy
   obtain ⟨z, hz, hy⟩ := List.mem_flatMap.1 hy
   obtain ⟨a, l, e, hza, hq⟩ := hhead z hz
   exact h4 x a l z y o4 e hza hq hy
  rw [if_neg o4] at hy
  by_cases o8 : x.Op = 8
  ·rw [if_pos o8] at hy
   obtain ⟨z, hz, hy⟩ := List.mem_flatMap.1 hy
   obtain ⟨a, l, e, hza, hq⟩ := hhead z hz
   rw [e] at hy
   exact h8 x a l z y o8 e hza hq hy
  rw [if_neg o8] at hy
  obtain ⟨z, hz, rfl⟩ := List.mem_map.1 hy
  obtain ⟨a, l, e, hza, hq⟩ := hhead z hz
  exact hi x a l z o0 o1 o2 o3 o4 o8 e hza hq
def EvIn (x : GPattern) (v : Int) : Prop := ∃ y ∈ x.pre, y.Op = 0 ∧ y.Var = v
theorem mem_pres_iff {y : GPattern} : ∀ {l : List GPattern}, y ∈ GPattern.pres l ↔ ∃ a ∈ l, y ∈ a.pre
 | [] => by simp [GPattern.pres]
 | a :: l => by simp [GPattern.pres, mem_pres_iff (l := l)]
end Go.Ab

