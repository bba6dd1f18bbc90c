/- GCR5 GCR6 GCR7 -/
import Derived.Test.YtpapabjndpgcnaaGreatDoorT39
import Derived.Test.YtpapabjndpgcnaaGreatDoorT24
set_option linter.all false

namespace Go.Ab
theorem rep_ne {ag : GPattern} {z : Pr} (h : ag.Args ≠ []) : rep ag z ≠ [] := by
 unfold rep
 split
 ·simp
 ·match he : ag.Args with
  | [] => exact absurd he h
  | b :: l => simp
theorem raw_ne : ∀ (d : Nat) (x : GPattern), x.dep ≤ d → (∀ y ∈ x.pre, Arity y) → raw x ≠ [] := by
 intro d
 induction d with
 | zero => intro x h; rw [GPattern.dep_eq] at h; omega
 | succ d ih =>
  intro x hd ha
  have hx := ha x (self_pre x)
  have hrec : ∀ a ∈ x.Args, raw a ≠ [] := fun a hm => ih a (by have := dep_mem hm; omega) fun y hy => ha y (by
   rw [GPattern.pre_eq]; exact List.mem_cons_of_mem _ (sub_pres_p hy _ hm))
  have hflat : ∀ (F : List Pr → List Pr), (∀ l, l ≠ [] → F l ≠ []) → ∀ (n : Nat) (ls : List (List Pr)), 0 < n → ls.getD 0 [] ≠ [] → ((List.range n).flatMap fun i => F (ls.getD i [])) ≠ [] := fun F hF n ls hn h0 h => by
   rw [List.flatMap_eq_nil_iff] at h
   exact hF _ h0 (h 0 (by simpa using hn))
  rw [raw_eq]
  unfold comb
  by_cases o0 : x.Op = 0
  ·rw [if_pos o0]; simp
  rw [if_neg o0]
  have hargs : ∃ a l, x.Args = a :: l := by
   match he : x.Args with
   | a :: l => exact ⟨a, l, rfl⟩
   | [] =>
    exfalso
    by_cases h3 : x.Op ≤ 3
    ·have := hx.two (by have := hx.op; omega) h3; rw [he] at this; simp at this
    ·by_cases h8 : x.Op = 8
     ·obtain ⟨a, b, e⟩ := hx.more h8; rw [he] at e; cases e
     ·obtain ⟨a, e⟩ := hx.one (by omega) h8; rw [he] at e; cases e
  obtain ⟨a, l, e⟩ := hargs
  have hra : raw a ≠ [] := hrec a (by rw [e]; simp)
  have hhd : (x.Args.map raw).headD [] ≠ [] := by rw [e]; exact hra
  have hg0 : (x.Args.map raw).getD 0 [] ≠ [] := by rw [e]; exact hra
  have hlen : 0 < x.Args.length := by rw [e]; simp
  by_cases o1 : x.Op = 1
  ·rw [if_pos o1]; simpa using hhd
  rw [if_neg o1]
  by_cases o2 : x.Op = 2
  ·rw [if_pos o2]; exact hflat (fun l => l) (fun _ h => h) _ _ hlen hg0
  rw [if_neg o2]
  by_cases o3 : x.Op = 3
  ·rw [if_pos o3]
   intro h
   rw [List.flatMap_eq_nil_iff] at h
   have := h 0 (by simpa using hlen)
   rw [List.map_eq_nil_iff] at this
   exact hg0 this
  rw [if_neg o3]
  have hrep : ∀ ag : GPattern, ag.Args ≠ [] → ((x.Args.map raw).headD []).flatMap (rep ag) ≠ [] := fun ag hag h => by
   rw [List.flatMap_eq_nil_iff] at h
   obtain ⟨z, hz⟩ := List.exists_mem_of_ne_nil _ hhd
   exact rep_ne hag (h z hz)
  by_cases o4 : x.Op = 4
  ·rw [if_pos o4]; exact hrep x (by rw [e]; simp)
  rw [if_neg o4]
  by_cases o8 : x.Op = 8
  ·rw [if_pos o8]
   refine hrep _ ?_
   obtain ⟨a', b', e'⟩ := hx.more o8
   rw [e']; simp [nd]
  rw [if_neg o8]
  simpa using hhd
theorem dd_ne {w : List Pr} (h : w ≠ []) : dd w ≠ [] := fun e => by
 obtain ⟨z, hz⟩ := List.exists_mem_of_ne_nil _ h
 have := dd_mem.2 hz
 rw [e] at this; cases this
theorem wth_nodup {α : Type} [DecidableEq α] {l : List α} {x : α} (h : l.Nodup) : (wth l x).Nodup := by
 unfold wth
 split
 ·exact h
 ·rename_i hx
  rw [List.nodup_append]
  exact ⟨h, by simp, fun a ha b hb e => by rw [List.mem_singleton.1 hb] at e; exact hx (e ▸ ha)⟩
theorem wths_nodup {α : Type} [DecidableEq α] : ∀ (l acc : List α), acc.Nodup → (l.foldl wth acc).Nodup
 | [], _, h => h
 | _ :: l, _, h => wths_nodup l _ (wth_nodup h)
theorem wths_sub {α : Type} [DecidableEq α] : ∀ (l acc : List α), (∀ x ∈ acc, x ∈ l.foldl wth acc) ∧ ∀ x ∈ l, x ∈ l.foldl wth acc
 | [], _ => ⟨fun _ h => h, fun _ h => by cases h⟩
 | y :: l, acc => by
  obtain ⟨h1, h2⟩ := wths_sub l (wth acc y)
  refine ⟨fun x hx => h1 x (wth_mem.2 (.inl hx)), fun x hx => ?_⟩
  rcases List.mem_cons.1 hx with rfl | hx
  ·exact h1 _ (wth_mem.2 (.inr rfl))
  ·exact h2 x hx
theorem wths_pre {α : Type} [DecidableEq α] : ∀ (l acc : List α), ∃ t, l.foldl wth acc = acc ++ t
 | [], acc => ⟨[], by simp⟩
 | y :: l, acc => by
  obtain ⟨t, h⟩ := wths_pre l (wth acc y)
  rw [List.foldl_cons, h]
  unfold wth
  split
  ·exact ⟨t, rfl⟩
  ·exact ⟨y :: t, by simp⟩
noncomputable def restsOf (N : Nat) (q : GPattern) : List GPattern := (derivedP N (raw q)).2.1
structure Closed (N : Nat) (x : GPattern) (l : List GPattern) : Prop where
 len : l.length ≤ 256
 ok : ∀ q ∈ l, ResOk N q
 nodup : l.Nodup
 head : ∃ t, l = x :: t
 good : ∀ q ∈ l, (derivedP N (raw q)).2.2 = 0
 rests : ∀ q ∈ l, ∀ r ∈ restsOf N q, r ∈ l
 vars : ∀ q ∈ l, ∀ v, EvIn q v → EvIn x v
theorem residuals_closed {N : Nat} (hN : 40000000 ≤ N) {x : GPattern} (hx : ResOk N x) (hc : chkP N x = 0) : ∃ r : List GPattern × Int, derivative_Residuals N x = some r ∧ (r.2 = 17 ∨ r.2 = 0 ∧ Closed N x r.1) := by
 unfold derivative_Residuals
 rw [pcheck_eq hN (by have := hx.1; omega)]
 simp only [Option.bind_some, hc]
 rw [if_neg (ne_false rfl)]
 obtain ⟨r, r', h1, h2, h3⟩ := lock (S := List GPattern × Int) (R := List GPattern ⊕ Int) (R' := List GPattern ⊕ Int)
  (f := fun (s2 : (List GPattern) × Int) => ((if Ar.cmp .lss s2.2 (Ar.len s2.1) = true then (idxL s2.1 s2.2).bind fun x5 => (derivative_derived N x5).bind fun r6 => if Ar.cmp .neq r6.2.2 0 = true then some (.inr (.inr r6.2.2)) else (loopN (fun (s7 : (List GPattern) × Int) => ((if Ar.cmp .lss s7.2 (Ar.len r6.2.1) = true then (idxL r6.2.1 s7.2).bind fun x10 => (derivative_index N s7.1 x10).bind fun r11 => if Ar.cmp .lss r11 0 = true then (appL s7.1 ([x10])).bind fun l13 => some (.inl (l13, Ar.ar .add .i64 s7.2 1)) else some (.inl (s7.1, Ar.ar .add .i64 s7.2 1)) else some (.inr s7.1)) : Option (((List GPattern) × Int) ⊕ (List GPattern)))) N (s2.1, 0)).bind fun s9 => if Ar.cmp .gtr (Ar.len s9) 256 = true then some (.inr (.inr 17)) else some (.inl (s9, Ar.ar .add .i64 s2.2 1)) else some (.inr (.inl s2.1))) : Option (((List GPattern) × Int) ⊕ (((List GPattern)) ⊕ Int))))
  (g := fun (s2 : (List GPattern) × Int) => ((if Ar.cmp .lss s2.2 (Ar.len s2.1) = true then (idxL s2.1 s2.2).bind fun x5 => (derivative_derived N x5).bind fun r6 => if Ar.cmp .neq r6.2.2 0 = true then some (.inr (.inr r6.2.2)) else (loopN (fun (s7 : (List GPattern) × Int) => ((if Ar.cmp .lss s7.2 (Ar.len r6.2.1) = true then (idxL r6.2.1 s7.2).bind fun x10 => (derivative_index N s7.1 x10).bind fun r11 => if Ar.cmp .lss r11 0 = true then (appL s7.1 ([x10])).bind fun l13 => some (.inl (l13, Ar.ar .add .i64 s7.2 1)) else some (.inl (s7.1, Ar.ar .add .i64 s7.2 1)) else some (.inr s7.1)) : Option (((List GPattern) × Int) ⊕ (List GPattern)))) N (s2.1, 0)).bind fun s9 => if Ar.cmp .gtr (Ar.len s9) 256 = true then some (.inr (.inr 17)) else some (.inl (s9, Ar.ar .add .i64 s2.2 1)) else some (.inr (.inl s2.1))) : Option (((List GPattern) × Int) ⊕ (((List GPattern)) ⊕ Int))))
  (fun s => ∃ j : Nat, s.2 = j ∧ j ≤ s.1.length ∧ s.1.length ≤ 256 ∧ (∀ q ∈ s.1, ResOk N q) ∧ s.1.Nodup ∧ (∃ t, s.1 = x :: t) ∧ (∀ q ∈ s.1.take j, (derivedP N (raw q)).2.2 = 0) ∧ (∀ q ∈ s.1.take j, ∀ r ∈ restsOf N q, r ∈ s.1) ∧ ∀ q ∈ s.1, ∀ v, EvIn q v → EvIn x v)
  (fun r _ => (∃ l, r = .inl l ∧ Closed N x l) ∨ r = .inr 17)
  (fun s => 257 - s.2.toNat)
  (fun s ⟨j, i0, i1, i2, i3, i4, ⟨t, i5⟩, i6, i7, i8⟩ => by
   obtain ⟨out, i⟩ := s
   simp only at i0 i1 i2 i3 i4 i5 i6 i7 i8
   subst i0
   by_cases hj : j < out.length
   ·have e1 : idxL out (j : Int) = some out[j] := by rw [idx_at, List.getElem?_eq_getElem hj]
    have hm := List.getElem_mem hj
    have hk := i3 _ hm
    simp only [if_pos (lt_true (show (j : Int) < Ar.len out by simp only [len_def]; omega)), e1, Option.bind_some]
    rw [derived_eq hN hk.1 hk.2.1]
    simp only [Option.bind_some]
    rcases derived_res hN hk with h17 | ⟨h0, hl, hr⟩
    ·rw [if_pos (ne_true (by rw [h17]; omega)), h17]
     exact .inr ⟨_, _, rfl, rfl, .inr rfl⟩
    ·rw [if_neg (ne_false h0)]
     rw [inner_p hN _ out hl i2 (fun q hq => by have := (hr q hq).1; omega)]
     simp only [Option.bind_some]
     by_cases hbig : 256 < ((derivedP N (raw out[j])).2.1.foldl wth out).length
     ·rw [if_pos (gt_true (by simp only [len_def]; omega))]
      exact .inr ⟨_, _, rfl, rfl, .inr rfl⟩
     ·rw [if_neg (gt_false (by simp only [len_def]; omega))]
      have hlen := (wths_len (derivedP N (raw out[j])).2.1 out).2
      obtain ⟨t', ht'⟩ := wths_pre (derivedP N (raw out[j])).2.1 out
      have hsub := wths_sub (derivedP N (raw out[j])).2.1 out
      have htake : ((derivedP N (raw out[j])).2.1.foldl wth out).take (j + 1) = out.take j ++ [out[j]] := by
       rw [ht', List.take_append_of_le_length (by omega), List.take_add_one, List.getElem?_eq_getElem hj]; rfl
      refine .inl ⟨_, rfl, rfl, ⟨j + 1, ?_, ?_, ?_, ?_, ?_, ?_, ?_, ?_, ?_⟩, ?_⟩
      ·exact inc_i64 (by omega)
      ·simp only; omega
      ·simp only; omega
      ·intro q hq
       rcases wths_mem _ _ hq with hq | hq
       ·exact i3 q hq
       ·exact hr q hq
      ·exact wths_nodup _ _ i4
      ·exact ⟨t ++ t', by simp only [ht']; exact congrArg (· ++ t') i5⟩
      ·simp only [htake]
       intro q hq
       rcases List.mem_append.1 hq with hq | hq
       ·exact i6 q hq
       ·rw [List.mem_singleton.1 hq]; exact h0
      ·simp only [htake]
       intro q hq r hr
       rcases List.mem_append.1 hq with hq | hq
       ·exact hsub.1 r (i7 q hq r hr)
       ·rw [List.mem_singleton.1 hq] at hr; exact hsub.2 r hr
      ·intro q hq v hv
       rcases wths_mem _ _ hq with hq | hq
       ·exact i8 q hq v hv
       ·refine i8 _ hm v ?_
        have hq' : q ∈ rests (raw out[j]) := by
         unfold derivedP at hq
         split at hq
         ·cases hq
         ·exact hq
        obtain ⟨y, hy, hnd, rfl⟩ := rests_mem hq'
        exact (raw_ev _ _ (Nat.le_refl _) y hy).2 (by simpa using hnd) v hv
      ·rw [inc_i64 (by omega)]; simp only; omega
   ·simp only [if_neg (lt_false (show ¬ (j : Int) < Ar.len out by simp only [len_def]; omega))]
    have ej : out.take j = out := List.take_of_length_le (by omega)
    rw [ej] at i6 i7
    exact .inr ⟨_, _, rfl, rfl, .inl ⟨out, rfl, i2, i3, i4, ⟨t, i5⟩, i6, i7, i8⟩⟩)
  N ([x], 0) ⟨0, rfl, by simp, by simp, fun q hq => by rw [List.mem_singleton.1 hq]; exact hx, by simp, ⟨[], rfl⟩, fun q hq => by simp at hq, fun q hq => by simp at hq, fun q hq v hv => by rw [List.mem_singleton.1 hq] at hv; exact hv⟩ (by simp; omega)
 rw [h1]
 rcases h3 with ⟨l, rfl, h4⟩ | rfl
 ·exact ⟨(l, 0), rfl, .inr ⟨rfl, h4⟩⟩
 ·exact ⟨([], 17), rfl, .inl rfl⟩
end Go.Ab

namespace Go.Ab
open Go.Lib
theorem mem_compact {zs : List Int} {x : Int} : x ∈ Lib.compact zs ↔ x ∈ zs := by
 unfold Lib.compact Lib.compactUpTo
 rw [List.mem_map]
 constructor
 ·rintro ⟨j, hj, rfl⟩
  have hj := List.mem_range.1 (List.mem_filter.1 hj).1
  simp [hj]
 ·intro hx
  obtain ⟨i, hi, rfl⟩ := List.mem_iff_getElem.1 hx
  have key : ∀ (n i : Nat) (hi : i < zs.length), i ≤ n → ∃ a, a ∈ (List.range zs.length).filter (keeps zs.toArray) ∧ zs.toArray[a]! = zs[i] := fun n => by
   induction n with
   | zero =>
    intro i hi h
    have : i = 0 := by omega
    subst this
    exact ⟨0, List.mem_filter.2 ⟨List.mem_range.2 hi, keeps_lt_one _ 0 (by omega)⟩, by simp [hi]⟩
   | succ n ih =>
    intro i hi h
    by_cases hk : keeps zs.toArray i = true
    ·exact ⟨i, List.mem_filter.2 ⟨List.mem_range.2 hi, hk⟩, by simp [hi]⟩
    ·by_cases h0 : i = 0
     ·subst h0; exact absurd (keeps_lt_one _ 0 (by omega)) hk
     ·obtain ⟨a, ha, e⟩ := ih (i - 1) (by omega) (by omega)
      refine ⟨a, ha, e.trans ?_⟩
      have h2 : zs.toArray[i]! = zs.toArray[i - 1]! := Classical.not_not.1 fun hne => hk (keeps_pos hne)
      have e1 : zs.toArray[i]! = zs[i] := by simp [hi]
      have e2 : zs.toArray[i - 1]! = zs[i - 1] := by simp [show i - 1 < zs.length by omega]
      rw [← e1, ← e2, h2]
  exact key i i hi (Nat.le_refl _)
theorem mem_sortL {l r : List Int} (h : sortL l = some r) {x : Int} : x ∈ r ↔ x ∈ l := by
 obtain ⟨_, rfl⟩ := sortL_some h
 exact (List.mergeSort_perm l _).mem_iff
end Go.Ab

namespace Go.Ab
theorem bound_run : ∀ (l : List GPattern) (s : List Int), s.length + l.length ≤ 1000000 →
 rangeL (fun (s6 : (List Int)) (y5 : GPattern) => (if Ar.cmp .eql y5.Op 0 = true then (appL s6 ([y5.Var])).bind fun l12 => some (.inl l12) else some (.inl s6) : Option (((List Int)) ⊕ (Unit)))) l s = some (.inl (s ++ (l.filter fun y => decide (y.Op = 0)).map (·.Var)))
 | [], s, _ => by simp [rangeL]
 | y :: l, s, h => by
  simp only [List.length_cons] at h
  unfold rangeL
  by_cases h0 : y.Op = 0
  ·have e : appL s [y.Var] = some (s ++ [y.Var]) := by simp [appL]; omega
   rw [if_pos (by rw [cmp_eql]; simpa using h0), e]
   simp only [Option.bind_some]
   rw [bound_run l (s ++ [y.Var]) (by simp; omega)]
   simp [h0]
  ·rw [if_neg (by rw [cmp_eql]; simpa using h0)]
   simp only
   rw [bound_run l s (by omega)]
   simp [h0]
theorem bound_eq {N : Nat} (hN : 40000000 ≤ N) {x : GPattern} (hb : x.bulk ≤ 16777216) (hp : x.pre.length ≤ 64) : ∃ l, pattern_Bound N x = some l ∧ l.length ≤ 64 ∧ ∀ v, EvIn x v → v ∈ l := by
 have hl : ((x.pre.filter fun y => decide (y.Op = 0)).map (·.Var)).length ≤ 64 := by
  rw [List.length_map]; exact Nat.le_trans (List.length_filter_le _ _) hp
 unfold pattern_Bound
 rw [preorder_eq hN hb]
 simp only [Option.bind_some]
 rw [bound_run x.pre [] (by simp; omega)]
 simp only [Option.bind_some, List.nil_append]
 generalize hL : (x.pre.filter fun y => decide (y.Op = 0)).map (·.Var) = L at hl
 obtain ⟨s, hs⟩ : ∃ s, sortL L = some s := ⟨_, by unfold sortL; rw [if_pos (by omega)]⟩
 have hsl : s.length = L.length := by obtain ⟨_, rfl⟩ := sortL_some hs; exact List.length_mergeSort L
 have hcl : ∀ zs : List Int, (Lib.compact zs).length ≤ zs.length := fun zs => by
  unfold Lib.compact Lib.compactUpTo
  rw [List.length_map]
  exact Nat.le_trans (List.length_filter_le _ _) (by simp)
 refine ⟨Lib.compact s, ?_, by have := hcl s; omega, fun v hv => ?_⟩
 ·show (slices_Sort_Lint_int N L).bind _ = _
  unfold slices_Sort_Lint_int
  rw [hs]
  simp only [Option.bind_some]
  unfold slices_Compact_Lint_int compactL
  rw [if_pos (by omega)]
  rfl
 ·rw [mem_compact, mem_sortL hs, ← hL]
  obtain ⟨y, hy, h0, h1⟩ := hv
  exact List.mem_map.2 ⟨y, List.mem_filter.2 ⟨hy, by simp [h0]⟩, h1⟩
theorem containsI_eq {N : Nat} (l : List Int) (v : Int) (hs : l.length < 1000000000000) (hN : l.length < N) : slices_Contains_Lint_int N l v = some (decide (v ∈ l)) := by
 unfold slices_Contains_Lint_int slices_Index_Lint_int
 have h := index_loop l hs (fun x => some (Ar.cmp .eql v x)) (fun x => decide (v = x)) (fun x _ => by rw [cmp_eql]) hN
 simp only [Option.bind_some] at h
 rw [h]
 simp only [Option.bind_some]
 cases hf : l.findIdx? (fun x => decide (v = x)) with
 | none =>
  rw [List.findIdx?_eq_none_iff] at hf
  have : ¬ v ∈ l := fun hm => by have := hf v hm; simp at this
  simp [this, cmp_geq]
 | some i =>
  rw [List.findIdx?_eq_some_iff_getElem] at hf
  obtain ⟨hi, h1, _⟩ := hf
  have : v ∈ l := by
   have e := of_decide_eq_true h1
   rw [e]; exact List.getElem_mem hi
  simp [this, cmp_geq]
theorem containsP_eq {N : Nat} (l : List GPattern) (f : GPattern → Option Bool) (P : GPattern → Bool) (hs : l.length < 1000000000000) (hf : ∀ x ∈ l, f x = some (P x)) (hN : l.length < N) : slices_ContainsFunc_LPattern_Pattern N l f = some (decide (∃ x ∈ l, P x = true)) := by
 unfold slices_ContainsFunc_LPattern_Pattern
 rw [indexP_eq l hs f P hf hN]
 simp only [Option.bind_some, cmp_geq]
 congr 1
 exact decide_eq_decide.2 idxI_nonneg
theorem toOf_lt {l : List GPattern} {r : Gderivative_rest} (h : ¬ r.done = true → r.p ∈ l) : -1 ≤ toOf l r ∧ toOf l r < l.length := by
 unfold toOf
 split
 ·omega
 ·rename_i hd
  have hm : ∃ x ∈ l, (fun x => decide (r.p = x)) x = true := ⟨r.p, h hd, by simp⟩
  obtain ⟨i, hi, e, _⟩ := idxI_at (P := fun x => decide (r.p = x)) hm
  have : idxP l r.p = i := e
  rw [this]; omega
theorem closes_one {N : Nat} (hN : 40000000 ≤ N) {x q : GPattern} {l : List GPattern} (hc : Closed N x l) (hq : q ∈ l) :
 derivative_Derive N q = some (derivedP N (raw q)) ∧ (derivedP N (raw q)).2.2 = 0 ∧ (derivedP N (raw q)).1 ≠ [] ∧ (derivedP N (raw q)).1.length ≤ 2048 ∧ (derivedP N (raw q)).2.1.length ≤ 2048 ∧
 (∀ r ∈ (derivedP N (raw q)).2.1, r ∈ l ∧ r.bulk ≤ 16777216) ∧
 (∀ e ∈ (derivedP N (raw q)).1, EvIn x e.Var ∧ -1 ≤ e.To ∧ e.To < (derivedP N (raw q)).2.1.length ∧ e.From = 0) := by
 obtain ⟨hb, hz, hU⟩ := hc.ok q hq
 have hg := hc.good q hq
 have hr := rest_good hz
 have hF : ¬ Fail N (raw q) := fun hF => by
  unfold derivedP at hg
  rw [if_pos hF] at hg; cases hg
 have e1 : derivedP N (raw q) = ((dd (raw q)).map (eg (rests (raw q))), rests (raw q), 0) := by unfold derivedP; rw [if_neg hF]
 have hdl : (dd (raw q)).length ≤ 2048 := by
  rcases Nat.lt_or_ge 2048 (dd (raw q)).length with h | h
  ·exact absurd (.inl h) hF
  ·exact h
 have hrl := rests_len (raw q)
 have hrests := hc.rests q hq
 unfold restsOf at hrests
 have hgood : ∀ y ∈ q.pre, Arity y := fun y hy => node_arity hN (by omega) hr.1 hr.2.2 hy
 rw [e1] at hrests hg ⊢
 refine ⟨by rw [derive_eq hN hb hz, e1], rfl, ?_, by simpa using hdl, by simp only; omega, fun r hr => ⟨hrests r hr, ?_⟩, fun e he => ?_⟩
 ·simp only [ne_eq, List.map_eq_nil_iff]
  exact dd_ne (raw_ne q.dep q (Nat.le_refl _) hgood)
 ·have := (hc.ok r (hrests r hr)).1; omega
 ·obtain ⟨y, hy, rfl⟩ := List.mem_map.1 he
  have hy := dd_mem.1 hy
  have hev := raw_ev q.dep q (Nat.le_refl _) y hy
  have hok := raw_ok q.dep q (Nat.le_refl _) y hy
  have ht := toOf_lt (l := rests (raw q)) (r := y.2) fun h => rests_has hy h
  exact ⟨hc.vars q hq _ hev.1, ht.1, ht.2, hok.from0⟩
theorem closes_law {N : Nat} (hN : 40000000 ≤ N) (awake : law22_awake N = some true) {x : GPattern} (hb : x.bulk ≤ 1048576) : law22_DerivativeCloses N x = some true := by
 unfold law22_DerivativeCloses
 obtain ⟨b, h1, hsm⟩ := small9 hN (x := x) (by omega)
 rw [h1]
 simp only [Option.bind_some]
 cases b
 ·rw [if_pos (show Ar.nt false = true from rfl), awake]; rfl
 rw [if_neg (by simp [nt_def]), pcheck_eq hN (by omega)]
 simp only [Option.bind_some]
 by_cases hc : chkP N x = 0
 rotate_left
 ·rw [if_pos (by simp [cmp_neq, hc]), awake]; rfl
 rw [if_neg (by simp [cmp_neq, hc])]
 have hz : restBad N x = 0 := by
  unfold chkP at hc
  split at hc
  ·exact hc
  ·rename_i h; exact Classical.not_not.1 h
 have hU : U x ≤ 400000 := by
  have h2 := U_pow x.dep x (Nat.le_refl _)
  have h3 : 2 ^ x.pre.length ≤ 2 ^ 9 := Nat.pow_le_pow_right (by omega) (hsm rfl)
  have : (2 : Nat) ^ 9 = 512 := rfl
  omega
 obtain ⟨r, h2, h3⟩ := residuals_closed hN ⟨by omega, hz, hU⟩ hc
 rw [h2]
 simp only [Option.bind_some]
 rcases h3 with h3 | ⟨h3, hcl⟩
 ·rw [if_pos (by simp [cmp_neq, h3]), if_pos (by simp [cmp_eql, h3]), awake]; rfl
 rw [if_neg (by simp [cmp_neq, h3])]
 obtain ⟨t, ht⟩ := hcl.head
 have hlen := hcl.len
 have hL : r.1.length ≠ 0 := by rw [ht]; simp
 rw [if_neg (by rw [cmp_eql, len_def]; simp; intro e; exact hL (by rw [e]; rfl))]
 have h0 : idxL r.1 0 = some x := by rw [ht]; rfl
 rw [h0]
 simp only [Option.bind_some]
 rw [same9 hN N x x (by omega) (by omega)]
 simp only [Option.bind_some, decide_true]
 rw [if_neg (by simp [nt_def])]
 obtain ⟨bd, hbd, hbl, hbm⟩ := bound_eq hN (x := x) (by omega) (rest_good hz).1
 rw [hbd]
 simp only [Option.bind_some]
 rw [loop_run (fun j => (j : Int)) r.1.length (.inl ()) (s0 := 0) (by rfl) (by omega) ?hs ?he]
 ·simp only [Option.bind_some]
  rw [awake]; rfl
 case he => simp [cmp_lss, len_def]
 case hs =>
  intro j hj
  have hq : r.1[j] ∈ r.1 := List.getElem_mem hj
  obtain ⟨d1, d2, d3, d4, d5, d6, d7⟩ := closes_one hN hcl hq
  have ej : r.1[j]? = some r.1[j] := by simp [hj]
  have hok := hcl.ok _ hq
  rw [if_pos (by rw [cmp_lss, len_def]; simpa using hj), idx_at, ej]
  simp only [Option.bind_some, d1]
  generalize hD : derivedP N (raw r.1[j]) = D at *
  rw [if_neg (by
   have hne : D.1.length ≠ 0 := fun e => d3 (List.eq_nil_of_length_eq_zero e)
   simp only [or_def, cmp_neq, cmp_eql, d2, len_def, Bool.or_eq_true, decide_eq_true_eq, not_or]
   exact ⟨by simp, by omega⟩)]
  rw [rest_eq hN (by have := hok.1; omega)]
  simp only [Option.bind_some]
  rw [if_neg (by rw [cmp_neq]; simp [hok.2.1])]
  have es : sliceL r.1 none (some (j : Int)) none = some (r.1.take j) := by
   unfold sliceL
   rw [if_pos ⟨by simp, by simp, by simp; omega, by simp, by simp⟩]
   simp
  rw [es]
  simp only [Option.bind_some]
  rw [containsP_eq (r.1.take j) _ (fun y => decide (r.1[j] = y)) (by simp; omega) (fun y hy => by
   unfold law22_DerivativeCloses_1
   rw [same9 hN N r.1[j] y (by have := hok.1; omega) (by have := hok.1; omega)]; rfl) (by simp; omega)]
  simp only [Option.bind_some]
  rw [if_neg (by
   simp only [decide_eq_true_eq]
   rintro ⟨y, hy, e⟩
   obtain ⟨i, hi, e2⟩ := List.getElem_of_mem hy
   have hij : i < j := by simp at hi; omega
   rw [List.getElem_take] at e2
   have hnd := List.pairwise_iff_getElem.1 hcl.nodup i j (by omega) hj hij
   exact hnd (e2.trans e.symm))]
  rw [loop_run (fun j => (j : Int)) D.2.1.length (.inl ()) (s0 := 0) (by rfl) (by omega) ?hs1 ?he1]
  case he1 => simp [cmp_lss, len_def]
  case hs1 =>
   intro i hi
   have ei : D.2.1[i]? = some D.2.1[i] := by simp [hi]
   obtain ⟨v1, v2⟩ := d6 _ (List.getElem_mem hi)
   rw [if_pos (by rw [cmp_lss, len_def]; simpa using hi), idx_at, ei]
   simp only [Option.bind_some]
   rw [containsP_eq r.1 _ (fun y => decide (D.2.1[i] = y)) (by omega) (fun y hy => by
    unfold law22_DerivativeCloses_2
    rw [same9 hN N D.2.1[i] y (by omega) (by omega)]; rfl) (by omega)]
   simp only [Option.bind_some]
   have : (∃ y ∈ r.1, decide (D.2.1[i] = y) = true) := ⟨_, v1, by simp⟩
   rw [if_neg (by rw [nt_def, decide_eq_true this]; simp), inc_i64 (by omega)]
  simp only [Option.bind_some]
  rw [loop_run (fun j => (j : Int)) D.1.length (.inl ()) (s0 := 0) (by rfl) (by omega) ?hs2 ?he2]
  case he2 => simp [cmp_lss, len_def]
  case hs2 =>
   intro i hi
   have ei : D.1[i]? = some D.1[i] := by simp [hi]
   obtain ⟨v1, v2, v3, v4⟩ := d7 _ (List.getElem_mem hi)
   rw [if_pos (by rw [cmp_lss, len_def]; simpa using hi), idx_at, ei]
   simp only [Option.bind_some]
   rw [containsI_eq bd _ (by omega) (by omega)]
   simp only [Option.bind_some]
   rw [if_neg (by
    have := hbm _ v1
    simp only [or_def, nt_def, cmp_lss, cmp_geq, cmp_neq, len_def, v4, this, decide_true, Bool.not_true, Bool.false_or, Bool.or_eq_true, decide_eq_true_eq, not_or]
    refine ⟨⟨by omega, by omega⟩, by simp⟩), inc_i64 (by omega)]
  simp only [Option.bind_some]
  rw [inc_i64 (by omega)]
end Go.Ab

