/- GNS4 GNS5 GNS6 GNS7 GNS8 GNS9 -/
import Derived.Test.YtfeppncgdbbbeaaGreatDoorT42
import Derived.Test.YtfeppncgdbbbeaaGreatDoorT22
set_option linter.all false

namespace Go.Ab
theorem del_first {l A C : List Int} {s : Int} (h : l.Perm (A ++ s :: C)) : ∃ l', 0 ≤ idxI (fun y => decide (s = y)) l ∧ idxI (fun y => decide (s = y)) l < (l.length : Int) ∧
 deleteL l (idxI (fun y => decide (s = y)) l) (idxI (fun y => decide (s = y)) l + 1) = some l' ∧ l'.Perm (A ++ C) ∧ l'.length + 1 = l.length := by
 have hs : s ∈ l := h.mem_iff.2 (by simp)
 obtain ⟨i, hi, e, hp⟩ := idxI_at (P := fun y => decide (s = y)) (l := l) ⟨s, hs, by simp⟩
 have hsi : l[i] = s := by simpa using (of_decide_eq_true hp).symm
 rw [e]
 have hsplit : l = l.take i ++ s :: l.drop (i + 1) := by
  rw [← hsi, ← List.drop_eq_getElem_cons hi, List.take_append_drop]
 refine ⟨l.take i ++ l.drop (i + 1), by omega, by omega, ?_, ?_, ?_⟩
 ·unfold deleteL
  rw [if_pos ⟨by omega, by omega, by omega⟩, show ((i : Int) + 1).toNat = i + 1 by omega, show ((i : Int)).toNat = i by omega]
 ·have h1 : (s :: (l.take i ++ l.drop (i + 1))).Perm (s :: (A ++ C)) :=
   (List.perm_middle.symm.trans (by rw [← hsplit])).trans (h.trans List.perm_middle)
  exact h1.cons_inv
 simp only [List.length_append, List.length_take, List.length_drop]; omega
theorem sort_perm {l m r s : List Int} (h : l.Perm m) (hr : sortL l = some r) (hs : sortL m = some s) : r = s := by
 obtain ⟨_, rfl⟩ := sortL_some hr
 obtain ⟨_, rfl⟩ := sortL_some hs
 have tot : ∀ a b : Int, (decide (a ≤ b) || decide (b ≤ a)) = true := fun a b => by simp only [Bool.or_eq_true, decide_eq_true_eq]; omega
 have tr : ∀ a b c : Int, decide (a ≤ b) = true → decide (b ≤ c) = true → decide (a ≤ c) = true := fun a b c h1 h2 => by simp only [decide_eq_true_eq] at *; omega
 refine List.Perm.eq_of_pairwise (le := fun a b => decide (a ≤ b) = true) (fun a b _ _ h1 h2 => by simp only [decide_eq_true_eq] at h1 h2; omega) (List.pairwise_mergeSort tr tot l) (List.pairwise_mergeSort tr tot m) ?_
 exact (List.mergeSort_perm l _).trans (h.trans (List.mergeSort_perm m _).symm)
end Go.Ab

namespace Go.Ab
structure ClosedZ (Z : GPattern → Prop) (N : Nat) (l : List GPattern) : Prop where
 len : l.length ≤ 256
 ok : ∀ q ∈ l, ResOk N q
 good : ∀ q ∈ l, (derivedP N (raw q)).2.2 = 0
 all : ∀ q ∈ l, Z q
theorem residuals_all {Z : GPattern → Prop} {N : Nat} (hN : 40000000 ≤ N) {x : GPattern} (hx : ResOk N x) (hc : chkP N x = 0) (z0 : Z x) (zs : ∀ q, Z q → ∀ y ∈ raw q, y.2.done = false → Z y.2.p) : ∃ r : List GPattern × Int, derivative_Residuals N x = some r ∧ (r.2 = 17 ∨ r.2 = 0 ∧ ClosedZ Z N r.1) := by
 unfold derivative_Residuals
 rw [pcheck_eq hN (by have := hx.1; omega)]
 simp only [Option.bind_some, hc]
 rw [if_neg (ne_false rfl)]
 obtain ⟨r, r', h1, h2, h3⟩ := lock (S := List GPattern × Int) (R := List GPattern ⊕ Int) (R' := List GPattern ⊕ Int)
  (f := fun (s2 : (List GPattern) × Int) => ((if Ar.cmp .lss s2.2 (Ar.len s2.1) = true then (idxL s2.1 s2.2).bind fun x5 => (derivative_derived N x5).bind fun r6 => if Ar.cmp .neq r6.2.2 0 = true then some (.inr (.inr r6.2.2)) else (loopN (fun (s7 : (List GPattern) × Int) => ((if Ar.cmp .lss s7.2 (Ar.len r6.2.1) = true then (idxL r6.2.1 s7.2).bind fun x10 => (derivative_index N s7.1 x10).bind fun r11 => if Ar.cmp .lss r11 0 = true then (appL s7.1 ([x10])).bind fun l13 => some (.inl (l13, Ar.ar .add .i64 s7.2 1)) else some (.inl (s7.1, Ar.ar .add .i64 s7.2 1)) else some (.inr s7.1)) : Option (((List GPattern) × Int) ⊕ (List GPattern)))) N (s2.1, 0)).bind fun s9 => if Ar.cmp .gtr (Ar.len s9) 256 = true then some (.inr (.inr 17)) else some (.inl (s9, Ar.ar .add .i64 s2.2 1)) else some (.inr (.inl s2.1))) : Option (((List GPattern) × Int) ⊕ (((List GPattern)) ⊕ Int))))
  (g := fun (s2 : (List GPattern) × Int) => ((if Ar.cmp .lss s2.2 (Ar.len s2.1) = true then (idxL s2.1 s2.2).bind fun x5 => (derivative_derived N x5).bind fun r6 => if Ar.cmp .neq r6.2.2 0 = true then some (.inr (.inr r6.2.2)) else (loopN (fun (s7 : (List GPattern) × Int) => ((if Ar.cmp .lss s7.2 (Ar.len r6.2.1) = true then (idxL r6.2.1 s7.2).bind fun x10 => (derivative_index N s7.1 x10).bind fun r11 => if Ar.cmp .lss r11 0 = true then (appL s7.1 ([x10])).bind fun l13 => some (.inl (l13, Ar.ar .add .i64 s7.2 1)) else some (.inl (s7.1, Ar.ar .add .i64 s7.2 1)) else some (.inr s7.1)) : Option (((List GPattern) × Int) ⊕ (List GPattern)))) N (s2.1, 0)).bind fun s9 => if Ar.cmp .gtr (Ar.len s9) 256 = true then some (.inr (.inr 17)) else some (.inl (s9, Ar.ar .add .i64 s2.2 1)) else some (.inr (.inl s2.1))) : Option (((List GPattern) × Int) ⊕ (((List GPattern)) ⊕ Int))))
  (fun s => ∃ j : Nat, s.2 = j ∧ j ≤ s.1.length ∧ s.1.length ≤ 256 ∧ (∀ q ∈ s.1, ResOk N q) ∧ (∀ q ∈ s.1.take j, (derivedP N (raw q)).2.2 = 0) ∧ ∀ q ∈ s.1, Z q)
  (fun r _ => (∃ l, r = .inl l ∧ ClosedZ Z N l) ∨ r = .inr 17)
  (fun s => 257 - s.2.toNat)
  (fun s ⟨j, i0, i1, i2, i3, i6, i8⟩ => by
   obtain ⟨out, i⟩ := s
   simp only at i0 i1 i2 i3 i6 i8
   subst i0
   by_cases hj : j < out.length
   ·have e1 : idxL out (j : Int) = some out[j] := by rw [idx_at, List.getElem?_eq_getElem hj]
    have hm := List.getElem_mem hj
    have hk := i3 _ hm
    simp only [if_pos (lt_true (show (j : Int) < Ar.len out by simp only [len_def]; omega)), e1, Option.bind_some]
    rw [derived_eq hN hk.1 hk.2.1]
    simp only [Option.bind_some]
    rcases derived_res hN hk with h17 | ⟨h0, hl, hr⟩
    ·rw [if_pos (ne_true (by rw [h17]; omega)), h17]
     exact .inr ⟨_, _, rfl, rfl, .inr rfl⟩
    rw [if_neg (ne_false h0)]
    rw [inner_p hN _ out hl i2 (fun q hq => by have := (hr q hq).1; omega)]
    simp only [Option.bind_some]
    by_cases hbig : 256 < ((derivedP N (raw out[j])).2.1.foldl wth out).length
    ·rw [if_pos (gt_true (by simp only [len_def]; omega))]
     exact .inr ⟨_, _, rfl, rfl, .inr rfl⟩
    rw [if_neg (gt_false (by simp only [len_def]; omega))]
    have hlen := (wths_len (derivedP N (raw out[j])).2.1 out).2
    obtain ⟨t', ht'⟩ := wths_pre (derivedP N (raw out[j])).2.1 out
    have htake : ((derivedP N (raw out[j])).2.1.foldl wth out).take (j + 1) = out.take j ++ [out[j]] := by
     rw [ht', List.take_append_of_le_length (by omega), List.take_add_one, List.getElem?_eq_getElem hj]; rfl
    refine .inl ⟨_, rfl, rfl, ⟨j + 1, ?_, ?_, ?_, ?_, ?_, ?_⟩, ?_⟩
    ·exact inc_i64 (by omega)
    ·simp only; omega
    ·simp only; omega
    ·intro q hq
     rcases wths_mem _ _ hq with hq | hq
     ·exact i3 q hq
     exact hr q hq
    ·simp only [htake]
     intro q hq
     rcases List.mem_append.1 hq with hq | hq
     ·exact i6 q hq
     rw [List.mem_singleton.1 hq]; exact h0
    ·intro q hq
     rcases wths_mem _ _ hq with hq | hq
     ·exact i8 q hq
     have hq' : q ∈ rests (raw out[j]) := by
      unfold derivedP at hq
      split at hq
      ·cases hq
      exact hq
     obtain ⟨y, hy, hnd, rfl⟩ := rests_mem hq'
     exact zs _ (i8 _ hm) y hy (by simpa using hnd)
    rw [inc_i64 (by omega)]; simp only; omega
   simp only [if_neg (lt_false (show ¬ (j : Int) < Ar.len out by simp only [len_def]; omega))]
   have ej : out.take j = out := List.take_of_length_le (by omega)
   rw [ej] at i6
   exact .inr ⟨_, _, rfl, rfl, .inl ⟨out, rfl, i2, i3, i6, i8⟩⟩)
  N ([x], 0) ⟨0, rfl, by simp, by simp, fun q hq => by rw [List.mem_singleton.1 hq]; exact hx, fun q hq => by simp at hq, fun q hq => by rw [List.mem_singleton.1 hq]; exact z0⟩ (by simp; omega)
 rw [h1]
 rcases h3 with ⟨l, rfl, h4⟩ | rfl
 ·exact ⟨(l, 0), rfl, .inr ⟨rfl, h4⟩⟩
 exact ⟨([], 17), rfl, .inl rfl⟩
end Go.Ab

namespace Go.Ab
open Classical
noncomputable def aftO (l : List GPattern) (to : Int) : List Int := if 0 ≤ to ∧ to < (l.length : Int) then (match l[to.toNat]? with | some r => opn r | none => []) else []
theorem edge_nst {N : Nat} {q : GPattern} (hr : Rsd q) {x : GEdge} (hx : x ∈ (derivedP N (raw q)).1) :
 (opn q ++ x.Opens).Perm (aftO (derivedP N (raw q)).2.1 x.To ++ x.Closes) ∧ (∀ s, s ∈ x.Opens ∨ s ∈ x.Closes → s ∈ x.Inside ∨ ∃ l ∈ x.Limits, l.Scope = s) := by
 unfold derivedP at hx ⊢
 by_cases hf : Fail N (raw q)
 ·rw [if_pos hf] at hx; cases hx
 rw [if_neg hf] at hx ⊢
 simp only at hx ⊢
 obtain ⟨y, hy, rfl⟩ := List.mem_map.1 hx
 have hy := dd_mem.1 hy
 have h := raw_nst q.dep q (Nat.le_refl _) y hy hr
 refine ⟨?_, h.lim⟩
 have e : aftO (rests (raw q)) (eg (rests (raw q)) y).To = opr y.2 := by
  show aftO (rests (raw q)) (toOf (rests (raw q)) y.2) = opr y.2
  unfold toOf opr
  by_cases hd : y.2.done = true
  ·rw [if_pos hd, if_pos hd]
   unfold aftO
   rw [if_neg (by omega)]
  rw [if_neg hd, if_neg hd]
  have hm := rests_has hy hd
  obtain ⟨i, hi, e, hp⟩ := idxI_at (ex_eq.2 hm)
  have hpi : (rests (raw q))[i] = y.2.p := by simpa using (of_decide_eq_true hp).symm
  have e' : idxP (rests (raw q)) y.2.p = i := e
  rw [e']
  unfold aftO
  rw [if_pos ⟨by omega, by omega⟩, show ((i : Int)).toNat = i by omega, List.getElem?_eq_getElem hi]
  simp only [hpi]
 show (opn q ++ y.1.Opens).Perm (aftO (rests (raw q)) (eg (rests (raw q)) y).To ++ y.1.Closes)
 rw [e]
 exact h.perm
theorem chk_pln {N : Nat} (hN : 40000000 ≤ N) {x : GPattern} (hb : x.bulk ≤ 16777216) (h : chkP N x = 0) : Pln x := by
 unfold chkP at h
 by_cases hz : restBad N x = 0
 ·rw [if_neg (by simpa using hz)] at h
  obtain ⟨hp, _, hg⟩ := rest_good hz
  by_cases ha : x.pre.any (fun y => Ar.cmp .geq y.Op 8) = true
  ·rw [if_pos ha] at h; cases h
  intro y hy
  have h8 : ¬ (8 ≤ y.Op) := fun h8 => ha (List.any_eq_true.2 ⟨y, hy, by rw [cmp_geq]; exact decide_eq_true h8⟩)
  have hyb : y.bulk ≤ 16777216 ∧ y.Args.length ≤ 64 := by
   have hs := mem_pre x y hy
   exact ⟨by omega, by have := args_pre y; omega⟩
  have := (node_shape hN hyb.1 hyb.2 (hg y hy)).1
  omega
 rw [if_pos hz] at h; exact absurd h hz
theorem residuals_rsd {N : Nat} (hN : 40000000 ≤ N) {x : GPattern} (hx : ResOk N x) (hc : chkP N x = 0) : ∃ r : List GPattern × Int, derivative_Residuals N x = some r ∧ (r.2 = 17 ∨ r.2 = 0 ∧ ClosedZ Rsd N r.1) :=
 residuals_all hN hx hc (.plain _ (chk_pln hN (by have := hx.1; omega) hc)) fun q hq y hy hd => (raw_nst q.dep q (Nat.le_refl _) y hy hq).rsd hd
end Go.Ab

namespace Go.Ab
theorem loop_open_o {N : Nat} (hN : 40000000 ≤ N) {F : GPattern → Option (List Int)} {l : List GPattern} {s : List Int} (hb : l.length ≤ 16777216) (hs : s.length + (GPattern.pres l).length ≤ 40000000) (h : ∀ a ∈ l, F a = some (opn a)) :
 loopN (fun (s10 : Int × (List Int)) =>
       (
        if Ar.cmp .lss s10.1 (Ar.len l) = true then
         (idxL l s10.1).bind fun x13 =>
         (F x13).bind fun r14 =>
         (appL s10.2 r14).bind fun l16 =>
         some (.inl (Ar.ar .add .i64 s10.1 1, l16))
        else
         some (.inr s10.2)
        : Option ((Int × (List Int)) ⊕ (((List Int)))))) N (0, s) = some (s ++ opns l) := by
 rw [loop_list l (by omega) (mk := fun (s : List Int) i => (i, s)) (body := fun s a => (F a).bind fun r => (appL s r).bind fun q => some (.inl q)) (fin := fun s => s) (s := s) (by omega) ?_ ?_]
 ·have key : ∀ (m : List GPattern) (s : List Int), s.length + (GPattern.pres m).length ≤ 40000000 → (∀ a ∈ m, F a = some (opn a)) → rangeL (fun s a => (F a).bind fun r => (appL s r).bind fun q => some (.inl q : List Int ⊕ List Int)) m s = some (.inl (s ++ opns m)) := by
   intro m
   induction m with
   | nil => intro s _ _; simp [rangeL, opns]
   | cons a m ih =>
    intro s hs hm
    simp only [GPattern.pres, List.length_append] at hs
    have hl := opn_len a
    unfold rangeL
    rw [hm a (by simp)]
    simp only [Option.bind_some]
    rw [appL_eq (by omega)]
    simp only [Option.bind_some]
    rw [ih (s ++ opn a) (by simp only [List.length_append]; omega) fun b hb => hm b (by simp [hb])]
    simp [opns]
  rw [key l s hs h]
  rfl
 ·intro s i a ha hi
  have e : Ar.ar .add .i64 (i : Int) 1 = i + 1 := add_i64 (by omega) (by omega)
  simp only [cmp_lss, len_def, hi, decide_true, if_true, idx_at, ha, Option.bind_some, e]
  cases F a with
  | none => rfl
  | some r => simp only [Option.bind_some]; cases appL s r <;> rfl
 intro s; simp [cmp_lss, len_def]
theorem open_o_eq {N : Nat} (hN : 40000000 ≤ N) : ∀ (n : Nat) (x : GPattern), x.bulk ≤ n → x.bulk ≤ 16777216 → x.pre.length ≤ 64 → Good N x → law22_open_o N n x = some (opn x) := by
 intro n
 cases n with
 | zero => intro x h; have := bulk_pos x; omega
 | succ n =>
  intro x hx hb hp hg
  have hap := args_pre x
  have hself : nodeBad N x = 0 := hg x (by rw [GPattern.pre_eq]; simp)
  have hxb := GPattern.bulk_eq x
  have hpp : (GPattern.pres x.Args).length ≤ 64 := by rw [GPattern.pre_eq] at hp; simp only [List.length_cons] at hp; omega
  have hrec : ∀ a ∈ x.Args, law22_open N n a = some (opn a) := fun a ha => by
   have := mem_bulk ha
   have := pre_arg ha
   exact open_eq hN n a (by omega) (by omega) (by omega) (hg.arg ha)
  unfold law22_open_o
  dsimp only
  rw [opn_eq]
  by_cases h9 : x.Op = 9 ∨ x.Op = 10
  ·rw [if_pos h9]
   have e : (if Ar.cmp .eql x.Op 9 = true then some true else some (Ar.cmp .eql x.Op 10) : Option Bool) = some true := by
    rcases h9 with h | h
    ·simp [eql_true h]
    simp [eql_false (show ¬ x.Op = 9 by omega), eql_true h]
   rw [e]
   simp only [Option.bind_some, if_true]
   rw [appL_eq (by simp)]
   simp only [Option.bind_some, List.nil_append]
   rw [loop_open_o hN (by omega) (by simp only [List.length_cons, List.length_nil]; omega) hrec]
   rfl
  rw [if_neg h9]
  have e9 : (if Ar.cmp .eql x.Op 9 = true then some true else some (Ar.cmp .eql x.Op 10) : Option Bool) = some false := by
   simp [eql_false (show ¬ x.Op = 9 by omega), eql_false (show ¬ x.Op = 10 by omega)]
  rw [e9]
  simp only [Option.bind_some, Bool.false_eq_true, if_false]
  by_cases h1 : x.Op = 1 ∨ x.Op = 8
  ·rw [if_pos h1]
   have e : (if Ar.cmp .eql x.Op 1 = true then some true else some (Ar.cmp .eql x.Op 8) : Option Bool) = some true := by
    rcases h1 with h | h
    ·simp [eql_true h]
    simp [eql_false (show ¬ x.Op = 1 by omega), eql_true h]
   rw [e]
   obtain ⟨a, l, he⟩ := arg0 hN hb (by omega) hself (by omega)
   have hsl : sliceL x.Args none (some 1) none = some [a] := by
    rw [he]
    unfold sliceL
    rw [if_pos ⟨by decide, by simp, by simp only [Option.getD_some, Option.getD_none, List.length_cons]; omega, Int.le_refl _, fun h => by cases h⟩]
    simp
   simp only [Option.bind_some, if_true, hsl]
   have hpa := pre_arg (x := x) (a := a) (by rw [he]; simp)
   rw [loop_open_o hN (l := [a]) (s := []) (by simp) (by simp [GPattern.pres]; omega) fun b hb => by rw [List.mem_singleton.1 hb]; exact hrec a (by rw [he]; simp)]
   rw [he]
   simp [opns, opnh]
  rw [if_neg h1]
  have e : (if Ar.cmp .eql x.Op 1 = true then some true else some (Ar.cmp .eql x.Op 8) : Option Bool) = some false := by
   simp [eql_false (show ¬ x.Op = 1 by omega), eql_false (show ¬ x.Op = 8 by omega)]
  rw [e]
  simp only [Option.bind_some, Bool.false_eq_true, if_false]
  by_cases h3 : x.Op = 3 ∨ x.Op = 7
  ·rw [if_pos h3]
   rcases h3 with h | h
   ·simp only [eql_true h, if_true, Option.bind_some]
    rw [loop_open_o hN (s := []) (by omega) (by simp only [List.length_nil]; omega) hrec]
    rfl
   simp only [eql_false (show ¬ x.Op = 3 by omega), eql_true h, if_true, Bool.false_eq_true, if_false, Option.bind_some]
   rw [loop_open_o hN (s := []) (by omega) (by simp only [List.length_nil]; omega) hrec]
   rfl
  rw [if_neg h3]
  simp only [eql_false (show ¬ x.Op = 3 by omega), eql_false (show ¬ x.Op = 7 by omega), Bool.false_eq_true, if_false, Option.bind_some]
end Go.Ab

namespace Go.Ab
theorem nIndex_eq {N : Nat} (l : List Int) (v : Int) (hs : l.length < 1000000000000) (hN : l.length < N) : slices_Index_Lint_int N l v = some (idxI (fun y => decide (v = y)) l) := by
 unfold slices_Index_Lint_int idxI
 have h := index_loop l hs (fun x => some (Ar.cmp .eql v x)) (fun x => decide (v = x)) (fun x _ => by rw [cmp_eql]) hN
 simp only [Option.bind_some] at h
 rw [h]
 cases l.findIdx? (fun x => decide (v = x)) <;> rfl
theorem nContains_eq {N : Nat} (l : List Int) (v : Int) (hs : l.length < 1000000000000) (hN : l.length < N) : slices_Contains_Lint_int N l v = some (decide (v ∈ l)) := by
 unfold slices_Contains_Lint_int
 rw [nIndex_eq l v hs hN]
 simp only [Option.bind_some, cmp_geq]
 congr 1
 rw [decide_eq_decide, idxI_nonneg]
 simp
theorem nIdxF {α : Type} {P : α → Bool} {l : List α} : ((match (match l.findIdx? P with | none => (.inl () : Unit ⊕ Int) | some i => .inr (i : Int)) with | .inl _ => some (-1 : Int) | .inr y => some y).bind fun r1 => some (decide (0 ≤ r1))) = some (decide (∃ x ∈ l, P x = true)) := by
 have h := idxI_nonneg (P := P) (l := l)
 unfold idxI at h
 cases hf : l.findIdx? P with
 | none => rw [hf] at h; simp only [Option.bind_some]; exact congrArg some (decide_eq_decide.2 h)
 | some i => rw [hf] at h; simp only [Option.bind_some]; exact congrArg some (decide_eq_decide.2 h)
theorem nLimits_eq {N : Nat} (l : List GLimit) (f : GLimit → Option Bool) (P : GLimit → Bool) (hs : l.length < 1000000000000) (hf : ∀ x ∈ l, f x = some (P x)) (hN : l.length < N) : slices_ContainsFunc_LLimit_Limit N l f = some (decide (∃ x ∈ l, P x = true)) := by
 unfold slices_ContainsFunc_LLimit_Limit slices_IndexFunc_LLimit_Limit
 rw [index_loop l hs f P hf hN]
 simp only [Option.bind_some, cmp_geq]
 rw [← nIdxF (P := P) (l := l)]
 cases l.findIdx? P <;> rfl
theorem nGuards_eq {N : Nat} (l : List GGuard) (f : GGuard → Option Bool) (P : GGuard → Bool) (hs : l.length < 1000000000000) (hf : ∀ x ∈ l, f x = some (P x)) (hN : l.length < N) : slices_ContainsFunc_LGuard_Guard N l f = some (decide (∃ x ∈ l, P x = true)) := by
 unfold slices_ContainsFunc_LGuard_Guard slices_IndexFunc_LGuard_Guard
 rw [index_loop l hs f P hf hN]
 simp only [Option.bind_some, cmp_geq]
 rw [← nIdxF (P := P) (l := l)]
 cases l.findIdx? P <;> rfl
noncomputable def closeB (N : Nat) (s : List Int) (x : Int) : Option (List Int ⊕ (List Int ⊕ List Int)) :=
 (slices_Index_Lint_int N s x).bind fun r27 =>
 if Ar.cmp .lss r27 0 = true then some (.inr (.inr s))
 else (slices_Delete_Lint_int N s r27 (Ar.ar .add .i64 r27 1)).bind fun l28 => some (.inl l28)
theorem closeB_run {N : Nat} (hN : 40000000 ≤ N) : ∀ (C l A : List Int), l.Perm (A ++ C) → l.length ≤ 1000000 → ∃ l', rangeL (closeB N) C l = some (.inl l') ∧ l'.Perm A ∧ l'.length ≤ l.length
 | [], l, A, h, _ => ⟨l, rfl, by simpa using h, Nat.le_refl _⟩
 | s :: C, l, A, h, hl => by
  obtain ⟨l1, h0, h1, h2, h3, h4⟩ := del_first h
  obtain ⟨l', k1, k2, k3⟩ := closeB_run hN C l1 A h3 (by omega)
  refine ⟨l', ?_, k2, by omega⟩
  unfold rangeL
  have e : closeB N l s = some (.inl l1) := by
   unfold closeB
   rw [nIndex_eq l s (by omega) (by omega)]
   simp only [Option.bind_some]
   rw [if_neg (lt_false (by omega)), add_i64 (by omega) (by omega)]
   unfold slices_Delete_Lint_int
   rw [h2]
   rfl
  rw [e]
  exact k1
theorem close_loop {N : Nat} (hN : 40000000 ≤ N) (C : List Int) (l A : List Int) (h : l.Perm (A ++ C)) (hl : l.length ≤ 1000000) : ∃ l', loopN (fun (s23 : Int × (List Int)) =>
 (
  if Ar.cmp .lss s23.1 (Ar.len C) = true then
   (idxL C s23.1).bind fun x26 =>
   (slices_Index_Lint_int N s23.2 x26).bind fun r27 =>
   if Ar.cmp .lss r27 0 = true then
    some (.inr (.inr s23.2))
   else
    (slices_Delete_Lint_int N s23.2 r27 (Ar.ar .add .i64 r27 1)).bind fun l28 =>
    some (.inl (Ar.ar .add .i64 s23.1 1, l28))
  else
   some (.inr (.inl s23.2))
  : Option ((Int × (List Int)) ⊕ (((List Int)) ⊕ ((List Int)))))) N (0, l) = some (.inl l') ∧ l'.Perm A ∧ l'.length ≤ 1000000 := by
 obtain ⟨l', h1, h2, h3⟩ := closeB_run hN C l A h hl
 have hC : C.length ≤ 1000000 := by have := h.length_eq; simp at this; omega
 refine ⟨l', ?_, h2, by omega⟩
 rw [loop_list C (by omega) (mk := fun (s : List Int) i => (i, s)) (body := closeB N) (fin := fun s => .inl s) (s := l) (by omega) ?_ ?_, h1]
 ·rfl
 ·intro s i a ha hi
  have e : Ar.ar .add .i64 (i : Int) 1 = i + 1 := add_i64 (by omega) (by omega)
  simp only [cmp_lss, len_def, hi, decide_true, if_true, idx_at, ha, Option.bind_some, e]
  unfold closeB
  simp only [cmp_lss]
  cases slices_Index_Lint_int N s a with
  | none => rfl
  | some r =>
   simp only [Option.bind_some]
   by_cases hr : r < 0
   ·simp [hr]
   simp only [hr, decide_false, Bool.false_eq_true, if_false]
   cases slices_Delete_Lint_int N s r (Ar.ar .add .i64 r 1) <;> rfl
 intro s; simp [cmp_lss, len_def]
theorem sort_of {l : List Int} (h : l.length ≤ 10000000) : ∃ r, slices_Sort_Lint_int 0 l = some r ∧ sortL l = some r ∧ r.length = l.length := by
 refine ⟨isortI l, ?_, ?_, ?_⟩
 ·unfold slices_Sort_Lint_int sortL; rw [if_pos (by omega)]
 ·unfold sortL; rw [if_pos (by omega)]
 rw [isortI_eq]; exact List.length_mergeSort l
theorem clone_app {N : Nat} {l m : List Int} (h : l.length + m.length ≤ 1000000) : (slices_Clone_Lint_int N l).bind (fun a => (appL a m).bind fun b => some b) = some (l ++ m) := by
 unfold slices_Clone_Lint_int
 rw [appL_eq (by simp; omega)]
 simp only [Option.bind_some, List.nil_append]
 rw [appL_eq (by omega)]
 rfl
theorem nests_one {N : Nat} (hN : 40000000 ≤ N) {q : GPattern} (ho : ResOk N q) (hg : (derivedP N (raw q)).2.2 = 0) (hz : Rsd q) :
 derivative_Derive N q = some (derivedP N (raw q)) ∧ (derivedP N (raw q)).1.length ≤ 1000000 ∧ (derivedP N (raw q)).2.1.length ≤ 1000000 ∧
 (∀ r ∈ (derivedP N (raw q)).2.1, r.bulk ≤ 16777216 ∧ r.pre.length ≤ 64 ∧ Good N r) ∧ (∀ e ∈ (derivedP N (raw q)).1, Esz e 1000) := by
 obtain ⟨hb, hzz, hU⟩ := ho
 have hr := rest_good hzz
 obtain ⟨s1, s2, s3, s4⟩ := derived_small (N := N) hr.2.1 hb hU
 refine ⟨derive_eq hN hb hzz, s1, s3, fun r hr' => ?_, fun e he => (s2 e he).1⟩
 rcases derived_res hN ⟨hb, hzz, hU⟩ with h17 | ⟨_, _, hres⟩
 ·rw [hg] at h17; omega
 have hok := hres r hr'
 have h2 := rest_good hok.2.1
 exact ⟨s4 r hr', h2.1, h2.2.2⟩
end Go.Ab

namespace Go.Ab
open Classical in
theorem aftO_eq {N : Nat} (hN : 40000000 ≤ N) (l : List GPattern) (t : Int) (hl : l.length ≤ 1000000) (h : ∀ r ∈ l, r.bulk ≤ 16777216 ∧ r.pre.length ≤ 64 ∧ Good N r) :
 (if Ar.an (Ar.cmp .geq t 0) (Ar.cmp .lss t (Ar.len l)) = true then (idxL l t).bind fun x34 => (law22_open_o N N x34).bind fun l35 => some l35 else some ([] : List Int)) = some (aftO l t) ∧ (aftO l t).length ≤ 64 := by
 unfold aftO
 by_cases ht : 0 ≤ t ∧ t < (l.length : Int)
 ·have hlt : t.toNat < l.length := by omega
  rw [if_pos (by simp only [an_def, cmp_geq, cmp_lss, len_def, Bool.and_eq_true, decide_eq_true_eq]; exact ht), if_pos ht]
  have e : idxL l t = some l[t.toNat] := by
   have := idx_at (l := l) (i := t.toNat)
   rw [show ((t.toNat : Nat) : Int) = t by omega, List.getElem?_eq_getElem hlt] at this
   exact this
  obtain ⟨h1, h2, h3⟩ := h _ (List.getElem_mem hlt)
  rw [e, List.getElem?_eq_getElem hlt]
  simp only [Option.bind_some]
  rw [open_o_eq hN N _ (by omega) h1 h2 h3]
  refine ⟨rfl, ?_⟩
  have := opn_len l[t.toNat]
  omega
 rw [if_neg (by simp only [an_def, cmp_geq, cmp_lss, len_def, Bool.and_eq_true, decide_eq_true_eq]; exact ht), if_neg ht]
 exact ⟨rfl, by simp⟩
theorem inR_at {l : List Int} {i : Nat} (h : i < l.length) : req (inR l (i : Int)) = some () := by
 unfold req inR
 rw [if_pos]
 simp
 omega
open Classical in
theorem nests_law {N : Nat} (hN : 40000000 ≤ N) (awake : law22_awake N = some true) {x : GPattern} (hb : x.bulk ≤ 1048576) : law22_DerivativeNests N x = some true := by
 unfold law22_DerivativeNests
 obtain ⟨b, h1, hsm⟩ := small9 hN (x := x) (by omega)
 rw [h1]
 simp only [Option.bind_some]
 cases b
 ·rw [if_pos (show Ar.nt false = true from rfl), awake]; rfl
 rw [if_neg (by simp [nt_def]), pcheck_eq hN (by omega)]
 simp only [Option.bind_some]
 by_cases hc : chkP N x = 0
 rotate_left
 ·rw [if_pos (by simp [cmp_neq, hc]), awake]; rfl
 rw [if_neg (by simp [cmp_neq, hc])]
 have hz : restBad N x = 0 := by
  unfold chkP at hc
  split at hc
  ·exact hc
  rename_i h; exact Classical.not_not.1 h
 have hU : U x ≤ 400000 := by
  have h2 := U_pow x.dep x (Nat.le_refl _)
  have h3 : 2 ^ x.pre.length ≤ 2 ^ 9 := Nat.pow_le_pow_right (by omega) (hsm rfl)
  have : (2 : Nat) ^ 9 = 512 := rfl
  omega
 obtain ⟨r, h2, h3⟩ := residuals_rsd hN ⟨by omega, hz, hU⟩ hc
 rw [h2]
 simp only [Option.bind_some]
 rcases h3 with h3 | ⟨h3, hcl⟩
 ·rw [if_pos (by simp [or_def, cmp_neq, h3]), if_pos (by simp [or_def, cmp_eql, h3]), awake]; rfl
 by_cases h60 : 60 < r.1.length
 ·rw [if_pos (by simp [or_def, cmp_gtr, len_def]; omega), if_pos (by simp [or_def, cmp_eql, h3]), awake]; rfl
 rw [if_neg (by simp [or_def, cmp_neq, cmp_gtr, len_def, h3]; omega)]
 rw [loop_run (fun j => (j : Int)) r.1.length (.inl ()) (s0 := 0) (by rfl) (by omega) ?hs ?he]
 ·simp only [Option.bind_some]
  rw [awake]; rfl
 case he => simp [cmp_lss, len_def]
 case hs =>
  intro j hj
  have hq : r.1[j] ∈ r.1 := List.getElem_mem hj
  have hok := hcl.ok _ hq
  have hzq := hcl.all _ hq
  have hgq := hcl.good _ hq
  obtain ⟨d1, d2, d3, d4, d5⟩ := nests_one hN hok hgq hzq
  have hr := rest_good hok.2.1
  have ej : r.1[j]? = some r.1[j] := by simp [hj]
  have hbq := hok.1
  have hst := fun e he => edge_nst (N := N) hzq (x := e) he
  rw [if_pos (by rw [cmp_lss, len_def]; simpa using hj), idx_at, ej]
  simp only [Option.bind_some]
  rw [open_eq hN N r.1[j] (by omega) (by omega) hr.1 hr.2.2]
  simp only [Option.bind_some, d1]
  obtain ⟨gs, g1, g2, g3⟩ := active_open hN N r.1[j] (by omega) (by omega) hr.1 hr.2.2
  have eg : derivative_Guards N r.1[j] = some (gs, 0) := by
   unfold derivative_Guards
   rw [rest_eq hN (by omega)]
   simp only [Option.bind_some]
   rw [if_neg (ne_false hok.2.1), g1]
   rfl
  rw [eg]
  have hol := opn_len r.1[j]
  generalize hO : opn r.1[j] = O at *
  generalize hD : derivedP N (raw r.1[j]) = D at *
  simp only [Option.bind_some]
  rw [if_neg (by simp [or_def, cmp_neq, hgq])]
  rw [nGuards_eq gs _ (fun y => !decide (y.Scope ∈ O)) (by omega) (fun y _ => by
   unfold law22_DerivativeNests_1
   rw [nContains_eq O y.Scope (by omega) (by omega)]; rfl) (by omega)]
  simp only [Option.bind_some]
  rw [if_neg (by
   simp only [decide_eq_true_eq, not_exists, not_and]
   intro y hy
   simpa using g3 y hy)]
  rw [loop_run (fun j => (j : Int)) D.1.length (.inl ()) (s0 := 0) (by rfl) (by omega) ?hs1 ?he1]
  case he1 => simp [cmp_lss, len_def]
  case hs1 =>
   intro i hi
   have ei : D.1[i]? = some D.1[i] := by simp [hi]
   obtain ⟨z1, z2, _, z4, z5⟩ := d5 _ (List.getElem_mem hi)
   obtain ⟨p1, p2⟩ := hst _ (List.getElem_mem hi)
   rw [if_pos (by rw [cmp_lss, len_def]; simpa using hi), idx_at, ei]
   generalize D.1[i] = ed at *
   simp only [Option.bind_some]
   rw [clone_app (by omega)]
   simp only [Option.bind_some]
   obtain ⟨l', c1, c2, c3⟩ := close_loop hN ed.Closes (O ++ ed.Opens) _ p1 (by simp; omega)
   rw [c1]
   simp only [Option.bind_some]
   obtain ⟨a1, a2⟩ := aftO_eq hN D.2.1 ed.To d3 d4
   rw [a1]
   simp only [Option.bind_some]
   obtain ⟨s1, _, k1, k2⟩ := sort_of (l := l') (by omega)
   obtain ⟨s2, _, k3, k4⟩ := sort_of (l := aftO D.2.1 ed.To) (by omega)
   have hs12 := sort_perm c2 k1 k3
   subst hs12
   unfold slices_Sort_Lint_int
   rw [k1, k3]
   simp only [Option.bind_some]
   rw [equalI s1 s1 (by omega) (by omega)]
   simp only [Option.bind_some, decide_true]
   rw [if_neg (by simp [nt_def])]
   have hcl2 : (slices_Clone_Lint_int N ed.Opens).bind (fun l42 => (appL l42 ed.Closes).bind fun l45 => some (Ar.len l45, l45)) = some (Ar.len (ed.Opens ++ ed.Closes), ed.Opens ++ ed.Closes) := by
    have := clone_app (N := N) (l := ed.Opens) (m := ed.Closes) (by omega)
    cases hk : slices_Clone_Lint_int N ed.Opens with
    | none => rw [hk] at this; cases this
    | some l42 =>
     rw [hk] at this
     simp only [Option.bind_some] at this ⊢
     cases hk2 : appL l42 ed.Closes with
     | none => rw [hk2] at this; cases this
     | some l45 => rw [hk2] at this; simp only [Option.bind_some, Option.some.injEq] at this ⊢; rw [this]
   rw [hcl2]
   simp only [Option.bind_some]
   rw [loop_run (fun j => (j : Int)) (ed.Opens ++ ed.Closes).length (.inl ()) (s0 := 0) (by rfl) (by simp; omega) ?hs2 ?he2]
   case he2 => simp [cmp_lss, len_def]
   case hs2 =>
    intro m hm
    have em : (ed.Opens ++ ed.Closes)[m]? = some (ed.Opens ++ ed.Closes)[m] := by simp [hm]
    have hmem : (ed.Opens ++ ed.Closes)[m] ∈ ed.Opens ++ ed.Closes := List.getElem_mem hm
    rw [if_pos (by rw [cmp_lss, len_def, decide_eq_true_eq]; exact Int.ofNat_lt.2 hm), inR_at hm, idx_at, em]
    generalize (ed.Opens ++ ed.Closes)[m] = s at *
    simp only [Option.bind_some]
    rw [nContains_eq ed.Inside s (by omega) (by omega)]
    simp only [Option.bind_some]
    have hinc : Ar.ar .add .i64 (m : Int) 1 = ((m + 1 : Nat) : Int) := by
     rw [inc_i64 (by simp at hm; omega)]
    by_cases hin : s ∈ ed.Inside
    ·rw [if_neg (by simp [nt_def, hin]), hinc]
    rw [if_pos (by simp [nt_def, hin])]
    rw [nLimits_eq ed.Limits _ (fun y => decide (y.Scope = s)) (by omega) (fun y _ => by unfold law22_DerivativeNests_2; rw [cmp_eql]) (by omega)]
    simp only [Option.bind_some]
    rw [if_neg (by
     rcases p2 s (List.mem_append.1 hmem) with h | ⟨y, hy, e⟩
     ·exact absurd h hin
     have : ∃ x ∈ ed.Limits, (fun y : GLimit => decide (y.Scope = s)) x = true := ⟨y, hy, by simp [e]⟩
     rw [nt_def, decide_eq_true this]; simp), hinc]
   simp only [Option.bind_some]
   rw [inc_i64 (by omega)]
  simp only [Option.bind_some]
  rw [inc_i64 (by omega)]
end Go.Ab

