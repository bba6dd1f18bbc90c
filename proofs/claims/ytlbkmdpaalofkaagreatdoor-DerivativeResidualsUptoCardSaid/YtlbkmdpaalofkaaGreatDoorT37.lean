/- GZE3 GZE4 -/
import Derived.Test.YtlbkmdpaalofkaaGreatDoorT36
set_option linter.all false

namespace Go.Ab
theorem foldl_wth_len {α : Type} [DecidableEq α] : ∀ (l m : List α), (l.foldl wth m).length ≤ m.length + l.length
 | [], m => by simp
 | x :: l, m => by
  have := foldl_wth_len l (wth m x)
  have h : (wth m x).length ≤ m.length + 1 := by unfold wth; split <;> simp
  simp only [List.foldl_cons, List.length_cons]; omega
theorem dd_len_le {α : Type} [DecidableEq α] (l : List α) : (dd l).length ≤ l.length := by have := foldl_wth_len l []; simpa [dd] using this
theorem with_loop {N : Nat} (hN : 40000000 ≤ N) (D acc : List Pr) (g : Pr → Pr) (F : Gtidegateref22_Pair → Option Gtidegateref22_Pair) (hF : ∀ y ∈ D, F (toP y) = some (toP (g y))) (hlen : acc.length + D.length ≤ 3000000) (hA : ∀ z ∈ acc, PK z) (hD : ∀ z ∈ D, PK (g z)) :
 loopN (fun (s6 : (List Gtidegateref22_Pair) × Int) => ((if Ar.cmp .lss s6.2 (Ar.len (D.map toP)) = true then (idxL (D.map toP) s6.2).bind fun x9 => (F x9).bind fun r11 => (ref22_with N s6.1 r11).bind fun l12 => some (.inl (l12, Ar.ar .add .i64 s6.2 1)) else some (.inr s6.1)) : Option (((List Gtidegateref22_Pair) × Int) ⊕ (List Gtidegateref22_Pair)))) N (acc.map toP, 0) = some (((D.map g).foldl wth acc).map toP) := by
 have hl : (D.map toP).length = D.length := List.length_map ..
 rw [loop_run (s0 := (acc.map toP, (0 : Int))) (st := fun j => ((((D.take j).map g).foldl wth acc).map toP, (j : Int))) (k := D.length) (r := ((D.map g).foldl wth acc).map toP) (by simp) (by omega) ?_ ?_]
 ·intro j hj
  have e : idxL (D.map toP) (j : Int) = some (toP D[j]) := by rw [idx_at, List.getElem?_map, List.getElem?_eq_getElem hj]; rfl
  have hm := List.getElem_mem hj
  simp only [cmp_lss, len_def, hl]
  rw [if_pos (by exact decide_eq_true (by omega)), e]
  simp only [Option.bind_some, hF _ hm]
  have h1 := foldl_wth_len ((D.take j).map g) acc
  simp only [List.length_map, List.length_take] at h1
  rw [with_eq hN _ _ (by omega) (fun z hz => by
   rcases foldl_wth_mem.1 hz with h | h
   ·exact hA z h
   ·obtain ⟨y, hy, rfl⟩ := List.mem_map.1 h
    exact hD y (List.mem_of_mem_take hy)) (hD _ hm)]
  simp only [Option.bind_some, inc_i64 (show j < 1000000000000 by omega)]
  rw [List.take_add_one, List.getElem?_eq_getElem hj, List.map_append, List.foldl_append]
  rfl
 ·rw [List.take_length]
  rw [if_neg (by simp [cmp_lss, len_def])]
theorem with_loop0 {N : Nat} (hN : 40000000 ≤ N) (D acc : List Pr) (hlen : acc.length + D.length ≤ 3000000) (hA : ∀ z ∈ acc, PK z) (hD : ∀ z ∈ D, PK z) :
 loopN (fun (s6 : (List Gtidegateref22_Pair) × Int) => ((if Ar.cmp .lss s6.2 (Ar.len (D.map toP)) = true then (idxL (D.map toP) s6.2).bind fun x9 => (ref22_with N s6.1 x9).bind fun l12 => some (.inl (l12, Ar.ar .add .i64 s6.2 1)) else some (.inr s6.1)) : Option (((List Gtidegateref22_Pair) × Int) ⊕ (List Gtidegateref22_Pair)))) N (acc.map toP, 0) = some ((D.foldl wth acc).map toP) := by
 have := with_loop hN D acc (fun y => y) (fun y => some y) (fun y _ => rfl) hlen hA hD
 simpa using this
theorem dd_map_foldl (l acc : List Pr) (g : Pr → Pr) : ((dd l).map g).foldl wth acc = (l.map g).foldl wth acc := by
 have := dd_flat (fun y => [g y]) l acc
 rw [flatMap_one] at this
 rw [← this, List.foldl_map]
 rfl
theorem raw_hOne {x : GPattern} (h0 : x.Op ≠ 0) (h2 : x.Op ≠ 2) (h3 : x.Op ≠ 3) : raw x = ((x.Args.map raw).headD []).flatMap (hOne x) := by
 rw [raw_eq]
 unfold comb
 rw [if_neg h0]
 by_cases h1 : x.Op = 1
 ·rw [if_pos h1, ← flatMap_one]
  congr 1; funext y; unfold hOne; rw [if_pos h1]
 rw [if_neg h1, if_neg h2, if_neg h3]
 by_cases h4 : x.Op = 4
 ·rw [if_pos h4]; congr 1; funext y; unfold hOne; rw [if_neg h1, if_pos h4]
 rw [if_neg h4]
 by_cases h8 : x.Op = 8
 ·rw [if_pos h8]; congr 1; funext y; unfold hOne; rw [if_neg h1, if_neg h4, if_pos h8]
 rw [if_neg h8, ← flatMap_one]
 congr 1; funext y; unfold hOne; rw [if_neg h1, if_neg h4, if_neg h8]
theorem hOne_len (x : GPattern) (y : Pr) : (hOne x y).length ≤ 2 := by
 unfold hOne
 split
 ·simp
 split
 ·exact rep_len _ _
 split
 ·exact rep_len _ _
 ·simp
theorem range_prefix (j n : Nat) (h : j ≤ n) : ∃ t, List.range n = List.range j ++ t := by
 refine ⟨(List.range n).drop j, ?_⟩
 have := List.take_append_drop j (List.range n)
 rw [List.take_range, Nat.min_eq_left h] at this
 exact this.symm
theorem raw_PK {x : GPattern} (hd : x.dep ≤ 12) (hb : x.bulk ≤ 1100000) : ∀ z ∈ raw x, PK z := fun z hz => by
 have h1 := raw_ok x.dep x (Nat.le_refl _) z hz
 have h2 := raw_sz x.dep x (Nat.le_refl _) z hz
 have h3 : x.dep * (x.bulk + 30) ≤ 12 * (1100000 + 30) := Nat.mul_le_mul (by omega) (by omega)
 exact ⟨h1.mono (by omega) (by omega), h2.mono (by omega)⟩
theorem args_loop {N : Nat} (hN : 40000000 ≤ N) {x : GPattern} (hl : x.Args.length ≤ 64) (G : Nat → Pr → Pr) {step : (List Gtidegateref22_Pair) × Int → Option (((List Gtidegateref22_Pair) × Int) ⊕ (List Gtidegateref22_Pair))}
 (hraw : raw x = (List.range x.Args.length).flatMap fun i => ((x.Args.map raw).getD i []).map (G i))
 (hs : ∀ j (h : j < x.Args.length), step ((dd ((List.range j).flatMap fun i => ((x.Args.map raw).getD i []).map (G i))).map toP, (j : Int)) = some (.inl (((((dd (raw x.Args[j])).map (G j)).foldl wth (dd ((List.range j).flatMap fun i => ((x.Args.map raw).getD i []).map (G i))))).map toP, ((j + 1 : Nat) : Int))))
 (he : step ((dd (raw x)).map toP, (x.Args.length : Int)) = some (.inr ((dd (raw x)).map toP))) : loopN step N ([], 0) = some ((dd (raw x)).map toP) := by
 rw [loop_run (s0 := (([] : List Gtidegateref22_Pair), (0 : Int))) (st := fun j => ((dd ((List.range j).flatMap fun i => ((x.Args.map raw).getD i []).map (G i))).map toP, (j : Int))) (k := x.Args.length) (r := (dd (raw x)).map toP) (by simp [dd]) (by omega) ?_ ?_]
 ·intro j hj
  rw [hs j hj, dd_map_foldl]
  congr 3
  rw [List.range_succ, List.flatMap_append, dd_app]
  simp only [List.flatMap_cons, List.flatMap_nil, List.append_nil, getD_map_at hj]
 ·rw [← hraw]; exact he
theorem pairsR {N : Nat} (hN : 40000000 ≤ N) : ∀ (d : Nat) (x : GPattern) (n : Nat), x.dep ≤ d → d ≤ n → x.dep ≤ 12 → x.bulk ≤ 1100000 → x.pre.length ≤ 64 → Good N x → U x ≤ 400000 → ref22_Pairs N n x = some ((dd (raw x)).map toP) := by
 intro d
 induction d with
 | zero => intro x n h; rw [GPattern.dep_eq] at h; omega
 | succ d ih =>
  intro x n hd hn hd12 hb hp hg hU
  obtain ⟨n, rfl⟩ : ∃ m, n = m + 1 := ⟨n - 1, by omega⟩
  have hap := args_pre x
  have hself : nodeBad N x = 0 := hg x (self_pre x)
  have ha := arity_ok hN (by omega) (by omega) hself
  have hop := ha.op
  have hPK := raw_PK hd12 hb
  have hrl := raw_len x.dep x (Nat.le_refl _)
  have hrec : ∀ a ∈ x.Args, U a ≤ U x → ref22_Pairs N n a = some ((dd (raw a)).map toP) := fun a ham hu => by
   have := mem_bulk ham
   have := pre_arg ham
   have := dep_mem ham
   exact ih a n (by omega) (by omega) (by omega) (by omega) (by omega) (hg.arg ham) (by omega)
  have hUx := U_eq x
  unfold uc at hUx
  unfold ref22_Pairs
  by_cases h0 : x.Op = 0
  ·rw [if_pos (eql_true h0)]
   have : raw x = [(⟨0, 0, x.Var, x.Typ, x.Cond, [], [], [], [], []⟩, doneR)] := by rw [raw_eq]; unfold comb; rw [if_pos h0]
   rw [this]
   rfl
  rw [if_neg (by rw [eql_false h0]; simp)]
  rw [if_neg h0] at hUx
  by_cases h23 : x.Op = 2 ∨ x.Op = 3
  ·rw [if_pos (by simp only [or_def, cmp_eql, Bool.or_eq_true, decide_eq_true_eq]; exact h23)]
   rw [if_pos h23] at hUx
   have hUa : ∀ a ∈ x.Args, U a ≤ U x := fun a h => by rw [hUx]; exact mem_sum (List.mem_map.2 ⟨a, h, rfl⟩)
   have pre : ∀ (G : Nat → Pr → Pr), raw x = ((List.range x.Args.length).flatMap fun i => ((x.Args.map raw).getD i []).map (G i)) → ∀ j, j < x.Args.length →
    (dd ((List.range j).flatMap fun i => ((x.Args.map raw).getD i []).map (G i))).length + (dd (raw (x.Args.getD j zP))).length ≤ 3000000 ∧ (∀ z ∈ dd ((List.range j).flatMap fun i => ((x.Args.map raw).getD i []).map (G i)), PK z) ∧ ∀ z ∈ dd (raw (x.Args.getD j zP)), PK (G j z) := fun G hG j hj => by
    obtain ⟨t, ht⟩ := range_prefix j x.Args.length (by omega)
    have hG2 := hG
    rw [ht, List.flatMap_append] at hG2
    have e1 := congrArg List.length hG2
    rw [List.length_append] at e1
    have e2 := dd_len_le ((List.range j).flatMap fun i => ((x.Args.map raw).getD i []).map (G i))
    have eg : x.Args.getD j zP = x.Args[j] := by rw [List.getD_eq_getElem?_getD, List.getElem?_eq_getElem hj]; rfl
    have hm := List.getElem_mem hj
    have e3 := dd_len_le (raw (x.Args.getD j zP))
    have e4 : (raw (x.Args.getD j zP)).length ≤ U x := by
     rw [eg]; exact Nat.le_trans (raw_len _ _ (Nat.le_refl _)) (hUa _ hm)
    refine ⟨by omega, fun z hz => hPK z ?_, fun z hz => hPK _ ?_⟩
    ·rw [hG2]; exact List.mem_append_left _ (dd_mem.1 hz)
    ·rw [hG]
     refine List.mem_flatMap.2 ⟨j, List.mem_range.2 hj, List.mem_map.2 ⟨z, ?_, rfl⟩⟩
     rw [getD_map_at hj, ← eg]; exact dd_mem.1 hz
   have idx : ∀ j (h : j < x.Args.length), idxL x.Args (j : Int) = some x.Args[j] := fun j h => by rw [idx_at, List.getElem?_eq_getElem h]
   have egd : ∀ j (h : j < x.Args.length), x.Args.getD j zP = x.Args[j] := fun j h => by rw [List.getD_eq_getElem?_getD, List.getElem?_eq_getElem h]; rfl
   by_cases h3 : x.Op = 3
   ·have hraw : raw x = (List.range x.Args.length).flatMap fun i => ((x.Args.map raw).getD i []).map fun y => (y.1, joinR x.Args i y.2) := by
     rw [raw_eq]; unfold comb; rw [if_neg h0, if_neg (by omega), if_neg (by omega), if_pos h3]
    rw [args_loop hN (by omega) (fun i y => (y.1, joinR x.Args i y.2)) hraw (fun j hj => by
     obtain ⟨p1, p2, p3⟩ := pre _ hraw j hj
     rw [egd j hj] at p1 p3
     simp only [idx j hj, Option.bind_some]
     rw [if_pos (by simp only [cmp_lss, len_def]; exact decide_eq_true (by omega)), hrec _ (List.getElem_mem hj) (hUa _ (List.getElem_mem hj))]
     simp only [Option.bind_some, eql_true h3, if_true]
     rw [with_loop hN (dd (raw x.Args[j])) _ (fun y => (y.1, joinR x.Args j y.2)) (fun y => ref22_joined N y x (j : Int)) (fun y _ => joinRef y x j hj (by omega)) p1 p2 p3]
     simp only [Option.bind_some, inc_i64 (show j < 1000000000000 by omega)]) (by rw [if_neg (by simp [cmp_lss, len_def])])]
    rfl
   ·have h2 : x.Op = 2 := by omega
    have hraw : raw x = (List.range x.Args.length).flatMap fun i => ((x.Args.map raw).getD i []).map fun y => y := by
     rw [raw_eq]; unfold comb; rw [if_neg h0, if_neg (by omega), if_pos h2]; simp
    rw [args_loop hN (by omega) (fun i y => y) hraw (fun j hj => by
     obtain ⟨p1, p2, p3⟩ := pre (fun i y => y) hraw j hj
     rw [egd j hj] at p1 p3
     simp only [idx j hj, Option.bind_some]
     rw [if_pos (by simp only [cmp_lss, len_def]; exact decide_eq_true (by omega)), hrec _ (List.getElem_mem hj) (hUa _ (List.getElem_mem hj))]
     simp only [Option.bind_some, eql_false h3, Bool.false_eq_true, if_false]
     rw [with_loop0 hN (dd (raw x.Args[j])) _ p1 p2 p3]
     simp only [Option.bind_some, inc_i64 (show j < 1000000000000 by omega), List.map_id']) (by rw [if_neg (by simp [cmp_lss, len_def])])]
    rfl
  ·rw [if_neg (by simp only [or_def, cmp_eql, Bool.or_eq_true, decide_eq_true_eq]; exact h23)]
   rw [if_neg h23] at hUx
   have hex : ∃ a l, x.Args = a :: l := by
    by_cases h1 : x.Op = 1
    ·have := ha.two (by omega) (by omega)
     match he : x.Args, this with
     | a :: l, _ => exact ⟨a, l, rfl⟩
    ·by_cases h8 : x.Op = 8
     ·obtain ⟨a, b, e⟩ := ha.more h8; exact ⟨a, _, e⟩
     ·obtain ⟨a, e⟩ := ha.one (by omega) h8; exact ⟨a, _, e⟩
   obtain ⟨a, l, he⟩ := hex
   have ham : a ∈ x.Args := by rw [he]; simp
   have hUa : U a ≤ U x := by
    have := mx0_mem (List.mem_map.2 ⟨a, ham, rfl⟩ : U a ∈ x.Args.map U)
    split at hUx <;> omega
   have hraw : raw x = (raw a).flatMap (hOne x) := by
    rw [raw_hOne h0 (by omega) (by omega), he]; rfl
   have e0 : idxL x.Args 0 = some a := by rw [he]; rfl
   have haPK := raw_PK (x := a) (by have := dep_mem ham; omega) (by have := mem_bulk ham; omega)
   have hal := raw_len a.dep a (Nat.le_refl _)
   have hdl := dd_len_le (raw a)
   rw [e0]
   simp only [Option.bind_some]
   rw [hrec a ham hUa]
   simp only [Option.bind_some]
   have hl : ((dd (raw a)).map toP).length = (dd (raw a)).length := List.length_map ..
   have hfin : dd ((dd (raw a)).flatMap (hOne x)) = dd (raw x) := by
    have := dd_flat (hOne x) (raw a) []
    rw [hraw]
    unfold dd at this ⊢
    rw [foldl_flatMap, this]
   rw [loop_run (s0 := (([] : List Gtidegateref22_Pair), (0 : Int))) (st := fun j => ((dd (((dd (raw a)).take j).flatMap (hOne x))).map toP, (j : Int))) (k := (dd (raw a)).length) (r := (dd (raw x)).map toP) (by simp [dd]) (by omega) ?_ ?_]
   ·rfl
   ·intro j hj
    have e : idxL ((dd (raw a)).map toP) (j : Int) = some (toP (dd (raw a))[j]) := by rw [idx_at, List.getElem?_map, List.getElem?_eq_getElem hj]; rfl
    have hm := List.getElem_mem hj
    have hmr : (dd (raw a))[j] ∈ raw a := dd_mem.1 hm
    simp only [cmp_lss, len_def, hl]
    rw [if_pos (by exact decide_eq_true (by omega)), e]
    simp only [Option.bind_some]
    rw [one_eq hN (by omega) (by omega) hself h0 (by omega) (by omega) (haPK _ hmr)]
    simp only [Option.bind_some]
    have q1 := dd_len_le (((dd (raw a)).take j).flatMap (hOne x))
    have q2 := flatMap_len_le (f := hOne x) (k := 2) (l := (dd (raw a)).take j) fun y _ => hOne_len x y
    have q3 := hOne_len x (dd (raw a))[j]
    simp only [List.length_take] at q2
    have hw := with_loop0 hN (hOne x (dd (raw a))[j]) (dd (((dd (raw a)).take j).flatMap (hOne x))) (by omega) (fun z hz => hPK z (by
     rw [hraw]
     obtain ⟨y, hy, hz⟩ := List.mem_flatMap.1 (dd_mem.1 hz)
     exact List.mem_flatMap.2 ⟨y, dd_mem.1 (List.mem_of_mem_take hy), hz⟩)) (fun z hz => hPK z (by
     rw [hraw]
     exact List.mem_flatMap.2 ⟨_, hmr, hz⟩))
    simp only [cmp_lss, len_def] at hw
    rw [hw]
    simp only [Option.bind_some, inc_i64 (show j < 1000000000000 by omega)]
    rw [List.take_add_one, List.getElem?_eq_getElem hj, List.flatMap_append, dd_app]
    simp
   ·simp only [List.take_length, hfin]
    rw [if_neg (by simp [cmp_lss, len_def])]
end Go.Ab

namespace Go.Ab
theorem rests_dd (w : List Pr) : rests (dd w) = rests w := by
 have key : ∀ (w : List Pr) (acc : List GPattern), w.foldl rstep acc = w.foldl (fun s y => ((if y.2.done = true then [] else [y.2.p] : List GPattern)).foldl wth s) acc := fun w => by
  induction w with
  | nil => intro acc; rfl
  | cons y w ih =>
   intro acc
   simp only [List.foldl_cons, ih]
   congr 1
   unfold rstep
   split <;> rfl
 unfold rests
 rw [key, key, dd_flat, foldl_flatMap]
theorem indexR {N : Nat} (hN : 40000000 ≤ N) (l : List GPattern) (p : GPattern) (hl : l.length ≤ 1000000) (hb : ∀ q ∈ l, q.bulk ≤ 16777216) : ref22_index N l p = some (idxP l p) := by
 have key : ref22_index N l p = slices_IndexFunc_LPattern_Pattern N l (fun q => ref09_Same N N q p) := rfl
 rw [key, indexP_eq l (by omega) _ (fun q => decide (p = q)) (fun x hx => by
  rw [same9 hN N x p (by have := hb x hx; omega) (hb x hx)]
  congr 1
  rw [decide_eq_decide]
  exact ⟨fun h => h.symm, fun h => h.symm⟩) (by omega)]
theorem eg_stable {w v : List Pr} {z : Pr} (hz : z ∈ w) : eg (rests (w ++ v)) z = eg (rests w) z := by
 have : ∀ (v w : List Pr), z ∈ w → toOf (rests (w ++ v)) z.2 = toOf (rests w) z.2 := fun v => by
  induction v with
  | nil => intro w _; simp
  | cons y v ih =>
   intro w hz
   have := ih (w ++ [y]) (by simp [hz])
   rw [List.append_assoc] at this
   rw [show w ++ y :: v = w ++ ([y] ++ v) from rfl, this, rests_snoc]
   exact toOf_stable fun h => rests_has hz h
 unfold eg
 rw [this v w hz]
theorem lt_true {a b : Int} (h : a < b) : Ar.cmp .lss a b = true := by rw [cmp_lss]; exact decide_eq_true h
theorem lt_false {a b : Int} (h : ¬ a < b) : ¬ (Ar.cmp .lss a b = true) := by rw [cmp_lss]; simpa using h
def Bad (N : Nat) (y : Pr) : Prop := y.2.done = false ∧ restBad N y.2.p ≠ 0
theorem deriveLoop {N : Nat} (hN : 40000000 ≤ N) (D : List Pr) (hD : D.length ≤ 2048) (hk : ∀ z ∈ D, PK z) : ∃ r, loopN (fun (s3 : (List GEdge) × (List GPattern) × Int) => ((if Ar.cmp .lss s3.2.2 (Ar.len (D.map toP)) = true then (idxL (D.map toP) s3.2.2).bind fun x7 => (idxL (D.map toP) s3.2.2).bind fun x9 => if Ar.nt x9.Done = true then (idxL (D.map toP) s3.2.2).bind fun x10 => (ref09_CheckRest N x10.Rest).bind fun r11 => if Ar.cmp .neq r11 0 = true then some (.inr (.inr ())) else (idxL (D.map toP) s3.2.2).bind fun x12 => (ref22_index N s3.2.1 x12.Rest).bind fun r13 => if Ar.cmp .lss r13 0 = true then (idxL (D.map toP) s3.2.2).bind fun x14 => (appL s3.2.1 ([x14.Rest])).bind fun l16 => (appL s3.1 ([{ x7.Edge with To := Ar.len s3.2.1 }])).bind fun l18 => some (.inl (l18, l16, Ar.ar .add .i64 s3.2.2 1)) else (appL s3.1 ([{ x7.Edge with To := r13 }])).bind fun l20 => some (.inl (l20, s3.2.1, Ar.ar .add .i64 s3.2.2 1)) else (appL s3.1 ([{ x7.Edge with To := (-1) }])).bind fun l22 => some (.inl (l22, s3.2.1, Ar.ar .add .i64 s3.2.2 1)) else some (.inr (.inl (s3.1, s3.2.1)))) : Option (((List GEdge) × (List GPattern) × Int) ⊕ (((List GEdge) × (List GPattern)) ⊕ Unit)))) N ([], [], 0) = some r ∧
 ((∃ y ∈ D, Bad N y) → r = .inr ()) ∧ ((¬ ∃ y ∈ D, Bad N y) → r = .inl (D.map (eg (rests D)), rests D)) := by
 have hlm : (D.map toP).length = D.length := List.length_map ..
 refine loop_inv (S := (List GEdge) × (List GPattern) × Int) (R := ((List GEdge) × (List GPattern)) ⊕ Unit) (fun j s => s = ((D.take j).map (eg (rests (D.take j))), rests (D.take j), (j : Int)) ∧ ∀ y ∈ D.take j, ¬ Bad N y) (fun r => ((∃ y ∈ D, Bad N y) → r = .inr ()) ∧ ((¬ ∃ y ∈ D, Bad N y) → r = .inl (D.map (eg (rests D)), rests D))) D.length 0 ([], [], 0) N (by omega) ⟨rfl, by simp⟩ (fun j s _ hj ⟨es, hg⟩ => ?_) (fun s ⟨es, hg⟩ => ?_)
 ·simp only [Nat.zero_add] at hj
  subst es
  have hm := List.getElem_mem hj
  have hy := hk _ hm
  have e : idxL (D.map toP) (j : Int) = some (toP D[j]) := by rw [idx_at, List.getElem?_map, List.getElem?_eq_getElem hj]; rfl
  have htk : D.take (j + 1) = D.take j ++ [D[j]] := by rw [List.take_add_one, List.getElem?_eq_getElem hj]; rfl
  have hrl := rests_len (D.take j)
  have hdl := dd_len_le (D.take j)
  have htl : (D.take j).length ≤ j := by simp; omega
  have hnew : ∀ T L, L = rests (D.take j ++ [D[j]]) → T = toOf L D[j].2 → ¬ Bad N D[j] → ∃ s', (appL ((D.take j).map (eg (rests (D.take j)))) ([(⟨(toP D[j]).Edge.From, T, (toP D[j]).Edge.Var, (toP D[j]).Edge.Typ, (toP D[j]).Edge.Cond, (toP D[j]).Edge.Opens, (toP D[j]).Edge.Closes, (toP D[j]).Edge.Checks, (toP D[j]).Edge.Limits, (toP D[j]).Edge.Inside⟩ : GEdge)])).bind (fun l => some (Sum.inl (β := ((List GEdge) × (List GPattern)) ⊕ Unit) (l, L, Ar.ar .add .i64 (j : Int) 1))) = some (.inl s') ∧
   s' = ((D.take (j + 1)).map (eg (rests (D.take (j + 1)))), rests (D.take (j + 1)), ((j + 1 : Nat) : Int)) ∧ ∀ y ∈ D.take (j + 1), ¬ Bad N y := fun T L hL hT hnb => by
   subst hL; subst hT
   rw [appL_eq (by simp; omega)]
   refine ⟨_, rfl, ?_, fun y hy => ?_⟩
   ·rw [htk, inc_i64 (by omega), List.map_append]
    congr 1
    congr 1
    apply List.map_congr_left
    intro z hz
    exact (eg_stable hz).symm
   ·rw [htk] at hy
    rcases List.mem_append.1 hy with hy | hy
    ·exact hg y hy
    ·rw [List.mem_singleton.1 hy]; exact hnb
  rw [if_pos (by simp only [cmp_lss, len_def, hlm]; exact decide_eq_true (by omega))]
  simp only [e, Option.bind_some]
  by_cases hd : D[j].2.done = true
  ·have hd' : (toP D[j]).Done = true := hd
   rw [if_neg (by simp [nt_def, hd'])]
   have hrr : rests (D.take j ++ [D[j]]) = rests (D.take j) := by rw [rests_snoc]; unfold rstep; rw [if_pos hd]
   obtain ⟨s', q1, q2, q3⟩ := hnew (-1) (rests (D.take j)) hrr.symm (by unfold toOf; rw [if_pos hd]) (fun hb => by rw [hb.1] at hd; cases hd)
   exact ⟨.inl s', q1, q2, q3⟩
  ·have hd0 : D[j].2.done = false := by simpa using hd
   have hd' : (toP D[j]).Done = false := hd0
   rw [if_pos (by simp [nt_def, hd'])]
   have hrest : ref09_CheckRest N (toP D[j]).Rest = some (restBad N D[j].2.p) := rest_eqr hN hy.ok.rest
   rw [hrest]
   simp only [Option.bind_some]
   by_cases hb : restBad N D[j].2.p = 0
   ·rw [if_neg (ne_false hb)]
    have hnb : ¬ Bad N D[j] := fun h => h.2 hb
    rw [indexR hN _ _ (by omega) (fun q hq => by
     obtain ⟨v, hv, _, rfl⟩ := rests_mem hq
     exact (hk v (List.mem_of_mem_take hv)).ok.rest)]
    simp only [Option.bind_some]
    by_cases hin : D[j].2.p ∈ rests (D.take j)
    ·have h0 := idxI_nonneg.2 (ex_eq.2 hin)
     have h0' : ¬ idxP (rests (D.take j)) (toP D[j]).Rest < 0 := Int.not_lt.2 h0
     rw [if_neg (lt_false h0')]
     have hrr : rests (D.take j ++ [D[j]]) = rests (D.take j) := by rw [rests_snoc]; unfold rstep wth; rw [if_neg hd, if_pos hin]
     obtain ⟨s', q1, q2, q3⟩ := hnew _ (rests (D.take j)) hrr.symm (by unfold toOf; rw [if_neg hd]) hnb
     exact ⟨.inl s', q1, q2, q3⟩
    ·have h0 : idxP (rests (D.take j)) (toP D[j]).Rest = -1 := idxI_neg fun h => hin (ex_eq.1 h)
     rw [if_pos (lt_true (by rw [h0]; omega)), appL_eq (by simp; omega)]
     simp only [Option.bind_some]
     have hrr : rests (D.take j ++ [D[j]]) = rests (D.take j) ++ [D[j].2.p] := by rw [rests_snoc]; unfold rstep wth; rw [if_neg hd, if_neg hin]
     obtain ⟨s', q1, q2, q3⟩ := hnew (Ar.len (rests (D.take j))) (rests (D.take j) ++ [D[j].2.p]) hrr.symm (by
      unfold toOf; rw [if_neg hd]
      have := idxI_last (P := fun q => decide (D[j].2.p = q)) (l := rests (D.take j)) (x := D[j].2.p) (fun h => hin (ex_eq.1 h)) (by simp)
      exact this.symm) hnb
     exact ⟨.inl s', q1, q2, q3⟩
   ·rw [if_pos (ne_true hb)]
    exact ⟨_, rfl, fun _ => rfl, fun h => absurd ⟨_, hm, hd0, hb⟩ h⟩
 ·subst es
  simp only [Nat.zero_add, List.take_length] at hg ⊢
  rw [if_neg (by simp [cmp_lss, len_def])]
  exact ⟨_, rfl, fun ⟨y, hy, hb⟩ => absurd hb (hg y hy), fun _ => rfl⟩
theorem refDerive_eq {N : Nat} (hN : 40000000 ≤ N) {x : GPattern} (hb : x.bulk ≤ 1100000) (hz : restBad N x = 0) (hU : U x ≤ 400000) : ref22_Derive N x = some (derivedP N (raw x)) := by
 obtain ⟨hp, hd, hg⟩ := rest_good hz
 unfold ref22_Derive
 rw [rest_eqr hN (by omega)]
 simp only [Option.bind_some]
 rw [if_neg (ne_false hz), pairsR hN x.dep x N (Nat.le_refl _) (by omega) hd hb hp hg hU]
 simp only [Option.bind_some]
 have hlm : ((dd (raw x)).map toP).length = (dd (raw x)).length := List.length_map ..
 unfold derivedP
 by_cases hbig : 2048 < (dd (raw x)).length
 ·rw [if_pos (gt_true (by simp only [len_def, hlm]; omega)), if_pos (.inl hbig)]
 ·rw [if_neg (gt_false (by simp only [len_def, hlm]; omega))]
  have hPK := raw_PK hd hb
  obtain ⟨r, h1, h2, h3⟩ := deriveLoop hN (dd (raw x)) (by omega) (fun z hz => hPK z (dd_mem.1 hz))
  rw [h1]
  by_cases hbad : ∃ y ∈ dd (raw x), Bad N y
  ·rw [h2 hbad]
   obtain ⟨y, hy, hb1, hb2⟩ := hbad
   rw [if_pos (.inr ⟨y, dd_mem.1 hy, hb1, hb2⟩)]
   rfl
  ·rw [h3 hbad]
   rw [if_neg (by
    rintro (h | ⟨y, hy, h1, h2⟩)
    ·exact hbig h
    ·exact hbad ⟨y, dd_mem.2 hy, h1, h2⟩)]
   rw [rests_dd]
   rfl
theorem sameEdges_refl {N : Nat} (hN : 40000000 ≤ N) (l : List GEdge) (hl : l.length ≤ 1000000) (hk : ∀ e ∈ l, Esz e 1000 ∧ e.Cond.bulk ≤ 16777216 ∧ ∀ c ∈ e.Checks, c.bulk ≤ 16777216) : ref22_SameEdges N l l = some true := by
 unfold ref22_SameEdges
 rw [if_neg (by simp [cmp_neq])]
 rw [loop_run (s0 := (0 : Int)) (st := fun j => (j : Int)) (k := l.length) (r := (Sum.inl () : Unit ⊕ Unit)) rfl (by omega) ?_ ?_]
 ·rfl
 ·intro j hj
  have e : idxL l (j : Int) = some l[j] := by rw [idx_at, List.getElem?_eq_getElem hj]
  obtain ⟨h1, h2, h3⟩ := hk _ (List.getElem_mem hj)
  rw [if_pos (by simp only [cmp_lss, len_def]; exact decide_eq_true (by omega))]
  simp only [e, Option.bind_some]
  rw [if_neg (by simp [cmp_neq]), if_neg (by simp [cmp_neq]), sameEdgeR hN _ _ h1 h2 h3]
  simp only [Option.bind_some]
  rw [decide_eq_true (show EqE l[j] l[j] from ⟨⟨rfl, rfl⟩, rfl, rfl, rfl, rfl, rfl, rfl⟩), if_neg (by simp [nt_def]), inc_i64 (by omega)]
 ·rw [if_neg (by simp [cmp_lss, len_def])]
theorem derived_small {N : Nat} {x : GPattern} (hd : x.dep ≤ 12) (hb : x.bulk ≤ 1100000) (hU : U x ≤ 400000) : (derivedP N (raw x)).1.length ≤ 1000000 ∧ (∀ e ∈ (derivedP N (raw x)).1, Esz e 1000 ∧ e.Cond.bulk ≤ 16777216 ∧ ∀ c ∈ e.Checks, c.bulk ≤ 16777216) ∧ (derivedP N (raw x)).2.1.length ≤ 1000000 ∧ ∀ p ∈ (derivedP N (raw x)).2.1, p.bulk ≤ 16777216 := by
 have hPK := raw_PK hd hb
 have h1 := dd_len_le (raw x)
 have h2 := raw_len x.dep x (Nat.le_refl _)
 have h3 := rests_len (raw x)
 unfold derivedP
 split
 ·exact ⟨by simp, fun e he => by simp at he, by simp, fun e he => by simp at he⟩
 ·refine ⟨by simp only [List.length_map]; omega, fun e he => ?_, by simp only; omega, fun p hp => ?_⟩
  ·obtain ⟨y, hy, rfl⟩ := List.mem_map.1 he
   have hk := hPK y (dd_mem.1 hy)
   exact ⟨hk.sz, hk.ok.cond, hk.ok.checks⟩
  ·obtain ⟨y, hy, _, rfl⟩ := rests_mem hp
   exact (hPK y hy).ok.rest
theorem derives_law {N : Nat} (hN : 40000000 ≤ N) (awake : law22_awake N = some true) {x : GPattern} (hb : x.bulk ≤ 1048576) : law22_DerivativeDerives N x = some true := by
 unfold law22_DerivativeDerives
 obtain ⟨b, h0⟩ := few9 hN (x := x) (by omega)
 rw [h0]
 simp only [Option.bind_some]
 cases b
 ·rw [if_pos (show Ar.nt false = true from rfl), awake]; rfl
 ·rw [if_neg (by simp [nt_def]), rest_eqr hN (by omega)]
  simp only [Option.bind_some]
  by_cases hz : restBad N x = 0
  ·rw [if_pos (eql_true hz)]
   obtain ⟨b, h1, hsm⟩ := small9 hN (x := x) (by omega)
   rw [h1]
   simp only [Option.bind_some]
   cases b
   ·rw [if_pos (show Ar.nt false = true from rfl), awake]; rfl
   ·rw [if_neg (by simp [nt_def])]
    obtain ⟨hp, hd, hg⟩ := rest_good hz
    have hU : U x ≤ 400000 := by
     have h2 := U_pow x.dep x (Nat.le_refl _)
     have h3 : 2 ^ x.pre.length ≤ 2 ^ 9 := Nat.pow_le_pow_right (by omega) (hsm rfl)
     have : (2 : Nat) ^ 9 = 512 := rfl
     omega
    obtain ⟨d1, d2, d3, d4⟩ := derived_small (N := N) hd (show x.bulk ≤ 1100000 by omega) hU
    rw [derive_eq hN (by omega) hz, refDerive_eq hN (by omega) hz hU]
    simp only [Option.bind_some]
    rw [sameEdges_refl hN _ d1 d2]
    simp only [Option.bind_some, if_true]
    rw [sameAll_eq hN _ _ d3 d4]
    simp only [Option.bind_some]
    rw [if_pos (by simp [an_def, cmp_eql]), awake]; rfl
  ·rw [if_neg (by rw [eql_false hz]; simp)]
   have e1 : derivative_Derive N x = some ([], [], restBad N x) := by
    unfold derivative_Derive
    rw [rest_eq hN (by omega)]
    simp only [Option.bind_some]
    rw [if_pos (ne_true hz)]
   have e2 : ref22_Derive N x = some ([], [], restBad N x) := by
    unfold ref22_Derive
    rw [rest_eqr hN (by omega)]
    simp only [Option.bind_some]
    rw [if_pos (ne_true hz)]
   rw [e1, e2]
   simp only [Option.bind_some]
   rw [sameEdges_refl hN [] (by simp) (fun e he => by simp at he)]
   simp only [Option.bind_some, if_true]
   rw [sameAll_eq hN [] [] (by simp) (fun e he => by simp at he)]
   simp only [Option.bind_some]
   rw [if_pos (by simp [an_def, cmp_eql]), awake]; rfl
end Go.Ab

