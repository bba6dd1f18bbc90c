/- GSL10 GSL11 GSL12 GSL13 -/
import Derived.Test.YtbjdkpckplopdaaGreatT42
set_option linter.all false

namespace Go.Ab
noncomputable section
def timeB (p : Nat) : Bool := Ar.cmp .neq (Ar.ar .and .i64 (p : Int) 256) 0
def keepAt (p : Nat × Nat) (n : Nat) (q : GEvent × Nat) : List GEvent :=
 if q.2 + 1 = n then [keepE (p.2 ||| p.1) (timeB p.1) q.1] else if p.2 = 0 then [] else [keepE p.2 false q.1]
def keptRow (p : Nat × Nat) (l : List GEvent) : List GEvent := if p = (0, 0) then [] else l.zipIdx.flatMap (keepAt p l.length)
def keptP (f : NF) (env : GEnv) : GEnv := ⟨env.Vars.zipIdx.map fun q => keptRow (f (q.2 : Int)) q.1⟩
theorem keepAt_len (p : Nat × Nat) (n : Nat) (q : GEvent × Nat) : (keepAt p n q).length ≤ 1 := by
 unfold keepAt
 split
 ·simp
 ·split <;> simp
theorem set_same {α : Type} {s : List α} {v : Nat} {w : α} (hs : s[v]? = some w) : s.set v w = s := by
 apply List.ext_getElem?
 intro i
 rw [List.getElem?_set]
 split
 ·rename_i e; subst e
  split
  ·exact hs.symm
  ·rename_i h; rw [List.getElem?_eq_none (by omega)] at hs; cases hs
 ·rfl
theorem bind_next {σ R S : Type} {q : Option σ} {f : σ → S} : (q.bind fun s => some (Sum.inl (β := R) (f s))) = (q.bind fun s => some (Sum.inl (β := R) s)).bind fun o => match o with | .inl s' => some (.inl (f s')) | .inr r => some (.inr r) := by
 cases q <;> rfl
theorem range_grow {α β R : Type} {v : Nat} {g : α → List β} (hg : ∀ x, (g x).length ≤ 1) {body : List (List β) → α → Option (List (List β) ⊕ R)} : ∀ {l : List α} {s : List (List β)} {w : List β},
 (∀ s w x, x ∈ l → s[v]? = some w → w.length ≤ 1000 → body s x = some (.inl (s.set v (w ++ g x)))) → s[v]? = some w → w.length + l.length ≤ 1000 → rangeL body l s = some (.inl (s.set v (w ++ l.flatMap g)))
 | [], s, w, _, hs, _ => by
  rw [List.flatMap_nil, List.append_nil, set_same hs]; rfl
 | x :: l, s, w, h, hs, hl => by
  simp only [List.length_cons] at hl
  have hx := hg x
  unfold rangeL
  rw [h s w x (by simp) hs (by omega)]
  dsimp only
  have hv : v < s.length := by
   rcases Nat.lt_or_ge v s.length with h | h
   ·exact h
   ·rw [List.getElem?_eq_none h] at hs; cases hs
  rw [range_grow hg (fun s w y hy => h s w y (by simp [hy])) (w := w ++ g x) (by rw [List.getElem?_set]; simp [hv]) (by simp; omega)]
  rw [List.set_set, List.flatMap_cons, List.append_assoc]
theorem range_fill {α β R : Type} {z : β} {g : α × Nat → β} {body : List β → α × Nat → Option (List β ⊕ R)} : ∀ {l : List α} {k : Nat} {pre : List β}, pre.length = k →
 (∀ s x i, (x, i) ∈ l.zipIdx k → s[i]? = some z → s.length = k + l.length → body s (x, i) = some (.inl (s.set i (g (x, i))))) → rangeL body (l.zipIdx k) (pre ++ List.replicate l.length z) = some (.inl (pre ++ (l.zipIdx k).map g))
 | [], k, pre, _, _ => by simp [rangeL]
 | x :: l, k, pre, hp, h => by
  rw [List.zipIdx_cons]
  unfold rangeL
  have e : (pre ++ List.replicate (x :: l).length z).set k (g (x, k)) = (pre ++ [g (x, k)]) ++ List.replicate l.length z := by
   rw [List.length_cons, List.replicate_succ, List.set_append_right _ _ (by omega), hp, Nat.sub_self, List.set_cons_zero, List.append_assoc]
   rfl
  rw [h _ x k (by rw [List.zipIdx_cons]; simp) (by rw [List.getElem?_append_right (by omega), hp, Nat.sub_self]; simp [List.replicate_succ]) (by simp [hp]), e]
  dsimp only
  rw [range_fill (k := k + 1) (by simp [hp]) (fun s y i hy h1 h2 => h s y i (by rw [List.zipIdx_cons]; simp [hy]) h1 (by rw [h2, List.length_cons]; omega))]
  simp
theorem sub1 {n : Nat} (h : n < 1000000) : Ar.ar .sub .i64 (n : Int) 1 = (n : Int) - 1 := wrap_i64 (by omega) (by omega)
theorem fewE_row {env : GEnv} (h : fewE env = true) : env.Vars.length ≤ 20 ∧ ∀ l ∈ env.Vars, l.length ≤ 13 ∧ ∀ e ∈ l, e.Values.length ≤ 10 := by
 unfold fewE at h
 rw [Bool.and_eq_true, decide_eq_true_eq, List.all_eq_true] at h
 refine ⟨h.1, fun l hl => ?_⟩
 have := h.2 l hl
 unfold fewRow at this
 rw [Bool.and_eq_true, decide_eq_true_eq, List.all_eq_true] at this
 exact ⟨this.1, fun e he => of_decide_eq_true (this.2 e he)⟩
theorem zipIdx_mem {α : Type} {l : List α} {x : α} {i : Nat} (h : (x, i) ∈ l.zipIdx) : l[i]? = some x := by
 rw [List.mem_zipIdx_iff_getElem?] at h
 exact h
theorem reduced_eq {N : Nat} (hN : 40000000 ≤ N) {f : NF} (ho : f.ok) (hs : f.sup) {env : GEnv} (he : fewE env = true) : registers_reduced N (canon f) env = some (keptP f env) := by
 obtain ⟨hv, hr⟩ := fewE_row he
 obtain ⟨m, m1, m2⟩ := table_law hN ho hs
 unfold registers_reduced
 have hmk : mkL (Ar.len env.Vars) (Ar.len env.Vars) ([] : List GEvent) = some (List.replicate env.Vars.length []) := by
  unfold mkL
  rw [len_def, if_pos ⟨by omega, by omega, by omega⟩]
  simp
 rw [m1, hmk]
 simp only [Option.bind_some]
 rw [loop_idx env.Vars (by omega) (fun (s : List (List GEvent)) i => (i, s)) (fun s q => if f (q.2 : Int) = (0, 0) then some (.inl s) else
     (loopN
      (fun (s13 : Int × (List (List GEvent))) =>
       (
        if Ar.cmp .lss s13.1 (Ar.len q.1) = true then
         (idxL q.1 s13.1).bind fun x16 =>
         if Ar.cmp .eql s13.1 (Ar.ar .sub .i64 (Ar.len q.1) 1) = true then
          (idxL s13.2 (q.2 : Int)).bind fun x18 =>
          (registers_reducedEvent N x16 (Ar.ar .or .i64 ((f (q.2 : Int)).2 : Int) ((f (q.2 : Int)).1 : Int)) (Ar.cmp .neq (Ar.ar .and .i64 ((f (q.2 : Int)).1 : Int) 256) 0)).bind fun r23 =>
          (appL x18 ([r23])).bind fun l24 =>
          (updL s13.2 (q.2 : Int) (fun _ => l24)).bind fun l22 =>
          some (.inl (Ar.ar .add .i64 s13.1 1, l22))
         else
          if Ar.cmp .neq ((f (q.2 : Int)).2 : Int) 0 = true then
           (idxL s13.2 (q.2 : Int)).bind fun x25 =>
           (registers_reducedEvent N x16 ((f (q.2 : Int)).2 : Int) false).bind fun r30 =>
           (appL x25 ([r30])).bind fun l31 =>
           (updL s13.2 (q.2 : Int) (fun _ => l31)).bind fun l29 =>
           some (.inl (Ar.ar .add .i64 s13.1 1, l29))
          else
           some (.inl (Ar.ar .add .i64 s13.1 1, s13.2))
        else
         some (.inr s13.2)
        : Option ((Int × (List (List GEvent))) ⊕ (((List (List GEvent)))))))
      N (0, s)).bind fun s15 => some (.inl s15)) (fun s => s) _ (by omega) ?_ ?_]
 ·have := range_fill (R := List (List GEvent)) (z := ([] : List GEvent)) (g := fun q => keptRow (f (q.2 : Int)) q.1) (l := env.Vars) (k := 0) (pre := []) rfl (body := ?_) ?_
  rotate_left
  ·exact (fun s q => if f (q.2 : Int) = (0, 0) then some (.inl s) else
   (loopN
    (fun (s13 : Int × (List (List GEvent))) =>
     (
      if Ar.cmp .lss s13.1 (Ar.len q.1) = true then
       (idxL q.1 s13.1).bind fun x16 =>
       if Ar.cmp .eql s13.1 (Ar.ar .sub .i64 (Ar.len q.1) 1) = true then
        (idxL s13.2 (q.2 : Int)).bind fun x18 =>
        (registers_reducedEvent N x16 (Ar.ar .or .i64 ((f (q.2 : Int)).2 : Int) ((f (q.2 : Int)).1 : Int)) (Ar.cmp .neq (Ar.ar .and .i64 ((f (q.2 : Int)).1 : Int) 256) 0)).bind fun r23 =>
        (appL x18 ([r23])).bind fun l24 =>
        (updL s13.2 (q.2 : Int) (fun _ => l24)).bind fun l22 =>
        some (.inl (Ar.ar .add .i64 s13.1 1, l22))
       else
        if Ar.cmp .neq ((f (q.2 : Int)).2 : Int) 0 = true then
         (idxL s13.2 (q.2 : Int)).bind fun x25 =>
         (registers_reducedEvent N x16 ((f (q.2 : Int)).2 : Int) false).bind fun r30 =>
         (appL x25 ([r30])).bind fun l31 =>
         (updL s13.2 (q.2 : Int) (fun _ => l31)).bind fun l29 =>
         some (.inl (Ar.ar .add .i64 s13.1 1, l29))
        else
         some (.inl (Ar.ar .add .i64 s13.1 1, s13.2))
      else
       some (.inr s13.2)
      : Option ((Int × (List (List GEvent))) ⊕ (((List (List GEvent)))))))
    N (0, s)).bind fun s15 => some (.inl s15))
  ·intro s x i hx hz hlen
   have hxi := zipIdx_mem hx
   obtain ⟨hxl, hxe⟩ := hr x (List.mem_of_getElem? hxi)
   dsimp only
   by_cases h0 : f (i : Int) = (0, 0)
   ·rw [if_pos h0]
    unfold keptRow
    rw [if_pos h0]
    rw [set_same hz]
   ·rw [if_neg h0]
    have o1 := (ho (i : Int)).1
    have o2 := (ho (i : Int)).2
    generalize f (i : Int) = p at h0 o1 o2 ⊢
    rw [loop_idx x (by omega) (fun (s : List (List GEvent)) j => (j, s)) (fun s q => if q.2 + 1 ≠ x.length ∧ p.2 = 0 then some (.inl s) else (idxL s (i : Int)).bind fun w => (appL w (keepAt p x.length q)).bind fun l => (updL s (i : Int) fun _ => l).bind fun s => some (.inl s)) (fun s => s) s (by omega) ?_ ?_]
    ·rw [range_grow (v := i) (g := keepAt p x.length) (keepAt_len p _) (fun s w q hq hw h2 => ?_) hz (by simp; omega)]
     ·unfold keptRow
      rw [if_neg h0]
      simp
     ·have := keepAt_len p x.length q
      by_cases hk : q.2 + 1 ≠ x.length ∧ p.2 = 0
      ·have e1 : keepAt p x.length q = [] := by unfold keepAt; rw [if_neg hk.1, if_pos hk.2]
       rw [if_pos hk, e1, List.append_nil, set_same hw]
      rw [if_neg hk, idx_at, hw]
      simp only [Option.bind_some]
      unfold appL updL
      rw [if_pos (by omega), idx_at, hw]
      simp
    ·intro s j y hy hj
     have hye := hxe y (List.mem_of_getElem? hy)
     try dsimp only
     rw [if_pos (by rw [cmp_lss, len_def]; exact decide_eq_true (by omega)), idx_at, hy]
     simp only [Option.bind_some]
     rw [len_def, sub1 (by omega), add_i64 (a := (j : Int)) (by omega) (by omega)]
     by_cases hj1 : j + 1 = x.length
     ·rw [if_pos (by rw [cmp_eql]; exact decide_eq_true (by omega)), if_neg (fun h => h.1 hj1)]
      have e1 : keepAt p x.length (y, j) = [keepE (p.2 ||| p.1) (timeB p.1) y] := if_pos hj1
      rw [e1, or_i64 o2 o1, show Ar.cmp .neq (Ar.ar .and .i64 (p.1 : Int) 256) 0 = timeB p.1 from rfl, event1 hN (or_lt o2 o1) _ hye]
      simp only [Option.bind_some]
      cases idxL s (i : Int) with
      | none => rfl
      | some w =>
       simp only [Option.bind_some]
       cases appL w [keepE (p.2 ||| p.1) (timeB p.1) y] with
       | none => rfl
       | some l => simp only [Option.bind_some]; cases updL s (i : Int) (fun _ => l) <;> rfl
     ·rw [if_neg (by rw [cmp_eql]; simp; omega)]
      by_cases hp0 : p.2 = 0
      ·rw [if_neg (by rw [cmp_neq]; simp [hp0]), if_pos ⟨hj1, hp0⟩]; rfl
      ·rw [if_pos (by rw [cmp_neq]; simpa using hp0), if_neg (fun h => hp0 h.2)]
       have e1 : keepAt p x.length (y, j) = [keepE p.2 false y] := by unfold keepAt; rw [if_neg hj1, if_neg hp0]
       rw [e1, event1 hN o2 _ hye]
       simp only [Option.bind_some]
       cases idxL s (i : Int) with
       | none => rfl
       | some w =>
        simp only [Option.bind_some]
        cases appL w [keepE p.2 false y] with
        | none => rfl
        | some l => simp only [Option.bind_some]; cases updL s (i : Int) (fun _ => l) <;> rfl
    ·intro s
     try dsimp only
     rw [if_neg (by rw [cmp_lss, len_def]; simp)]
  ·rw [List.nil_append] at this
   rw [this]
   rfl
 ·intro s i x hx hi
  try dsimp only
  rw [if_pos (by rw [cmp_lss, len_def]; exact decide_eq_true (by omega)), idx_at, hx]
  simp only [Option.bind_some]
  rw [getM_lkN, m2.at_ (i : Int), add_i64 (a := (i : Int)) (by omega) (by omega)]
  by_cases h0 : f (i : Int) = (0, 0)
  ·rw [if_pos h0, if_pos h0]
   rfl
  ·rw [if_neg h0, if_neg h0]
   dsimp only [Option.bind_some]
   rw [if_neg (by rw [nt_def]; decide)]
   exact bind_next
 ·intro s
  try dsimp only
  rw [if_neg (by rw [cmp_lss, len_def]; simp)]
end
end Go.Ab

namespace Go.Ab
noncomputable section
open Classical
theorem zip_all_eq {α : Type} [DecidableEq α] : ∀ {l m : List α}, l.length = m.length → (((l.zip m).all fun q => decide (q.1 = q.2)) = true ↔ l = m)
 | [], [], _ => by simp
 | [], _ :: _, h => by cases h
 | _ :: _, [], h => by cases h
 | x :: l, y :: m, h => by
  have ih := zip_all_eq (l := l) (m := m) (by simpa using h)
  rw [List.zip_cons_cons, List.all_cons, Bool.and_eq_true, ih]
  simp
theorem val_eq (x y : GValue) : Ar.an (Ar.cmp .eql x.Kind y.Kind) (Ar.an (Ar.cmp .eql x.Num y.Num) (Ar.an (Ar.scmp .eql x.Text y.Text) true)) = decide (x = y) := by
 rw [scmp_eql]
 simp only [an_def, cmp_eql, Bool.and_true]
 cases x; cases y
 simp only [GValue.mk.injEq]
 rw [Bool.eq_iff_iff]
 simp
theorem loop_same {α : Type} [DecidableEq α] {N : Nat} (hN : 40000000 ≤ N) {l m : List α} (hlm : l.length = m.length) (hl : l.length < 1000000) {A B : Type} {u : A} {w : B} {step : Int → Option (Int ⊕ (A ⊕ B))}
 (hstep : ∀ (i : Nat) x y, l[i]? = some x → m[i]? = some y → (i : Int) < l.length → x ∈ l → y ∈ m → step i = some (if x = y then .inl ((i : Int) + 1) else .inr (.inr w)))
 (hend : step (l.length : Int) = some (.inr (.inl u))) : loopN step N 0 = some (if l = m then .inl u else .inr w) := by
 rw [loop_zip l m hlm (by omega) (fun (_ : Unit) i => i) (fun _ q => some (if decide (q.1 = q.2) = true then .inl () else .inr (.inr w))) (fun _ => .inl u) () (by omega) ?_ (fun _ => hend)]
 ·rw [range_all (p := fun q : α × α => decide (q.1 = q.2)) (r := .inr w) (fun x _ => rfl)]
  by_cases h : l = m
  ·rw [if_pos ((zip_all_eq hlm).2 h), if_pos h]; rfl
  ·rw [if_neg (fun k => h ((zip_all_eq hlm).1 k)), if_neg h]; rfl
 ·intro s i x y hx hy hi
  rw [hstep i x y hx hy hi (List.mem_of_getElem? hx) (List.mem_of_getElem? hy)]
  by_cases h : x = y
  ·rw [if_pos h, if_pos (decide_eq_true h)]; rfl
  ·rw [if_neg h, if_neg (by simpa using h)]; rfl
def smallE (e : GEnv) : Prop := e.Vars.length < 1000000 ∧ ∀ l ∈ e.Vars, l.length < 1000000 ∧ ∀ x ∈ l, x.Values.length < 1000000
theorem ne_len {α β : Type} {l : List α} {m : List β} : (Ar.cmp .neq (Ar.len l) (Ar.len m) = true) ↔ l.length ≠ m.length := by
 rw [cmp_neq, len_def, len_def]; simp; omega
theorem equal_vals {N : Nat} (hN : 40000000 ≤ N) {l m : List GValue} (hl : l.length < 1000000) : slices_Equal_LValue_Value N l m = some (decide (l = m)) := by
 unfold slices_Equal_LValue_Value
 by_cases h1 : l.length = m.length
 ·rw [if_neg (by rw [ne_len]; simpa using h1), loop_same hN h1 hl (u := ()) (w := ()) ?_ ?_]
  ·by_cases h : l = m
   ·rw [if_pos h, decide_eq_true h]; rfl
   ·rw [if_neg h, decide_eq_false h]; rfl
  ·intro k v w hv hw hk mv mw
   try dsimp only
   rw [if_pos (by rw [cmp_lss, len_def]; exact decide_eq_true (by omega))]
   simp only [idx_at, hv, hw, Option.bind_some]
   rw [add_i64 (a := (k : Int)) (by omega) (by omega), val_eq, nt_def]
   by_cases h : v = w
   ·rw [if_pos h, if_neg (by rw [decide_eq_true h]; decide)]
   ·rw [if_neg h, if_pos (by rw [decide_eq_false h]; rfl)]
  ·try dsimp only
   rw [if_neg (by rw [cmp_lss, len_def]; simp)]
 ·rw [if_pos (by rw [ne_len]; exact h1), decide_eq_false (fun k => h1 (by rw [k]))]
theorem equal_event {N : Nat} (hN : 40000000 ≤ N) {e g : GEvent} (hl : e.Values.length < 1000000) : registers_same N e g = some (decide (e = g)) := by
 unfold registers_same
 have heg : e = g ↔ (e.Source = g.Source ∧ e.Seq = g.Seq ∧ e.Typ = g.Typ ∧ e.Time = g.Time ∧ e.Values = g.Values) := by cases e; cases g; simp
 have hc : (Ar.an (Ar.an (Ar.an (Ar.cmp .eql e.Source g.Source) (Ar.cmp .eql e.Seq g.Seq)) (Ar.cmp .eql e.Typ g.Typ)) (Ar.cmp .eql e.Time g.Time) = true) ↔ (e.Source = g.Source ∧ e.Seq = g.Seq ∧ e.Typ = g.Typ ∧ e.Time = g.Time) := by
  simp only [an_def, cmp_eql, Bool.and_eq_true, decide_eq_true_eq, and_assoc]
 by_cases h : e.Source = g.Source ∧ e.Seq = g.Seq ∧ e.Typ = g.Typ ∧ e.Time = g.Time
 ·rw [if_pos (hc.2 h), equal_vals hN hl]
  simp only [Option.bind_some]
  rw [Option.some.injEq, decide_eq_decide, heg]
  exact ⟨fun k => ⟨h.1, h.2.1, h.2.2.1, h.2.2.2, k⟩, fun k => k.2.2.2.2⟩
 ·rw [if_neg (fun k => h (hc.1 k)), decide_eq_false (fun k => h (by have := heg.1 k; exact ⟨this.1, this.2.1, this.2.2.1, this.2.2.2.1⟩))]
theorem equal_func {α : Type} [DecidableEq α] {N : Nat} (hN : 40000000 ≤ N) {l m : List α} (hl : l.length < 1000000) {p : α → α → Option Bool} (hp : ∀ x y, x ∈ l → p x y = some (decide (x = y))) {F : Option Bool}
 (hF : F = if Ar.cmp .neq (Ar.len l) (Ar.len m) = true then some false else
  (loopN (fun (s1 : Int) =>
   (
    if Ar.cmp .lss s1 (Ar.len l) = true then
     (idxL l s1).bind fun x3 =>
     (idxL m s1).bind fun x4 =>
     (p x3 x4).bind fun r5 =>
     if Ar.nt r5 = true then
      some (.inr (.inr ()))
     else
      some (.inl (Ar.ar .add .i64 s1 1))
    else
     some (.inr (.inl ()))
    : Option ((Int) ⊕ (Unit ⊕ Unit)))) N 0).bind fun s2 => match s2 with | .inl _ => some true | .inr _ => some false) : F = some (decide (l = m)) := by
 rw [hF]
 by_cases h1 : l.length = m.length
 ·rw [if_neg (by rw [ne_len]; simpa using h1), loop_same hN h1 hl (u := ()) (w := ()) ?_ ?_]
  ·by_cases h : l = m
   ·rw [if_pos h, decide_eq_true h]; rfl
   ·rw [if_neg h, decide_eq_false h]; rfl
  ·intro k v w hv hw hk mv mw
   try dsimp only
   rw [if_pos (by rw [cmp_lss, len_def]; exact decide_eq_true (by omega))]
   simp only [idx_at, hv, hw, Option.bind_some, hp v w mv]
   rw [add_i64 (a := (k : Int)) (by omega) (by omega), nt_def]
   by_cases h : v = w
   ·rw [if_pos h, if_neg (by rw [decide_eq_true h]; decide)]
   ·rw [if_neg h, if_pos (by rw [decide_eq_false h]; rfl)]
  ·try dsimp only
   rw [if_neg (by rw [cmp_lss, len_def]; simp)]
 ·rw [if_pos (by rw [ne_len]; exact h1), decide_eq_false (fun k => h1 (by rw [k]))]
theorem fewE_small {e : GEnv} (h : fewE e = true) : smallE e := by
 obtain ⟨h1, h2⟩ := fewE_row h
 exact ⟨by omega, fun l hl => ⟨by have := (h2 l hl).1; omega, fun x hx => by have := (h2 l hl).2 x hx; omega⟩⟩
theorem keptRow_len {p : Nat × Nat} {l : List GEvent} : (keptRow p l).length ≤ l.length := by
 unfold keptRow
 split
 ·exact Nat.zero_le _
 ·have : ∀ (m : List (GEvent × Nat)), (m.flatMap (keepAt p l.length)).length ≤ m.length := fun m => by
   induction m with
   | nil => simp
   | cons q m ih =>
    rw [List.flatMap_cons, List.length_append, List.length_cons]
    have := keepAt_len p l.length q
    omega
  have := this l.zipIdx
  simpa using this
theorem keptRow_mem {p : Nat × Nat} {l : List GEvent} {x : GEvent} (h : x ∈ keptRow p l) : ∃ y ∈ l, ∃ n b, x = keepE n b y := by
 unfold keptRow at h
 split at h
 ·cases h
 ·obtain ⟨⟨y, i⟩, h1, h2⟩ := List.mem_flatMap.1 h
  refine ⟨y, List.mem_of_getElem? (zipIdx_mem h1), ?_⟩
  unfold keepAt at h2
  split at h2
  ·exact ⟨_, _, List.mem_singleton.1 h2⟩
  ·split at h2
   ·cases h2
   ·exact ⟨_, _, List.mem_singleton.1 h2⟩
theorem kept_few {f : NF} {e : GEnv} (h : fewE e = true) : fewE (keptP f e) = true := by
 obtain ⟨h1, h2⟩ := fewE_row h
 unfold fewE
 rw [Bool.and_eq_true, decide_eq_true_eq, List.all_eq_true]
 refine ⟨by unfold keptP; simpa using h1, fun r hr => ?_⟩
 unfold keptP at hr
 obtain ⟨⟨l, i⟩, hl, rfl⟩ := List.mem_map.1 hr
 have hm := h2 l (List.mem_of_getElem? (zipIdx_mem hl))
 unfold fewRow
 rw [Bool.and_eq_true, decide_eq_true_eq, List.all_eq_true]
 refine ⟨Nat.le_trans keptRow_len hm.1, fun x hx => ?_⟩
 obtain ⟨y, hy, n, b, rfl⟩ := keptRow_mem hx
 have := hm.2 y hy
 unfold keepE
 simpa using this
end
end Go.Ab

namespace Go.Ab
noncomputable section
open Classical
theorem bit_all : (List.range 512).all (fun p => (timeB p == p.testBit 8) && (List.range 8).all fun b => bitA p b == if p.testBit b then 1 else 0) = true := by kernel_rfl
theorem bit_test {p b : Nat} (hp : p < 512) (hb : b < 8) : bitA p b = 1 ↔ p.testBit b = true := by
 have := List.all_eq_true.1 bit_all p (List.mem_range.2 hp)
 rw [Bool.and_eq_true] at this
 have := List.all_eq_true.1 this.2 b (List.mem_range.2 hb)
 rw [eq_of_beq this]
 cases p.testBit b <;> simp
theorem time_test {p : Nat} (hp : p < 512) : timeB p = p.testBit 8 := by
 have := List.all_eq_true.1 bit_all p (List.mem_range.2 hp)
 rw [Bool.and_eq_true] at this
 exact eq_of_beq this.1
theorem test_le {n m i : Nat} (h : n ||| m = m) (hn : n.testBit i = true) : m.testBit i = true := by
 rw [← h, Nat.testBit_or, hn]; rfl
theorem keepV_keepV {n m : Nat} (hn : n < 512) (hm : m < 512) (h : n ||| m = m) (v : GValue) (i : Nat) : keepV n (keepV m (v, i), i) = keepV n (v, i) := by
 unfold keepV
 by_cases h1 : i < 8 ∧ bitA n i = 1
 ·have h2 : i < 8 ∧ bitA m i = 1 := ⟨h1.1, (bit_test hm h1.1).2 (test_le h ((bit_test hn h1.1).1 h1.2))⟩
  simp only [h1, h2, and_self, if_true]
 ·simp only [h1, if_false]
theorem zipIdx_map {α β : Type} (F : α × Nat → β) (l : List α) : (l.zipIdx.map F).zipIdx = l.zipIdx.map fun q => (F q, q.2) := by
 apply List.ext_getElem?
 intro i
 rw [List.getElem?_zipIdx, List.getElem?_map, List.getElem?_map, List.getElem?_zipIdx]
 cases l[i]? <;> simp
theorem keepE_keepE {n m : Nat} (hn : n < 512) (hm : m < 512) (h : n ||| m = m) {b c : Bool} (hb : b = true → c = true) (e : GEvent) : keepE n b (keepE m c e) = keepE n b e := by
 unfold keepE
 simp only [GEvent.mk.injEq, true_and]
 constructor
 ·by_cases h1 : b = true
  ·rw [if_pos h1, if_pos h1, if_pos (hb h1)]
  ·rw [if_neg h1, if_neg h1]
 ·rw [zipIdx_map, List.map_map]
  exact List.map_congr_left fun q _ => keepV_keepV hn hm h q.1 q.2
theorem row_last {p : Nat × Nat} (h0 : p ≠ (0, 0)) (h : p.2 = 0) (pre : List GEvent) (x : GEvent) : keptRow p (pre ++ [x]) = [keepE p.1 (timeB p.1) x] := by
 unfold keptRow
 rw [if_neg h0, List.zipIdx_append, List.flatMap_append]
 have e1 : pre.zipIdx.flatMap (keepAt p (pre ++ [x]).length) = [] := by
  rw [List.flatMap_eq_nil_iff]
  intro q hq
  have := List.mem_zipIdx hq
  unfold keepAt
  rw [if_neg (by simp; omega), if_pos h]
 rw [e1]
 simp [keepAt, h]
theorem row_all {p : Nat × Nat} (h : p.2 ≠ 0) (l : List GEvent) : keptRow p l = l.zipIdx.map fun q => if q.2 + 1 = l.length then keepE (p.2 ||| p.1) (timeB p.1) q.1 else keepE p.2 false q.1 := by
 unfold keptRow
 rw [if_neg (fun e => h (by rw [e]))]
 have : ∀ m : List (GEvent × Nat), m.flatMap (keepAt p l.length) = m.map fun q => if q.2 + 1 = l.length then keepE (p.2 ||| p.1) (timeB p.1) q.1 else keepE p.2 false q.1 := fun m => by
  induction m with
  | nil => rfl
  | cons q m ih =>
   rw [List.flatMap_cons, List.map_cons, ih]
   unfold keepAt
   split
   ·rfl
   ·rfl
 exact this _
theorem keptRow_keptRow {p q : Nat × Nat} (p1 : p.1 < 512) (p2 : p.2 < 512) (q1 : q.1 < 512) (q2 : q.2 < 512) (h : bor p q = q) (l : List GEvent) : keptRow p (keptRow q l) = keptRow p l := by
 have hb1 : p.1 ||| q.1 = q.1 := congrArg Prod.fst h
 have hb2 : p.2 ||| q.2 = q.2 := congrArg Prod.snd h
 have hb3 : (p.2 ||| p.1) ||| (q.2 ||| q.1) = q.2 ||| q.1 := by
  rw [Nat.or_assoc, ← Nat.or_assoc p.1 q.2 q.1, Nat.or_comm p.1 q.2, Nat.or_assoc q.2 p.1 q.1, ← Nat.or_assoc p.2, hb2, hb1]
 have ht : timeB p.1 = true → timeB q.1 = true := by
  rw [time_test p1, time_test q1]; exact test_le hb1
 by_cases h0 : p = (0, 0)
 ·unfold keptRow; rw [if_pos h0, if_pos h0]
 ·have hq0 : q ≠ (0, 0) := fun e => h0 (bor_eq_zero.1 (h.trans e)).1
  by_cases hq2 : q.2 = 0
  ·have hp2 : p.2 = 0 := by rw [hq2] at hb2; exact (or_eq_zero.1 hb2).1
   rcases List.eq_nil_or_concat l with rfl | ⟨pre, x, hl⟩
   ·have : keptRow q [] = [] := by unfold keptRow; rw [if_neg hq0]; rfl
    rw [this]
   ·rw [List.concat_eq_append] at hl
    rw [hl, row_last hq0 hq2, row_last h0 hp2]
    have := row_last h0 hp2 [] (keepE q.1 (timeB q.1) x)
    rw [List.nil_append] at this
    rw [this, keepE_keepE p1 q1 hb1 ht]
  ·rw [row_all hq2]
   have hz := zipIdx_map (fun z : GEvent × Nat => if z.2 + 1 = l.length then keepE (q.2 ||| q.1) (timeB q.1) z.1 else keepE q.2 false z.1) l
   unfold keptRow
   rw [if_neg h0, if_neg h0, hz, List.flatMap_map, List.length_map, List.length_zipIdx]
   have : ∀ m : List (GEvent × Nat), m.flatMap (fun z => keepAt p l.length ((if z.2 + 1 = l.length then keepE (q.2 ||| q.1) (timeB q.1) z.1 else keepE q.2 false z.1), z.2)) = m.flatMap (keepAt p l.length) := fun m => by
    induction m with
    | nil => rfl
    | cons z m ih =>
     rw [List.flatMap_cons, List.flatMap_cons, ih]
     congr 1
     unfold keepAt
     by_cases hz : z.2 + 1 = l.length
     ·simp only [hz, if_true]
      rw [keepE_keepE (or_lt p2 p1) (or_lt q2 q1) hb3 ht]
     ·simp only [hz, if_false]
      by_cases hp2 : p.2 = 0
      ·rw [if_pos hp2, if_pos hp2]
      ·rw [if_neg hp2, if_neg hp2, keepE_keepE p2 q2 hb2 (fun h => h)]
   exact this _
theorem kept_kept {f h : NF} (fo : f.ok) (ho : h.ok) (hj : f.join h = h) (e : GEnv) : keptP f (keptP h e) = keptP f e := by
 unfold keptP
 simp only [GEnv.mk.injEq]
 rw [zipIdx_map (fun q : List GEvent × Nat => keptRow (h (q.2 : Int)) q.1) e.Vars, List.map_map]
 exact List.map_congr_left fun q _ => keptRow_keptRow (fo _).1 (fo _).2 (ho _).1 (ho _).2 (congrFun hj _) q.1
theorem chkF_canon {f : NF} (ho : f.ok) : ∀ {ks : List Int} {p : Int}, (∀ v ∈ ks, p < v ∧ 0 ≤ v ∧ v < 16 ∧ f v ≠ (0, 0)) → ks.Pairwise (· < ·) → chkF p (ks.map fun v => need v (f v)) = 0
 | [], _, _, _ => rfl
 | v :: ks, p, h, hp => by
  rw [List.pairwise_cons] at hp
  obtain ⟨a1, a2, a3, a4⟩ := h v (by simp)
  have o1 := (ho v).1
  have o2 := (ho v).2
  have e1 : (need v (f v)).Last = ((f v).1 : Int) := rfl
  have e2 : (need v (f v)).All = ((f v).2 : Int) := rfl
  have e3 : (need v (f v)).Var = v := rfl
  have hc : chk1 p (need v (f v)) = 0 := by
   unfold chk1
   rw [e1, e2, e3, if_neg (by omega), if_neg (by omega), if_neg]
   rintro ⟨h1, h2⟩
   exact a4 (Prod.ext (Int.ofNat.inj h1) (Int.ofNat.inj h2))
  rw [List.map_cons]
  unfold chkF
  rw [if_pos hc, e3]
  exact chkF_canon ho (fun w hw => ⟨hp.1 w hw, (h w (by simp [hw])).2⟩) hp.2
theorem chkN_canon {f : NF} (ho : f.ok) (hs : f.sup) : chkN (canon f) = 0 := by
 unfold chkN
 have := canon_len f
 rw [if_neg (by omega)]
 exact chkF_canon ho (fun v hv => by
  have h1 := (mem_keys hs).1 hv
  have h2 := hs v h1
  exact ⟨by omega, h2.1, h2.2, h1⟩) (keys_lt f)
end
end Go.Ab

namespace Go.Ab
noncomputable section
open Classical
theorem reduce_eq {N : Nat} (hN : 40000000 ≤ N) {f : NF} (ho : f.ok) (hs : f.sup) {e : GEnv} (he : fewE e = true) : registers_Reduce N (canon f) e = some (keptP f e, 0) := by
 unfold registers_Reduce
 rw [check_eq hN, chkN_canon ho hs]
 simp only [Option.bind_some]
 rw [if_neg (by rw [cmp_neq]; decide), reduced_eq hN ho hs he]; rfl
theorem agree_eq {N : Nat} (hN : 40000000 ≤ N) {f : NF} (ho : f.ok) (hs : f.sup) {a b : GEnv} (ha : fewE a = true) (hb : fewE b = true) : registers_Agree N (canon f) a b = some (decide (keptP f a = keptP f b), 0) := by
 unfold registers_Agree
 rw [check_eq hN, chkN_canon ho hs]
 simp only [Option.bind_some]
 have hk := fewE_small (kept_few (f := f) ha)
 rw [if_neg (by rw [cmp_neq]; decide), reduced_eq hN ho hs ha, reduced_eq hN ho hs hb]
 simp only [Option.bind_some]
 have h2 : slices_EqualFunc_LEvent_LEvent_LEvent_LEvent N (keptP f a).Vars (keptP f b).Vars (fun y1 y2 => registers_Agree_1 N y1 y2) = some (decide ((keptP f a).Vars = (keptP f b).Vars)) := by
  refine equal_func hN hk.1 (p := fun y1 y2 => registers_Agree_1 N y1 y2) (fun x y hx => ?_) rfl
  unfold registers_Agree_1
  have h3 : slices_EqualFunc_LEvent_LEvent_Event_Event N x y (fun y1 y2 => registers_same N y1 y2) = some (decide (x = y)) := by
   refine equal_func hN (hk.2 x hx).1 (p := fun y1 y2 => registers_same N y1 y2) (fun e g he => ?_) rfl
   exact equal_event hN ((hk.2 x hx).2 e he)
  rw [h3]; rfl
 rw [h2]
 simp only [Option.bind_some]
 have : ((keptP f a).Vars = (keptP f b).Vars) ↔ keptP f a = keptP f b := ⟨fun k => by cases h1 : keptP f a; cases h2 : keptP f b; rw [h1, h2] at k; simpa using k, fun k => by rw [k]⟩
 rw [decide_eq_decide.2 this]
end
end Go.Ab

