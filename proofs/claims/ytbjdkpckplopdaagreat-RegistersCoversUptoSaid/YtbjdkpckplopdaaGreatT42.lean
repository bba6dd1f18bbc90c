/- GSL6 GSL7 GSL8 GSL9 -/
import Derived.Test.YtbjdkpckplopdaaGreatT41
import Derived.KernelRfl
set_option linter.all false

namespace Go.Ab
theorem gt511 (x : Int) : Ar.cmp .gtr x 511 = Ar.cmp .geq x 512 := by
 rw [cmp_gtr, cmp_geq]; exact decide_eq_decide.2 (by omega)
def chk1 (p : Int) (x : GNeed) : Int := if x.Var < 0 ∨ 16 ≤ x.Var ∨ x.Last < 0 ∨ 512 ≤ x.Last ∨ x.All < 0 ∨ 512 ≤ x.All then 2 else if x.Var ≤ p then 14 else if x.Last = 0 ∧ x.All = 0 then 3 else 0
def chkF : Int → List GNeed → Int
 | _, [] => 0
 | p, x :: l => if chk1 p x = 0 then chkF x.Var l else chk1 p x
def chkN (l : List GNeed) : Int := if 16 < l.length then 5 else chkF (-1) l
def lastV (l : List GNeed) : Int := match l.getLast? with | some x => x.Var | none => -1
theorem check_loop {step : Int → Option (Int ⊕ (Unit ⊕ Int))} {l : List GNeed} (h16 : l.length ≤ 16)
 (hend : step (l.length : Int) = some (.inr (.inl ())))
 (hstep : ∀ (p : List GNeed) (x : GNeed) (r : List GNeed), l = p ++ x :: r → step (p.length : Int) = some (if chk1 (lastV p) x = 0 then .inl ((p.length : Int) + 1) else .inr (.inr (chk1 (lastV p) x)))) :
 ∀ (r p : List GNeed) (N : Nat), l = p ++ r → r.length < N → loopN step N (p.length : Int) = some (if chkF (lastV p) r = 0 then .inl () else .inr (chkF (lastV p) r))
 | [], p, N, hl, hN => by
  obtain ⟨N, rfl⟩ : ∃ M, N = M + 1 := ⟨N - 1, by simp at hN; omega⟩
  have e : p.length = l.length := by rw [hl]; simp
  unfold loopN
  rw [e, hend]; rfl
 | x :: r, p, N, hl, hN => by
  obtain ⟨N, rfl⟩ : ∃ M, N = M + 1 := ⟨N - 1, by simp at hN; omega⟩
  have ih := check_loop h16 hend hstep r (p ++ [x]) N (by rw [hl]; simp) (by simp at hN; omega)
  have e1 : lastV (p ++ [x]) = x.Var := by unfold lastV; simp
  have e2 : ((p ++ [x]).length : Int) = (p.length : Int) + 1 := by simp
  rw [e1, e2] at ih
  unfold loopN
  rw [hstep p x r hl]
  by_cases h : chk1 (lastV p) x = 0
  ·rw [if_pos h]
   dsimp only
   rw [ih]
   have : chkF (lastV p) (x :: r) = chkF x.Var r := if_pos h
   rw [this]
  ·rw [if_neg h]
   dsimp only
   have : chkF (lastV p) (x :: r) = chk1 (lastV p) x := if_neg h
   rw [this, if_neg h]
theorem check_eq {N : Nat} (hN : 40000000 ≤ N) (l : List GNeed) : registers_Check N l = some (chkN l) := by
 unfold registers_Check chkN
 simp only [gt511]
 by_cases h : 16 < l.length
 ·rw [if_pos (by rw [cmp_gtr, len_def]; exact decide_eq_true (by omega)), if_pos h]
 ·rw [if_neg (by rw [cmp_gtr, len_def]; simp; omega), if_neg h]
  have key := check_loop (l := l) (by omega) (step := ?_) ?_ ?_ l [] N rfl (by omega)
  rotate_left
  ·exact (fun (s1 : Int) =>
    (
     if Ar.cmp .lss s1 (Ar.len l) = true then
      (idxL l s1).bind fun x3 =>
      if Ar.or (Ar.or (Ar.or (Ar.or (Ar.or (Ar.cmp .lss x3.Var 0) (Ar.cmp .geq x3.Var 16)) (Ar.cmp .lss x3.Last 0)) (Ar.cmp .geq x3.Last 512)) (Ar.cmp .lss x3.All 0)) (Ar.cmp .geq x3.All 512) = true then
       some (.inr (.inr 2))
      else
       if Ar.cmp .gtr s1 0 = true then
        (idxL l (Ar.ar .sub .i64 s1 1)).bind fun x4 =>
        if Ar.cmp .leq x3.Var x4.Var = true then
         some (.inr (.inr 14))
        else
         if Ar.an (Ar.cmp .eql x3.Last 0) (Ar.cmp .eql x3.All 0) = true then
          some (.inr (.inr 3))
         else
          some (.inl (Ar.ar .add .i64 s1 1))
       else
        if Ar.an (Ar.cmp .eql x3.Last 0) (Ar.cmp .eql x3.All 0) = true then
         some (.inr (.inr 3))
        else
         some (.inl (Ar.ar .add .i64 s1 1))
     else
      some (.inr (.inl ()))
     : Option ((Int) ⊕ (Unit ⊕ Int))))
  ·rw [if_neg (by rw [cmp_lss, len_def]; simp)]
  ·intro p x r hl
   have hp : p.length < l.length := by rw [hl]; simp
   have hi : l[p.length]? = some x := by rw [hl]; simp
   rw [if_pos (by rw [cmp_lss, len_def]; exact decide_eq_true (by omega)), idx_at, hi]
   simp only [Option.bind_some]
   unfold chk1
   have hb : (Ar.or (Ar.or (Ar.or (Ar.or (Ar.or (Ar.cmp .lss x.Var 0) (Ar.cmp .geq x.Var 16)) (Ar.cmp .lss x.Last 0)) (Ar.cmp .geq x.Last 512)) (Ar.cmp .lss x.All 0)) (Ar.cmp .geq x.All 512) = true) ↔ (x.Var < 0 ∨ 16 ≤ x.Var ∨ x.Last < 0 ∨ 512 ≤ x.Last ∨ x.All < 0 ∨ 512 ≤ x.All) := by
    simp only [or_def, cmp_lss, cmp_geq, Bool.or_eq_true, decide_eq_true_eq, or_assoc]
   have hz : (Ar.an (Ar.cmp .eql x.Last 0) (Ar.cmp .eql x.All 0) = true) ↔ (x.Last = 0 ∧ x.All = 0) := by
    simp only [an_def, cmp_eql, Bool.and_eq_true, decide_eq_true_eq]
   by_cases h1 : x.Var < 0 ∨ 16 ≤ x.Var ∨ x.Last < 0 ∨ 512 ≤ x.Last ∨ x.All < 0 ∨ 512 ≤ x.All
   ·rw [if_pos (hb.2 h1), if_pos h1, if_neg (by decide)]
   ·rw [if_neg (fun e => h1 (hb.1 e)), if_neg h1]
    have hadd : Ar.ar .add .i64 (p.length : Int) 1 = (p.length : Int) + 1 := add_i64 (by omega) (by omega)
    rcases List.eq_nil_or_concat p with rfl | ⟨q, y, rfl⟩
    ·have e1 : lastV ([] : List GNeed) = -1 := rfl
     rw [if_neg (by rw [cmp_gtr]; simp), hadd, e1, if_neg (show ¬ x.Var ≤ -1 by omega)]
     by_cases h3 : x.Last = 0 ∧ x.All = 0
     ·rw [if_pos (hz.2 h3), if_pos h3, if_neg (by decide)]
     ·rw [if_neg (fun e => h3 (hz.1 e)), if_neg h3]; rfl
    ·have e1 : lastV (q ++ [y]) = y.Var := by unfold lastV; simp
     have e2 : ((q ++ [y]).length : Int) = (q.length : Int) + 1 := by simp
     have e3 : l[q.length]? = some y := by rw [hl]; simp
     rw [List.concat_eq_append] at *
     rw [e1]
     rw [if_pos (by rw [cmp_gtr]; exact decide_eq_true (by omega))]
     have e4 : Ar.ar .sub .i64 ((q ++ [y]).length : Int) 1 = (q.length : Int) := by
      rw [e2]
      have : Ar.ar .sub .i64 ((q.length : Int) + 1) 1 = ((q.length : Int) + 1) - 1 := wrap_i64 (by omega) (by omega)
      rw [this]; omega
     rw [e4, idx_at, e3]
     simp only [Option.bind_some]
     by_cases h2 : x.Var ≤ y.Var
     ·rw [if_pos (by rw [cmp_leq]; exact decide_eq_true h2), if_pos h2, if_neg (by decide)]
     ·rw [if_neg (by rw [cmp_leq]; simpa using h2), if_neg h2, hadd]
      by_cases h3 : x.Last = 0 ∧ x.All = 0
      ·rw [if_pos (hz.2 h3), if_pos h3, if_neg (by decide)]
      ·rw [if_neg (fun e => h3 (hz.1 e)), if_neg h3]; rfl
  ·have e : lastV [] = -1 := rfl
   rw [e] at key
   show (loopN _ N (([] : List GNeed).length : Int)).bind _ = _
   rw [key]
   by_cases h0 : chkF (-1) l = 0
   ·rw [if_pos h0, h0]; rfl
   ·rw [if_neg h0]; rfl
def rowsOf (f : NF) : List (Int × GNeed) := (keysOf' f).map fun v => (v, need v (f v))
theorem rowsOf_map {f : NF} (ho : f.ok) (hs : f.sup) : MapR (rowsOf f) f := by
 have hk : (rowsOf f).map (·.1) = keysOf' f := by
  unfold rowsOf; rw [List.map_map]; exact List.map_id _
 have hn : ((rowsOf f).map (·.1)).Nodup := by rw [hk]; exact (keys_lt f).imp fun h => by omega
 refine ⟨hn, fun v => ?_, ho⟩
 by_cases h : f v = (0, 0)
 ·rw [if_pos h, lkN_none, hk, mem_keys hs]
  exact fun k => k h
 ·rw [if_neg h]
  exact (lkN_mem hn (v, need v (f v))).2 (List.mem_map.2 ⟨v, (mem_keys hs).2 h, rfl⟩)
theorem table_law {N : Nat} (hN : 40000000 ≤ N) {f : NF} (ho : f.ok) (hs : f.sup) : ∃ m, registers_table N (canon f) = some m ∧ MapR m f := by
 have hl := canon_len f
 have key : ∀ (ks : List Int) (m : List (Int × GNeed)) (g : NF), MapR m g → ∃ m', rangeL (R := List (Int × GNeed)) (fun m x => (registers_needs_add N m x).bind fun a => some (.inl a.2)) (ks.map fun v => need v (f v)) m = some (.inl m') ∧ MapR m' (g.join (gl f (ks.map fun v => (v, need v (f v))))) := by
  intro ks
  induction ks with
  | nil => intro m g hm; refine ⟨m, rfl, ?_⟩; show MapR m (g.join .zero); rw [NF.join_zero]; exact hm
  | cons v ks ih =>
   intro m g hm
   obtain ⟨m1, h1, h2⟩ := add_mapR (N := N) hm (v := v) (p := f v) (ho v).1 (ho v).2
   obtain ⟨m2, h3, h4⟩ := ih m1 _ h2
   refine ⟨m2, ?_, ?_⟩
   ·rw [List.map_cons]
    unfold rangeL
    rw [h1]
    exact h3
   ·rw [NF.join_assoc] at h4; exact h4
 obtain ⟨m, h1, h2⟩ := key (keysOf' f) [] .zero .nil
 rw [NF.zero_join, show (keysOf' f).map (fun v => (v, need v (f v))) = rowsOf f from rfl, gl_eq (rowsOf_map ho hs)] at h2
 refine ⟨m, ?_, h2⟩
 unfold registers_table
 rw [loop_list (canon f) (by omega) (fun (s : List (Int × GNeed)) i => (i, s)) (fun m x => (registers_needs_add N m x).bind fun a => some (.inl a.2)) (fun s => s) [] (by omega) ?_ ?_]
 ·have : canon f = (keysOf' f).map fun v => need v (f v) := rfl
  rw [this, h1]; rfl
 ·intro s i x hx hi
  try dsimp only
  rw [if_pos (by rw [cmp_lss, len_def]; simpa using hi), idx_at, hx]
  simp only [Option.bind_some]
  rw [add_i64 (by omega) (by omega)]
  cases registers_needs_add N s x <;> rfl
 ·intro s
  try dsimp only
  rw [if_neg (by rw [cmp_lss, len_def]; simp)]
end Go.Ab

namespace Go.Ab
noncomputable section
def bitA (p : Nat) (b : Nat) : Int := Ar.ar .and .i64 (Ar.sh .shr .i64 (p : Int) (b : Int)) 1
theorem bits_all : (List.range 512).all (fun p => (List.range 9).all fun b => decide (0 ≤ bitA p b) && decide (bitA p b ≤ 1)) = true := by kernel_rfl
theorem bit_le {p b : Nat} (h : p < 512) (hb : b < 9) : 0 ≤ bitA p b ∧ bitA p b ≤ 1 := by
 have := List.all_eq_true.1 (List.all_eq_true.1 bits_all p (List.mem_range.2 h)) b (List.mem_range.2 hb)
 simpa using this
end
end Go.Ab

namespace Go.Ab
end Go.Ab

namespace Go.Ab
noncomputable section
theorem loop_idx {S σ R α : Type} (l : List α) (hl : l.length < 1000000000000) {step : S → Option (S ⊕ R)} (mk : σ → Int → S) (body : σ → α × Nat → Option (σ ⊕ R)) (fin : σ → R) (s : σ) {N : Nat} (hN : l.length < N)
 (hstep : ∀ s (i : Nat) x, l[i]? = some x → (i : Int) < l.length → step (mk s i) = (body s (x, i)).bind fun o => match o with | .inl s' => some (.inl (mk s' (i + 1))) | .inr r => some (.inr r))
 (hend : ∀ s, step (mk s l.length) = some (.inr (fin s))) : loopN step N (mk s 0) = (rangeL body l.zipIdx s).bind fun o => match o with | .inl s => some (fin s) | .inr r => some r := by
 have e : l.zipIdx.length = l.length := by simp
 refine loop_list l.zipIdx (by omega) mk body fin s (by omega) (fun s i q hq hi => ?_) (fun s => by rw [e]; exact hend s)
 rw [List.getElem?_zipIdx] at hq
 cases hx : l[i]? with
 | none => rw [hx] at hq; cases hq
 | some x =>
  rw [hx] at hq
  simp only [Option.map_some, Option.some.injEq, Nat.zero_add] at hq
  subst hq
  exact hstep s i x hx (by omega)
theorem loop_zip {S σ R α β : Type} (l : List α) (m : List β) (hlm : l.length = m.length) (hl : l.length < 1000000000000) {step : S → Option (S ⊕ R)} (mk : σ → Int → S) (body : σ → α × β → Option (σ ⊕ R)) (fin : σ → R) (s : σ) {N : Nat} (hN : l.length < N)
 (hstep : ∀ s (i : Nat) x y, l[i]? = some x → m[i]? = some y → (i : Int) < l.length → step (mk s i) = (body s (x, y)).bind fun o => match o with | .inl s' => some (.inl (mk s' (i + 1))) | .inr r => some (.inr r))
 (hend : ∀ s, step (mk s l.length) = some (.inr (fin s))) : loopN step N (mk s 0) = (rangeL body (l.zip m) s).bind fun o => match o with | .inl s => some (fin s) | .inr r => some r := by
 have e : (l.zip m).length = l.length := by rw [List.length_zip]; omega
 refine loop_list (l.zip m) (by omega) mk body fin s (by omega) (fun s i q hq hi => ?_) (fun s => by rw [e]; exact hend s)
 obtain ⟨x, y⟩ := q
 rw [List.getElem?_zip_eq_some] at hq
 exact hstep s i x y hq.1 hq.2 (by omega)
theorem range_all {α R : Type} {body : Unit → α → Option (Unit ⊕ R)} {p : α → Bool} {r : R} : ∀ {l : List α}, (∀ x ∈ l, body () x = some (if p x = true then .inl () else .inr r)) → rangeL body l () = some (if l.all p = true then .inl () else .inr r)
 | [], _ => rfl
 | x :: l, h => by
  unfold rangeL
  rw [h x (by simp), List.all_cons]
  by_cases hx : p x = true
  ·rw [if_pos hx, hx]
   dsimp only
   rw [range_all fun y hy => h y (by simp [hy])]
   rfl
  ·rw [if_neg hx]
   dsimp only
   rw [Bool.not_eq_true] at hx
   rw [hx]; rfl
theorem range_mapR {α β R : Type} {body : List β → α → Option (List β ⊕ R)} {g : α → β} : ∀ {l : List α} {s : List β}, (∀ s x, x ∈ l → s.length ≤ 1000 → body s x = some (.inl (s ++ [g x]))) → s.length + l.length ≤ 1000 → rangeL body l s = some (.inl (s ++ l.map g))
 | [], s, _, _ => by simp [rangeL]
 | x :: l, s, h, hl => by
  simp only [List.length_cons] at hl
  unfold rangeL
  rw [h s x (by simp) (by omega)]
  dsimp only
  rw [range_mapR (fun s y hy h2 => h s y (by simp [hy]) h2) (by simp; omega)]
  simp
def fewRow12 (l : List GEvent) : Bool := decide (l.length ≤ 12) && l.all fun e => decide (e.Values.length ≤ 10)
def fewE12 (env : GEnv) : Bool := decide (env.Vars.length ≤ 20) && env.Vars.all fewRow12
theorem few_env_eq12 {N : Nat} (hN : 40000000 ≤ N) (env : GEnv) : ∃ b, ref08_FewEnv N env = some b ∧ (b = true → fewE12 env = true) := by
 have hlen : (env.Vars.take 20).length ≤ 20 := by rw [List.length_take]; omega
 unfold ref08_FewEnv
 rw [loop_list (env.Vars.take 20) (by omega) (fun (_ : Unit) i => i) (fun _ x => some (if fewRow12 x = true then .inl () else .inr (.inr ()))) (fun _ => .inl ()) () (by omega) ?_ ?_]
 ·rw [range_all (p := fewRow12) (r := .inr ()) (fun x _ => rfl)]
  simp only [Option.bind_some]
  by_cases h : (env.Vars.take 20).all fewRow12 = true
  ·rw [if_pos h]
   refine ⟨_, rfl, fun k => ?_⟩
   rw [cmp_leq, len_def] at k
   have k : env.Vars.length ≤ 20 := by have := of_decide_eq_true k; omega
   unfold fewE12
   rw [List.take_of_length_le k] at h
   rw [h]; simpa using k
  ·rw [if_neg h]
   exact ⟨_, rfl, fun k => by cases k⟩
 ·intro s i x hx hi
  rw [List.length_take] at hi
  rw [List.getElem?_take_of_lt (by omega)] at hx
  have hx' : idxL env.Vars (i : Int) = some x := by rw [idx_at, hx]
  try dsimp only
  rw [if_pos (by rw [an_def, cmp_lss, cmp_lss, len_def, Bool.and_eq_true]; exact ⟨decide_eq_true (by omega), decide_eq_true (by omega)⟩), hx']
  simp only [Option.bind_some]
  unfold fewRow12
  by_cases h12 : x.length ≤ 12
  ·rw [if_neg (by rw [cmp_gtr, len_def]; simp; omega)]
   rw [loop_list x (by omega) (fun (_ : Unit) i => i) (fun _ e => some (if decide (e.Values.length ≤ 10) = true then .inl () else .inr (.inr ()))) (fun _ => .inl ()) () (by omega) ?_ ?_]
   ·rw [range_all (p := fun e : GEvent => decide (e.Values.length ≤ 10)) (r := .inr ()) (fun x _ => rfl)]
    simp only [Option.bind_some, decide_eq_true h12, Bool.true_and]
    by_cases h : (x.all fun e => decide (e.Values.length ≤ 10)) = true
    ·rw [if_pos h]
     dsimp only [Option.bind_some]
     rw [add_i64 (by omega) (by omega)]
    ·rw [if_neg h]; rfl
   ·intro s j e he hj
    try dsimp only
    rw [if_pos (by rw [cmp_lss, len_def]; exact decide_eq_true (by omega)), idx_at, he]
    simp only [Option.bind_some]
    by_cases h10 : e.Values.length ≤ 10
    ·rw [if_neg (by rw [cmp_gtr, len_def]; simp; omega), if_pos (decide_eq_true h10), add_i64 (by omega) (by omega)]
    ·rw [if_pos (by rw [cmp_gtr, len_def]; simp; omega), if_neg (by simpa using h10)]
   ·intro s
    try dsimp only
    rw [if_neg (by rw [cmp_lss, len_def]; simp)]
  ·rw [if_pos (by rw [cmp_gtr, len_def]; simp; omega), if_neg (by rw [decide_eq_false h12]; simp)]
 ·intro s
  try dsimp only
  rw [if_neg]
  rw [an_def, cmp_lss, cmp_lss, len_def, List.length_take]
  simp only [Bool.and_eq_true, decide_eq_true_eq]
  omega
def fewRow (l : List GEvent) : Bool := decide (l.length ≤ 13) && l.all fun e => decide (e.Values.length ≤ 10)
def fewE (env : GEnv) : Bool := decide (env.Vars.length ≤ 20) && env.Vars.all fewRow
theorem few_less {env : GEnv} (h : fewE12 env = true) : fewE env = true := by
 unfold fewE12 at h
 unfold fewE
 rw [Bool.and_eq_true, List.all_eq_true] at h ⊢
 refine ⟨h.1, fun l hl => ?_⟩
 have := h.2 l hl
 unfold fewRow12 at this
 unfold fewRow
 rw [Bool.and_eq_true, decide_eq_true_eq] at this ⊢
 exact ⟨by omega, this.2⟩
def zV : GValue := ⟨0, 0, ⟨#[]⟩⟩
def keepV (p : Nat) (q : GValue × Nat) : GValue := if q.2 < 8 ∧ bitA p q.2 = 1 then q.1 else zV
def keepE (p : Nat) (b : Bool) (e : GEvent) : GEvent := ⟨0, 0, 0, if b = true then e.Time else 0, e.Values.zipIdx.map (keepV p)⟩
theorem event1 {N : Nat} (hN : 40000000 ≤ N) {p : Nat} (hp : p < 512) (b : Bool) {e : GEvent} (he : e.Values.length ≤ 10) : registers_reducedEvent N e (p : Int) b = some (keepE p b e) := by
 unfold registers_reducedEvent
 have h0 : ((if b = true then some (⟨0, 0, 0, e.Time, []⟩ : GEvent) else some (⟨0, 0, 0, 0, []⟩ : GEvent)) : Option GEvent) = some ⟨0, 0, 0, if b = true then e.Time else 0, []⟩ := by
  by_cases h : b = true
  ·rw [if_pos h, if_pos h]
  ·rw [if_neg h, if_neg h]
 rw [h0]
 simp only [Option.bind_some]
 rw [loop_idx e.Values (by omega) (fun (s : List GValue) i => ((i, ⟨0, 0, 0, if b = true then e.Time else 0, s⟩) : Int × GEvent)) (fun s q => (appL s [keepV p q]).bind fun l => some (.inl l)) (fun s => ⟨0, 0, 0, if b = true then e.Time else 0, s⟩) [] (by omega) ?_ ?_]
 ·rw [range_mapR (g := keepV p) (fun s x _ h2 => by unfold appL; rw [if_pos (by simp; omega)]; rfl) (by simp; omega)]
  rfl
 ·intro s i x hx hi
  try dsimp only
  rw [if_pos (by rw [cmp_lss, len_def]; exact decide_eq_true (by omega)), idx_at, hx]
  simp only [Option.bind_some]
  rw [add_i64 (a := (i : Int)) (by omega) (by omega)]
  by_cases h8 : i < 8
  ·have hr : req (Ar.cmp .geq (i : Int) 0) = some () := if_pos (by rw [cmp_geq]; exact decide_eq_true (by omega))
   rw [if_neg (by rw [cmp_geq]; simp; omega), hr]
   simp only [Option.bind_some]
   have hb := bit_le hp (b := i) (by omega)
   by_cases h1 : bitA p i = 1
   ·rw [if_neg (by rw [cmp_eql]; show ¬ decide (bitA p i = 0) = true; rw [h1]; decide)]
    have : keepV p (x, i) = x := if_pos ⟨h8, h1⟩
    rw [this]
    simp only [Option.bind_some]
    cases appL s [x] <;> rfl
   ·rw [if_pos (by rw [cmp_eql]; show decide (bitA p i = 0) = true; exact decide_eq_true (by omega))]
    have : keepV p (x, i) = zV := if_neg fun h => h1 h.2
    rw [this]
    simp only [Option.bind_some]
    show (appL s [zV]).bind _ = _
    cases appL s [zV] <;> rfl
  ·rw [if_pos (by rw [cmp_geq]; exact decide_eq_true (by omega))]
   have : keepV p (x, i) = zV := if_neg fun h => h8 h.1
   rw [this]
   show (appL s [zV]).bind _ = _
   cases appL s [zV] <;> rfl
 ·intro s
  try dsimp only
  rw [if_neg (by rw [cmp_lss, len_def]; simp)]
end
end Go.Ab

