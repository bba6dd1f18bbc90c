/- GND5 GND6 -/
import Derived.Test.YtfeppncgdbbbeaaGreatDoorT37
set_option linter.all false

namespace Go.Ab
theorem eq_loop2 {α : Type} [DecidableEq α] {N : Nat} (l m : List α) (hl : l.length = m.length) (hs : l.length < 1000000000000) (t : α → α → Bool) (ht : ∀ x y, t x y = !decide (x = y)) (hN : l.length < N) :
 loopN (fun (i : Int) => if Ar.cmp .lss i (Ar.len l) = true then (idxL l i).bind fun x => (idxL m i).bind fun y => if t x y = true then some (Sum.inr (Sum.inr (α := Unit) ())) else some (.inl (Ar.ar .add .i64 i 1)) else some (.inr (.inl ()))) N 0 = some (if l = m then .inl () else .inr ()) := by
 have := eq_loop l m hl hs (fun x y => some (decide (x = y))) (fun _ _ _ _ => rfl) hN
 rw [← this]
 congr 1
 funext i
 simp only [Option.bind_some, ht, nt_def]
theorem glimit_eq {a b : GLimit} : a = b ↔ a.Scope = b.Scope ∧ a.Span = b.Span := by cases a; cases b; simp
theorem equalI {N : Nat} (l m : List Int) (hs : l.length < 1000000) (hN : l.length < N) : slices_Equal_Lint_int N l m = some (decide (l = m)) := by
 unfold slices_Equal_Lint_int
 by_cases hl : l.length = m.length
 ·rw [if_neg (by simp [cmp_neq, len_def, hl]), eq_loop2 l m hl (by omega) (fun x y => Ar.cmp .neq x y) (fun x y => rfl) hN]
  by_cases h : l = m <;> simp [h]
 rw [if_pos (by simp only [cmp_neq, len_def, Bool.not_eq_true', decide_eq_false_iff_not]; omega), decide_eq_false fun e => hl (by rw [e])]
theorem equalL {N : Nat} (l m : List GLimit) (hs : l.length < 1000000) (hN : l.length < N) : slices_Equal_LLimit_Limit N l m = some (decide (l = m)) := by
 unfold slices_Equal_LLimit_Limit
 by_cases hl : l.length = m.length
 ·rw [if_neg (by simp [cmp_neq, len_def, hl]), eq_loop2 l m hl (by omega) (fun x y => Ar.nt (Ar.an (Ar.cmp .eql x.Scope y.Scope) (Ar.an (Ar.cmp .eql x.Span y.Span) true))) (fun x y => by
   simp only [nt_def, an_def, cmp_eql, Bool.and_true, glimit_eq, Bool.decide_and]) hN]
  by_cases h : l = m <;> simp [h]
 rw [if_pos (by simp only [cmp_neq, len_def, Bool.not_eq_true', decide_eq_false_iff_not]; omega), decide_eq_false fun e => hl (by rw [e])]
theorem equalE {N : Nat} (hN : 40000000 ≤ N) (l m : List GExpr) (hs : l.length < 1000000) (hb : ∀ c ∈ l, c.bulk ≤ 16777216) : slices_EqualFunc_LExpr_LExpr_Expr_Expr N l m (fun y1 y2 => expr_Same N N y1 y2) = some (decide (l = m)) := by
 unfold slices_EqualFunc_LExpr_LExpr_Expr_Expr
 by_cases hl : l.length = m.length
 ·rw [if_neg (by simp [cmp_neq, len_def, hl]), eq_loop l m hl (by omega) _ (fun x hx y _ => by rw [same_same]; exact same8 hN N x y (by have := hb x hx; omega) (hb x hx)) (by omega)]
  by_cases h : l = m <;> simp [h]
 rw [if_pos (by simp only [cmp_neq, len_def, Bool.not_eq_true', decide_eq_false_iff_not]; omega), decide_eq_false fun e => hl (by rw [e])]
theorem gedge_eq {a b : GEdge} : a = b ↔ (a.From = b.From ∧ a.To = b.To) ∧ ((a.Var = b.Var ∧ a.Typ = b.Typ) ∧ a.Cond = b.Cond ∧ a.Opens = b.Opens ∧ a.Closes = b.Closes ∧ a.Checks = b.Checks ∧ a.Limits = b.Limits ∧ a.Inside = b.Inside) := by
 cases a; cases b; simp; constructor
 ·rintro ⟨h1, h2, h3, h4, h5, h6, h7, h8, h9, h10⟩; exact ⟨⟨h1, h2⟩, ⟨h3, h4⟩, h5, h6, h7, h8, h9, h10⟩
 rintro ⟨⟨h1, h2⟩, ⟨h3, h4⟩, h5, h6, h7, h8, h9, h10⟩; exact ⟨h1, h2, h3, h4, h5, h6, h7, h8, h9, h10⟩
theorem if_dec {p : Prop} [Decidable p] {q : Prop} [Decidable q] {F : Option Bool} (hF : F = some (decide q)) : (if p then F else some false) = some (decide (p ∧ q)) := by
 by_cases h : p <;> simp [h, hF]
theorem sameEdge_eq {N : Nat} (hN : 40000000 ≤ N) (a b : GEdge) (hs : Esz a 1000) (hc : a.Cond.bulk ≤ 16777216) (hk : ∀ c ∈ a.Checks, c.bulk ≤ 16777216) : derivative_sameEdge N a b = some (decide ((a.Var = b.Var ∧ a.Typ = b.Typ) ∧ a.Cond = b.Cond ∧ a.Opens = b.Opens ∧ a.Closes = b.Closes ∧ a.Checks = b.Checks ∧ a.Limits = b.Limits ∧ a.Inside = b.Inside)) := by
 obtain ⟨h1, h2, h3, h4, h5⟩ := hs
 unfold derivative_sameEdge
 rw [same_same, same8 hN N a.Cond b.Cond (by omega) hc, equalI a.Opens b.Opens (by omega) (by omega), equalI a.Closes b.Closes (by omega) (by omega), equalE hN a.Checks b.Checks (by omega) hk, equalL a.Limits b.Limits (by omega) (by omega), equalI a.Inside b.Inside (by omega) (by omega)]
 simp only [Option.bind_some, an_def, cmp_eql, Bool.and_eq_true, decide_eq_true_eq]
 rw [if_dec (if_dec (if_dec (if_dec (if_dec (if_dec rfl)))))]
theorem index_loop {α : Type} {N : Nat} (l : List α) (hs : l.length < 1000000000000) (f : α → Option Bool) (P : α → Bool) (hf : ∀ x ∈ l, f x = some (P x)) (hN : l.length < N) :
 loopN (fun (i : Int) => if Ar.cmp .lss i (Ar.len l) = true then (idxL l i).bind fun x => (f x).bind fun r => if r = true then some (Sum.inr (Sum.inr (α := Unit) i)) else some (.inl (Ar.ar .add .i64 i 1)) else some (.inr (.inl ()))) N 0 = some (match l.findIdx? P with | none => .inl () | some i => .inr (i : Int)) := by
 obtain ⟨r, h1, h2⟩ := loop_inv (step := fun (i : Int) => if Ar.cmp .lss i (Ar.len l) = true then (idxL l i).bind fun x => (f x).bind fun r => if r = true then some (Sum.inr (Sum.inr (α := Unit) i)) else some (.inl (Ar.ar .add .i64 i 1)) else some (.inr (.inl ())))
  (fun j s => s = (j : Int) ∧ ∀ i (h : i < l.length), i < j → P l[i] = false) (fun r => r = match l.findIdx? P with | none => .inl () | some i => .inr (i : Int)) l.length 0 0 N hN ⟨rfl, fun i h h2 => by omega⟩
  (fun j s _ hj ⟨e, ht⟩ => by
   subst e
   simp only [Nat.zero_add] at hj
   have e1 : l[j]? = some l[j] := by simp [hj]
   simp only [cmp_lss, len_def, show ((j : Int) < (l.length : Int)) by omega, decide_true, if_true, idx_at, e1, Option.bind_some, hf _ (List.getElem_mem hj)]
   cases h : P l[j] with
   | true =>
    refine ⟨_, rfl, ?_⟩
    have : l.findIdx? P = some j := by
     rw [List.findIdx?_eq_some_iff_getElem]
     exact ⟨hj, h, fun i hi => by simp [ht i (by omega) hi]⟩
    rw [this]
   | false =>
    refine ⟨_, rfl, inc_i64 (by omega), fun i hi h2 => ?_⟩
    by_cases hij : i = j
    ·subst hij; exact h
    exact ht i hi (by omega))
  (fun s ⟨e, ht⟩ => by
   subst e
   simp only [Nat.zero_add] at ht ⊢
   refine ⟨.inl (), by simp [cmp_lss, len_def], ?_⟩
   have : l.findIdx? P = none := by
    rw [List.findIdx?_eq_none_iff]
    intro x hx
    obtain ⟨i, hi, rfl⟩ := List.getElem_of_mem hx
    exact ht i hi hi
   rw [this])
 rw [h1, h2]
def idxI {α : Type} (P : α → Bool) (l : List α) : Int := match l.findIdx? P with | none => -1 | some i => (i : Int)
theorem indexP_eq {N : Nat} (l : List GPattern) (hs : l.length < 1000000000000) (f : GPattern → Option Bool) (P : GPattern → Bool) (hf : ∀ x ∈ l, f x = some (P x)) (hN : l.length < N) : slices_IndexFunc_LPattern_Pattern N l f = some (idxI P l) := by
 unfold slices_IndexFunc_LPattern_Pattern idxI
 rw [index_loop l hs f P hf hN]
 cases l.findIdx? P <;> rfl
theorem indexG_eq {N : Nat} (l : List GEdge) (hs : l.length < 1000000000000) (f : GEdge → Option Bool) (P : GEdge → Bool) (hf : ∀ x ∈ l, f x = some (P x)) (hN : l.length < N) : slices_IndexFunc_LEdge_Edge N l f = some (idxI P l) := by
 unfold slices_IndexFunc_LEdge_Edge idxI
 rw [index_loop l hs f P hf hN]
 cases l.findIdx? P <;> rfl
theorem idxI_nonneg {α : Type} {P : α → Bool} {l : List α} : 0 ≤ idxI P l ↔ ∃ x ∈ l, P x = true := by
 unfold idxI
 cases h : l.findIdx? P with
 | none =>
  rw [List.findIdx?_eq_none_iff] at h
  constructor
  ·intro h2; simp only at h2; omega
  rintro ⟨x, hx, hp⟩; rw [h x hx] at hp; cases hp
 | some i =>
  obtain ⟨hi, hp, _⟩ := List.findIdx?_eq_some_iff_getElem.1 h
  exact ⟨fun _ => ⟨_, List.getElem_mem hi, hp⟩, fun _ => by simp only; omega⟩
theorem idxI_neg {α : Type} {P : α → Bool} {l : List α} (h : ¬ ∃ x ∈ l, P x = true) : idxI P l = -1 := by
 unfold idxI
 have : l.findIdx? P = none := by
  rw [List.findIdx?_eq_none_iff]; intro x hx
  cases hp : P x with
  | false => rfl
  | true => exact absurd ⟨x, hx, hp⟩ h
 rw [this]
theorem idxI_at {α : Type} {P : α → Bool} {l : List α} (h : ∃ x ∈ l, P x = true) : ∃ (i : Nat) (hi : i < l.length), idxI P l = i ∧ P l[i] = true := by
 have h2 := idxI_nonneg.2 h
 unfold idxI at h2 ⊢
 cases hf : l.findIdx? P with
 | none => rw [hf] at h2; simp at h2
 | some i =>
  obtain ⟨hi, hp, _⟩ := List.findIdx?_eq_some_iff_getElem.1 hf
  exact ⟨i, hi, rfl, hp⟩
theorem idxI_app {α : Type} {P : α → Bool} {l m : List α} (h : ∃ x ∈ l, P x = true) : idxI P (l ++ m) = idxI P l := by
 have h2 := idxI_nonneg.2 h
 unfold idxI at h2 ⊢
 rw [List.findIdx?_append]
 cases hf : l.findIdx? P with
 | none => rw [hf] at h2; simp at h2
 | some i => rfl
theorem idxI_last {α : Type} {P : α → Bool} {l : List α} {x : α} (h : ¬ ∃ x ∈ l, P x = true) (hx : P x = true) : idxI P (l ++ [x]) = l.length := by
 unfold idxI
 have : l.findIdx? P = none := by
  rw [List.findIdx?_eq_none_iff]; intro x hx
  cases hp : P x with
  | false => rfl
  | true => exact absurd ⟨x, hx, hp⟩ h
 rw [List.findIdx?_append, this]
 simp [hx]
noncomputable abbrev idxP (l : List GPattern) (p : GPattern) : Int := idxI (fun q => decide (p = q)) l
theorem ex_eq {l : List GPattern} {p : GPattern} : (∃ x ∈ l, decide (p = x) = true) ↔ p ∈ l := by
 constructor
 ·rintro ⟨x, hx, h⟩; rw [of_decide_eq_true h]; exact hx
 intro h; exact ⟨p, h, by simp⟩
theorem derivative_index_eq {N : Nat} (hN : 40000000 ≤ N) (l : List GPattern) (p : GPattern) (hl : l.length ≤ 1000000) (hp : p.bulk ≤ 16777216) : derivative_index N l p = some (idxP l p) := by
 unfold derivative_index
 rw [indexP_eq l (by omega) _ (fun q => decide (p = q)) (fun x _ => by unfold derivative_index_1; rw [sameP hN N p x (by omega) hp]; rfl) (by omega)]
 rfl
theorem idxP_inj {l : List GPattern} {p q : GPattern} (hp : p ∈ l) (h : idxP l p = idxP l q) : p = q := by
 have hq : q ∈ l := by
  rw [← ex_eq]; rw [← idxI_nonneg]; show 0 ≤ idxP l q; rw [← h]; exact idxI_nonneg.2 (ex_eq.2 hp)
 obtain ⟨i, hi, e1, e2⟩ := idxI_at (ex_eq.2 hp)
 obtain ⟨j, hj, e3, e4⟩ := idxI_at (ex_eq.2 hq)
 have : i = j := by rw [show idxP l p = idxI (fun q => decide (p = q)) l from rfl, e1, show idxP l q = idxI (fun r => decide (q = r)) l from rfl, e3] at h; omega
 subst this
 rw [of_decide_eq_true e2, of_decide_eq_true e4]
noncomputable def rstep (l : List GPattern) (y : Pr) : List GPattern := if y.2.done = true then l else wth l y.2.p
noncomputable def rests (w : List Pr) : List GPattern := w.foldl rstep []
noncomputable def toOf (l : List GPattern) (r : Gderivative_rest) : Int := if r.done = true then -1 else idxP l r.p
noncomputable def eg (l : List GPattern) (y : Pr) : GEdge := { y.1 with To := toOf l y.2 }
theorem rests_snoc (w : List Pr) (y : Pr) : rests (w ++ [y]) = rstep (rests w) y := by simp [rests, List.foldl_append]
theorem rstep_sub {l : List GPattern} {y : Pr} {p : GPattern} (h : p ∈ l) : p ∈ rstep l y := by unfold rstep; split; exact h; exact wth_mem.2 (.inl h)
theorem rstep_has {l : List GPattern} {y : Pr} (h : ¬ y.2.done = true) : y.2.p ∈ rstep l y := by unfold rstep; rw [if_neg h]; exact wth_mem.2 (.inr rfl)
theorem foldl_rstep_sub {p : GPattern} : ∀ {w : List Pr} {l : List GPattern}, p ∈ l → p ∈ w.foldl rstep l
 | [], l, h => h
 | y :: w, l, h => foldl_rstep_sub (w := w) (rstep_sub h)
theorem rests_has {w : List Pr} {y : Pr} (hy : y ∈ w) (h : ¬ y.2.done = true) : y.2.p ∈ rests w := by
 have key : ∀ (w : List Pr) (l : List GPattern), y ∈ w → y.2.p ∈ w.foldl rstep l := fun w => by
  induction w with
  | nil => intro l h; simp at h
  | cons z w ih =>
   intro l hy
   rcases List.mem_cons.1 hy with rfl | hy
   ·exact foldl_rstep_sub (l := rstep l y) (rstep_has h)
   exact ih _ hy
 exact key w [] hy
theorem rests_mem {w : List Pr} {p : GPattern} (h : p ∈ rests w) : ∃ y ∈ w, ¬ y.2.done = true ∧ y.2.p = p := by
 have key : ∀ (w : List Pr) (l : List GPattern), p ∈ w.foldl rstep l → p ∈ l ∨ ∃ y ∈ w, ¬ y.2.done = true ∧ y.2.p = p := fun w => by
  induction w with
  | nil => intro l h; exact .inl h
  | cons z w ih =>
   intro l hy
   rcases ih _ hy with h | ⟨y, hy, h⟩
   ·unfold rstep at h
    split at h
    ·exact .inl h
    rename_i hd
    rcases wth_mem.1 h with h | rfl
    ·exact .inl h
    exact .inr ⟨z, by simp, hd, rfl⟩
   exact .inr ⟨y, by simp [hy], h⟩
 rcases key w [] h with h | h
 ·simp at h
 exact h
def Fail (N : Nat) (w : List Pr) : Prop := 2048 < (dd w).length ∨ ∃ y ∈ w, y.2.done = false ∧ restBad N y.2.p ≠ 0
noncomputable instance (N : Nat) (w : List Pr) : Decidable (Fail N w) := Classical.propDecidable _
theorem dd_len_mono (w v : List Pr) : (dd w).length ≤ (dd (w ++ v)).length := by
 rw [dd_app]
 have key : ∀ (v l : List Pr), l.length ≤ (v.foldl wth l).length := fun v => by
  induction v with
  | nil => intro l; exact Nat.le_refl _
  | cons x v ih =>
   intro l
   refine Nat.le_trans ?_ (ih (wth l x))
   unfold wth; split <;> simp
 exact key v _
theorem Fail.mono {N : Nat} {w v : List Pr} (h : Fail N w) : Fail N (w ++ v) := by
 rcases h with h | ⟨y, hy, h⟩
 ·left; have := dd_len_mono w v; omega
 right; exact ⟨y, by simp [hy], h⟩
structure DerInv (N : Nat) (w : List Pr) (s : List GPattern × List GEdge) : Prop where
 rs : s.1 = rests w
 es : s.2 = (dd w).map (eg (rests w))
 ok : ¬ Fail N w
 len : (rests w).length ≤ (dd w).length
theorem toOf_stable {l : List GPattern} {r : Gderivative_rest} {y : Pr} (h : ¬ r.done = true → r.p ∈ l) : toOf (rstep l y) r = toOf l r := by
 unfold toOf
 by_cases hd : r.done = true
 ·rw [if_pos hd, if_pos hd]
 rw [if_neg hd, if_neg hd]
 unfold rstep
 split
 ·rfl
 unfold wth
 split
 ·rfl
 exact idxI_app (ex_eq.2 (h hd))
theorem eg_inj {l : List GPattern} {y z : Pr} {B R : Nat} (hy : PairOk B R y) (hz : PairOk B R z) (hly : ¬ y.2.done = true → y.2.p ∈ l) (hlz : ¬ z.2.done = true → z.2.p ∈ l) (h : eg l y = eg l z) : y = z := by
 have h1 : y.1 = z.1 := by
  rw [gedge_eq] at h ⊢
  obtain ⟨_, h⟩ := h
  exact ⟨⟨by rw [hy.from0, hz.from0], by rw [hy.to0, hz.to0]⟩, h⟩
 have ht : toOf l y.2 = toOf l z.2 := (gedge_eq.1 h).1.2
 have hx : ∀ a b : Gderivative_rest, a.done = b.done → a.p = b.p → a = b := fun a b h1 h2 => by cases a; cases b; simp at h1 h2; simp [h1, h2]
 have h2 : y.2 = z.2 := by
  unfold toOf at ht
  by_cases hdy : y.2.done = true <;> by_cases hdz : z.2.done = true
  ·exact hx _ _ (by rw [hdy, hdz]) (by rw [hy.done hdy, hz.done hdz])
  ·rw [if_pos hdy, if_neg hdz] at ht
   have := idxI_nonneg.2 (ex_eq.2 (hlz hdz))
   exfalso; simp only [idxP] at ht; omega
  ·rw [if_neg hdy, if_pos hdz] at ht
   have := idxI_nonneg.2 (ex_eq.2 (hly hdy))
   exfalso; simp only [idxP] at ht; omega
  rw [if_neg hdy, if_neg hdz] at ht
  exact hx _ _ (by rw [Bool.not_eq_true] at hdy hdz; rw [hdy, hdz]) (idxP_inj (hly hdy) ht)
 exact Prod.ext h1 h2
noncomputable def dstep (N : Nat) (s9 : List GPattern × List GEdge) (y8 : GEdge × Gderivative_rest) : Option ((List GPattern × List GEdge) ⊕ (List GPattern × List GEdge × Int)) :=
 ((if Ar.nt y8.2.done = true then (derivative_index N s9.1 y8.2.p).bind fun r17 => if Ar.cmp .lss r17 0 = true then (pattern_CheckRest N y8.2.p).bind fun r18 => if Ar.cmp .neq r18 0 = true then some (.inr ({ y8.1 with To := r17 }, 17)) else (appL s9.1 ([y8.2.p])).bind fun l20 => some (.inl ({ y8.1 with To := Ar.len s9.1 }, l20)) else some (.inl ({ y8.1 with To := r17 }, s9.1)) else some (.inl ({ y8.1 with To := (-1) }, s9.1)) ) : Option ((GEdge × (List GPattern)) ⊕ (GEdge × Int))).bind fun s16 =>
  match s16 with
  | .inl y21 =>
   (slices_ContainsFunc_LEdge_Edge N s9.2 (fun y1 => derivative_derived_1 N y1 y21.1)).bind fun r23 =>
   if r23 = true then
    some (.inl (y21.2, s9.2))
   else
    (appL s9.2 ([y21.1])).bind fun l25 =>
    if Ar.cmp .gtr (Ar.len l25) 2048 = true then
     some (.inr (y21.2, l25, 17))
    else
     some (.inl (y21.2, l25))
  | .inr y26 =>
   some (.inr (s9.1, s9.2, y26.2))
theorem contains_eq {N : Nat} (hN : 40000000 ≤ N) (l : List GEdge) (e : GEdge) (hl : l.length ≤ 1000000) (hs : Esz e 1000) (hc : e.Cond.bulk ≤ 16777216) (hk : ∀ c ∈ e.Checks, c.bulk ≤ 16777216) (hf : ∀ y ∈ l, e.From = y.From) : slices_ContainsFunc_LEdge_Edge N l (fun y1 => derivative_derived_1 N y1 e) = some (decide (e ∈ l)) := by
 unfold slices_ContainsFunc_LEdge_Edge
 rw [indexG_eq l (by omega) _ (fun y => decide (e = y)) (fun y hy => by
  unfold derivative_derived_1
  rw [sameEdge_eq hN e y hs hc hk]
  simp only [Option.bind_some, cmp_eql, decide_eq_true_eq]
  rw [if_dec rfl]
  congr 1
  rw [decide_eq_decide, gedge_eq]
  simp only [hf y hy, true_and]) (by omega)]
 simp only [Option.bind_some, cmp_geq]
 congr 1
 rw [decide_eq_decide, idxI_nonneg]
 constructor
 ·rintro ⟨x, hx, h⟩; rw [of_decide_eq_true h]; exact hx
 intro h; exact ⟨e, h, by simp⟩
theorem dstep_eq {N : Nat} (hN : 40000000 ≤ N) {w : List Pr} {s : List GPattern × List GEdge} (hI : DerInv N w s) (y : Pr) (hy : PairOk 16777216 16777216 y) (hw : ∀ z ∈ w, PairOk 16777216 16777216 z) (hs : Esz y.1 1000) :
 ∃ o, dstep N s y = some o ∧ (match o with | .inl s' => DerInv N (w ++ [y]) s' | .inr q => q.2.2 = 17 ∧ Fail N (w ++ [y])) := by
 obtain ⟨hrs, hes, hok, hlen⟩ := hI
 have hD : (dd w).length ≤ 2048 := by
  rcases Nat.lt_or_ge 2048 (dd w).length with h | h
  ·exact absurd (.inl h) hok
  exact h
 have hdw : ∀ z ∈ dd w, z ∈ w := fun z hz => dd_mem.1 hz
 have key : restBad N y.2.p = 0 ∨ y.2.done = true → ∀ (T : Int) (L : List GPattern), L = rests (w ++ [y]) → T = toOf (rests (w ++ [y])) y.2 → ∃ o, ((slices_ContainsFunc_LEdge_Edge N s.2 (fun y1 => derivative_derived_1 N y1 { y.1 with To := T })).bind fun r23 => if r23 = true then some (Sum.inl (L, s.2)) else (appL s.2 ([{ y.1 with To := T }])).bind fun l25 => if Ar.cmp .gtr (Ar.len l25) 2048 = true then some (.inr (L, l25, (17 : Int))) else some (.inl (L, l25))) = some o ∧ (match o with | .inl s' => DerInv N (w ++ [y]) s' | .inr q => q.2.2 = 17 ∧ Fail N (w ++ [y])) := by
  intro hgood T L hL hT
  subst hL; subst hT
  have hE : s.2 = (dd w).map (eg (rests (w ++ [y]))) := by
   rw [hes, rests_snoc]
   apply List.map_congr_left
   intro z hz
   unfold eg
   rw [toOf_stable fun h => rests_has (hdw z hz) h]
  have hin : eg (rests (w ++ [y])) y ∈ s.2 ↔ y ∈ dd w := by
   rw [hE, List.mem_map]
   constructor
   ·rintro ⟨z, hz, h⟩
    have := eg_inj (hw z (hdw z hz)) hy (fun h => rests_has (by simp [hdw z hz]) h) (fun h => rests_has (by simp) h) h
    rw [← this]; exact hz
   intro h; exact ⟨y, h, rfl⟩
  have hlE : s.2.length = (dd w).length := by rw [hE, List.length_map]
  change ∃ o, ((slices_ContainsFunc_LEdge_Edge N s.2 (fun y1 => derivative_derived_1 N y1 (eg (rests (w ++ [y])) y))).bind _) = _ ∧ _
  rw [contains_eq hN s.2 (eg (rests (w ++ [y])) y) (by omega) hs hy.cond hy.checks (fun z hz => by
   rw [hE] at hz
   obtain ⟨v, hv, rfl⟩ := List.mem_map.1 hz
   simp only [eg]
   rw [hy.from0, (hw v (hdw v hv)).from0])]
  simp only [Option.bind_some, decide_eq_true_eq]
  have hnb : ¬ ∃ v ∈ w ++ [y], v.2.done = false ∧ restBad N v.2.p ≠ 0 := by
   rintro ⟨v, hv, h1, h2⟩
   rcases List.mem_append.1 hv with hv | hv
   ·exact hok (.inr ⟨v, hv, h1, h2⟩)
   rw [List.mem_singleton.1 hv] at h1 h2
   rcases hgood with h | h
   ·exact h2 h
   rw [h] at h1; cases h1
  by_cases hyD : y ∈ dd w
  ·have hdd : dd (w ++ [y]) = dd w := by rw [dd_snoc]; unfold wth; rw [if_pos hyD]
   have hrr : rests (w ++ [y]) = rests w := by
    rw [rests_snoc]; unfold rstep
    split
    ·rfl
    rename_i hd
    unfold wth
    rw [if_pos (rests_has (hdw y hyD) hd)]
   rw [if_pos (hin.2 hyD)]
   refine ⟨_, rfl, rfl, ?_, ?_, ?_⟩
   ·rw [hdd]; exact hE
   ·rintro (h | h)
    ·rw [hdd] at h; omega
    exact hnb h
   rw [hdd, hrr]; exact hlen
  have hdd : dd (w ++ [y]) = dd w ++ [y] := by rw [dd_snoc]; unfold wth; rw [if_neg hyD]
  rw [if_neg fun h => hyD (hin.1 h), appL_eq (by simp; omega)]
  simp only [Option.bind_some]
  by_cases hbig : 2048 < (dd w).length + 1
  ·rw [if_pos (gt_true (by simp only [len_def, List.length_append, List.length_cons, List.length_nil, hlE]; omega))]
   refine ⟨_, rfl, rfl, .inl ?_⟩
   rw [hdd]; simp; omega
  rw [if_neg (gt_false (by simp only [len_def, List.length_append, List.length_cons, List.length_nil, hlE]; omega))]
  refine ⟨_, rfl, rfl, ?_, ?_, ?_⟩
  ·simp only [hdd, List.map_append, List.map_cons, List.map_nil]
   rw [hE]; rfl
  ·rintro (h | h)
   ·rw [hdd] at h; simp at h; omega
   exact hnb h
  rw [hdd, rests_snoc]
  unfold rstep
  split
  ·simp; omega
  unfold wth; split
  ·simp; omega
  simp; omega
 unfold dstep
 by_cases hd : y.2.done = true
 ·rw [if_neg (by simp [nt_def, hd])]
  simp only [Option.bind_some]
  have hrr : rests (w ++ [y]) = rests w := by rw [rests_snoc]; unfold rstep; rw [if_pos hd]
  exact key (.inr hd) (-1) s.1 (by rw [hrs, hrr]) (by unfold toOf; rw [if_pos hd])
 rw [if_pos (by simp [nt_def, hd]), hrs, derivative_index_eq hN _ _ (by omega) hy.rest]
 simp only [Option.bind_some, cmp_lss]
 by_cases hin : y.2.p ∈ rests w
 ·have h0 := idxI_nonneg.2 (ex_eq.2 hin)
  rw [if_neg (by rw [decide_eq_true_eq]; simp only [idxP]; omega)]
  simp only [Option.bind_some]
  have hrr : rests (w ++ [y]) = rests w := by rw [rests_snoc]; unfold rstep wth; rw [if_neg hd, if_pos hin]
  obtain ⟨v, hv, hvd, hvp⟩ := rests_mem hin
  have hgood : restBad N y.2.p = 0 := by
   by_cases h : restBad N y.2.p = 0
   ·exact h
   exact absurd (.inr ⟨v, hv, by simpa using hvd, by rw [hvp]; exact h⟩) hok
  exact key (.inl hgood) _ _ (by rw [hrr]) (by rw [hrr]; unfold toOf; rw [if_neg hd])
 rw [if_pos (by rw [decide_eq_true_eq]; simp only [idxP]; rw [idxI_neg fun h => hin (ex_eq.1 h)]; omega), rest_eq hN hy.rest]
 simp only [Option.bind_some]
 by_cases hgood : restBad N y.2.p = 0
 ·rw [if_neg (ne_false hgood), appL_eq (by simp; omega)]
  simp only [Option.bind_some]
  have hrr : rests (w ++ [y]) = rests w ++ [y.2.p] := by rw [rests_snoc]; unfold rstep wth; rw [if_neg hd, if_neg hin]
  exact key (.inl hgood) _ _ hrr.symm (by rw [hrr]; unfold toOf; rw [if_neg hd]; simp only [idxP]; rw [idxI_last (fun h => hin (ex_eq.1 h)) (by simp)]; rfl)
 rw [if_pos (ne_true hgood)]
 exact ⟨_, rfl, rfl, .inr ⟨y, by simp, by simpa using hd, hgood⟩⟩
theorem dstep_run {N : Nat} (hN : 40000000 ≤ N) : ∀ (v w : List Pr) (s : List GPattern × List GEdge), DerInv N w s → (∀ z ∈ w ++ v, PairOk 16777216 16777216 z ∧ Esz z.1 1000) → ∃ o, rangeL (dstep N) v s = some o ∧ (match o with | .inl s' => DerInv N (w ++ v) s' | .inr q => q.2.2 = 17 ∧ Fail N (w ++ v))
 | [], w, s, hI, _ => ⟨_, rfl, by simpa using hI⟩
 | y :: v, w, s, hI, h => by
  obtain ⟨o, h1, h2⟩ := dstep_eq hN hI y (h y (by simp)).1 (fun z hz => (h z (by simp [hz])).1) (h y (by simp)).2
  unfold rangeL
  rw [h1]
  cases o with
  | inl s' =>
   have := dstep_run hN v (w ++ [y]) s' h2 (fun z hz => h z (by simpa using hz))
   simpa using this
  | inr q =>
   refine ⟨_, rfl, h2.1, ?_⟩
   have := h2.2.mono (v := v)
   simpa using this
noncomputable def derivedP (N : Nat) (w : List Pr) : List GEdge × List GPattern × Int := if Fail N w then ([], [], 17) else ((dd w).map (eg (rests w)), rests w, 0)
theorem derived_eq {N : Nat} (hN : 40000000 ≤ N) {x : GPattern} (hb : x.bulk ≤ 1100000) (hz : restBad N x = 0) : derivative_derived N x = some (derivedP N (raw x)) := by
 have hp : x.pre.length ≤ 64 := by
  by_cases h : 64 < x.pre.length
  ·rw [restBad, if_pos h] at hz; cases hz
  omega
 have hd : ¬ 12 < x.dep := fun h => by rw [restBad, if_neg (by omega), if_pos h] at hz; cases hz
 have hg : Good N x := by
  rw [restBad, if_neg (by omega), if_neg hd] at hz
  exact bad1_zero.1 hz
 unfold derivative_derived
 rw [pairs_eq hN x.dep x N (Nat.le_refl _) (by omega) (by omega) (by omega) hp hg]
 simp only [Option.bind_some]
 obtain ⟨o, h1, h2⟩ := dstep_run hN (raw x) [] ([], []) ⟨rfl, rfl, by rintro (h | ⟨y, hy, _⟩); simp [dd] at h; simp at hy, by simp [rests]⟩ (fun z hz => by
  have hz : z ∈ raw x := by simpa using hz
  have h1 := raw_ok x.dep x (Nat.le_refl _) z hz
  have h2 := raw_sz x.dep x (Nat.le_refl _) z hz
  have h3 : x.dep * (x.bulk + 30) ≤ 12 * (1100000 + 30) := Nat.mul_le_mul (by omega) (by omega)
  exact ⟨h1.mono (by omega) (by omega), h2.mono (by omega)⟩)
 change ((rangeL (dstep N) (raw x) ([], [])).bind _) = _
 rw [h1]
 unfold derivedP
 cases o with
 | inl s' =>
  simp only [List.nil_append] at h2
  simp only [Option.bind_some]
  rw [if_neg h2.ok, h2.rs, h2.es]
 | inr q =>
  simp only [List.nil_append] at h2
  simp only [Option.bind_some]
  rw [if_pos h2.2, h2.1]
end Go.Ab

namespace Go.Ab
theorem range_test {α R : Type} (P : α → Bool) (r : R) : ∀ l : List α, rangeL (fun (_ : Unit) y => if P y = true then some (Sum.inr r) else some (.inl ())) l () = some (if l.any P = true then .inr r else .inl ())
 | [] => rfl
 | y :: l => by
  unfold rangeL
  cases h : P y with
  | true => simp [h]
  | false =>
   simp only [Bool.false_eq_true, if_false, List.any_cons, h, Bool.false_or]
   exact range_test P r l
theorem Good.sub {N : Nat} {x y : GPattern} (h : Good N x) (hy : y ∈ x.pre) : nodeBad N y = 0 := h y hy
theorem whole_eq {N : Nat} (hN : 40000000 ≤ N) {x : GPattern} (hb : x.bulk ≤ 16777216) : pattern_whole N x = some (if restBad N x ≠ 0 then restBad N x else if x.pre.any (fun y => Ar.cmp .geq y.Op 8) = true then 1 else 0) := by
 unfold pattern_whole
 rw [rest_eq hN hb]
 simp only [Option.bind_some]
 by_cases h : restBad N x = 0
 ·rw [if_neg (ne_false h), if_neg (by simpa using h), preorder_eq hN hb]
  simp only [Option.bind_some]
  rw [range_test (fun y : GPattern => Ar.cmp .geq y.Op 8) (1 : Int) x.pre]
  by_cases h2 : x.pre.any (fun y => Ar.cmp .geq y.Op 8) = true
  ·rw [if_pos h2, if_pos h2]; rfl
  rw [if_neg h2, if_neg h2]; rfl
 rw [if_pos (ne_true h), if_pos h]
theorem rest_good {N : Nat} {x : GPattern} (hz : restBad N x = 0) : x.pre.length ≤ 64 ∧ x.dep ≤ 12 ∧ Good N x := by
 have hp : x.pre.length ≤ 64 := by
  by_cases h : 64 < x.pre.length
  ·rw [restBad, if_pos h] at hz; cases hz
  omega
 have hd : ¬ 12 < x.dep := fun h => by rw [restBad, if_neg (by omega), if_pos h] at hz; cases hz
 rw [restBad, if_neg (by omega), if_neg hd] at hz
 exact ⟨hp, by omega, bad1_zero.1 hz⟩
theorem small9 {N : Nat} (hN : 40000000 ≤ N) {x : GPattern} (hb : x.bulk ≤ 16777216) : ∃ b, ref09_Small N x = some b ∧ (b = true → x.pre.length ≤ 9) := by
 unfold ref09_Small
 obtain ⟨r, h0, c1, c2, c3⟩ := total_eq hN 9 N x (by omega) hb
 rw [h0]
 simp only [Option.bind_some]
 by_cases h : 9 < r
 ·rw [if_pos (gt_true h)]; exact ⟨_, rfl, fun h => by cases h⟩
 rw [if_neg (gt_false h), nodes_eq hN N x (by omega) hb]
 have hpb := pre_bulk_p x
 simp only [Option.bind_some]
 have key : ∃ o, loopN (fun (s3 : Int) => ((if Ar.cmp .lss s3 (Ar.len x.pre) = true then (idxL x.pre s3).bind fun x5 => (ref08_Count N N x5.Cond 20).bind fun r6 => if Ar.cmp .gtr r6 20 = true then some (.inr (.inr ())) else some (.inl (Ar.ar .add .i64 s3 1)) else some (.inr (.inl ()))) : Option (Int ⊕ (Unit ⊕ Unit)))) N 0 = some o ∧ True := loop_inv (fun j s => s = (j : Int)) (fun _ => True) x.pre.length 0 0 N (by omega) rfl (fun j s _ hj e => by
  subst e
  simp only [Nat.zero_add] at hj
  have e1 : idxL x.pre (j : Int) = some x.pre[j] := by rw [idx_at, List.getElem?_eq_getElem hj]
  have hm := (mem_pre x _ (List.getElem_mem hj)).1
  have hc := GPattern.bulk_eq x.pre[j]
  obtain ⟨r6, h6, _⟩ := count_eq hN 20 N x.pre[j].Cond (by omega) (by omega)
  rw [if_pos (by simp only [cmp_lss, len_def]; exact decide_eq_true (by omega)), e1]
  simp only [Option.bind_some, h6]
  by_cases h7 : 20 < r6
  ·rw [if_pos (gt_true h7)]; exact ⟨_, rfl, trivial⟩
  ·rw [if_neg (gt_false h7)]; exact ⟨_, rfl, inc_i64 (by omega)⟩) (fun s e => by
  subst e
  exact ⟨.inl (), by simp [cmp_lss, len_def], trivial⟩)
 obtain ⟨o, ho, _⟩ := key
 rw [ho]
 have hl : x.pre.length ≤ 9 := by omega
 cases o with
 | inl _ => exact ⟨_, rfl, fun _ => hl⟩
 | inr _ => exact ⟨_, rfl, fun _ => hl⟩
theorem derive_eq {N : Nat} (hN : 40000000 ≤ N) {x : GPattern} (hb : x.bulk ≤ 1100000) (hz : restBad N x = 0) : derivative_Derive N x = some (derivedP N (raw x)) := by
 unfold derivative_Derive
 rw [rest_eq hN (by omega), derived_eq hN hb hz]
 simp only [Option.bind_some]
 rw [if_neg (ne_false hz)]
theorem rests_len (w : List Pr) : (rests w).length ≤ (dd w).length := by
 have key : ∀ (v w : List Pr), (rests w).length ≤ (dd w).length → (rests (w ++ v)).length ≤ (dd (w ++ v)).length := fun v => by
  induction v with
  | nil => intro w h; simpa using h
  | cons y v ih =>
   intro w h
   have := ih (w ++ [y]) (by
    rw [rests_snoc, dd_snoc]
    unfold rstep wth
    split
    ·split
     ·exact h
     simp only [List.length_append, List.length_cons, List.length_nil]; omega
    rename_i hd
    by_cases hy : y ∈ dd w
    ·rw [if_pos (rests_has (dd_mem.1 hy) hd), if_pos hy]; exact h
    rw [if_neg hy]; split <;> (simp only [List.length_append, List.length_cons, List.length_nil]; omega))
   simpa using this
 simpa using key w [] (by simp [rests])
theorem bind_of {α β : Type} {m : Option α} {F : α → Option β} {a : α} {r : Option β} (h1 : m = some a) (h2 : F a = r) : m.bind F = r := by rw [h1]; exact h2
end Go.Ab

