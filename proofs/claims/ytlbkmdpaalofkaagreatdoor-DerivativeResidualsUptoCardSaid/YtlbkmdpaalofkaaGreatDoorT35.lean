/- GZD4 GZD5 -/
import Derived.Test.YtlbkmdpaalofkaaGreatDoorT34
set_option linter.all false

namespace Go.Ab
structure PairOk (B : Nat) (R : Nat) (y : Pr) : Prop where
 from0 : y.1.From = 0
 to0 : y.1.To = 0
 done : y.2.done = true → y.2.p = zP
 cond : y.1.Cond.bulk ≤ B
 checks : ∀ c ∈ y.1.Checks, c.bulk ≤ B
 rest : y.2.p.bulk ≤ R
theorem PairOk.mono {B R B' R' : Nat} {y : Pr} (h : PairOk B R y) (hB : B ≤ B') (hR : R ≤ R') : PairOk B' R' y := ⟨h.from0, h.to0, h.done, Nat.le_trans h.cond hB, fun c hc => Nat.le_trans (h.checks c hc) hB, Nat.le_trans h.rest hR⟩
theorem zE_bulk : zE.bulk = 10 := by simp [zE, GExpr.bulk, GExpr.bulks, ByteArray.size]
theorem nd_bulk (op : Int) (l : List GPattern) : (nd op l).bulk = GPattern.bulks l + 16 := by rw [GPattern.bulk_eq]; simp only [nd, zE_bulk]
theorem zP_bulk : zP.bulk = 17 := by rw [GPattern.bulk_eq]; simp only [zP, zE_bulk, GPattern.bulks]
theorem listP_bulk (op : Int) (l : List GPattern) : (listP op l).bulk ≤ GPattern.bulks l + 16 := by
 match l with
 | [] => simp only [listP, nd_bulk]; omega
 | [x] => simp only [listP, GPattern.bulks]; omega
 | x :: y :: l => simp only [listP, nd_bulk]; omega
theorem bulks_app : ∀ (l m : List GPattern), GPattern.bulks (l ++ m) + 1 = GPattern.bulks l + GPattern.bulks m
 | [], m => by simp [GPattern.bulks]; omega
 | a :: l, m => by have := bulks_app l m; simp only [List.cons_append, GPattern.bulks]; omega
theorem bulks_take (l : List GPattern) (i : Nat) : GPattern.bulks (l.take i) + GPattern.bulks (l.drop i) = GPattern.bulks l + 1 := by rw [← bulks_app, List.take_append_drop]
theorem bulks_pos (l : List GPattern) : 1 ≤ GPattern.bulks l := by
 cases l with
 | nil => simp [GPattern.bulks]
 | cons a l => have := bulk_pos a; simp only [GPattern.bulks]; omega
theorem bulks_set : ∀ (l : List GPattern) (i : Nat) (p : GPattern) , GPattern.bulks (l.set i p) ≤ GPattern.bulks l + p.bulk
 | [], i, p => by simp [GPattern.bulks]
 | a :: l, 0, p => by simp only [List.set_cons_zero, GPattern.bulks]; omega
 | a :: l, i + 1, p => by have := bulks_set l i p; simp only [List.set_cons_succ, GPattern.bulks]; omega
theorem contR_done (r : Gderivative_rest) (more : List GPattern) : (contR r more).done = true → (contR r more).p = zP := by
 unfold contR
 split
 ·intro; rfl
 ·intro h; cases h
theorem contR_bulk (r : Gderivative_rest) (more : List GPattern) : (contR r more).p.bulk ≤ r.p.bulk + GPattern.bulks more + 16 := by
 have h0 := bulks_pos more
 unfold contR
 split
 ·simp only [doneR, zP_bulk]; omega
 ·rename_i l h
  have := listP_bulk 1 (if r.done = true then more else r.p :: more)
  simp only
  by_cases hd : r.done = true
  ·simp only [hd, if_true] at this ⊢; omega
  ·simp only [hd, if_false, Bool.false_eq_true, GPattern.bulks] at this ⊢; omega
theorem joinR_bulk (args : List GPattern) (i : Nat) (r : Gderivative_rest) : (joinR args i r).p.bulk ≤ r.p.bulk + GPattern.bulks args + 17 := by
 unfold joinR
 simp only
 refine Nat.le_trans (listP_bulk _ _) ?_
 split
 ·have h1 := bulks_take args i
  have h2 := bulks_take args (i + 1)
  have h0 := bulks_app (args.take i) (args.drop (i + 1))
  have h3 : GPattern.bulks (args.take i) ≤ GPattern.bulks (args.take (i + 1)) := by
   have : args.take i = (args.take (i + 1)).take i := by rw [List.take_take]; congr 1; omega
   rw [this]
   have := bulks_take (args.take (i + 1)) i
   have := bulks_pos ((args.take (i + 1)).drop i)
   omega
  omega
 ·have := bulks_set args i r.p
  omega
theorem raw_ok : ∀ (d : Nat) (x : GPattern), x.dep ≤ d → ∀ y ∈ raw x, PairOk x.bulk (x.dep * (x.bulk + 30)) y := by
 intro d
 induction d with
 | zero => intro x h; rw [GPattern.dep_eq] at h; omega
 | succ d ih =>
  intro x hd y hy
  rw [raw_eq] at hy
  have hdx := GPattern.dep_eq x
  have hxb := GPattern.bulk_eq x
  have key : ∀ a ∈ x.Args, a.dep * (a.bulk + 30) + (x.bulk + 30) ≤ x.dep * (x.bulk + 30) := fun a ha => by
   have h1 := dep_mem ha
   have h2 := mem_bulk ha
   have h3 : a.dep * (a.bulk + 30) ≤ (x.dep - 1) * (x.bulk + 30) := Nat.mul_le_mul (by omega) (by omega)
   have h4 : (x.dep - 1) * (x.bulk + 30) + (x.bulk + 30) = x.dep * (x.bulk + 30) := by
    obtain ⟨k, hk⟩ : ∃ k, x.dep = k + 1 := ⟨x.dep - 1, by omega⟩
    rw [hk]; simp [Nat.add_mul]
   omega
  have one : x.bulk + 30 ≤ x.dep * (x.bulk + 30) := by
   have : 1 * (x.bulk + 30) ≤ x.dep * (x.bulk + 30) := Nat.mul_le_mul (by omega) (Nat.le_refl _)
   omega
  have hrec : ∀ a ∈ x.Args, ∀ y ∈ raw a, PairOk x.bulk (a.dep * (a.bulk + 30)) y := fun a ha y hy => (ih a (by have := dep_mem ha; omega) y hy).mono (by have := mem_bulk ha; omega) (Nat.le_refl _)
  have hrep : ∀ (ag : GPattern), ag.bulk ≤ x.bulk + 16 → ∀ a ∈ x.Args, ∀ z ∈ raw a, ∀ b ∈ x.Args, (∃ l, ag.Args = b :: l) → ∀ y ∈ rep ag z, PairOk x.bulk (x.dep * (x.bulk + 30)) y := fun ag hag a ha z hz b hb hl y hy => by
   have hk := key a ha
   have h := hrec a ha z hz
   unfold rep at hy
   split at hy
   ·rcases List.mem_cons.1 hy with rfl | hy
    ·exact h.mono (Nat.le_refl _) (by omega)
    ·rw [List.mem_singleton.1 hy]
     exact ⟨h.from0, h.to0, fun h => (by cases h), h.cond, h.checks, by simp only; omega⟩
   ·obtain ⟨l, hl⟩ := hl
    rw [hl] at hy
    rw [List.mem_singleton.1 hy]
    refine ⟨h.from0, h.to0, fun h => (by cases h), h.cond, h.checks, ?_⟩
    have h1 := h.rest
    have h2 := mem_bulk hb
    simp only [nd_bulk, GPattern.bulks]
    omega
  unfold comb at hy
  split at hy
  ·rw [List.mem_singleton.1 hy]
   refine ⟨rfl, rfl, fun _ => rfl, by simp only; omega, fun c hc => by simp at hc, ?_⟩
   simp only [doneR, zP_bulk]; omega
  split at hy
  ·obtain ⟨z, hz, rfl⟩ := List.mem_map.1 hy
   obtain ⟨a, ha, hz⟩ := headD_map_raw hz
   have h := hrec a ha z hz
   refine ⟨h.from0, h.to0, contR_done _ _, h.cond, h.checks, ?_⟩
   have h1 := contR_bulk z.2 (x.Args.drop 1)
   have h2 := bulks_take x.Args 1
   have h3 := key a ha
   have h4 := h.rest
   simp only; omega
  split at hy
  ·obtain ⟨i, _, hz⟩ := List.mem_flatMap.1 hy
   obtain ⟨a, ha, hz⟩ := getD_map_raw hz
   exact (hrec a ha y hz).mono (Nat.le_refl _) (by have := key a ha; omega)
  split at hy
  ·obtain ⟨i, _, hz⟩ := List.mem_flatMap.1 hy
   obtain ⟨z, hz2, rfl⟩ := List.mem_map.1 hz
   obtain ⟨a, ha, hz⟩ := getD_map_raw hz2
   have h := hrec a ha z hz
   refine ⟨h.from0, h.to0, fun h => by simp [joinR] at h, h.cond, h.checks, ?_⟩
   have h1 := joinR_bulk x.Args i z.2
   have h3 := key a ha
   have h4 := h.rest
   simp only; omega
  split at hy
  ·rename_i h4
   obtain ⟨z, hz, hy⟩ := List.mem_flatMap.1 hy
   match he : x.Args, hz with
   | [], hz => simp at hz
   | a :: l, hz => exact hrep x (by omega) a (by rw [he]; simp) z (by simpa using hz) a (by rw [he]; simp) ⟨l, he⟩ y hy
  split at hy
  ·obtain ⟨z, hz, hy⟩ := List.mem_flatMap.1 hy
   match he : x.Args, hz with
   | [], hz => simp at hz
   | [a], hz =>
    have ha : a ∈ x.Args := by rw [he]; simp
    have h := hrec a ha z (by simpa using hz)
    rw [he] at hy
    unfold rep at hy
    split at hy
    ·rcases List.mem_cons.1 hy with rfl | hy
     ·exact h.mono (Nat.le_refl _) (by have := key a ha; omega)
     ·rw [List.mem_singleton.1 hy]
      refine ⟨h.from0, h.to0, fun h => (by cases h), h.cond, h.checks, ?_⟩
      simp only [nd_bulk, List.drop_succ_cons, List.drop_nil, GPattern.bulks]; omega
    ·simp [nd] at hy
   | a :: b :: l, hz =>
    have hb : GPattern.bulks x.Args = a.bulk + (b.bulk + GPattern.bulks l) := by rw [he]; rfl
    rw [he] at hy
    exact hrep (nd 4 (b :: l)) (by simp only [nd_bulk, GPattern.bulks]; omega) a (by rw [he]; simp) z (by simpa using hz) b (by rw [he]; simp) ⟨l, rfl⟩ y hy
  ·obtain ⟨z, hz, rfl⟩ := List.mem_map.1 hy
   obtain ⟨a, ha, hz⟩ := headD_map_raw hz
   have h := hrec a ha z hz
   have hk := key a ha
   have hr := h.rest
   refine ⟨?_, ?_, ?_, ?_, ?_, ?_⟩
   ·simp only [inn, innE]; split
    ·split
     ·exact h.from0
     ·exact h.from0
    ·exact h.from0
   ·simp only [inn, innE]; split
    ·split
     ·exact h.to0
     ·exact h.to0
    ·exact h.to0
   ·simp only [inn, innR]; split
    ·exact h.done
    ·rename_i h2; intro h3; simp only at h3; exact absurd h3 h2
   ·simp only [inn, innE]; split
    ·split
     ·exact h.cond
     ·exact h.cond
    ·exact h.cond
   ·simp only [inn, innE]; split
    ·split
     ·intro c hc
      rcases List.mem_append.1 hc with hc | hc
      ·exact h.checks c hc
      ·rw [List.mem_singleton.1 hc]; omega
     ·exact h.checks
    ·exact h.checks
   ·simp only [inn, innR]; split
    ·omega
    ·simp only
     rw [GPattern.bulk_eq]
     simp only [GPattern.bulks]
     omega
def wth {α : Type} [DecidableEq α] (l : List α) (x : α) : List α := if x ∈ l then l else l ++ [x]
def dd {α : Type} [DecidableEq α] (l : List α) : List α := l.foldl wth []
section
variable {α : Type} [DecidableEq α]
theorem wth_mem {l : List α} {x y : α} : y ∈ wth l x ↔ y ∈ l ∨ y = x := by
 unfold wth
 split
 ·constructor
  ·exact .inl
  ·rintro (h | rfl)
   ·exact h
   ·assumption
 ·simp
theorem foldl_wth_mem {y : α} : ∀ {l m : List α}, y ∈ l.foldl wth m ↔ y ∈ m ∨ y ∈ l
 | [], m => by simp
 | x :: l, m => by
  simp only [List.foldl_cons, foldl_wth_mem, wth_mem, List.mem_cons]
  constructor
  ·rintro ((h | h) | h)
   ·exact .inl h
   ·exact .inr (.inl h)
   ·exact .inr (.inr h)
  ·rintro (h | h | h)
   ·exact .inl (.inl h)
   ·exact .inl (.inr h)
   ·exact .inr h
theorem dd_mem {l : List α} {y : α} : y ∈ dd l ↔ y ∈ l := by simp [dd, foldl_wth_mem]
theorem foldl_wth_absorb : ∀ {l m : List α}, (∀ x ∈ l, x ∈ m) → l.foldl wth m = m
 | [], m, _ => rfl
 | x :: l, m, h => by
  have e : wth m x = m := by unfold wth; rw [if_pos (h x (by simp))]
  simp only [List.foldl_cons, e]
  exact foldl_wth_absorb fun y hy => h y (by simp [hy])
theorem dd_snoc (l : List α) (x : α) : dd (l ++ [x]) = wth (dd l) x := by simp [dd, List.foldl_append]
theorem dd_app (l m : List α) : dd (l ++ m) = m.foldl wth (dd l) := by simp [dd, List.foldl_append]
theorem foldl_flat {β : Type} (f : β → List α) [DecidableEq β] : ∀ (l : List β) (acc : List α) (seen : List β), (∀ b ∈ seen, ∀ a ∈ f b, a ∈ acc) →
 ((l.foldl wth seen).drop seen.length).foldl (fun s b => (f b).foldl wth s) acc = l.foldl (fun s b => (f b).foldl wth s) acc
 | [], acc, seen, h => by simp
 | b :: l, acc, seen, h => by
  simp only [List.foldl_cons]
  by_cases hb : b ∈ seen
  ·have e : wth seen b = seen := by unfold wth; rw [if_pos hb]
   rw [e, foldl_wth_absorb (h b hb)]
   exact foldl_flat f l acc seen h
  ·have e : wth seen b = seen ++ [b] := by unfold wth; rw [if_neg hb]
   rw [e]
   have hpre : ∀ (l : List β) (s : List β), ∃ t, l.foldl wth s = s ++ t := by
    intro l
    induction l with
    | nil => intro s; exact ⟨[], by simp⟩
    | cons x l ih =>
     intro s
     obtain ⟨t, ht⟩ := ih (wth s x)
     simp only [List.foldl_cons, ht]
     unfold wth
     split
     ·exact ⟨t, rfl⟩
     ·exact ⟨x :: t, by simp⟩
   obtain ⟨t, ht⟩ := hpre l (seen ++ [b])
   have ih := foldl_flat f l ((f b).foldl wth acc) (seen ++ [b]) (fun c hc a ha => by
    rw [foldl_wth_mem]
    rcases List.mem_append.1 hc with hc | hc
    ·exact .inl (h c hc a ha)
    ·rw [List.mem_singleton.1 hc] at ha; exact .inr ha)
   rw [ht] at ih ⊢
   rw [← ih]
   simp [List.append_assoc]
theorem foldl_flatMap {β : Type} (f : β → List α) : ∀ (l : List β) (acc : List α), (l.flatMap f).foldl wth acc = l.foldl (fun s b => (f b).foldl wth s) acc
 | [], acc => rfl
 | b :: l, acc => by simp only [List.flatMap_cons, List.foldl_append, List.foldl_cons, foldl_flatMap f l]
theorem dd_flat {β : Type} [DecidableEq β] (f : β → List α) (l : List β) (acc : List α) : (dd l).foldl (fun s b => (f b).foldl wth s) acc = (l.flatMap f).foldl wth acc := by
 rw [foldl_flatMap]
 have := foldl_flat f l acc [] (fun b hb => by simp at hb)
 simpa [dd] using this
end
end Go.Ab

namespace Go.Ab
theorem eq_loop2 {α : Type} [DecidableEq α] {N : Nat} (l m : List α) (hl : l.length = m.length) (hs : l.length < 1000000000000) (t : α → α → Bool) (ht : ∀ x y, t x y = !decide (x = y)) (hN : l.length < N) :
 loopN (fun (i : Int) => if Ar.cmp .lss i (Ar.len l) = true then (idxL l i).bind fun x => (idxL m i).bind fun y => if t x y = true then some (Sum.inr (Sum.inr (α := Unit) ())) else some (.inl (Ar.ar .add .i64 i 1)) else some (.inr (.inl ()))) N 0 = some (if l = m then .inl () else .inr ()) := by
 have := eq_loop l m hl hs (fun x y => some (decide (x = y))) (fun _ _ _ _ => rfl) hN
 rw [← this]
 congr 1
 funext i
 simp only [Option.bind_some, ht, nt_def]
theorem glimit_eq {a b : GLimit} : a = b ↔ a.Scope = b.Scope ∧ a.Span = b.Span := by cases a; cases b; simp
theorem equalI {N : Nat} (l m : List Int) (hs : l.length < 1000000) (hN : l.length < N) : slices_Equal_Lint_int N l m = some (decide (l = m)) := by
 unfold slices_Equal_Lint_int
 by_cases hl : l.length = m.length
 ·rw [if_neg (by simp [cmp_neq, len_def, hl]), eq_loop2 l m hl (by omega) (fun x y => Ar.cmp .neq x y) (fun x y => rfl) hN]
  by_cases h : l = m <;> simp [h]
 ·rw [if_pos (by simp only [cmp_neq, len_def, Bool.not_eq_true', decide_eq_false_iff_not]; omega), decide_eq_false fun e => hl (by rw [e])]
theorem equalL {N : Nat} (l m : List GLimit) (hs : l.length < 1000000) (hN : l.length < N) : slices_Equal_LLimit_Limit N l m = some (decide (l = m)) := by
 unfold slices_Equal_LLimit_Limit
 by_cases hl : l.length = m.length
 ·rw [if_neg (by simp [cmp_neq, len_def, hl]), eq_loop2 l m hl (by omega) (fun x y => Ar.nt (Ar.an (Ar.cmp .eql x.Scope y.Scope) (Ar.an (Ar.cmp .eql x.Span y.Span) true))) (fun x y => by
   simp only [nt_def, an_def, cmp_eql, Bool.and_true, glimit_eq, Bool.decide_and]) hN]
  by_cases h : l = m <;> simp [h]
 ·rw [if_pos (by simp only [cmp_neq, len_def, Bool.not_eq_true', decide_eq_false_iff_not]; omega), decide_eq_false fun e => hl (by rw [e])]
theorem equalE {N : Nat} (hN : 40000000 ≤ N) (l m : List GExpr) (hs : l.length < 1000000) (hb : ∀ c ∈ l, c.bulk ≤ 16777216) : slices_EqualFunc_LExpr_LExpr_Expr_Expr N l m (fun y1 y2 => expr_Same N N y1 y2) = some (decide (l = m)) := by
 unfold slices_EqualFunc_LExpr_LExpr_Expr_Expr
 by_cases hl : l.length = m.length
 ·rw [if_neg (by simp [cmp_neq, len_def, hl]), eq_loop l m hl (by omega) _ (fun x hx y _ => by rw [same_same]; exact same8 hN N x y (by have := hb x hx; omega) (hb x hx)) (by omega)]
  by_cases h : l = m <;> simp [h]
 ·rw [if_pos (by simp only [cmp_neq, len_def, Bool.not_eq_true', decide_eq_false_iff_not]; omega), decide_eq_false fun e => hl (by rw [e])]
theorem gedge_eq {a b : GEdge} : a = b ↔ (a.From = b.From ∧ a.To = b.To) ∧ ((a.Var = b.Var ∧ a.Typ = b.Typ) ∧ a.Cond = b.Cond ∧ a.Opens = b.Opens ∧ a.Closes = b.Closes ∧ a.Checks = b.Checks ∧ a.Limits = b.Limits ∧ a.Inside = b.Inside) := by
 cases a; cases b; simp; constructor
 ·rintro ⟨h1, h2, h3, h4, h5, h6, h7, h8, h9, h10⟩; exact ⟨⟨h1, h2⟩, ⟨h3, h4⟩, h5, h6, h7, h8, h9, h10⟩
 ·rintro ⟨⟨h1, h2⟩, ⟨h3, h4⟩, h5, h6, h7, h8, h9, h10⟩; exact ⟨h1, h2, h3, h4, h5, h6, h7, h8, h9, h10⟩
theorem if_dec {p : Prop} [Decidable p] {q : Prop} [Decidable q] {F : Option Bool} (hF : F = some (decide q)) : (if p then F else some false) = some (decide (p ∧ q)) := by
 by_cases h : p <;> simp [h, hF]
theorem sameEdge_eq {N : Nat} (hN : 40000000 ≤ N) (a b : GEdge) (hs : Esz a 1000) (hc : a.Cond.bulk ≤ 16777216) (hk : ∀ c ∈ a.Checks, c.bulk ≤ 16777216) : derivative_sameEdge N a b = some (decide ((a.Var = b.Var ∧ a.Typ = b.Typ) ∧ a.Cond = b.Cond ∧ a.Opens = b.Opens ∧ a.Closes = b.Closes ∧ a.Checks = b.Checks ∧ a.Limits = b.Limits ∧ a.Inside = b.Inside)) := by
 obtain ⟨h1, h2, h3, h4, h5⟩ := hs
 unfold derivative_sameEdge
 rw [same_same, same8 hN N a.Cond b.Cond (by omega) hc, equalI a.Opens b.Opens (by omega) (by omega), equalI a.Closes b.Closes (by omega) (by omega), equalE hN a.Checks b.Checks (by omega) hk, equalL a.Limits b.Limits (by omega) (by omega), equalI a.Inside b.Inside (by omega) (by omega)]
 simp only [Option.bind_some, an_def, cmp_eql, Bool.and_eq_true, decide_eq_true_eq]
 rw [if_dec (if_dec (if_dec (if_dec (if_dec (if_dec rfl)))))]
theorem index_loop {α : Type} {N : Nat} (l : List α) (hs : l.length < 1000000000000) (f : α → Option Bool) (P : α → Bool) (hf : ∀ x ∈ l, f x = some (P x)) (hN : l.length < N) :
 loopN (fun (i : Int) => if Ar.cmp .lss i (Ar.len l) = true then (idxL l i).bind fun x => (f x).bind fun r => if r = true then some (Sum.inr (Sum.inr (α := Unit) i)) else some (.inl (Ar.ar .add .i64 i 1)) else some (.inr (.inl ()))) N 0 = some (match l.findIdx? P with | none => .inl () | some i => .inr (i : Int)) := by
 obtain ⟨r, h1, h2⟩ := loop_inv (step := fun (i : Int) => if Ar.cmp .lss i (Ar.len l) = true then (idxL l i).bind fun x => (f x).bind fun r => if r = true then some (Sum.inr (Sum.inr (α := Unit) i)) else some (.inl (Ar.ar .add .i64 i 1)) else some (.inr (.inl ())))
  (fun j s => s = (j : Int) ∧ ∀ i (h : i < l.length), i < j → P l[i] = false) (fun r => r = match l.findIdx? P with | none => .inl () | some i => .inr (i : Int)) l.length 0 0 N hN ⟨rfl, fun i h h2 => by omega⟩
  (fun j s _ hj ⟨e, ht⟩ => by
   subst e
   simp only [Nat.zero_add] at hj
   have e1 : l[j]? = some l[j] := by simp [hj]
   simp only [cmp_lss, len_def, show ((j : Int) < (l.length : Int)) by omega, decide_true, if_true, idx_at, e1, Option.bind_some, hf _ (List.getElem_mem hj)]
   cases h : P l[j] with
   | true =>
    refine ⟨_, rfl, ?_⟩
    have : l.findIdx? P = some j := by
     rw [List.findIdx?_eq_some_iff_getElem]
     exact ⟨hj, h, fun i hi => by simp [ht i (by omega) hi]⟩
    rw [this]
   | false =>
    refine ⟨_, rfl, inc_i64 (by omega), fun i hi h2 => ?_⟩
    by_cases hij : i = j
    ·subst hij; exact h
    ·exact ht i hi (by omega))
  (fun s ⟨e, ht⟩ => by
   subst e
   simp only [Nat.zero_add] at ht ⊢
   refine ⟨.inl (), by simp [cmp_lss, len_def], ?_⟩
   have : l.findIdx? P = none := by
    rw [List.findIdx?_eq_none_iff]
    intro x hx
    obtain ⟨i, hi, rfl⟩ := List.getElem_of_mem hx
    exact ht i hi hi
   rw [this])
 rw [h1, h2]
def idxI {α : Type} (P : α → Bool) (l : List α) : Int := match l.findIdx? P with | none => -1 | some i => (i : Int)
theorem indexP_eq {N : Nat} (l : List GPattern) (hs : l.length < 1000000000000) (f : GPattern → Option Bool) (P : GPattern → Bool) (hf : ∀ x ∈ l, f x = some (P x)) (hN : l.length < N) : slices_IndexFunc_LPattern_Pattern N l f = some (idxI P l) := by
 unfold slices_IndexFunc_LPattern_Pattern idxI
 rw [index_loop l hs f P hf hN]
 cases l.findIdx? P <;> rfl
theorem indexG_eq {N : Nat} (l : List GEdge) (hs : l.length < 1000000000000) (f : GEdge → Option Bool) (P : GEdge → Bool) (hf : ∀ x ∈ l, f x = some (P x)) (hN : l.length < N) : slices_IndexFunc_LEdge_Edge N l f = some (idxI P l) := by
 unfold slices_IndexFunc_LEdge_Edge idxI
 rw [index_loop l hs f P hf hN]
 cases l.findIdx? P <;> rfl
theorem idxI_nonneg {α : Type} {P : α → Bool} {l : List α} : 0 ≤ idxI P l ↔ ∃ x ∈ l, P x = true := by
 unfold idxI
 cases h : l.findIdx? P with
 | none =>
  rw [List.findIdx?_eq_none_iff] at h
  constructor
  ·intro h2; simp only at h2; omega
  ·rintro ⟨x, hx, hp⟩; rw [h x hx] at hp; cases hp
 | some i =>
  obtain ⟨hi, hp, _⟩ := List.findIdx?_eq_some_iff_getElem.1 h
  exact ⟨fun _ => ⟨_, List.getElem_mem hi, hp⟩, fun _ => by simp only; omega⟩
theorem idxI_neg {α : Type} {P : α → Bool} {l : List α} (h : ¬ ∃ x ∈ l, P x = true) : idxI P l = -1 := by
 unfold idxI
 have : l.findIdx? P = none := by
  rw [List.findIdx?_eq_none_iff]; intro x hx
  cases hp : P x with
  | false => rfl
  | true => exact absurd ⟨x, hx, hp⟩ h
 rw [this]
theorem idxI_at {α : Type} {P : α → Bool} {l : List α} (h : ∃ x ∈ l, P x = true) : ∃ (i : Nat) (hi : i < l.length), idxI P l = i ∧ P l[i] = true := by
 have h2 := idxI_nonneg.2 h
 unfold idxI at h2 ⊢
 cases hf : l.findIdx? P with
 | none => rw [hf] at h2; simp at h2
 | some i =>
  obtain ⟨hi, hp, _⟩ := List.findIdx?_eq_some_iff_getElem.1 hf
  exact ⟨i, hi, rfl, hp⟩
theorem idxI_app {α : Type} {P : α → Bool} {l m : List α} (h : ∃ x ∈ l, P x = true) : idxI P (l ++ m) = idxI P l := by
 have h2 := idxI_nonneg.2 h
 unfold idxI at h2 ⊢
 rw [List.findIdx?_append]
 cases hf : l.findIdx? P with
 | none => rw [hf] at h2; simp at h2
 | some i => rfl
theorem idxI_last {α : Type} {P : α → Bool} {l : List α} {x : α} (h : ¬ ∃ x ∈ l, P x = true) (hx : P x = true) : idxI P (l ++ [x]) = l.length := by
 unfold idxI
 have : l.findIdx? P = none := by
  rw [List.findIdx?_eq_none_iff]; intro x hx
  cases hp : P x with
  | false => rfl
  | true => exact absurd ⟨x, hx, hp⟩ h
 rw [List.findIdx?_append, this]
 simp [hx]
noncomputable abbrev idxP (l : List GPattern) (p : GPattern) : Int := idxI (fun q => decide (p = q)) l
theorem ex_eq {l : List GPattern} {p : GPattern} : (∃ x ∈ l, decide (p = x) = true) ↔ p ∈ l := by
 constructor
 ·rintro ⟨x, hx, h⟩; rw [of_decide_eq_true h]; exact hx
 ·intro h; exact ⟨p, h, by simp⟩
theorem derivative_index_eq {N : Nat} (hN : 40000000 ≤ N) (l : List GPattern) (p : GPattern) (hl : l.length ≤ 1000000) (hp : p.bulk ≤ 16777216) : derivative_index N l p = some (idxP l p) := by
 unfold derivative_index
 rw [indexP_eq l (by omega) _ (fun q => decide (p = q)) (fun x _ => by unfold derivative_index_1; rw [sameP hN N p x (by omega) hp]; rfl) (by omega)]
 rfl
theorem idxP_inj {l : List GPattern} {p q : GPattern} (hp : p ∈ l) (h : idxP l p = idxP l q) : p = q := by
 have hq : q ∈ l := by
  rw [← ex_eq]; rw [← idxI_nonneg]; show 0 ≤ idxP l q; rw [← h]; exact idxI_nonneg.2 (ex_eq.2 hp)
 obtain ⟨i, hi, e1, e2⟩ := idxI_at (ex_eq.2 hp)
 obtain ⟨j, hj, e3, e4⟩ := idxI_at (ex_eq.2 hq)
 have : i = j := by rw [show idxP l p = idxI (fun q => decide (p = q)) l from rfl, e1, show idxP l q = idxI (fun r => decide (q = r)) l from rfl, e3] at h; omega
 subst this
 rw [of_decide_eq_true e2, of_decide_eq_true e4]
noncomputable def rstep (l : List GPattern) (y : Pr) : List GPattern := if y.2.done = true then l else wth l y.2.p
noncomputable def rests (w : List Pr) : List GPattern := w.foldl rstep []
noncomputable def toOf (l : List GPattern) (r : Gderivative_rest) : Int := if r.done = true then -1 else idxP l r.p
noncomputable def eg (l : List GPattern) (y : Pr) : GEdge := { y.1 with To := toOf l y.2 }
theorem rests_snoc (w : List Pr) (y : Pr) : rests (w ++ [y]) = rstep (rests w) y := by simp [rests, List.foldl_append]
theorem rstep_sub {l : List GPattern} {y : Pr} {p : GPattern} (h : p ∈ l) : p ∈ rstep l y := by unfold rstep; split; exact h; exact wth_mem.2 (.inl h)
theorem rstep_has {l : List GPattern} {y : Pr} (h : ¬ y.2.done = true) : y.2.p ∈ rstep l y := by unfold rstep; rw [if_neg h]; exact wth_mem.2 (.inr rfl)
theorem foldl_rstep_sub {p : GPattern} : ∀ {w : List Pr} {l : List GPattern}, p ∈ l → p ∈ w.foldl rstep l
 | [], l, h => h
 | y :: w, l, h => foldl_rstep_sub (w := w) (rstep_sub h)
theorem rests_has {w : List Pr} {y : Pr} (hy : y ∈ w) (h : ¬ y.2.done = true) : y.2.p ∈ rests w := by
 have key : ∀ (w : List Pr) (l : List GPattern), y ∈ w → y.2.p ∈ w.foldl rstep l := fun w => by
  induction w with
  | nil => intro l h; simp at h
  | cons z w ih =>
   intro l hy
   rcases List.mem_cons.1 hy with rfl | hy
   ·exact foldl_rstep_sub (l := rstep l y) (rstep_has h)
   ·exact ih _ hy
 exact key w [] hy
theorem rests_mem {w : List Pr} {p : GPattern} (h : p ∈ rests w) : ∃ y ∈ w, ¬ y.2.done = true ∧ y.2.p = p := by
 have key : ∀ (w : List Pr) (l : List GPattern), p ∈ w.foldl rstep l → p ∈ l ∨ ∃ y ∈ w, ¬ y.2.done = true ∧ y.2.p = p := fun w => by
  induction w with
  | nil => intro l h; exact .inl h
  | cons z w ih =>
   intro l hy
   rcases ih _ hy with h | ⟨y, hy, h⟩
   ·unfold rstep at h
    split at h
    ·exact .inl h
    ·rename_i hd
     rcases wth_mem.1 h with h | rfl
     ·exact .inl h
     ·exact .inr ⟨z, by simp, hd, rfl⟩
   ·exact .inr ⟨y, by simp [hy], h⟩
 rcases key w [] h with h | h
 ·simp at h
 ·exact h
def Fail (N : Nat) (w : List Pr) : Prop := 2048 < (dd w).length ∨ ∃ y ∈ w, y.2.done = false ∧ restBad N y.2.p ≠ 0
noncomputable instance (N : Nat) (w : List Pr) : Decidable (Fail N w) := Classical.propDecidable _
theorem dd_len_mono (w v : List Pr) : (dd w).length ≤ (dd (w ++ v)).length := by
 rw [dd_app]
 have key : ∀ (v l : List Pr), l.length ≤ (v.foldl wth l).length := fun v => by
  induction v with
  | nil => intro l; exact Nat.le_refl _
  | cons x v ih =>
   intro l
   refine Nat.le_trans ?_ (ih (wth l x))
   unfold wth; split <;> simp
 exact key v _
theorem Fail.mono {N : Nat} {w v : List Pr} (h : Fail N w) : Fail N (w ++ v) := by
 rcases h with h | ⟨y, hy, h⟩
 ·left; have := dd_len_mono w v; omega
 ·right; exact ⟨y, by simp [hy], h⟩
structure DerInv (N : Nat) (w : List Pr) (s : List GPattern × List GEdge) : Prop where
 rs : s.1 = rests w
 es : s.2 = (dd w).map (eg (rests w))
 ok : ¬ Fail N w
 len : (rests w).length ≤ (dd w).length
theorem toOf_stable {l : List GPattern} {r : Gderivative_rest} {y : Pr} (h : ¬ r.done = true → r.p ∈ l) : toOf (rstep l y) r = toOf l r := by
 unfold toOf
 by_cases hd : r.done = true
 ·rw [if_pos hd, if_pos hd]
 ·rw [if_neg hd, if_neg hd]
  unfold rstep
  split
  ·rfl
  ·unfold wth
   split
   ·rfl
   ·exact idxI_app (ex_eq.2 (h hd))
theorem eg_inj {l : List GPattern} {y z : Pr} {B R : Nat} (hy : PairOk B R y) (hz : PairOk B R z) (hly : ¬ y.2.done = true → y.2.p ∈ l) (hlz : ¬ z.2.done = true → z.2.p ∈ l) (h : eg l y = eg l z) : y = z := by
 have h1 : y.1 = z.1 := by
  rw [gedge_eq] at h ⊢
  obtain ⟨_, h⟩ := h
  exact ⟨⟨by rw [hy.from0, hz.from0], by rw [hy.to0, hz.to0]⟩, h⟩
 have ht : toOf l y.2 = toOf l z.2 := (gedge_eq.1 h).1.2
 have hx : ∀ a b : Gderivative_rest, a.done = b.done → a.p = b.p → a = b := fun a b h1 h2 => by cases a; cases b; simp at h1 h2; simp [h1, h2]
 have h2 : y.2 = z.2 := by
  unfold toOf at ht
  by_cases hdy : y.2.done = true <;> by_cases hdz : z.2.done = true
  ·exact hx _ _ (by rw [hdy, hdz]) (by rw [hy.done hdy, hz.done hdz])
  ·rw [if_pos hdy, if_neg hdz] at ht
   have := idxI_nonneg.2 (ex_eq.2 (hlz hdz))
   exfalso; simp only [idxP] at ht; omega
  ·rw [if_neg hdy, if_pos hdz] at ht
   have := idxI_nonneg.2 (ex_eq.2 (hly hdy))
   exfalso; simp only [idxP] at ht; omega
  ·rw [if_neg hdy, if_neg hdz] at ht
   exact hx _ _ (by rw [Bool.not_eq_true] at hdy hdz; rw [hdy, hdz]) (idxP_inj (hly hdy) ht)
 exact Prod.ext h1 h2
noncomputable def dstep (N : Nat) (s9 : List GPattern × List GEdge) (y8 : GEdge × Gderivative_rest) : Option ((List GPattern × List GEdge) ⊕ (List GPattern × List GEdge × Int)) :=
 ((if Ar.nt y8.2.done = true then (derivative_index N s9.1 y8.2.p).bind fun r17 => if Ar.cmp .lss r17 0 = true then (pattern_CheckRest N y8.2.p).bind fun r18 => if Ar.cmp .neq r18 0 = true then some (.inr ({ y8.1 with To := r17 }, 17)) else (appL s9.1 ([y8.2.p])).bind fun l20 => some (.inl ({ y8.1 with To := Ar.len s9.1 }, l20)) else some (.inl ({ y8.1 with To := r17 }, s9.1)) else some (.inl ({ y8.1 with To := (-1) }, s9.1)) ) : Option ((GEdge × (List GPattern)) ⊕ (GEdge × Int))).bind fun s16 =>
  match s16 with
  | .inl y21 =>
   (slices_ContainsFunc_LEdge_Edge N s9.2 (fun y1 => derivative_derived_1 N y1 y21.1)).bind fun r23 =>
   if r23 = true then
    some (.inl (y21.2, s9.2))
   else
    (appL s9.2 ([y21.1])).bind fun l25 =>
    if Ar.cmp .gtr (Ar.len l25) 2048 = true then
     some (.inr (y21.2, l25, 17))
    else
     some (.inl (y21.2, l25))
  | .inr y26 =>
   some (.inr (s9.1, s9.2, y26.2))
theorem contains_eq {N : Nat} (hN : 40000000 ≤ N) (l : List GEdge) (e : GEdge) (hl : l.length ≤ 1000000) (hs : Esz e 1000) (hc : e.Cond.bulk ≤ 16777216) (hk : ∀ c ∈ e.Checks, c.bulk ≤ 16777216) (hf : ∀ y ∈ l, e.From = y.From) : slices_ContainsFunc_LEdge_Edge N l (fun y1 => derivative_derived_1 N y1 e) = some (decide (e ∈ l)) := by
 unfold slices_ContainsFunc_LEdge_Edge
 rw [indexG_eq l (by omega) _ (fun y => decide (e = y)) (fun y hy => by
  unfold derivative_derived_1
  rw [sameEdge_eq hN e y hs hc hk]
  simp only [Option.bind_some, cmp_eql, decide_eq_true_eq]
  rw [if_dec rfl]
  congr 1
  rw [decide_eq_decide, gedge_eq]
  simp only [hf y hy, true_and]) (by omega)]
 simp only [Option.bind_some, cmp_geq]
 congr 1
 rw [decide_eq_decide, idxI_nonneg]
 constructor
 ·rintro ⟨x, hx, h⟩; rw [of_decide_eq_true h]; exact hx
 ·intro h; exact ⟨e, h, by simp⟩
theorem dstep_eq {N : Nat} (hN : 40000000 ≤ N) {w : List Pr} {s : List GPattern × List GEdge} (hI : DerInv N w s) (y : Pr) (hy : PairOk 16777216 16777216 y) (hw : ∀ z ∈ w, PairOk 16777216 16777216 z) (hs : Esz y.1 1000) :
 ∃ o, dstep N s y = some o ∧ (match o with | .inl s' => DerInv N (w ++ [y]) s' | .inr q => q.2.2 = 17 ∧ Fail N (w ++ [y])) := by
 obtain ⟨hrs, hes, hok, hlen⟩ := hI
 have hD : (dd w).length ≤ 2048 := by
  rcases Nat.lt_or_ge 2048 (dd w).length with h | h
  ·exact absurd (.inl h) hok
  ·exact h
 have hdw : ∀ z ∈ dd w, z ∈ w := fun z hz => dd_mem.1 hz
 have key : restBad N y.2.p = 0 ∨ y.2.done = true → ∀ (T : Int) (L : List GPattern), L = rests (w ++ [y]) → T = toOf (rests (w ++ [y])) y.2 → ∃ o, ((slices_ContainsFunc_LEdge_Edge N s.2 (fun y1 => derivative_derived_1 N y1 { y.1 with To := T })).bind fun r23 => if r23 = true then some (Sum.inl (L, s.2)) else (appL s.2 ([{ y.1 with To := T }])).bind fun l25 => if Ar.cmp .gtr (Ar.len l25) 2048 = true then some (.inr (L, l25, (17 : Int))) else some (.inl (L, l25))) = some o ∧ (match o with | .inl s' => DerInv N (w ++ [y]) s' | .inr q => q.2.2 = 17 ∧ Fail N (w ++ [y])) := by
  intro hgood T L hL hT
  subst hL; subst hT
  have hE : s.2 = (dd w).map (eg (rests (w ++ [y]))) := by
   rw [hes, rests_snoc]
   apply List.map_congr_left
   intro z hz
   unfold eg
   rw [toOf_stable fun h => rests_has (hdw z hz) h]
  have hin : eg (rests (w ++ [y])) y ∈ s.2 ↔ y ∈ dd w := by
   rw [hE, List.mem_map]
   constructor
   ·rintro ⟨z, hz, h⟩
    have := eg_inj (hw z (hdw z hz)) hy (fun h => rests_has (by simp [hdw z hz]) h) (fun h => rests_has (by simp) h) h
    rw [← this]; exact hz
   ·intro h; exact ⟨y, h, rfl⟩
  have hlE : s.2.length = (dd w).length := by rw [hE, List.length_map]
  change ∃ o, ((slices_ContainsFunc_LEdge_Edge N s.2 (fun y1 => derivative_derived_1 N y1 (eg (rests (w ++ [y])) y))).bind _) = _ ∧ _
  rw [contains_eq hN s.2 (eg (rests (w ++ [y])) y) (by omega) hs hy.cond hy.checks (fun z hz => by
   rw [hE] at hz
   obtain ⟨v, hv, rfl⟩ := List.mem_map.1 hz
   simp only [eg]
   rw [hy.from0, (hw v (hdw v hv)).from0])]
  simp only [Option.bind_some, decide_eq_true_eq]
  have hnb : ¬ ∃ v ∈ w ++ [y], v.2.done = false ∧ restBad N v.2.p ≠ 0 := by
   rintro ⟨v, hv, h1, h2⟩
   rcases List.mem_append.1 hv with hv | hv
   ·exact hok (.inr ⟨v, hv, h1, h2⟩)
   ·rw [List.mem_singleton.1 hv] at h1 h2
    rcases hgood with h | h
    ·exact h2 h
    ·rw [h] at h1; cases h1
  by_cases hyD : y ∈ dd w
  ·have hdd : dd (w ++ [y]) = dd w := by rw [dd_snoc]; unfold wth; rw [if_pos hyD]
   have hrr : rests (w ++ [y]) = rests w := by
    rw [rests_snoc]; unfold rstep
    split
    ·rfl
    ·rename_i hd
     unfold wth
     rw [if_pos (rests_has (hdw y hyD) hd)]
   rw [if_pos (hin.2 hyD)]
   refine ⟨_, rfl, rfl, ?_, ?_, ?_⟩
   ·rw [hdd]; exact hE
   ·rintro (h | h)
    ·rw [hdd] at h; omega
    ·exact hnb h
   ·rw [hdd, hrr]; exact hlen
  ·have hdd : dd (w ++ [y]) = dd w ++ [y] := by rw [dd_snoc]; unfold wth; rw [if_neg hyD]
   rw [if_neg fun h => hyD (hin.1 h), appL_eq (by simp; omega)]
   simp only [Option.bind_some]
   by_cases hbig : 2048 < (dd w).length + 1
   ·rw [if_pos (gt_true (by simp only [len_def, List.length_append, List.length_cons, List.length_nil, hlE]; omega))]
    refine ⟨_, rfl, rfl, .inl ?_⟩
    rw [hdd]; simp; omega
   ·rw [if_neg (gt_false (by simp only [len_def, List.length_append, List.length_cons, List.length_nil, hlE]; omega))]
    refine ⟨_, rfl, rfl, ?_, ?_, ?_⟩
    ·simp only [hdd, List.map_append, List.map_cons, List.map_nil]
     rw [hE]; rfl
    ·rintro (h | h)
     ·rw [hdd] at h; simp at h; omega
     ·exact hnb h
    ·rw [hdd, rests_snoc]
     unfold rstep
     split
     ·simp; omega
     ·unfold wth; split
      ·simp; omega
      ·simp; omega
 unfold dstep
 by_cases hd : y.2.done = true
 ·rw [if_neg (by simp [nt_def, hd])]
  simp only [Option.bind_some]
  have hrr : rests (w ++ [y]) = rests w := by rw [rests_snoc]; unfold rstep; rw [if_pos hd]
  exact key (.inr hd) (-1) s.1 (by rw [hrs, hrr]) (by unfold toOf; rw [if_pos hd])
 ·rw [if_pos (by simp [nt_def, hd]), hrs, derivative_index_eq hN _ _ (by omega) hy.rest]
  simp only [Option.bind_some, cmp_lss]
  by_cases hin : y.2.p ∈ rests w
  ·have h0 := idxI_nonneg.2 (ex_eq.2 hin)
   rw [if_neg (by rw [decide_eq_true_eq]; simp only [idxP]; omega)]
   simp only [Option.bind_some]
   have hrr : rests (w ++ [y]) = rests w := by rw [rests_snoc]; unfold rstep wth; rw [if_neg hd, if_pos hin]
   obtain ⟨v, hv, hvd, hvp⟩ := rests_mem hin
   have hgood : restBad N y.2.p = 0 := by
    by_cases h : restBad N y.2.p = 0
    ·exact h
    ·exact absurd (.inr ⟨v, hv, by simpa using hvd, by rw [hvp]; exact h⟩) hok
   exact key (.inl hgood) _ _ (by rw [hrr]) (by rw [hrr]; unfold toOf; rw [if_neg hd])
  ·rw [if_pos (by rw [decide_eq_true_eq]; simp only [idxP]; rw [idxI_neg fun h => hin (ex_eq.1 h)]; omega), rest_eq hN hy.rest]
   simp only [Option.bind_some]
   by_cases hgood : restBad N y.2.p = 0
   ·rw [if_neg (ne_false hgood), appL_eq (by simp; omega)]
    simp only [Option.bind_some]
    have hrr : rests (w ++ [y]) = rests w ++ [y.2.p] := by rw [rests_snoc]; unfold rstep wth; rw [if_neg hd, if_neg hin]
    exact key (.inl hgood) _ _ hrr.symm (by rw [hrr]; unfold toOf; rw [if_neg hd]; simp only [idxP]; rw [idxI_last (fun h => hin (ex_eq.1 h)) (by simp)]; rfl)
   ·rw [if_pos (ne_true hgood)]
    exact ⟨_, rfl, rfl, .inr ⟨y, by simp, by simpa using hd, hgood⟩⟩
theorem dstep_run {N : Nat} (hN : 40000000 ≤ N) : ∀ (v w : List Pr) (s : List GPattern × List GEdge), DerInv N w s → (∀ z ∈ w ++ v, PairOk 16777216 16777216 z ∧ Esz z.1 1000) → ∃ o, rangeL (dstep N) v s = some o ∧ (match o with | .inl s' => DerInv N (w ++ v) s' | .inr q => q.2.2 = 17 ∧ Fail N (w ++ v))
 | [], w, s, hI, _ => ⟨_, rfl, by simpa using hI⟩
 | y :: v, w, s, hI, h => by
  obtain ⟨o, h1, h2⟩ := dstep_eq hN hI y (h y (by simp)).1 (fun z hz => (h z (by simp [hz])).1) (h y (by simp)).2
  unfold rangeL
  rw [h1]
  cases o with
  | inl s' =>
   have := dstep_run hN v (w ++ [y]) s' h2 (fun z hz => h z (by simpa using hz))
   simpa using this
  | inr q =>
   refine ⟨_, rfl, h2.1, ?_⟩
   have := h2.2.mono (v := v)
   simpa using this
noncomputable def derivedP (N : Nat) (w : List Pr) : List GEdge × List GPattern × Int := if Fail N w then ([], [], 17) else ((dd w).map (eg (rests w)), rests w, 0)
theorem derived_eq {N : Nat} (hN : 40000000 ≤ N) {x : GPattern} (hb : x.bulk ≤ 1100000) (hz : restBad N x = 0) : derivative_derived N x = some (derivedP N (raw x)) := by
 have hp : x.pre.length ≤ 64 := by
  by_cases h : 64 < x.pre.length
  ·rw [restBad, if_pos h] at hz; cases hz
  ·omega
 have hd : ¬ 12 < x.dep := fun h => by rw [restBad, if_neg (by omega), if_pos h] at hz; cases hz
 have hg : Good N x := by
  rw [restBad, if_neg (by omega), if_neg hd] at hz
  exact bad1_zero.1 hz
 unfold derivative_derived
 rw [pairs_eq hN x.dep x N (Nat.le_refl _) (by omega) (by omega) (by omega) hp hg]
 simp only [Option.bind_some]
 obtain ⟨o, h1, h2⟩ := dstep_run hN (raw x) [] ([], []) ⟨rfl, rfl, by rintro (h | ⟨y, hy, _⟩); simp [dd] at h; simp at hy, by simp [rests]⟩ (fun z hz => by
  have hz : z ∈ raw x := by simpa using hz
  have h1 := raw_ok x.dep x (Nat.le_refl _) z hz
  have h2 := raw_sz x.dep x (Nat.le_refl _) z hz
  have h3 : x.dep * (x.bulk + 30) ≤ 12 * (1100000 + 30) := Nat.mul_le_mul (by omega) (by omega)
  exact ⟨h1.mono (by omega) (by omega), h2.mono (by omega)⟩)
 change ((rangeL (dstep N) (raw x) ([], [])).bind _) = _
 rw [h1]
 unfold derivedP
 cases o with
 | inl s' =>
  simp only [List.nil_append] at h2
  simp only [Option.bind_some]
  rw [if_neg h2.ok, h2.rs, h2.es]
 | inr q =>
  simp only [List.nil_append] at h2
  simp only [Option.bind_some]
  rw [if_pos h2.2, h2.1]
end Go.Ab

