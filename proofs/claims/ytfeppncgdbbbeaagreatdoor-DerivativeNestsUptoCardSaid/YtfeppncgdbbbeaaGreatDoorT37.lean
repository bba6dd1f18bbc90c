/- GND2 GND3 GND4 -/
import Derived.Test.YtfeppncgdbbbeaaGreatDoorT36
set_option linter.all false

namespace Go.Ab
theorem loopE_run {β S R : Type} {step : S → Option (List β × (S ⊕ R))} (st : Nat → S) (f : Nat → List β) (w : List β) (r : R) (k : Nat) {s0 : S} {N : Nat} (h0 : s0 = st 0) (hN : k < N) (hs : ∀ j, j < k → step (st j) = some (f j, .inl (st (j + 1)))) (he : step (st k) = some (w, .inr r)) :
 loopE step N s0 = some ((List.range k).flatMap f ++ w, r) := by
 rw [h0, loopE_seq st f w r k 0 hN (fun j _ h => hs j (by omega)) (by rw [Nat.zero_add]; exact he), List.range_eq_range']
theorem loop_run {S R : Type} {step : S → Option (S ⊕ R)} (st : Nat → S) (k : Nat) (r : R) {s0 : S} {N : Nat} (h0 : s0 = st 0) (hN : k < N) (hs : ∀ j, j < k → step (st j) = some (.inl (st (j + 1)))) (he : step (st k) = some (.inr r)) : loopN step N s0 = some r := by
 rw [h0]; exact loop_seq st k r hN hs he
abbrev Pr := GEdge × Gderivative_rest
def zE : GExpr := ⟨0, [], 0, 0, 0, ⟨0, 0, ⟨#[]⟩⟩⟩
def zP : GPattern := ⟨0, [], 0, 0, 0, 0, zE⟩
def nd (op : Int) (args : List GPattern) : GPattern := ⟨op, args, 0, 0, 0, 0, zE⟩
def doneR : Gderivative_rest := ⟨true, zP⟩
def listP (op : Int) (l : List GPattern) : GPattern := match l with | [x] => x | l => nd op l
theorem list_eqD (N : Nat) (op : Int) (l : List GPattern) : derivative_list N op l = some (listP op l) := by
 unfold derivative_list
 match l with
 | [] => rfl
 | [x] => rfl
 | x :: y :: l => rw [if_neg (by simp only [cmp_eql, len_def, List.length_cons, decide_eq_true_eq]; omega)]; rfl
def contR (r : Gderivative_rest) (more : List GPattern) : Gderivative_rest :=
 match (if r.done = true then more else r.p :: more) with
 | [] => doneR
 | l => ⟨false, listP 1 l⟩
theorem cont_eq (N : Nat) (r : Gderivative_rest) (more : List GPattern) (h : more.length ≤ 1000000) : derivative_continued N r more = some (contR r more) := by
 unfold derivative_continued slices_Clone_LPattern_Pattern slices_Insert_LPattern_Pattern contR
 rw [appL_eq (by simp; omega)]
 simp only [Option.bind_some, List.nil_append, nt_def, list_eqD]
 cases hr : r.done with
 | true =>
  simp only [Bool.not_true, Bool.false_eq_true, if_false, Option.bind_some, if_true]
  cases more with
  | nil => rfl
  | cons x l => rw [if_neg (by simp only [cmp_eql, len_def, List.length_cons, decide_eq_true_eq]; omega)]
 | false =>
  have e : insertL more 0 [r.p] = some (r.p :: more) := by
   unfold insertL
   rw [if_pos (by simp; omega)]
   simp
  simp only [Bool.not_false, if_true, e, Option.bind_some, Bool.false_eq_true, if_false]
  rw [if_neg (by simp only [cmp_eql, len_def, List.length_cons, decide_eq_true_eq]; omega)]
def joinR (args : List GPattern) (i : Nat) (r : Gderivative_rest) : Gderivative_rest :=
 ⟨false, listP 3 (if r.done = true then args.take i ++ args.drop (i + 1) else args.set i r.p)⟩
theorem join_eq (N : Nat) (args : List GPattern) (i : Nat) (r : Gderivative_rest) (hi : i < args.length) (h : args.length ≤ 1000000) : derivative_joined N args (i : Int) r = some (joinR args i r) := by
 unfold derivative_joined slices_Clone_LPattern_Pattern slices_Delete_LPattern_Pattern joinR
 rw [appL_eq (by simp; omega)]
 simp only [Option.bind_some, List.nil_append, list_eqD]
 cases hr : r.done with
 | true =>
  have e : deleteL args (i : Int) (Ar.ar .add .i64 (i : Int) 1) = some (args.take i ++ args.drop (i + 1)) := by
   rw [inc_i64 (by omega)]
   unfold deleteL
   rw [if_pos (by omega)]
   simp
  simp only [if_true, e, Option.bind_some]
 | false =>
  have e : updL args (i : Int) (fun _ => r.p) = some (args.set i r.p) := by
   unfold updL
   rw [idx_at, List.getElem?_eq_getElem hi]
   simp
  have e2 : inR args (i : Int) = true := by unfold inR; exact decide_eq_true (by omega)
  simp only [Bool.false_eq_true, if_false, e, e2, req, if_true, Option.bind_some]
def Esz (e : GEdge) (k : Nat) : Prop := e.Opens.length ≤ k ∧ e.Closes.length ≤ k ∧ e.Checks.length ≤ k ∧ e.Limits.length ≤ k ∧ e.Inside.length ≤ k
theorem concat_two {α : Type} {N : Nat} (hN : 3 ≤ N) (l m : List α) (h : l.length + m.length ≤ 1000000000) (grow : List α → Int → Option (List α)) (hg : ∀ n, 0 ≤ n → n ≤ 1073741824 → grow [] n = some []) :
 ((loopN (fun (s1 : Int × Int) => (if Ar.cmp .lss s1.2 (Ar.len [l, m]) = true then (idxL [l, m] s1.2).bind fun x3 => if Ar.cmp .lss (Ar.ar .add .i64 s1.1 (Ar.len x3)) 0 = true then none else some (.inl (Ar.ar .add .i64 s1.1 (Ar.len x3), Ar.ar .add .i64 s1.2 1)) else some (.inr s1.1) : Option ((Int × Int) ⊕ Int))) N (0, 0)).bind fun s2 =>
  (grow [] s2).bind fun l4 => (loopN (fun (s6 : Int × List α) => (if Ar.cmp .lss s6.1 (Ar.len [l, m]) = true then (idxL [l, m] s6.1).bind fun x9 => (appL s6.2 x9).bind fun l11 => some (.inl (Ar.ar .add .i64 s6.1 1, l11)) else some (.inr s6.2) : Option ((Int × List α) ⊕ List α))) N (0, l4)).bind fun s8 => some s8) = some (l ++ m) := by
 have e1 : Ar.ar .add .i64 0 (l.length : Int) = l.length := by rw [add_i64 (by omega) (by omega)]; omega
 have e2 : Ar.ar .add .i64 (l.length : Int) (m.length : Int) = l.length + m.length := by rw [add_i64 (by omega) (by omega)]
 have e3 : Ar.ar .add .i64 0 1 = 1 := by rw [add_i64 (by omega) (by omega)]; rfl
 have e4 : Ar.ar .add .i64 1 1 = 2 := by rw [add_i64 (by omega) (by omega)]; rfl
 obtain ⟨N, rfl⟩ : ∃ M, N = M + 3 := ⟨N - 3, by omega⟩
 have i0 : idxL [l, m] 0 = some l := rfl
 have i1 : idxL [l, m] 1 = some m := rfl
 have c0 : Ar.cmp .lss 0 (Ar.len [l, m]) = true := rfl
 have c1 : Ar.cmp .lss 1 (Ar.len [l, m]) = true := rfl
 have c2 : Ar.cmp .lss 2 (Ar.len [l, m]) = false := rfl
 have n1 : Ar.cmp .lss (l.length : Int) 0 = false := by rw [cmp_lss]; exact decide_eq_false (by omega)
 have n2 : Ar.cmp .lss ((l.length : Int) + m.length) 0 = false := by rw [cmp_lss]; exact decide_eq_false (by omega)
 have hl : ∀ x : List α, Ar.len x = (x.length : Int) := fun x => rfl
 simp only [loopN, c0, if_true, i0, Option.bind_some, hl l, e1, n1, Bool.false_eq_true, if_false, e3, c1, i1, hl m, e2, n2, e4, c2]
 rw [hg _ (by omega) (by omega)]
 simp only [Option.bind_some]
 rw [appL_eq (by simp; omega)]
 simp only [Option.bind_some, e3, c1, if_true, i1, List.nil_append]
 rw [appL_eq (by omega)]
 simp only [Option.bind_some, e4, c2, Bool.false_eq_true, if_false]
theorem grow_nil {α : Type} (n : Int) (h0 : 0 ≤ n) (h1 : n ≤ 1073741824) : growL ([] : List α) n = some [] := by unfold growL; rw [if_pos ⟨h0, h1⟩]
theorem concatE {N : Nat} (hN : 3 ≤ N) (l m : List GExpr) (h : l.length + m.length ≤ 1000000000) : slices_Concat_LExpr_Expr N [l, m] = some (l ++ m) := concat_two hN l m h _ fun n a b => grow_nil n a b
theorem concatI {N : Nat} (hN : 3 ≤ N) (l m : List Int) (h : l.length + m.length ≤ 1000000000) : slices_Concat_Lint_int N [l, m] = some (l ++ m) := concat_two hN l m h _ fun n a b => grow_nil n a b
theorem concatL {N : Nat} (hN : 3 ≤ N) (l m : List GLimit) (h : l.length + m.length ≤ 1000000000) : slices_Concat_LLimit_Limit N [l, m] = some (l ++ m) := concat_two hN l m h _ fun n a b => grow_nil n a b
def scopE (p : GPattern) (x : GEdge) (done opens : Bool) : GEdge :=
 { x with
  Opens := if opens = true then p.Scope :: x.Opens else x.Opens
  Inside := if p.Op = 5 ∨ p.Op = 9 then p.Scope :: x.Inside else x.Inside
  Limits := if p.Op = 5 ∨ p.Op = 9 then x.Limits else ⟨p.Scope, p.Span⟩ :: x.Limits
  Closes := if done = true then x.Closes ++ [p.Scope] else x.Closes }
theorem scop_eq {N : Nat} (hN : 3 ≤ N) (p : GPattern) (x : GEdge) (done opens : Bool) (h : Esz x 1000) : derivative_scoped N p x done opens = some (scopE p x done opens) := by
 obtain ⟨h1, h2, h3, h4, h5⟩ := h
 unfold derivative_scoped scopE
 simp only [or_def, cmp_eql, ← Bool.decide_or, decide_eq_true_eq]
 cases opens <;> cases done <;> by_cases h : p.Op = 5 ∨ p.Op = 9
 all_goals
  simp only [h, if_true, Bool.false_eq_true, if_false, Option.bind_some]
  try rw [concatI (by omega) [p.Scope] x.Opens (by simp; omega)]
  try simp only [Option.bind_some]
  try rw [concatI (by omega) [p.Scope] x.Inside (by simp; omega)]
  try rw [concatL (by omega) [⟨p.Scope, p.Span⟩] x.Limits (by simp; omega)]
  try simp only [Option.bind_some]
  try rw [concatI (by omega) x.Closes [p.Scope] (by simp; omega)]
  rfl
def rep (again : GPattern) (y : Pr) : List Pr :=
 if y.2.done = true then [y, (y.1, ⟨false, again⟩)] else match again.Args with | b :: _ => [(y.1, ⟨false, nd 8 [y.2.p, b]⟩)] | [] => []
def innE (x : GPattern) (y : Pr) : GEdge :=
 if x.Op = 7 then (if y.2.done = true then { y.1 with Checks := y.1.Checks ++ [x.Cond] } else y.1)
 else scopE x y.1 y.2.done (if x.Op = 5 ∨ x.Op = 9 then decide (x.Op = 5) else decide (x.Op = 6))
def innOp (x : GPattern) : Int := if x.Op = 7 then 7 else if x.Op = 5 ∨ x.Op = 9 then 9 else 10
def innR (x : GPattern) (r : Gderivative_rest) : Gderivative_rest := if r.done = true then r else { r with p := { x with Op := innOp x, Args := [r.p] } }
def inn (x : GPattern) (y : Pr) : Pr := (innE x y, innR x y.2)
def comb (x : GPattern) (ls : List (List Pr)) : List Pr :=
 if x.Op = 0 then [(⟨0, 0, x.Var, x.Typ, x.Cond, [], [], [], [], []⟩, doneR)]
 else if x.Op = 1 then (ls.headD []).map fun y => (y.1, contR y.2 (x.Args.drop 1))
 else if x.Op = 2 then (List.range x.Args.length).flatMap fun i => ls.getD i []
 else if x.Op = 3 then (List.range x.Args.length).flatMap fun i => (ls.getD i []).map fun y => (y.1, joinR x.Args i y.2)
 else if x.Op = 4 then (ls.headD []).flatMap (rep x)
 else if x.Op = 8 then (ls.headD []).flatMap (rep (nd 4 (x.Args.drop 1)))
 else (ls.headD []).map (inn x)
mutual
def raw : GPattern → List Pr
 | ⟨op, args, typ, var, scope, span, c⟩ => comb ⟨op, args, typ, var, scope, span, c⟩ (raws args)
def raws : List GPattern → List (List Pr)
 | [] => []
 | a :: l => raw a :: raws l
end
theorem raws_map : ∀ l : List GPattern, raws l = l.map raw
 | [] => rfl
 | a :: l => by simp [raws, raws_map l]
theorem raw_eq (x : GPattern) : raw x = comb x (x.Args.map raw) := by cases x; simp only [raw, raws_map]
theorem Esz.mono {e : GEdge} {k m : Nat} (h : Esz e k) (hm : k ≤ m) : Esz e m := by obtain ⟨h1, h2, h3, h4, h5⟩ := h; exact ⟨by omega, by omega, by omega, by omega, by omega⟩
theorem scopE_sz {p : GPattern} {x : GEdge} {k : Nat} (h : Esz x k) (d o : Bool) : Esz (scopE p x d o) (k + 1) := by
 obtain ⟨h1, h2, h3, h4, h5⟩ := h
 unfold scopE
 refine ⟨?_, ?_, ?_, ?_, ?_⟩ <;> simp only
 ·split <;> (try simp only [List.length_cons, List.length_append, List.length_nil]) <;> omega
 ·split <;> (try simp only [List.length_cons, List.length_append, List.length_nil]) <;> omega
 ·omega
 ·split <;> (try simp only [List.length_cons, List.length_append, List.length_nil]) <;> omega
 split <;> (try simp only [List.length_cons, List.length_append, List.length_nil]) <;> omega
theorem innE_sz {x : GPattern} {y : Pr} {k : Nat} (h : Esz y.1 k) : Esz (innE x y) (k + 1) := by
 unfold innE
 split
 ·split
  ·obtain ⟨h1, h2, h3, h4, h5⟩ := h
   refine ⟨?_, ?_, ?_, ?_, ?_⟩ <;> simp <;> omega
  exact h.mono (by omega)
 exact scopE_sz h _ _
theorem rep_mem {a : GPattern} {y z : Pr} (h : z ∈ rep a y) : z.1 = y.1 := by
 unfold rep at h
 split at h
 ·rcases List.mem_cons.1 h with rfl | h
  ·rfl
  rw [List.mem_singleton.1 h]
 split at h
 ·rw [List.mem_singleton.1 h]
 simp at h
theorem dep_mem {x a : GPattern} (h : a ∈ x.Args) : a.dep < x.dep := by
 rw [GPattern.dep_eq x]
 have key : ∀ l : List GPattern, a ∈ l → a.dep ≤ GPattern.deps l := fun l => by
  induction l with
  | nil => intro h; simp at h
  | cons b l ih =>
   intro h
   simp only [GPattern.deps]
   rcases List.mem_cons.1 h with rfl | h
   ·omega
   have := ih h; omega
 have := key _ h
 omega
theorem getD_map_raw {l : List GPattern} {i : Nat} {y : Pr} (h : y ∈ (l.map raw).getD i []) : ∃ a ∈ l, y ∈ raw a := by
 by_cases hi : i < l.length
 ·rw [List.getD_eq_getElem?_getD, List.getElem?_map, List.getElem?_eq_getElem hi] at h
  exact ⟨l[i], List.getElem_mem hi, h⟩
 rw [List.getD_eq_getElem?_getD, List.getElem?_map, List.getElem?_eq_none (by omega)] at h
 simp at h
theorem headD_map_raw {l : List GPattern} {y : Pr} (h : y ∈ (l.map raw).headD []) : ∃ a ∈ l, y ∈ raw a := by
 cases l with
 | nil => simp at h
 | cons a l => exact ⟨a, by simp, h⟩
theorem raw_sz : ∀ (d : Nat) (x : GPattern), x.dep ≤ d → ∀ y ∈ raw x, Esz y.1 d := by
 intro d
 induction d with
 | zero => intro x h; rw [GPattern.dep_eq] at h; omega
 | succ d ih =>
  intro x hd y hy
  rw [raw_eq] at hy
  have hrec : ∀ a ∈ x.Args, ∀ y ∈ raw a, Esz y.1 d := fun a ha => ih a (by have := dep_mem ha; omega)
  unfold comb at hy
  split at hy
  ·rw [List.mem_singleton.1 hy]; exact ⟨by simp, by simp, by simp, by simp, by simp⟩
  split at hy
  ·obtain ⟨z, hz, rfl⟩ := List.mem_map.1 hy
   obtain ⟨a, ha, hz⟩ := headD_map_raw hz
   exact (hrec a ha z hz).mono (by omega)
  split at hy
  ·obtain ⟨i, _, hz⟩ := List.mem_flatMap.1 hy
   obtain ⟨a, ha, hz⟩ := getD_map_raw hz
   exact (hrec a ha y hz).mono (by omega)
  split at hy
  ·obtain ⟨i, _, hz⟩ := List.mem_flatMap.1 hy
   obtain ⟨z, hz2, rfl⟩ := List.mem_map.1 hz
   obtain ⟨a, ha, hz⟩ := getD_map_raw hz2
   exact (hrec a ha z hz).mono (by omega)
  split at hy
  ·obtain ⟨z, hz, hy⟩ := List.mem_flatMap.1 hy
   obtain ⟨a, ha, hz⟩ := headD_map_raw hz
   rw [rep_mem hy]
   exact (hrec a ha z hz).mono (by omega)
  split at hy
  ·obtain ⟨z, hz, hy⟩ := List.mem_flatMap.1 hy
   obtain ⟨a, ha, hz⟩ := headD_map_raw hz
   rw [rep_mem hy]
   exact (hrec a ha z hz).mono (by omega)
  obtain ⟨z, hz, rfl⟩ := List.mem_map.1 hy
  obtain ⟨a, ha, hz⟩ := headD_map_raw hz
  exact innE_sz (hrec a ha z hz)
theorem slice_tail {α : Type} {l : List α} (h : 1 ≤ l.length) : sliceL l (some 1) none none = some (l.drop 1) := by
 unfold sliceL
 rw [if_pos (by simp; omega)]
 simp only [Option.getD_some, Option.getD_none, Int.toNat_one, Int.toNat_natCast]
 rw [List.take_of_length_le (by simp)]
end Go.Ab

namespace Go.Ab
theorem or3 {x : GPattern} : ((if Ar.cmp .eql x.Op 1 = true then some true else if Ar.cmp .eql x.Op 2 = true then some true else some (Ar.cmp .eql x.Op 3)) : Option Bool) = some (decide (x.Op = 1 ∨ x.Op = 2 ∨ x.Op = 3)) := by
 simp only [cmp_eql, decide_eq_true_eq]
 by_cases h1 : x.Op = 1
 ·simp [h1]
 by_cases h2 : x.Op = 2
 ·simp [h2]
 simp [h1, h2]
theorem flatMap_one {α β : Type} (f : α → β) : ∀ l : List α, l.flatMap (fun x => [f x]) = l.map f
 | [] => rfl
 | x :: l => by rw [List.flatMap_cons, flatMap_one f l]; rfl
theorem getD_map_at {l : List GPattern} {j : Nat} (h : j < l.length) : (l.map raw).getD j [] = raw l[j] := by
 rw [List.getD_eq_getElem?_getD, List.getElem?_map, List.getElem?_eq_getElem h]; rfl
theorem rep_eq {y : Pr} {ag : GPattern} {b : GPattern} {l : List GPattern} (h : ag.Args = b :: l) :
 (if Ar.nt y.2.done = true then (idxL ag.Args 0).bind fun x11 => thenE (some ([(y.1, (⟨false, (⟨8, [y.2.p, x11], 0, 0, 0, 0, (⟨0, [], 0, 0, 0, (⟨0, 0, ⟨#[]⟩⟩ : GValue)⟩ : GExpr)⟩ : GPattern)⟩ : Gderivative_rest))], ())) fun _ => some ([], .inl ())
  else thenE (some ([(y.1, y.2)], ())) fun _ => thenE (some ([(y.1, (⟨false, ag⟩ : Gderivative_rest))], ())) fun _ => some ([], .inl ()) : Option (List Pr × (Unit ⊕ Unit))) = some (rep ag y, .inl ()) := by
 unfold rep
 rw [h]
 cases hy : y.2.done with
 | true => simp [thenE, nt_def]
 | false => simp [thenE, nt_def, idxL]; rfl
theorem range_loop1 (N : Nat) (x1 x2 : GPattern) (n : Nat) {l : List Pr} {b : GPattern} {k : List GPattern} (hb : x2.Args = b :: k) (hp : derivative_pairs N n x1 = some l) : derivative_repeated_1 N (n + 1) x1 x2 = some (l.flatMap (rep x2)) := by
 unfold derivative_repeated_1
 rw [hp]
 simp only [Option.bind_some]
 rw [rangeE_map (fun y => rep x2 y) fun y _ => rep_eq hb]
 simp [thenE]
theorem inn_eq {N : Nat} (hN : 3 ≤ N) (x : GPattern) (y : Pr) (h : Esz y.1 1000) :
 (thenE ((if Ar.cmp .eql x.Op 7 = true then (if y.2.done = true then (slices_Concat_LExpr_Expr N ([y.1.Checks, [x.Cond]])).bind fun r17 => some ([], (x.Op, { y.1 with Checks := r17 })) else some ([], (x.Op, y.1)))
  else thenE ((if Ar.cmp .eql x.Op 5 = true then some ([], true) else some ([], Ar.cmp .eql x.Op 9)) : Option (List Pr × Bool)) fun s18 =>
   if s18 = true then (derivative_scoped N x y.1 y.2.done (Ar.cmp .eql x.Op 5)).bind fun r21 => some ([], (9, r21))
   else (derivative_scoped N x y.1 y.2.done (Ar.cmp .eql x.Op 6)).bind fun r22 => some ([], (10, r22))) : Option (List Pr × (Int × GEdge))) fun s14 =>
  thenE ((if Ar.nt y.2.done = true then (derivative_within N x s14.1 y.2.p).bind fun r26 => some ([], { y.2 with p := r26 }) else some ([], y.2)) : Option (List Pr × Gderivative_rest)) fun s23 =>
  thenE (some ([(s14.2, s23)], ())) fun _ => some ([], .inl ()) : Option (List Pr × (Unit ⊕ Unit))) = some ([inn x y], .inl ()) := by
 obtain ⟨h1, h2, h3, h4, h5⟩ := id h
 unfold inn innE innR innOp derivative_within
 simp only [cmp_eql, decide_eq_true_eq, nt_def]
 by_cases h7 : x.Op = 7
 ·cases hy : y.2.done with
  | true =>
   rw [if_pos h7, if_pos rfl, concatE hN _ _ (by simp; omega)]
   simp [thenE, h7]
  | false =>
   rw [if_pos h7, if_neg (by simp)]
   simp [thenE, h7]
 rw [if_neg h7, if_neg h7, if_neg h7]
 by_cases h59 : x.Op = 5 ∨ x.Op = 9
 ·have e : ((if x.Op = 5 then some ([], true) else some ([], decide (x.Op = 9))) : Option (List Pr × Bool)) = some ([], true) := by
   rcases h59 with h | h <;> simp [h]
  rw [e, if_pos h59, if_pos h59]
  simp only [thenE, Option.bind_some, if_true, scop_eq hN _ _ _ _ h]
  cases hy : y.2.done <;> simp
 have e : ((if x.Op = 5 then some ([], true) else some ([], decide (x.Op = 9))) : Option (List Pr × Bool)) = some ([], false) := by
  rw [not_or] at h59; simp [h59.1, h59.2]
 rw [e, if_neg h59, if_neg h59]
 simp only [thenE, Option.bind_some, Bool.false_eq_true, if_false, scop_eq hN _ _ _ _ h]
 cases hy : y.2.done <;> simp
theorem pairs_eq {N : Nat} (hN : 40000000 ≤ N) : ∀ (d : Nat) (x : GPattern) (n : Nat), x.dep ≤ d → d ≤ 100 → 3 * d ≤ n + 2 → x.bulk ≤ 16777216 → x.pre.length ≤ 64 → Good N x → derivative_pairs N n x = some (raw x) := by
 intro d
 induction d with
 | zero => intro x n h; rw [GPattern.dep_eq] at h; omega
 | succ d ih =>
  intro x n hd hd100 hn hb hp hg
  have hap := args_pre x
  have hself : nodeBad N x = 0 := hg x (by rw [GPattern.pre_eq]; simp)
  have ha := arity_ok hN hb (by omega) hself
  have hrec : ∀ a ∈ x.Args, ∀ m, 3 * d ≤ m + 2 → derivative_pairs N m a = some (raw a) := fun a ham m hm => by
   have := mem_bulk ham
   have := pre_arg ham
   have := dep_mem ham
   exact ih a m (by omega) (by omega) hm (by omega) (by omega) (hg.arg ham)
  have hsz : ∀ a ∈ x.Args, ∀ y ∈ raw a, Esz y.1 1000 := fun a ham y hy => (raw_sz d a (by have := dep_mem ham; omega) y hy).mono (by omega)
  obtain ⟨n, rfl⟩ : ∃ m, n = m + 1 := ⟨n - 1, by omega⟩
  rw [raw_eq]
  unfold derivative_pairs comb
  by_cases h0 : x.Op = 0
  ·rw [if_pos (eql_true h0), if_pos h0]
   unfold derivative_pairs_1
   simp [thenE]; rfl
  rw [if_neg (by rw [eql_false h0]; simp), if_neg h0, or3]
  simp only [Option.bind_some, decide_eq_true_eq]
  have hop := ha.op
  have hd1 : 1 ≤ d := by
   have : x.Args ≠ [] := by
    by_cases h3 : x.Op ≤ 3
    ·have := ha.two (by omega) h3; intro e; rw [e] at this; simp at this
    by_cases h8 : x.Op = 8
    ·obtain ⟨a, b, e⟩ := ha.more h8; rw [e]; simp
    obtain ⟨a, e⟩ := ha.one (by omega) h8; rw [e]; simp
   obtain ⟨a, hm⟩ := List.exists_mem_of_ne_nil _ this
   have := dep_mem hm
   have := GPattern.dep_eq a
   omega
  obtain ⟨n, rfl⟩ : ∃ m, n = m + 2 := ⟨n - 2, by omega⟩
  by_cases h123 : x.Op = 1 ∨ x.Op = 2 ∨ x.Op = 3
  ·rw [if_pos h123]
   have htwo := ha.two (by omega) (by omega)
   unfold derivative_branches derivative_branches_1
   by_cases h1 : x.Op = 1
   ·rw [if_pos h1]
    rw [loopE_run (s0 := (0 : Int)) (st := fun j => (j : Int)) (f := fun j => (raw (x.Args.getD j zP)).map fun y => (y.1, contR y.2 (x.Args.drop 1))) (w := []) (r := (Sum.inr () : Unit ⊕ Unit)) (k := 1) rfl (by omega) ?_ ?_]
    ·match he : x.Args, htwo with
     | a :: l, _ => simp [thenE]
    ·intro j hj
     obtain rfl : j = 0 := by omega
     match he : x.Args, htwo with
     | a :: l, htwo =>
      have hm : a ∈ x.Args := by rw [he]; simp
      rw [if_pos (by simp only [cmp_lss, len_def]; exact decide_eq_true (by omega))]
      have e : idxL (a :: l) ((0 : Nat) : Int) = some a := rfl
      rw [e]
      simp only [Option.bind_some]
      rw [if_neg (by simp [an_def, cmp_gtr]), hrec a hm n (by omega)]
      simp only [Option.bind_some]
      rw [rangeE_map (fun y => [(y.1, contR y.2 l)]) fun y _ => by
       rw [if_pos (eql_true h1), slice_tail (by simp)]
       simp only [Option.bind_some, List.drop_succ_cons, List.drop_zero]
       rw [cont_eq _ _ _ (by rw [he] at hap; simp only [List.length_cons] at hap; omega)]
       simp [thenE]]
      simp [thenE, flatMap_one]
      exact inc_i64 (i := 0) (by omega)
    rw [if_pos (by simp only [cmp_lss, len_def]; exact decide_eq_true (by omega))]
    have e : ∃ b, idxL x.Args ((1 : Nat) : Int) = some b := by
     rw [idx_at, List.getElem?_eq_getElem (by omega)]; exact ⟨_, rfl⟩
    obtain ⟨b, e⟩ := e
    rw [e]
    simp only [Option.bind_some]
    rw [if_pos (by simp [an_def, cmp_gtr, cmp_eql, h1])]
   rw [if_neg h1]
   by_cases h2 : x.Op = 2
   ·rw [if_pos h2]
    rw [loopE_run (s0 := (0 : Int)) (st := fun j => (j : Int)) (f := fun j => (x.Args.map raw).getD j []) (w := []) (r := (Sum.inl () : Unit ⊕ Unit)) (k := x.Args.length) rfl (by omega) ?_ ?_]
    ·simp [thenE]
    ·intro j hj
     have e : idxL x.Args (j : Int) = some x.Args[j] := by rw [idx_at, List.getElem?_eq_getElem hj]
     have hm := List.getElem_mem hj
     simp only [e, Option.bind_some]
     rw [if_pos (by simp only [cmp_lss, len_def]; exact decide_eq_true (by omega)), if_neg (by simp [an_def, cmp_eql, h1]), hrec _ hm n (by omega)]
     simp only [Option.bind_some]
     rw [rangeE_map (fun y => [y]) fun y _ => by
      rw [if_neg (by simp [cmp_eql, h1]), if_neg (by simp [cmp_eql, h2])]
      simp [thenE]]
     rw [getD_map_at hj, flatMap_one (fun y => y)]
     simp [thenE, inc_i64 (i := j) (by omega)]
    rw [if_neg (by simp [cmp_lss, len_def])]
   have h3 : x.Op = 3 := by omega
   rw [if_neg h2, if_pos h3]
   rw [loopE_run (s0 := (0 : Int)) (st := fun j => (j : Int)) (f := fun j => ((x.Args.map raw).getD j []).map fun y => (y.1, joinR x.Args j y.2)) (w := []) (r := (Sum.inl () : Unit ⊕ Unit)) (k := x.Args.length) rfl (by omega) ?_ ?_]
   ·simp [thenE]
   ·intro j hj
    have e : idxL x.Args (j : Int) = some x.Args[j] := by rw [idx_at, List.getElem?_eq_getElem hj]
    have hm := List.getElem_mem hj
    simp only [e, Option.bind_some]
    rw [if_pos (by simp only [cmp_lss, len_def]; exact decide_eq_true (by omega)), if_neg (by simp [an_def, cmp_eql, h1]), hrec _ hm n (by omega)]
    simp only [Option.bind_some]
    rw [rangeE_map (fun y => [(y.1, joinR x.Args j y.2)]) fun y _ => by
     rw [if_neg (by simp [cmp_eql, h1]), if_pos (eql_true h3), join_eq _ _ _ _ hj (by omega)]
     simp [thenE]]
    rw [getD_map_at hj, flatMap_one]
    simp [thenE, inc_i64 (i := j) (by omega)]
   rw [if_neg (by simp [cmp_lss, len_def])]
  rw [if_neg h123, if_neg (show ¬ x.Op = 1 by omega), if_neg (show ¬ x.Op = 2 by omega), if_neg (show ¬ x.Op = 3 by omega)]
  simp only [cmp_eql, decide_eq_true_eq]
  by_cases h4 : x.Op = 4
  ·rw [if_pos h4, if_pos h4]
   obtain ⟨a, e⟩ := ha.one (by omega) (by omega)
   have e0 : idxL x.Args 0 = some a := by rw [e]; rfl
   rw [e0]
   simp only [Option.bind_some]
   unfold derivative_repeated
   rw [range_loop1 N a x n (b := a) (k := []) e (hrec a (by rw [e]; simp) n (by omega))]
   rw [e]; rfl
  rw [if_neg h4, if_neg h4]
  by_cases h8 : x.Op = 8
  ·rw [if_pos h8, if_pos h8]
   obtain ⟨a, b, e⟩ := ha.more h8
   have e0 : idxL x.Args 0 = some a := by rw [e]; rfl
   have e1 : sliceL x.Args (some 1) (some 2) (some 2) = some [b] := by rw [e]; rfl
   rw [e0, e1]
   simp only [Option.bind_some]
   unfold derivative_repeated
   rw [range_loop1 N a _ n (b := b) (k := []) rfl (hrec a (by rw [e]; simp) n (by omega))]
   rw [e]; rfl
  rw [if_neg h8, if_neg h8]
  obtain ⟨a, e⟩ := ha.one (by omega) (by omega)
  have e0 : idxL x.Args 0 = some a := by rw [e]; rfl
  have hma : a ∈ x.Args := by rw [e]; simp
  unfold derivative_inner derivative_inner_1
  rw [e0]
  simp only [Option.bind_some]
  rw [hrec a hma n (by omega)]
  simp only [Option.bind_some]
  rw [rangeE_map (fun y => [inn x y]) fun y hy => inn_eq (by omega) x y (hsz a hma y hy)]
  rw [e, flatMap_one]
  simp [thenE]
end Go.Ab

namespace Go.Ab
structure PairOk (B : Nat) (R : Nat) (y : Pr) : Prop where
 from0 : y.1.From = 0
 to0 : y.1.To = 0
 done : y.2.done = true → y.2.p = zP
 cond : y.1.Cond.bulk ≤ B
 checks : ∀ c ∈ y.1.Checks, c.bulk ≤ B
 rest : y.2.p.bulk ≤ R
theorem PairOk.mono {B R B' R' : Nat} {y : Pr} (h : PairOk B R y) (hB : B ≤ B') (hR : R ≤ R') : PairOk B' R' y := ⟨h.from0, h.to0, h.done, Nat.le_trans h.cond hB, fun c hc => Nat.le_trans (h.checks c hc) hB, Nat.le_trans h.rest hR⟩
theorem zE_bulk : zE.bulk = 10 := by simp [zE, GExpr.bulk, GExpr.bulks, ByteArray.size]
theorem nd_bulk (op : Int) (l : List GPattern) : (nd op l).bulk = GPattern.bulks l + 16 := by rw [GPattern.bulk_eq]; simp only [nd, zE_bulk]
theorem zP_bulk : zP.bulk = 17 := by rw [GPattern.bulk_eq]; simp only [zP, zE_bulk, GPattern.bulks]
theorem listP_bulk (op : Int) (l : List GPattern) : (listP op l).bulk ≤ GPattern.bulks l + 16 := by
 match l with
 | [] => simp only [listP, nd_bulk]; omega
 | [x] => simp only [listP, GPattern.bulks]; omega
 | x :: y :: l => simp only [listP, nd_bulk]; omega
theorem bulks_app : ∀ (l m : List GPattern), GPattern.bulks (l ++ m) + 1 = GPattern.bulks l + GPattern.bulks m
 | [], m => by simp [GPattern.bulks]; omega
 | a :: l, m => by have := bulks_app l m; simp only [List.cons_append, GPattern.bulks]; omega
theorem bulks_take (l : List GPattern) (i : Nat) : GPattern.bulks (l.take i) + GPattern.bulks (l.drop i) = GPattern.bulks l + 1 := by rw [← bulks_app, List.take_append_drop]
theorem bulks_pos (l : List GPattern) : 1 ≤ GPattern.bulks l := by
 cases l with
 | nil => simp [GPattern.bulks]
 | cons a l => have := bulk_pos a; simp only [GPattern.bulks]; omega
theorem bulks_set : ∀ (l : List GPattern) (i : Nat) (p : GPattern) , GPattern.bulks (l.set i p) ≤ GPattern.bulks l + p.bulk
 | [], i, p => by simp [GPattern.bulks]
 | a :: l, 0, p => by simp only [List.set_cons_zero, GPattern.bulks]; omega
 | a :: l, i + 1, p => by have := bulks_set l i p; simp only [List.set_cons_succ, GPattern.bulks]; omega
theorem contR_done (r : Gderivative_rest) (more : List GPattern) : (contR r more).done = true → (contR r more).p = zP := by
 unfold contR
 split
 ·intro; rfl
 intro h; cases h
theorem contR_bulk (r : Gderivative_rest) (more : List GPattern) : (contR r more).p.bulk ≤ r.p.bulk + GPattern.bulks more + 16 := by
 have h0 := bulks_pos more
 unfold contR
 split
 ·simp only [doneR, zP_bulk]; omega
 rename_i l h
 have := listP_bulk 1 (if r.done = true then more else r.p :: more)
 simp only
 by_cases hd : r.done = true
 ·simp only [hd, if_true] at this ⊢; omega
 simp only [hd, if_false, Bool.false_eq_true, GPattern.bulks] at this ⊢; omega
theorem joinR_bulk (args : List GPattern) (i : Nat) (r : Gderivative_rest) : (joinR args i r).p.bulk ≤ r.p.bulk + GPattern.bulks args + 17 := by
 unfold joinR
 simp only
 refine Nat.le_trans (listP_bulk _ _) ?_
 split
 ·have h1 := bulks_take args i
  have h2 := bulks_take args (i + 1)
  have h0 := bulks_app (args.take i) (args.drop (i + 1))
  have h3 : GPattern.bulks (args.take i) ≤ GPattern.bulks (args.take (i + 1)) := by
   have : args.take i = (args.take (i + 1)).take i := by rw [List.take_take]; congr 1; omega
   rw [this]
   have := bulks_take (args.take (i + 1)) i
   have := bulks_pos ((args.take (i + 1)).drop i)
   omega
  omega
 have := bulks_set args i r.p
 omega
theorem raw_ok : ∀ (d : Nat) (x : GPattern), x.dep ≤ d → ∀ y ∈ raw x, PairOk x.bulk (x.dep * (x.bulk + 30)) y := by
 intro d
 induction d with
 | zero => intro x h; rw [GPattern.dep_eq] at h; omega
 | succ d ih =>
  intro x hd y hy
  rw [raw_eq] at hy
  have hdx := GPattern.dep_eq x
  have hxb := GPattern.bulk_eq x
  have key : ∀ a ∈ x.Args, a.dep * (a.bulk + 30) + (x.bulk + 30) ≤ x.dep * (x.bulk + 30) := fun a ha => by
   have h1 := dep_mem ha
   have h2 := mem_bulk ha
   have h3 : a.dep * (a.bulk + 30) ≤ (x.dep - 1) * (x.bulk + 30) := Nat.mul_le_mul (by omega) (by omega)
   have h4 : (x.dep - 1) * (x.bulk + 30) + (x.bulk + 30) = x.dep * (x.bulk + 30) := by
    obtain ⟨k, hk⟩ : ∃ k, x.dep = k + 1 := ⟨x.dep - 1, by omega⟩
    rw [hk]; simp [Nat.add_mul]
   omega
  have one : x.bulk + 30 ≤ x.dep * (x.bulk + 30) := by
   have : 1 * (x.bulk + 30) ≤ x.dep * (x.bulk + 30) := Nat.mul_le_mul (by omega) (Nat.le_refl _)
   omega
  have hrec : ∀ a ∈ x.Args, ∀ y ∈ raw a, PairOk x.bulk (a.dep * (a.bulk + 30)) y := fun a ha y hy => (ih a (by have := dep_mem ha; omega) y hy).mono (by have := mem_bulk ha; omega) (Nat.le_refl _)
  have hrep : ∀ (ag : GPattern), ag.bulk ≤ x.bulk + 16 → ∀ a ∈ x.Args, ∀ z ∈ raw a, ∀ b ∈ x.Args, (∃ l, ag.Args = b :: l) → ∀ y ∈ rep ag z, PairOk x.bulk (x.dep * (x.bulk + 30)) y := fun ag hag a ha z hz b hb hl y hy => by
   have hk := key a ha
   have h := hrec a ha z hz
   unfold rep at hy
   split at hy
   ·rcases List.mem_cons.1 hy with rfl | hy
    ·exact h.mono (Nat.le_refl _) (by omega)
    rw [List.mem_singleton.1 hy]
    exact ⟨h.from0, h.to0, fun h => (by cases h), h.cond, h.checks, by simp only; omega⟩
   obtain ⟨l, hl⟩ := hl
   rw [hl] at hy
   rw [List.mem_singleton.1 hy]
   refine ⟨h.from0, h.to0, fun h => (by cases h), h.cond, h.checks, ?_⟩
   have h1 := h.rest
   have h2 := mem_bulk hb
   simp only [nd_bulk, GPattern.bulks]
   omega
  unfold comb at hy
  split at hy
  ·rw [List.mem_singleton.1 hy]
   refine ⟨rfl, rfl, fun _ => rfl, by simp only; omega, fun c hc => by simp at hc, ?_⟩
   simp only [doneR, zP_bulk]; omega
  split at hy
  ·obtain ⟨z, hz, rfl⟩ := List.mem_map.1 hy
   obtain ⟨a, ha, hz⟩ := headD_map_raw hz
   have h := hrec a ha z hz
   refine ⟨h.from0, h.to0, contR_done _ _, h.cond, h.checks, ?_⟩
   have h1 := contR_bulk z.2 (x.Args.drop 1)
   have h2 := bulks_take x.Args 1
   have h3 := key a ha
   have h4 := h.rest
   simp only; omega
  split at hy
  ·obtain ⟨i, _, hz⟩ := List.mem_flatMap.1 hy
   obtain ⟨a, ha, hz⟩ := getD_map_raw hz
   exact (hrec a ha y hz).mono (Nat.le_refl _) (by have := key a ha; omega)
  split at hy
  ·obtain ⟨i, _, hz⟩ := List.mem_flatMap.1 hy
   obtain ⟨z, hz2, rfl⟩ := List.mem_map.1 hz
   obtain ⟨a, ha, hz⟩ := getD_map_raw hz2
   have h := hrec a ha z hz
   refine ⟨h.from0, h.to0, fun h => by simp [joinR] at h, h.cond, h.checks, ?_⟩
   have h1 := joinR_bulk x.Args i z.2
   have h3 := key a ha
   have h4 := h.rest
   simp only; omega
  split at hy
  ·rename_i h4
   obtain ⟨z, hz, hy⟩ := List.mem_flatMap.1 hy
   match he : x.Args, hz with
   | [], hz => simp at hz
   | a :: l, hz => exact hrep x (by omega) a (by rw [he]; simp) z (by simpa using hz) a (by rw [he]; simp) ⟨l, he⟩ y hy
  split at hy
  ·obtain ⟨z, hz, hy⟩ := List.mem_flatMap.1 hy
   match he : x.Args, hz with
   | [], hz => simp at hz
   | [a], hz =>
    have ha : a ∈ x.Args := by rw [he]; simp
    have h := hrec a ha z (by simpa using hz)
    rw [he] at hy
    unfold rep at hy
    split at hy
    ·rcases List.mem_cons.1 hy with rfl | hy
     ·exact h.mono (Nat.le_refl _) (by have := key a ha; omega)
     rw [List.mem_singleton.1 hy]
     refine ⟨h.from0, h.to0, fun h => (by cases h), h.cond, h.checks, ?_⟩
     simp only [nd_bulk, List.drop_succ_cons, List.drop_nil, GPattern.bulks]; omega
    simp [nd] at hy
   | a :: b :: l, hz =>
    have hb : GPattern.bulks x.Args = a.bulk + (b.bulk + GPattern.bulks l) := by rw [he]; rfl
    rw [he] at hy
    exact hrep (nd 4 (b :: l)) (by simp only [nd_bulk, GPattern.bulks]; omega) a (by rw [he]; simp) z (by simpa using hz) b (by rw [he]; simp) ⟨l, rfl⟩ y hy
  obtain ⟨z, hz, rfl⟩ := List.mem_map.1 hy
  obtain ⟨a, ha, hz⟩ := headD_map_raw hz
  have h := hrec a ha z hz
  have hk := key a ha
  have hr := h.rest
  refine ⟨?_, ?_, ?_, ?_, ?_, ?_⟩
  ·simp only [inn, innE]; split
   ·split
    ·exact h.from0
    exact h.from0
   exact h.from0
  ·simp only [inn, innE]; split
   ·split
    ·exact h.to0
    exact h.to0
   exact h.to0
  ·simp only [inn, innR]; split
   ·exact h.done
   rename_i h2; intro h3; simp only at h3; exact absurd h3 h2
  ·simp only [inn, innE]; split
   ·split
    ·exact h.cond
    exact h.cond
   exact h.cond
  ·simp only [inn, innE]; split
   ·split
    ·intro c hc
     rcases List.mem_append.1 hc with hc | hc
     ·exact h.checks c hc
     rw [List.mem_singleton.1 hc]; omega
    exact h.checks
   exact h.checks
  simp only [inn, innR]; split
  ·omega
  simp only
  rw [GPattern.bulk_eq]
  simp only [GPattern.bulks]
  omega
def wth {α : Type} [DecidableEq α] (l : List α) (x : α) : List α := if x ∈ l then l else l ++ [x]
def dd {α : Type} [DecidableEq α] (l : List α) : List α := l.foldl wth []
section
variable {α : Type} [DecidableEq α]
theorem wth_mem {l : List α} {x y : α} : y ∈ wth l x ↔ y ∈ l ∨ y = x := by
 unfold wth
 split
 ·constructor
  ·exact .inl
  rintro (h | rfl)
  ·exact h
  assumption
 simp
theorem foldl_wth_mem {y : α} : ∀ {l m : List α}, y ∈ l.foldl wth m ↔ y ∈ m ∨ y ∈ l
 | [], m => by simp
 | x :: l, m => by
  simp only [List.foldl_cons, foldl_wth_mem, wth_mem, List.mem_cons]
  constructor
  ·rintro ((h | h) | h)
   ·exact .inl h
   ·exact .inr (.inl h)
   exact .inr (.inr h)
  rintro (h | h | h)
  ·exact .inl (.inl h)
  ·exact .inl (.inr h)
  exact .inr h
theorem dd_mem {l : List α} {y : α} : y ∈ dd l ↔ y ∈ l := by simp [dd, foldl_wth_mem]
theorem dd_snoc (l : List α) (x : α) : dd (l ++ [x]) = wth (dd l) x := by simp [dd, List.foldl_append]
theorem dd_app (l m : List α) : dd (l ++ m) = m.foldl wth (dd l) := by simp [dd, List.foldl_append]
end
end Go.Ab

