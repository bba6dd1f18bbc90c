/- AbG1 AbI1 AbG2 AbG3 AbM1 GQE1 -/
import Derived.Test.YtodfgmbacmnalaaGreatT25
import Derived.Deep.Slices
import Derived.Carry
import Derived.Lib.LaidTab
import Derived.Test.YtodfgmbacmnalaaGreatT24
import Derived.Test.YtodfgmbacmnalaaGreatT30
set_option linter.all false

namespace Go.Ab
open Go.RowKit Go.ChangeShapes Go.WideShapes
variable [Glob]
def g0 (W : World) : Gh := ⟨fun _ => none, fun _ => ⟨0, 0, 0⟩, fun _ => none, fun b o => ∃ v, W.cell? ⟨b, o, none⟩ = some v, 0, W.heap.size⟩
theorem rl0 {W : World} (hg : ∀ n, VR (g0 W) W (.pointer (some ⟨n, 0, none⟩)) (Glob.gl n)) : Rl (g0 W) (fun _ => none) W :=
 ⟨fun id b h => (by cases h), fun id id' b h => (by simp [Gh.at] at h), fun b o h => h, fun id _ => ⟨rfl, rfl, rfl⟩, Nat.le_refl _, hg⟩
def RowV (g : Gh) (w : World) (cs : List Value) (xs : List V) : Prop :=
 cs.length = xs.length ∧ ∀ i, i < xs.length → (cs.getD i undef).oneCell' = true ∧ VR g w (cs.getD i undef) (xs.getD i .bad)
theorem RowV.nil (g : Gh) (w : World) : RowV g w [] [] := ⟨rfl, fun i hi => by simp at hi⟩
theorem RowV.one {g : Gh} {w : World} {v : Value} {x : V} (h1 : v.oneCell' = true) (h : VR g w v x) : RowV g w [v] [x] := by
 refine ⟨rfl, fun i hi => ?_⟩
 have : i = 0 := by simpa using hi
 subst this
 exact ⟨h1, h⟩
theorem RowV.append {g : Gh} {w : World} {cs ds : List Value} {xs ys : List V} (h : RowV g w cs xs) (k : RowV g w ds ys) : RowV g w (cs ++ ds) (xs ++ ys) := by
 refine ⟨by simp [h.1, k.1], fun i hi => ?_⟩
 have hl := h.1
 simp only [List.length_append] at hi
 by_cases hx : i < xs.length
 ·have e1 : (cs ++ ds).getD i undef = cs.getD i undef := by simp [List.getD, List.getElem?_append_left (show i < cs.length by omega)]
  have e2 : (xs ++ ys).getD i .bad = xs.getD i .bad := by simp [List.getD, List.getElem?_append_left hx]
  rw [e1, e2]; exact h.2 i hx
 ·have e1 : (cs ++ ds).getD i undef = ds.getD (i - xs.length) undef := by simp [List.getD, List.getElem?_append_right (show cs.length ≤ i by omega), hl]
  have e2 : (xs ++ ys).getD i .bad = ys.getD (i - xs.length) .bad := by simp [List.getD, List.getElem?_append_right (show xs.length ≤ i by omega)]
  rw [e1, e2]; exact k.2 _ (by omega)
theorem RowV.join {g : Gh} {w : World} {cs : List Value} {xs ys : List V} {a n m : Nat} (h : RowV g w ((cs.drop a).take n) xs) (k : RowV g w ((cs.drop (a + n)).take m) ys) : RowV g w ((cs.drop a).take (n + m)) (xs ++ ys) := by
 have := h.append k
 rwa [show (cs.drop (a + n)) = (cs.drop a).drop n by rw [List.drop_drop], ← List.take_add] at this
theorem RowV.agg {g : Gh} {w : World} {cs : Array Value} {xs : List V} (h : RowV g w cs.toList xs) : VR g w (.agg cs) (.agg xs) := by
 refine .agg (by simpa using h.1) (fun i hi => ?_) fun i hi => ?_
 ·have := (h.2 i hi).1
  simpa [List.getD, Array.getD_eq_getD_getElem?] using this
 ·have := (h.2 i hi).2
  simpa [List.getD, Array.getD_eq_getD_getElem?] using this
section
variable {H α : Type} {enc : TypeId × Value → H} {P : Program} {W : World} {base : Nat} {spare : Nat → Bool} {held : Bool} {t e : TypeId} {n : Nat}
def Opens (enc : TypeId × Value → H) (P : Program) (W : World) (base : Nat) (spare : Nat → Bool) (held : Bool) (t : TypeId) (f : α → V) (R : α → DataW H → Prop) (n : Nat) : Prop :=
 ∀ cs x, DataW.trod enc P W base spare held n t cs = some x → ∃ a, RowV (g0 W) W cs (f a).cells ∧ R a x.1
theorem opens_int {k : IntKind} (ht : P.underlying t = some (.int k)) : Opens enc P W base spare held t (V.int k) (fun a d => d = .lit (.int k a)) n := by
 intro cs x h
 obtain ⟨a, rfl, rfl, _⟩ := DataW.trod_int ht h
 exact ⟨a, .one rfl (.int _ _), rfl⟩
theorem opens_str (ht : P.underlying t = some .string) : Opens enc P W base spare held t V.str (fun a d => d = .lit (.string a.data.toList) ∧ a.size ≤ maxLen) n := by
 intro cs x h
 obtain ⟨a, rfl, rfl, hl⟩ := DataW.trod_string ht h
 exact ⟨a, .one rfl (.str _), rfl, hl⟩
def RL (R : α → DataW H → Prop) (l : List α) (ds : List (DataW H)) : Prop := l.length = ds.length ∧ ∀ (i : Nat) a d, l[i]? = some a → ds[i]? = some d → R a d
def RS (R : α → DataW H → Prop) (l : List α) (d : DataW H) : Prop := l.length ≤ maxLen ∧ ((d = .nil ∧ l = []) ∨ ∃ es sp, d = .slice es sp ∧ RL R l es)
theorem opens_slice {f : α → V} {R : α → DataW H → Prop} (ht : P.underlying t = some (.slice e)) (hc : 0 < P.cellsOf e) (he : Opens enc P W base spare held e f R n) :
 Opens enc P W base spare held t (fun l : List α => .sl (l.map f) .ro) (RS R) (n + 1) := by
 intro cs x h
 rcases DataW.trod_slice ht h with ⟨rfl, rfl⟩ | ⟨a, len, cap, elems, rest, n', hn, rfl, rfl, hb, hl, hm, hlen, hel, hsp, hns⟩
 ·exact ⟨[], .one rfl (.sl0 rfl), Nat.zero_le _, .inl ⟨rfl, rfl⟩⟩
 have hn' : n' = n := by omega
 subst hn'
 rcases Nat.eq_zero_or_pos len with h0 | h0
 ·subst h0
  have : elems = [] := List.length_eq_zero_iff.1 hlen
  subst this
  exact ⟨[], .one rfl (.sle (.inl rfl)), Nat.zero_le _, .inr ⟨_, _, rfl, rfl, fun i a d hi => by simp at hi⟩⟩
 have one : ∀ i, i < len → ∃ cs' y b, W.cells? base (a.add (i * P.cellsOf e)) (P.cellsOf e) = some cs' ∧ elems[i]? = some y ∧ RowV (g0 W) W cs' (f b).cells ∧ R b y.1 := by
  intro i hi
  have h1 := hel i hi
  have h2 : elems[i]? = some (elems[i]'(by omega)) := by simp [hlen, hi]
  rw [h2] at h1
  obtain ⟨cs', hcs, hy⟩ := Option.bind_eq_some_iff.1 h1
  obtain ⟨b, hr, hR⟩ := he cs' _ hy
  exact ⟨cs', _, b, hcs, h2, hr, hR⟩
 obtain ⟨_, _, b0, _⟩ := one 0 h0
 haveI : Inhabited α := ⟨b0⟩
 obtain ⟨A, hA⟩ := Deep.choose_lt (α := α) (p := fun i b => ∃ cs' y, W.cells? base (a.add (i * P.cellsOf e)) (P.cellsOf e) = some cs' ∧ elems[i]? = some y ∧ RowV (g0 W) W cs' (f b).cells ∧ R b y.1)
  (fun i hi => let ⟨cs', y, b, h1, h2, h3, h4⟩ := one i hi; ⟨b, cs', y, h1, h2, h3, h4⟩)
 have hspot : a.spot = none := by
  obtain ⟨cs', y, h1, _, _, _⟩ := hA 0 h0
  obtain ⟨_, hcl, hcell⟩ := World.cells?_some h1
  have h2 := hcell 0 hc
  have e0 : (a.add (0 * P.cellsOf e)).add 0 = a := by simp [Addr.add]
  rw [e0] at h2
  have h3 : cs'[0]? = some (cs'[0]'(by omega)) := by simp [hcl, hc]
  rw [h3] at h2
  unfold World.cell? at h2
  split at h2
  ·split at h2
   ·cases h2
   ·rename_i hs; simpa using hs
  ·cases h2
 obtain ⟨b, o, s⟩ := a
 simp only at hspot
 subst hspot
 let l := (List.range len).map A
 have hll : l.length = len := by simp [l]
 have hg : ∀ i, i < len → (l.map f).getD i .bad = f (A i) := fun i hi => by simp [l, List.getD, hi]
 have cell : ∀ i j, i < len → j < P.cellsOf e → ∃ v, W.cell? ⟨b, o + i * P.cellsOf e + j, none⟩ = some v ∧ v.oneCell' = true ∧ VR (g0 W) W v ((f (A i)).cells.getD j .bad) := by
  intro i j hi hj
  obtain ⟨cs', y, h1, _, hr, _⟩ := hA i hi
  obtain ⟨_, hcl, hcell⟩ := World.cells?_some h1
  have h2 := hcell j hj
  rw [addr_add, addr_add] at h2
  have h3 : cs'[j]? = some (cs'.getD j undef) := by simp [List.getD, hcl, hj]
  rw [h3] at h2
  have := hr.2 j (by rw [← hr.1, hcl]; exact hj)
  exact ⟨_, h2, this.1, this.2⟩
 refine ⟨l, .one rfl ?_, by omega, .inr ⟨_, _, rfl, by simp [hll, hlen], fun i a' d hi hd => ?_⟩⟩
 ·have hz : ∀ i, i < len → ((l.map f).getD i .bad).cells.length = P.cellsOf e := fun i hi => by
   obtain ⟨cs', y, h1, _, hr, _⟩ := hA i hi
   obtain ⟨_, hcl, _⟩ := World.cells?_some h1
   rw [hg i hi, ← hr.1, hcl]
  refine .sl (sz := P.cellsOf e) (fun i j => (W.cell? ⟨b, o + i * P.cellsOf e + j, none⟩).getD undef) (by simp [hll]) hl hz (fun i j hi hj => ?_) (fun i j hi hj => ?_) (fun i j hi hj => ?_) (fun i j hi hj => ?_) trivial
  ·obtain ⟨v, h1, _⟩ := cell i j hi hj; exact ⟨v, h1⟩
  ·obtain ⟨v, h1, _⟩ := cell i j hi hj; rw [h1]; rfl
  ·obtain ⟨v, h1, h2, _⟩ := cell i j hi hj; rw [h1]; exact h2
  ·obtain ⟨v, h1, h2, h3⟩ := cell i j hi hj; rw [h1, hg i hi]; exact h3
 ·have hi' : i < len := by
   rcases Nat.lt_or_ge i l.length with h | h
   ·omega
   ·rw [List.getElem?_eq_none h] at hi; cases hi
  obtain ⟨cs', y, h1, h2, h3, h4⟩ := hA i hi'
  have e1 : a' = A i := by simp [l, hi'] at hi; exact hi.symm
  have e2 : d = y.1 := by simp [h2] at hd; exact hd.symm
  rw [e1, e2]; exact h4
theorem field_some {fs : Array Field} {xs : List (DataW H × List MemPlace)} {cs : List Value} {n : Nat} (hl : xs.length = fs.size)
 (hf : ∀ (i : Nat) (f : Field), fs[i]? = some f → DataW.trod enc P W base spare held n f.type ((cs.drop f.offset).take (P.cellsOf f.type)) = xs[i]?) (i : Nat) {f : Field} (h : fs[i]? = some f) :
 ∃ y, xs[i]? = some y ∧ DataW.trod enc P W base spare held n f.type ((cs.drop f.offset).take (P.cellsOf f.type)) = some y := by
 have hi : i < fs.size := by
  rcases Nat.lt_or_ge i fs.size with h' | h'
  ·exact h'
  ·rw [Array.getElem?_eq_none h'] at h; cases h
 have h1 : xs[i]? = some (xs[i]'(by omega)) := by simp [hl, hi]
 exact ⟨_, h1, by rw [hf i f h, h1]⟩
end
end Go.Ab

namespace Go.Ab
noncomputable instance arInst : Ar where
 cmp := cmpI
 cmp_eq := fun _ _ _ => rfl
 ar := arI
 ar_eq := fun _ _ _ _ => rfl
 sh := shI
 sh_eq := fun _ _ _ _ => rfl
 neg := fun k n => k.wrap (0 - n)
 neg_eq := fun _ _ => rfl
 wr := fun k n => k.wrap n
 wr_eq := fun _ _ => rfl
 scmp := cmpS
 scmp_eq := fun _ _ _ => rfl
 cat := fun a b => a ++ b
 cat_eq := fun _ _ => rfl
 slen := fun s => s.size
 slen_eq := fun _ => rfl
 sat := fun s i => match s[i.toNat]? with | some b => (b.toNat : Int) | none => 0
 sat_eq := fun _ _ => rfl
 beq := fun a b => a == b
 beq_eq := fun _ _ => rfl
 nt := fun a => !a
 nt_eq := fun _ => rfl
 an := fun a b => a && b
 an_eq := fun _ _ => rfl
 or := fun a b => a || b
 or_eq := fun _ _ => rfl
 pk := fun c a b => if c then a else b
 pk_eq := fun _ _ _ => rfl
 mx := fun a b => if a < b then b else a
 mx_eq := fun _ _ => rfl
 mn := fun a b => if b < a then b else a
 mn_eq := fun _ _ => rfl
 ofs := fun a b => a + b
 ofs_eq := fun _ _ => rfl
 ofN := fun n => n
 ofN_eq := fun _ => rfl
 len := fun l => l.length
 len_eq := fun _ => rfl
 lst := fun f l => l.map f
 lst_eq := fun _ _ => rfl
end Go.Ab

namespace Go.Ab
open Go.RowKit Go.ChangeShapes Go.WideShapes
variable [Glob]
section
variable {H α : Type} {enc : TypeId × Value → H} {P : Program} {W : World} {base : Nat} {spare : Nat → Bool} {held : Bool} {t e : TypeId} {n : Nat}
end
end Go.Ab

namespace Go.Ab
open Go.RowKit Go.ChangeShapes Go.WideShapes
variable [Glob]
section
variable {H : Type} {enc : TypeId × Value → H} {P : Program} {W : World} {base : Nat} {spare : Nat → Bool} {held : Bool} {t e : TypeId} {n : Nat}
end
end Go.Ab

namespace Go.Ab
theorem cmp_lss (a b : Int) : Ar.cmp .lss a b = decide (a < b) := rfl
theorem cmp_leq (a b : Int) : Ar.cmp .leq a b = decide (a ≤ b) := rfl
theorem cmp_gtr (a b : Int) : Ar.cmp .gtr a b = decide (b < a) := rfl
theorem cmp_geq (a b : Int) : Ar.cmp .geq a b = decide (b ≤ a) := rfl
theorem cmp_eql (a b : Int) : Ar.cmp .eql a b = decide (a = b) := rfl
theorem cmp_neq (a b : Int) : Ar.cmp .neq a b = !decide (a = b) := rfl
theorem nt_def (a : Bool) : Ar.nt a = !a := rfl
theorem an_def (a b : Bool) : Ar.an a b = (a && b) := rfl
theorem or_def (a b : Bool) : Ar.or a b = (a || b) := rfl
theorem len_def {α : Type} (l : List α) : Ar.len l = (l.length : Int) := rfl
theorem mx_def (a b : Int) : Ar.mx a b = if a < b then b else a := rfl
theorem slen_def (s : ByteArray) : Ar.slen s = (s.size : Int) := rfl
theorem wrap_i64 {n : Int} (h0 : -9223372036854775808 ≤ n) (h1 : n < 9223372036854775808) : IntKind.wrap .i64 n = n := by
 have e : IntKind.wrap .i64 n = (if n % 18446744073709551616 ≥ 9223372036854775808 then n % 18446744073709551616 - 18446744073709551616 else n % 18446744073709551616) := by
  unfold IntKind.wrap
  simp [IntKind.bits, IntKind.signed]
 rw [e]
 split <;> omega
theorem add_i64 {a b : Int} (h0 : -9223372036854775808 ≤ a + b) (h1 : a + b < 9223372036854775808) : Ar.ar .add .i64 a b = a + b := wrap_i64 h0 h1
theorem loop_places {S σ R α : Type} (l : List α) (hl : l.length < 1000000000000) (step : S → Option (S ⊕ R)) (mk : σ → Int → S) (body : σ → α → Option (σ ⊕ R)) (fin : σ → R)
 (hstep : ∀ s (i : Nat) x, l[i]? = some x → step (mk s i) = (body s x).bind fun o => match o with | .inl s' => some (.inl (mk s' (i + 1))) | .inr r => some (.inr r))
 (hend : ∀ s, step (mk s l.length) = some (.inr (fin s))) :
 ∀ (k : Nat) (i : Nat) (s : σ) (N : Nat), i + k = l.length → k < N → loopN step N (mk s i) = (rangeL body (l.drop i) s).bind fun o => match o with | .inl s => some (fin s) | .inr r => some r := by
 intro k
 induction k with
 | zero =>
  intro i s N hi hN
  obtain ⟨N, rfl⟩ : ∃ M, N = M + 1 := ⟨N - 1, by omega⟩
  have e : l.drop i = [] := List.drop_eq_nil_of_le (by omega)
  have ei : ((i : Nat) : Int) = l.length := by omega
  rw [e, ei]
  simp only [loopN, hend, rangeL, Option.bind_some]
 | succ k ih =>
  intro i s N hi hN
  obtain ⟨N, rfl⟩ : ∃ M, N = M + 1 := ⟨N - 1, by omega⟩
  have hlt : i < l.length := by omega
  have hx : l[i]? = some l[i] := by simp [hlt]
  have e : l.drop i = l[i] :: l.drop (i + 1) := List.drop_eq_getElem_cons hlt
  rw [e]
  simp only [loopN, hstep s i _ hx, rangeL]
  cases hb : body s l[i] with
  | none => rfl
  | some o =>
   cases o with
   | inl s' =>
    simp only [Option.bind_some]
    have := ih (i + 1) s' N (by omega) (by omega)
    rw [show ((i : Int) + 1) = ((i + 1 : Nat) : Int) by omega]
    exact this
   | inr r => rfl
theorem idx_at {α : Type} {l : List α} {i : Nat} : idxL l (i : Int) = l[i]? := by simp [idxL]
theorem loop_list {S σ R α : Type} (l : List α) (hl : l.length < 1000000000000) {step : S → Option (S ⊕ R)} (mk : σ → Int → S) (body : σ → α → Option (σ ⊕ R)) (fin : σ → R) (s : σ) {N : Nat} (hN : l.length < N)
 (hstep : ∀ s (i : Nat) x, l[i]? = some x → (i : Int) < l.length → step (mk s i) = (body s x).bind fun o => match o with | .inl s' => some (.inl (mk s' (i + 1))) | .inr r => some (.inr r))
 (hend : ∀ s, step (mk s l.length) = some (.inr (fin s))) : loopN step N (mk s 0) = (rangeL body l s).bind fun o => match o with | .inl s => some (fin s) | .inr r => some r := by
 have := loop_places l hl step mk body fin (fun s i x h => hstep s i x h (by
  rcases Nat.lt_or_ge i l.length with h' | h'
  ·omega
  ·rw [List.getElem?_eq_none h'] at h; cases h)) hend l.length 0 s N (by omega) hN
 simpa using this
theorem range_run {α σ R : Type} {step : σ → α → Option (σ ⊕ R)} (I : List α → σ → Prop) (hs : ∀ x r s, I (x :: r) s → ∃ s', step s x = some (.inl s') ∧ I r s') : ∀ {l : List α} {s : σ}, I l s → ∃ s', rangeL step l s = some (.inl s') ∧ I [] s'
 | [], s, h => ⟨s, rfl, h⟩
 | x :: l, s, h => by
  obtain ⟨s', h1, h2⟩ := hs x l s h
  obtain ⟨s2, h3, h4⟩ := range_run I hs h2
  exact ⟨s2, by simp only [rangeL, h1, h3], h4⟩
def bad1 {α : Type} (f : α → Int) : List α → Int
 | [] => 0
 | x :: l => if f x = 0 then bad1 f l else f x
theorem bad1_zero {α : Type} {f : α → Int} : ∀ {l : List α}, bad1 f l = 0 ↔ ∀ x ∈ l, f x = 0
 | [] => by simp [bad1]
 | x :: l => by
  unfold bad1
  split
  ·rename_i h; rw [bad1_zero]; simp [h]
  ·rename_i h; simp [h]
theorem bad1_append {α : Type} {f : α → Int} : ∀ {l m : List α}, bad1 f (l ++ m) = if bad1 f l = 0 then bad1 f m else bad1 f l
 | [], m => by simp [bad1]
 | x :: l, m => by
  simp only [List.cons_append, bad1]
  split
  ·rw [bad1_append]
  ·rename_i h; simp [h]
noncomputable def stepBad {α : Type} (F : α → Option Int) (_ : Unit) (a : α) : Option (Unit ⊕ (Unit ⊕ Int)) := (F a).bind fun r => if Ar.cmp .neq r 0 = true then some (.inr (.inr r)) else some (.inl ())
theorem range_stepBad {α : Type} {F : α → Option Int} {f : α → Int} : ∀ {l : List α}, (∀ x ∈ l, F x = some (f x)) → rangeL (stepBad F) l () = some (if bad1 f l = 0 then .inl () else .inr (.inr (bad1 f l)))
 | [], _ => rfl
 | x :: l, h => by
  have h1 := range_stepBad (l := l) fun y hy => h y (by simp [hy])
  unfold rangeL stepBad
  simp only [h x (by simp), Option.bind_some, cmp_neq, bad1]
  by_cases hz : f x = 0
  ·simp only [hz, decide_true, Bool.not_true, Bool.false_eq_true, if_false, if_true]
   exact h1
  ·simp [hz]
end Go.Ab

namespace Go.Ab
mutual
def GExpr.bulk : GExpr → Nat
 | ⟨_, args, _, _, _, v⟩ => GExpr.bulks args + v.Text.size + 9
def GExpr.bulks : List GExpr → Nat
 | [] => 1
 | a :: r => GExpr.bulk a + GExpr.bulks r
end
mutual
def GExpr.pre : GExpr → List GExpr
 | ⟨op, args, var, field, kind, val⟩ => ⟨op, args, var, field, kind, val⟩ :: GExpr.pres args
def GExpr.pres : List GExpr → List GExpr
 | [] => []
 | a :: r => GExpr.pre a ++ GExpr.pres r
end
mutual
def GExpr.dep : GExpr → Nat
 | ⟨_, args, _, _, _, _⟩ => GExpr.deps args + 1
def GExpr.deps : List GExpr → Nat
 | [] => 0
 | a :: r => max (GExpr.dep a) (GExpr.deps r)
end
theorem GExpr.pre_eq (x : GExpr) : x.pre = x :: GExpr.pres x.Args := by cases x; simp [GExpr.pre]
theorem GExpr.dep_eq (x : GExpr) : x.dep = GExpr.deps x.Args + 1 := by cases x; simp [GExpr.dep]
theorem GExpr.bulk_eq (x : GExpr) : x.bulk = GExpr.bulks x.Args + x.Value.Text.size + 9 := by cases x; simp [GExpr.bulk]
theorem bulks_e : ∀ (l : List GExpr), (∀ a ∈ l, GExpr.bulk a ≤ GExpr.bulks l) ∧ l.length ≤ GExpr.bulks l
 | [] => ⟨fun a h => by simp at h, by simp [GExpr.bulks]⟩
 | b :: l => by
  have h := bulks_e l
  have hb := GExpr.bulk_eq b
  simp only [GExpr.bulks, List.length_cons]
  refine ⟨fun a ha => ?_, by omega⟩
  rcases List.mem_cons.1 ha with rfl | ha
  ·omega
  ·have := h.1 a ha; omega
mutual
theorem pre_bulk_e : ∀ x : GExpr, x.pre.length ≤ x.bulk
 | ⟨op, args, var, field, kind, val⟩ => by
  have := pres_bulk_e args
  simp only [GExpr.pre, GExpr.bulk, List.length_cons]; omega
theorem pres_bulk_e : ∀ l : List GExpr, (GExpr.pres l).length ≤ GExpr.bulks l
 | [] => by simp [GExpr.pres]
 | a :: l => by
  have h1 := pre_bulk_e a
  have h2 := pres_bulk_e l
  simp only [GExpr.pres, GExpr.bulks, List.length_append]; omega
end
mutual
theorem dep_bulk_e : ∀ x : GExpr, x.dep ≤ x.bulk
 | ⟨op, args, var, field, kind, val⟩ => by
  have := deps_bulk_e args
  simp only [GExpr.dep, GExpr.bulk]; omega
theorem deps_bulk_e : ∀ l : List GExpr, GExpr.deps l ≤ GExpr.bulks l
 | [] => by simp [GExpr.deps]
 | a :: l => by
  have h1 := dep_bulk_e a
  have h2 := deps_bulk_e l
  simp only [GExpr.deps, GExpr.bulks]; omega
end
def Cut (lim : Int) (cnt : Nat) (r : Int) : Prop := 1 ≤ r ∧ r ≤ cnt ∧ (r = cnt ∨ lim < r)
section
variable {α : Type}
theorem range_count {lim : Int} {f : α → Option Int} {cnt : α → Nat} {B : Nat} (hB : B ≤ 1000000000000) : ∀ (l : List α) (s : Int), 0 ≤ s → s + (l.map cnt).sum ≤ B → (∀ a ∈ l, ∃ r, f a = some r ∧ Cut lim (cnt a) r) →
 ∃ o, rangeL (fun (s : Int) x => if s ≤ lim then (f x).bind fun r => some (.inl (Ar.ar .add .i64 s r)) else some (.inr s)) l s = some o ∧
  ∃ v, v = (match o with | .inl s => s | .inr s => s) ∧ s ≤ v ∧ v ≤ s + (l.map cnt).sum ∧ (v = s + (l.map cnt).sum ∨ lim < v)
 | [], s, h0, _, _ => ⟨.inl s, rfl, s, rfl, Int.le_refl _, by simp, .inl (by simp)⟩
 | a :: l, s, h0, hb, hf => by
  simp only [List.map_cons, List.sum_cons] at hb ⊢
  unfold rangeL
  by_cases hs : s ≤ lim
  ·obtain ⟨r, h1, h2, h3, h4⟩ := hf a (by simp)
   simp only [if_pos hs, h1, Option.bind_some]
   have e : Ar.ar .add .i64 s r = s + r := add_i64 (by omega) (by omega)
   rw [e]
   obtain ⟨o, k1, v, k2, k3, k4, k5⟩ := range_count hB l (s + r) (by omega) (by omega) fun b hb => hf b (by simp [hb])
   refine ⟨o, k1, v, k2, by omega, by omega, ?_⟩
   rcases k5 with k5 | k5
   ·rcases h4 with h4 | h4
    ·left; omega
    ·right; omega
   ·exact .inr k5
  ·simp only [if_neg hs]
   exact ⟨_, rfl, s, rfl, Int.le_refl _, by omega, .inr (by omega)⟩
end
theorem sum_pres_e : ∀ l : List GExpr, (l.map fun a => a.pre.length).sum = (GExpr.pres l).length
 | [] => rfl
 | a :: l => by simp [GExpr.pres, sum_pres_e l]
theorem mem_bulk_e {x a : GExpr} (h : a ∈ x.Args) : a.bulk < x.bulk := by
 have h1 := (bulks_e x.Args).1 a h
 have h2 := GExpr.bulk_eq x
 omega
theorem len_bulk_e (x : GExpr) : x.Args.length ≤ x.bulk := by
 have h1 := (bulks_e x.Args).2
 have h2 := GExpr.bulk_eq x
 omega
theorem bulk_pos_e (x : GExpr) : 0 < x.bulk := by have := GExpr.bulk_eq x; omega
theorem appL_eq {α : Type} {l m : List α} (h : l.length + m.length ≤ 1073741824) : appL l m = some (l ++ m) := by simp [appL, h]
theorem count_eq {N : Nat} (hN : 40000000 ≤ N) (lim : Int) : ∀ (n : Nat) (x : GExpr), x.bulk ≤ n → x.bulk ≤ 16777216 → ∃ r, ref08_Count N n x lim = some r ∧ Cut lim x.pre.length r := by
 intro n
 induction n with
 | zero => intro x h; have := bulk_pos_e x; omega
 | succ n ih =>
  intro x hx hb
  have hxb := GExpr.bulk_eq x
  have hB := bulks_e x.Args
  have hpb := pres_bulk_e x.Args
  unfold ref08_Count
  rw [loop_list x.Args (by omega) (mk := fun (s : Int) i => (s, i)) (body := fun (s : Int) a => if s ≤ lim then (ref08_Count N n a lim).bind fun r => some (.inl (Ar.ar .add .i64 s r)) else some (.inr s)) (fin := fun s => s) (s := 1) (by omega) ?_ ?_]
  ·obtain ⟨o, k1, v, k2, k3, k4, k5⟩ := range_count (lim := lim) (f := fun a => ref08_Count N n a lim) (cnt := fun a => a.pre.length) (B := 40000000) (by omega) x.Args 1 (by omega) (by rw [sum_pres_e]; omega) fun a ha => ih a (by have := hB.1 a ha; omega) (by have := hB.1 a ha; omega)
   rw [sum_pres_e] at k4 k5
   have hpe : x.pre.length = (GExpr.pres x.Args).length + 1 := by rw [GExpr.pre_eq]; rfl
   simp only [k1, Option.bind_some]
   refine ⟨v, ?_, by omega, by omega, ?_⟩
   ·cases o <;> simp_all
   ·rcases k5 with k5 | k5
    ·left; omega
    ·right; exact k5
  ·intro s i a ha hi
   have e : Ar.ar .add .i64 (i : Int) 1 = i + 1 := add_i64 (by omega) (by omega)
   simp only [cmp_lss, cmp_leq, an_def, len_def, hi, decide_true, Bool.true_and, idx_at, ha, Option.bind_some, e, decide_eq_true_eq]
   split
   ·cases ref08_Count N n a lim <;> rfl
   ·rfl
  ·intro s
   simp [cmp_lss, an_def, len_def]
theorem depth_eq_e {N : Nat} (hN : 40000000 ≤ N) : ∀ (n : Nat) (x : GExpr), x.bulk ≤ n → x.bulk ≤ 16777216 → ref08_Depth N n x = some (x.dep : Int) := by
 intro n
 induction n with
 | zero => intro x h; have := bulk_pos_e x; omega
 | succ n ih =>
  intro x hx hb
  have hl := len_bulk_e x
  unfold ref08_Depth
  rw [loop_list x.Args (by omega) (mk := fun (s : Int) i => (s, i)) (body := fun (s : Int) a => (ref08_Depth N n a).bind fun r => some (.inl (Ar.mx s r))) (fin := fun s => s) (s := 0) (by omega) ?_ ?_]
  ·obtain ⟨s', k1, k2⟩ := range_run (R := Int) (step := fun (s : Int) a => (ref08_Depth N n a).bind fun r => some (.inl (Ar.mx s r))) (fun r s => (∀ a ∈ r, a ∈ x.Args) ∧ 0 ≤ s ∧ max s (GExpr.deps r : Int) = (GExpr.deps x.Args : Int)) (fun a r s ⟨h1, h2, h3⟩ => by
    have hm := mem_bulk_e (h1 a (by simp))
    refine ⟨_, by rw [ih a (by omega) (by omega)]; rfl, fun b hb => h1 b (by simp [hb]), ?_, ?_⟩
    ·rw [mx_def]; split <;> omega
    ·rw [← h3, mx_def]; simp only [GExpr.deps]; split <;> omega) (l := x.Args) (s := 0) ⟨fun a h => h, Int.le_refl _, by omega⟩
   simp only [k1, Option.bind_some]
   have e : s' = (GExpr.deps x.Args : Int) := by have := k2.2.2; simp only [GExpr.deps] at this; omega
   have hd := deps_bulk_e x.Args
   have hd2 := GExpr.bulk_eq x
   rw [e, add_i64 (by omega) (by omega), GExpr.dep_eq]
   rfl
  ·intro s i a ha hi
   have e : Ar.ar .add .i64 (i : Int) 1 = i + 1 := add_i64 (by omega) (by omega)
   simp only [cmp_lss, len_def, hi, decide_true, if_true, idx_at, ha, Option.bind_some, e]
   cases ref08_Depth N n a <;> rfl
  ·intro s; simp [cmp_lss, len_def]
theorem size_eq_e {N : Nat} (hN : 40000000 ≤ N) : ∀ (n : Nat) (x : GExpr), x.bulk ≤ n → x.bulk ≤ 16777216 → expr_Size N n x = some ((x.pre.length : Int), (x.dep : Int)) := by
 intro n
 induction n with
 | zero => intro x h; have := bulk_pos_e x; omega
 | succ n ih =>
  intro x hx hb
  have hl := len_bulk_e x
  unfold expr_Size
  rw [loop_list x.Args (by omega) (mk := fun (s : Int × Int) i => (s.1, s.2, i)) (body := fun (s : Int × Int) a => (expr_Size N n a).bind fun r => some (.inl (Ar.ar .add .i64 s.1 r.1, Ar.mx s.2 r.2))) (fin := fun s => s) (s := (1, 0)) (by omega) ?_ ?_]
  ·have hp := pres_bulk_e x.Args
   have hd := deps_bulk_e x.Args
   have hbe := GExpr.bulk_eq x
   obtain ⟨s', k1, k2⟩ := range_run (R := Int × Int) (step := fun (s : Int × Int) a => (expr_Size N n a).bind fun r => some (.inl (Ar.ar .add .i64 s.1 r.1, Ar.mx s.2 r.2))) (fun r s => (∀ a ∈ r, a ∈ x.Args) ∧ 0 ≤ s.2 ∧ 0 ≤ s.1 ∧ s.1 + (GExpr.pres r).length = (GExpr.pres x.Args).length + 1 ∧ max s.2 (GExpr.deps r : Int) = (GExpr.deps x.Args : Int)) (fun a r s ⟨h1, h2, h3, h4, h5⟩ => by
    have hm := mem_bulk_e (h1 a (by simp))
    simp only [GExpr.pres, List.length_append, GExpr.deps] at h4 h5
    refine ⟨_, by rw [ih a (by omega) (by omega)]; rfl, fun b hb => h1 b (by simp [hb]), ?_, ?_, ?_, ?_⟩
    ·simp only [mx_def]; split <;> omega
    ·rw [add_i64 (by omega) (by omega)]; omega
    ·rw [add_i64 (by omega) (by omega)]; omega
    ·rw [← h5]; simp only [mx_def]; split <;> omega) (l := x.Args) (s := (1, 0)) ⟨fun a h => h, by simp, by simp, by simp only; omega, by simp only; omega⟩
   simp only [k1, Option.bind_some]
   obtain ⟨_, _, _, e1, e2⟩ := k2
   simp only [GExpr.pres, List.length_nil, GExpr.deps] at e1 e2
   have e3 : s'.1 = (x.pre.length : Int) := by rw [GExpr.pre_eq]; simp only [List.length_cons]; omega
   have e4 : s'.2 = (GExpr.deps x.Args : Int) := by omega
   rw [e3, e4, add_i64 (by omega) (by omega), GExpr.dep_eq]
   rfl
  ·intro s i a ha hi
   have e : Ar.ar .add .i64 (i : Int) 1 = i + 1 := add_i64 (by omega) (by omega)
   simp only [cmp_lss, len_def, hi, decide_true, if_true, idx_at, ha, Option.bind_some, e]
   cases expr_Size N n a <;> rfl
  ·intro s; simp [cmp_lss, len_def]
theorem bad_pres {f : GExpr → Int} : ∀ l : List GExpr, bad1 (fun a => bad1 f a.pre) l = bad1 f (GExpr.pres l)
 | [] => rfl
 | a :: l => by rw [GExpr.pres, bad1_append, bad1, bad_pres l]
theorem sub_pres {a y : GExpr} (hy : y ∈ a.pre) : ∀ l : List GExpr, a ∈ l → y ∈ GExpr.pres l
 | [], h => by simp at h
 | b :: l, h => by
  rcases List.mem_cons.1 h with rfl | h
  ·simp [GExpr.pres, hy]
  ·simp [GExpr.pres, sub_pres hy l h]
theorem visit_eq {N : Nat} (hN : 40000000 ≤ N) {F : GExpr → Option Int} {f : GExpr → Int} : ∀ (n : Nat) (x : GExpr), x.bulk ≤ n → x.bulk ≤ 16777216 → (∀ y ∈ x.pre, F y = some (f y)) → expr_visit N n x F = some (bad1 f x.pre) := by
 intro n
 induction n with
 | zero => intro x h; have := bulk_pos_e x; omega
 | succ n ih =>
  intro x hx hb hF
  have hl := len_bulk_e x
  have hpe := GExpr.pre_eq x
  unfold expr_visit
  rw [hF x (by rw [hpe]; simp)]
  simp only [Option.bind_some, cmp_neq]
  rw [hpe, bad1]
  by_cases hz : f x = 0
  ·simp only [hz, decide_true, Bool.not_true, Bool.false_eq_true, if_false, if_true]
   rw [loop_list x.Args (by omega) (mk := fun (_ : Unit) i => i) (body := stepBad fun a => expr_visit N n a F) (fin := fun _ => .inl ()) (s := ()) (by omega) ?_ ?_]
   ·rw [range_stepBad (f := fun a => bad1 f a.pre) fun a ha => ih a (by have := mem_bulk_e ha; omega) (by have := mem_bulk_e ha; omega) fun y hy => hF y (by rw [hpe]; exact List.mem_cons_of_mem _ (sub_pres hy _ ha)), bad_pres]
    by_cases hz3 : bad1 f (GExpr.pres x.Args) = 0
    ·simp [hz3]
    ·simp [hz3]
   ·intro s i a ha hi
    have e : Ar.ar .add .i64 (i : Int) 1 = i + 1 := add_i64 (by omega) (by omega)
    simp only [cmp_lss, len_def, hi, decide_true, if_true, idx_at, ha, Option.bind_some, e, stepBad, cmp_neq]
    cases expr_visit N n a F with
    | none => rfl
    | some r => by_cases h : r = 0 <;> simp [h]
   ·intro s; simp [cmp_lss, len_def]
  ·simp [hz]
end Go.Ab

