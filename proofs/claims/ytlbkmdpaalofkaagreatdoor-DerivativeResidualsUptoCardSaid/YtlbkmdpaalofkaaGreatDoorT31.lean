/- AbG1 AbG2 AbI1 GZBk GZIn GZPr -/
import Derived.Test.YtlbkmdpaalofkaaGreatDoorT22
import Derived.Deep.Slices
import Derived.Carry
import Derived.Lib.LaidTab
import Derived.Test.YtlbkmdpaalofkaaGreatDoorT23
import Derived.Test.YtlbkmdpaalofkaaGreatDoorCards
import Derived.Test.YtlbkmdpaalofkaaGreatDoorT30
import Derived.Test.YtlbkmdpaalofkaaGreatDoorTie
import Derived.WalkKit
import Derived.ProofKit
import Derived.OpenShut
import Derived.Deep.DeepHandedRow
set_option linter.all false

namespace Go.Ab
open Go.RowKit Go.ChangeShapes Go.WideShapes
variable [Glob]
def g0 (W : World) : Gh := ⟨fun _ => none, fun _ => ⟨0, 0, 0⟩, fun _ => none, fun b o => ∃ v, W.cell? ⟨b, o, none⟩ = some v, 0, W.heap.size⟩
theorem rl0 {W : World} (hg : ∀ n, VR (g0 W) W (.pointer (some ⟨n, 0, none⟩)) (Glob.gl n)) : Rl (g0 W) (fun _ => none) W :=
 ⟨fun id b h => (by cases h), fun id id' b h => (by simp [Gh.at] at h), fun b o h => h, fun id _ => ⟨rfl, rfl, rfl⟩, Nat.le_refl _, hg⟩
def RowV (g : Gh) (w : World) (cs : List Value) (xs : List V) : Prop :=
 cs.length = xs.length ∧ ∀ i, i < xs.length → (cs.getD i undef).oneCell' = true ∧ VR g w (cs.getD i undef) (xs.getD i .bad)
theorem RowV.nil (g : Gh) (w : World) : RowV g w [] [] := ⟨rfl, fun i hi => by simp at hi⟩
theorem RowV.one {g : Gh} {w : World} {v : Value} {x : V} (h1 : v.oneCell' = true) (h : VR g w v x) : RowV g w [v] [x] := by
 refine ⟨rfl, fun i hi => ?_⟩
 have : i = 0 := by simpa using hi
 subst this
 exact ⟨h1, h⟩
theorem RowV.append {g : Gh} {w : World} {cs ds : List Value} {xs ys : List V} (h : RowV g w cs xs) (k : RowV g w ds ys) : RowV g w (cs ++ ds) (xs ++ ys) := by
 refine ⟨by simp [h.1, k.1], fun i hi => ?_⟩
 have hl := h.1
 simp only [List.length_append] at hi
 by_cases hx : i < xs.length
 ·have e1 : (cs ++ ds).getD i undef = cs.getD i undef := by simp [List.getD, List.getElem?_append_left (show i < cs.length by omega)]
  have e2 : (xs ++ ys).getD i .bad = xs.getD i .bad := by simp [List.getD, List.getElem?_append_left hx]
  rw [e1, e2]; exact h.2 i hx
 ·have e1 : (cs ++ ds).getD i undef = ds.getD (i - xs.length) undef := by simp [List.getD, List.getElem?_append_right (show cs.length ≤ i by omega), hl]
  have e2 : (xs ++ ys).getD i .bad = ys.getD (i - xs.length) .bad := by simp [List.getD, List.getElem?_append_right (show xs.length ≤ i by omega)]
  rw [e1, e2]; exact k.2 _ (by omega)
theorem RowV.join {g : Gh} {w : World} {cs : List Value} {xs ys : List V} {a n m : Nat} (h : RowV g w ((cs.drop a).take n) xs) (k : RowV g w ((cs.drop (a + n)).take m) ys) : RowV g w ((cs.drop a).take (n + m)) (xs ++ ys) := by
 have := h.append k
 rwa [show (cs.drop (a + n)) = (cs.drop a).drop n by rw [List.drop_drop], ← List.take_add] at this
theorem RowV.agg {g : Gh} {w : World} {cs : Array Value} {xs : List V} (h : RowV g w cs.toList xs) : VR g w (.agg cs) (.agg xs) := by
 refine .agg (by simpa using h.1) (fun i hi => ?_) fun i hi => ?_
 ·have := (h.2 i hi).1
  simpa [List.getD, Array.getD_eq_getD_getElem?] using this
 ·have := (h.2 i hi).2
  simpa [List.getD, Array.getD_eq_getD_getElem?] using this
section
variable {H α : Type} {enc : TypeId × Value → H} {P : Program} {W : World} {base : Nat} {spare : Nat → Bool} {held : Bool} {t e : TypeId} {n : Nat}
def Opens (enc : TypeId × Value → H) (P : Program) (W : World) (base : Nat) (spare : Nat → Bool) (held : Bool) (t : TypeId) (f : α → V) (R : α → DataW H → Prop) (n : Nat) : Prop :=
 ∀ cs x, DataW.trod enc P W base spare held n t cs = some x → ∃ a, RowV (g0 W) W cs (f a).cells ∧ R a x.1
theorem opens_int {k : IntKind} (ht : P.underlying t = some (.int k)) : Opens enc P W base spare held t (V.int k) (fun a d => d = .lit (.int k a)) n := by
 intro cs x h
 obtain ⟨a, rfl, rfl, _⟩ := DataW.trod_int ht h
 exact ⟨a, .one rfl (.int _ _), rfl⟩
theorem opens_bool (ht : P.underlying t = some .bool) : Opens enc P W base spare held t V.bool (fun a d => d = .lit (.bool a)) n := by
 intro cs x h
 obtain ⟨a, rfl, rfl⟩ := DataW.trod_bool ht h
 exact ⟨a, .one rfl (.bool _), rfl⟩
theorem opens_str (ht : P.underlying t = some .string) : Opens enc P W base spare held t V.str (fun a d => d = .lit (.string a.data.toList) ∧ a.size ≤ maxLen) n := by
 intro cs x h
 obtain ⟨a, rfl, rfl, hl⟩ := DataW.trod_string ht h
 exact ⟨a, .one rfl (.str _), rfl, hl⟩
def RL (R : α → DataW H → Prop) (l : List α) (ds : List (DataW H)) : Prop := l.length = ds.length ∧ ∀ (i : Nat) a d, l[i]? = some a → ds[i]? = some d → R a d
def RS (R : α → DataW H → Prop) (l : List α) (d : DataW H) : Prop := l.length ≤ maxLen ∧ ((d = .nil ∧ l = []) ∨ ∃ es sp, d = .slice es sp ∧ RL R l es)
theorem opens_slice {f : α → V} {R : α → DataW H → Prop} (ht : P.underlying t = some (.slice e)) (hc : 0 < P.cellsOf e) (he : Opens enc P W base spare held e f R n) :
 Opens enc P W base spare held t (fun l : List α => .sl (l.map f) .ro) (RS R) (n + 1) := by
 intro cs x h
 rcases DataW.trod_slice ht h with ⟨rfl, rfl⟩ | ⟨a, len, cap, elems, rest, n', hn, rfl, rfl, hb, hl, hm, hlen, hel, hsp, hns⟩
 ·exact ⟨[], .one rfl (.sl0 rfl), Nat.zero_le _, .inl ⟨rfl, rfl⟩⟩
 have hn' : n' = n := by omega
 subst hn'
 rcases Nat.eq_zero_or_pos len with h0 | h0
 ·subst h0
  have : elems = [] := List.length_eq_zero_iff.1 hlen
  subst this
  exact ⟨[], .one rfl (.sle (.inl rfl)), Nat.zero_le _, .inr ⟨_, _, rfl, rfl, fun i a d hi => by simp at hi⟩⟩
 have one : ∀ i, i < len → ∃ cs' y b, W.cells? base (a.add (i * P.cellsOf e)) (P.cellsOf e) = some cs' ∧ elems[i]? = some y ∧ RowV (g0 W) W cs' (f b).cells ∧ R b y.1 := by
  intro i hi
  have h1 := hel i hi
  have h2 : elems[i]? = some (elems[i]'(by omega)) := by simp [hlen, hi]
  rw [h2] at h1
  obtain ⟨cs', hcs, hy⟩ := Option.bind_eq_some_iff.1 h1
  obtain ⟨b, hr, hR⟩ := he cs' _ hy
  exact ⟨cs', _, b, hcs, h2, hr, hR⟩
 obtain ⟨_, _, b0, _⟩ := one 0 h0
 haveI : Inhabited α := ⟨b0⟩
 obtain ⟨A, hA⟩ := Deep.choose_lt (α := α) (p := fun i b => ∃ cs' y, W.cells? base (a.add (i * P.cellsOf e)) (P.cellsOf e) = some cs' ∧ elems[i]? = some y ∧ RowV (g0 W) W cs' (f b).cells ∧ R b y.1)
  (fun i hi => let ⟨cs', y, b, h1, h2, h3, h4⟩ := one i hi; ⟨b, cs', y, h1, h2, h3, h4⟩)
 have hspot : a.spot = none := by
  obtain ⟨cs', y, h1, _, _, _⟩ := hA 0 h0
  obtain ⟨_, hcl, hcell⟩ := World.cells?_some h1
  have h2 := hcell 0 hc
  have e0 : (a.add (0 * P.cellsOf e)).add 0 = a := by simp [Addr.add]
  rw [e0] at h2
  have h3 : cs'[0]? = some (cs'[0]'(by omega)) := by simp [hcl, hc]
  rw [h3] at h2
  unfold World.cell? at h2
  split at h2
  ·split at h2
   ·cases h2
   ·rename_i hs; simpa using hs
  ·cases h2
 obtain ⟨b, o, s⟩ := a
 simp only at hspot
 subst hspot
 let l := (List.range len).map A
 have hll : l.length = len := by simp [l]
 have hg : ∀ i, i < len → (l.map f).getD i .bad = f (A i) := fun i hi => by simp [l, List.getD, hi]
 have cell : ∀ i j, i < len → j < P.cellsOf e → ∃ v, W.cell? ⟨b, o + i * P.cellsOf e + j, none⟩ = some v ∧ v.oneCell' = true ∧ VR (g0 W) W v ((f (A i)).cells.getD j .bad) := by
  intro i j hi hj
  obtain ⟨cs', y, h1, _, hr, _⟩ := hA i hi
  obtain ⟨_, hcl, hcell⟩ := World.cells?_some h1
  have h2 := hcell j hj
  rw [addr_add, addr_add] at h2
  have h3 : cs'[j]? = some (cs'.getD j undef) := by simp [List.getD, hcl, hj]
  rw [h3] at h2
  have := hr.2 j (by rw [← hr.1, hcl]; exact hj)
  exact ⟨_, h2, this.1, this.2⟩
 refine ⟨l, .one rfl ?_, by omega, .inr ⟨_, _, rfl, by simp [hll, hlen], fun i a' d hi hd => ?_⟩⟩
 ·have hz : ∀ i, i < len → ((l.map f).getD i .bad).cells.length = P.cellsOf e := fun i hi => by
   obtain ⟨cs', y, h1, _, hr, _⟩ := hA i hi
   obtain ⟨_, hcl, _⟩ := World.cells?_some h1
   rw [hg i hi, ← hr.1, hcl]
  refine .sl (sz := P.cellsOf e) (fun i j => (W.cell? ⟨b, o + i * P.cellsOf e + j, none⟩).getD undef) (by simp [hll]) hl hz (fun i j hi hj => ?_) (fun i j hi hj => ?_) (fun i j hi hj => ?_) (fun i j hi hj => ?_) trivial
  ·obtain ⟨v, h1, _⟩ := cell i j hi hj; exact ⟨v, h1⟩
  ·obtain ⟨v, h1, _⟩ := cell i j hi hj; rw [h1]; rfl
  ·obtain ⟨v, h1, h2, _⟩ := cell i j hi hj; rw [h1]; exact h2
  ·obtain ⟨v, h1, h2, h3⟩ := cell i j hi hj; rw [h1, hg i hi]; exact h3
 ·have hi' : i < len := by
   rcases Nat.lt_or_ge i l.length with h | h
   ·omega
   ·rw [List.getElem?_eq_none h] at hi; cases hi
  obtain ⟨cs', y, h1, h2, h3, h4⟩ := hA i hi'
  have e1 : a' = A i := by simp [l, hi'] at hi; exact hi.symm
  have e2 : d = y.1 := by simp [h2] at hd; exact hd.symm
  rw [e1, e2]; exact h4
theorem field_some {fs : Array Field} {xs : List (DataW H × List MemPlace)} {cs : List Value} {n : Nat} (hl : xs.length = fs.size)
 (hf : ∀ (i : Nat) (f : Field), fs[i]? = some f → DataW.trod enc P W base spare held n f.type ((cs.drop f.offset).take (P.cellsOf f.type)) = xs[i]?) (i : Nat) {f : Field} (h : fs[i]? = some f) :
 ∃ y, xs[i]? = some y ∧ DataW.trod enc P W base spare held n f.type ((cs.drop f.offset).take (P.cellsOf f.type)) = some y := by
 have hi : i < fs.size := by
  rcases Nat.lt_or_ge i fs.size with h' | h'
  ·exact h'
  ·rw [Array.getElem?_eq_none h'] at h; cases h
 have h1 : xs[i]? = some (xs[i]'(by omega)) := by simp [hl, hi]
 exact ⟨_, h1, by rw [hf i f h, h1]⟩
end
end Go.Ab

namespace Go.Ab
open Go.RowKit Go.ChangeShapes Go.WideShapes
variable [Glob]
section
variable {H α : Type} {enc : TypeId × Value → H} {P : Program} {W : World} {base : Nat} {spare : Nat → Bool} {held : Bool} {t e : TypeId} {n : Nat}
theorem row_elems {cs : List Value} {sz : Nat} {f : α → V} : ∀ (l : List α) (o : Nat), (∀ (i : Nat) a, l[i]? = some a → RowV (g0 W) W ((cs.drop (o + i * sz)).take sz) (f a).cells) → RowV (g0 W) W ((cs.drop o).take (l.length * sz)) (l.flatMap fun a => (f a).cells)
 | [], o, _ => by simp; exact .nil _ _
 | a :: l, o, h => by
  have h0 := h 0 a rfl
  rw [Nat.zero_mul, Nat.add_zero] at h0
  have h1 := row_elems l (o + sz) fun i b hi => by
   have := h (i + 1) b (by simpa using hi)
   rwa [show o + (i + 1) * sz = o + sz + i * sz by rw [Nat.add_mul]; omega] at this
  have := h0.join h1
  rw [List.length_cons, List.flatMap_cons, show (l.length + 1) * sz = sz + l.length * sz by rw [Nat.add_mul]; omega]
  exact this
theorem opens_array {f : α → V} {R : α → DataW H → Prop} {m : Nat} (ht : P.underlying t = some (.array m e)) (hct : P.cellsOf t = m * P.cellsOf e) (hm : 0 < m) (he : ∀ n, Opens enc P W base spare held e f R n) {cs : List Value} {x : DataW H × List MemPlace}
 (h : DataW.trod enc P W base spare held n t cs = some x) : ∃ l : List α, RowV (g0 W) W cs (l.flatMap fun a => (f a).cells) ∧ ∃ ds, x.1 = .agg ds ∧ RL R l ds := by
 cases n with
 | zero => simp [DataW.trod] at h
 | succ n =>
  simp only [DataW.trod, ht] at h
  split at h
  ·rename_i hl
   obtain ⟨xs, hmm, rfl⟩ := Option.map_eq_some_iff.1 h
   have hxl : xs.length = m := by simpa using mapM_some_length hmm
   have one : ∀ i, i < m → ∃ b, RowV (g0 W) W ((cs.drop (i * P.cellsOf e)).take (P.cellsOf e)) (f b).cells ∧ ∀ y, xs[i]? = some y → R b y.1 := by
    intro i hi
    have h1 := mapM_some_get hmm i i (by simp [hi])
    have h2 : xs[i]? = some (xs[i]'(by omega)) := by simp [hxl, hi]
    rw [h2] at h1
    obtain ⟨b, hr, hR⟩ := he n _ _ h1
    exact ⟨b, hr, fun y hy => by rw [h2] at hy; cases hy; exact hR⟩
   obtain ⟨b0, _⟩ := one 0 hm
   haveI : Inhabited α := ⟨b0⟩
   obtain ⟨A, hA⟩ := Deep.choose_lt one
   have hat : ∀ (i : Nat) a, ((List.range m).map A)[i]? = some a → i < m ∧ a = A i := fun i a hi => by
    rcases Nat.lt_or_ge i m with hlt | hge
    ·simp [hlt] at hi; exact ⟨hlt, hi.symm⟩
    ·rw [List.getElem?_eq_none (by simpa using hge)] at hi; cases hi
   refine ⟨(List.range m).map A, ?_, _, rfl, by simp [hxl], fun i a d hi hd => ?_⟩
   ·have := row_elems (cs := cs) (sz := P.cellsOf e) (f := f) (W := W) ((List.range m).map A) 0 (fun i a hi => by
     obtain ⟨h1, rfl⟩ := hat i a hi
     simpa using (hA i h1).1)
    simpa [List.take_of_length_le, hl, hct] using this
   ·obtain ⟨h1, rfl⟩ := hat i a hi
    simp only [List.getElem?_map, Option.map_eq_some_iff] at hd
    obtain ⟨y, hy, rfl⟩ := hd
    exact (hA i h1).2 y hy
  ·cases h
theorem glob_of_row {g : Nat} {cs : Array Value} {xs : List V} {name : String} (hg : P.globalNamed name = some g) (hv : W.var? P name = some cs) (hr : RowV (g0 W) W cs.toList xs) : VR (g0 W) W (.pointer (some ⟨g, 0, none⟩)) (.eref xs 0) := by
 have cell : ∀ j, j < xs.length → W.cell? ⟨g, 0 + j, none⟩ = some (cs.toList.getD j undef) := fun j hj => by
  have h1 := World.var?_cell hg hv j
  have h2 : j < cs.size := by have := hr.1; simp at this; omega
  rw [Nat.zero_add, h1]
  simp [List.getD, h2]
 exact .eref (g := g0 W) (o := 0) (off := 0) (fun j => cs.toList.getD j undef) (fun j hj => (⟨_, cell j hj⟩ : ∃ v, W.cell? ⟨g, 0 + j, none⟩ = some v)) (fun j hj => cell j hj) (fun j hj => (hr.2 j hj).1) fun j hj => (hr.2 j hj).2
end
end Go.Ab

namespace Go.Ab
noncomputable instance arInst : Ar where
 cmp := cmpI
 cmp_eq := fun _ _ _ => rfl
 ar := arI
 ar_eq := fun _ _ _ _ => rfl
 sh := shI
 sh_eq := fun _ _ _ _ => rfl
 neg := fun k n => k.wrap (0 - n)
 neg_eq := fun _ _ => rfl
 wr := fun k n => k.wrap n
 wr_eq := fun _ _ => rfl
 scmp := cmpS
 scmp_eq := fun _ _ _ => rfl
 cat := fun a b => a ++ b
 cat_eq := fun _ _ => rfl
 slen := fun s => s.size
 slen_eq := fun _ => rfl
 sat := fun s i => match s[i.toNat]? with | some b => (b.toNat : Int) | none => 0
 sat_eq := fun _ _ => rfl
 beq := fun a b => a == b
 beq_eq := fun _ _ => rfl
 nt := fun a => !a
 nt_eq := fun _ => rfl
 an := fun a b => a && b
 an_eq := fun _ _ => rfl
 or := fun a b => a || b
 or_eq := fun _ _ => rfl
 pk := fun c a b => if c then a else b
 pk_eq := fun _ _ _ => rfl
 mx := fun a b => if a < b then b else a
 mx_eq := fun _ _ => rfl
 mn := fun a b => if b < a then b else a
 mn_eq := fun _ _ => rfl
 ofs := fun a b => a + b
 ofs_eq := fun _ _ => rfl
 ofN := fun n => n
 ofN_eq := fun _ => rfl
 len := fun l => l.length
 len_eq := fun _ => rfl
 lst := fun f l => l.map f
 lst_eq := fun _ _ => rfl
end Go.Ab

namespace Go.Ab
mutual
def GExpr.bulk : GExpr → Nat
 | ⟨_, args, _, _, _, v⟩ => GExpr.bulks args + v.Text.size + 9
def GExpr.bulks : List GExpr → Nat
 | [] => 1
 | a :: r => GExpr.bulk a + GExpr.bulks r
end
mutual
def GPattern.bulk : GPattern → Nat
 | ⟨_, args, _, _, _, _, c⟩ => GPattern.bulks args + GExpr.bulk c + 6
def GPattern.bulks : List GPattern → Nat
 | [] => 1
 | a :: r => GPattern.bulk a + GPattern.bulks r
end
end Go.Ab

namespace Go.Ab
open Go.RowKit Go.ChangeShapes Go.WideShapes Go.Proofs Go.Proofs.YtlbkmdpaalofkaaGreatDoor
mutual
def encE : GExpr → V
 | ⟨op, args, var, field, kind, val⟩ => .agg [.int .i64 op, .sl (encEs args) .ro, .int .i64 var, .int .i64 field, .int .i64 kind, .int .i64 val.Kind, .int .i64 val.Num, .str val.Text]
def encEs : List GExpr → List V
 | [] => []
 | a :: r => encE a :: encEs r
end
theorem encEs_map : ∀ l : List GExpr, encEs l = l.map encE
 | [] => by simp [encEs]
 | a :: r => by simp [encEs, encEs_map r]
mutual
def encP : GPattern → V
 | ⟨op, args, typ, var, scope, span, c⟩ => .agg [.int .i64 op, .sl (encPs args) .ro, .int .i64 typ, .int .i64 var, .int .i64 scope, .int .i64 span, .int .i64 c.Op, .sl (c.Args.map encE) .ro, .int .i64 c.Var, .int .i64 c.Field, .int .i64 c.Kind, .int .i64 c.Value.Kind, .int .i64 c.Value.Num, .str c.Value.Text]
def encPs : List GPattern → List V
 | [] => []
 | a :: r => encP a :: encPs r
end
theorem encPs_map : ∀ l : List GPattern, encPs l = l.map encP
 | [] => by simp [encPs]
 | a :: r => by simp [encPs, encPs_map r]
noncomputable def encL (x : GLimit) : V := .agg [.int .i64 x.Scope, .int .i64 x.Span]
noncomputable instance encsInst : Encs where
 eGValue := fun x => .agg [.int .i64 x.Kind, .int .i64 x.Num, .str x.Text]
 eGValue_eq := fun _ => rfl
 eGExpr := encE
 eGExpr_eq := fun ⟨_, _, _, _, _, _⟩ => by simp only [encE, encEs_map]; rfl
 eGPattern := encP
 eGPattern_eq := fun ⟨_, _, _, _, _, _, _⟩ => by simp only [encP, encPs_map]; rfl
 eGLimit := encL
 eGLimit_eq := fun _ => rfl
 eGEdge := fun x => .agg [.int .i64 x.From, .int .i64 x.To, .int .i64 x.Var, .int .i64 x.Typ, .int .i64 x.Cond.Op, .sl (Ar.lst encE x.Cond.Args) .ro, .int .i64 x.Cond.Var, .int .i64 x.Cond.Field, .int .i64 x.Cond.Kind, .int .i64 x.Cond.Value.Kind, .int .i64 x.Cond.Value.Num, .str x.Cond.Value.Text, .sl (Ar.lst (V.int .i64) x.Opens) .ro, .sl (Ar.lst (V.int .i64) x.Closes) .ro, .sl (Ar.lst encE x.Checks) .ro, .sl (Ar.lst encL x.Limits) .ro, .sl (Ar.lst (V.int .i64) x.Inside) .ro]
 eGEdge_eq := fun _ => rfl
 eGGuard := fun x => .agg [.int .i64 x.Scope, .int .i64 x.Typ, .int .i64 x.Var, .int .i64 x.Cond.Op, .sl (Ar.lst encE x.Cond.Args) .ro, .int .i64 x.Cond.Var, .int .i64 x.Cond.Field, .int .i64 x.Cond.Kind, .int .i64 x.Cond.Value.Kind, .int .i64 x.Cond.Value.Num, .str x.Cond.Value.Text]
 eGGuard_eq := fun _ => rfl
 eGtidegateref22_Pair := fun x => .agg [.int .i64 x.Edge.From, .int .i64 x.Edge.To, .int .i64 x.Edge.Var, .int .i64 x.Edge.Typ, .int .i64 x.Edge.Cond.Op, .sl (Ar.lst encE x.Edge.Cond.Args) .ro, .int .i64 x.Edge.Cond.Var, .int .i64 x.Edge.Cond.Field, .int .i64 x.Edge.Cond.Kind, .int .i64 x.Edge.Cond.Value.Kind, .int .i64 x.Edge.Cond.Value.Num, .str x.Edge.Cond.Value.Text, .sl (Ar.lst (V.int .i64) x.Edge.Opens) .ro, .sl (Ar.lst (V.int .i64) x.Edge.Closes) .ro, .sl (Ar.lst encE x.Edge.Checks) .ro, .sl (Ar.lst encL x.Edge.Limits) .ro, .sl (Ar.lst (V.int .i64) x.Edge.Inside) .ro, .bool x.Done, .int .i64 x.Rest.Op, .sl (Ar.lst encP x.Rest.Args) .ro, .int .i64 x.Rest.Typ, .int .i64 x.Rest.Var, .int .i64 x.Rest.Scope, .int .i64 x.Rest.Span, .int .i64 x.Rest.Cond.Op, .sl (Ar.lst encE x.Rest.Cond.Args) .ro, .int .i64 x.Rest.Cond.Var, .int .i64 x.Rest.Cond.Field, .int .i64 x.Rest.Cond.Kind, .int .i64 x.Rest.Cond.Value.Kind, .int .i64 x.Rest.Cond.Value.Num, .str x.Rest.Cond.Value.Text]
 eGtidegateref22_Pair_eq := fun _ => rfl
 eGderivative_rest := fun x => .agg [.bool x.done, .int .i64 x.p.Op, .sl (Ar.lst encP x.p.Args) .ro, .int .i64 x.p.Typ, .int .i64 x.p.Var, .int .i64 x.p.Scope, .int .i64 x.p.Span, .int .i64 x.p.Cond.Op, .sl (Ar.lst encE x.p.Cond.Args) .ro, .int .i64 x.p.Cond.Var, .int .i64 x.p.Cond.Field, .int .i64 x.p.Cond.Kind, .int .i64 x.p.Cond.Value.Kind, .int .i64 x.p.Cond.Value.Num, .str x.p.Cond.Value.Text]
 eGderivative_rest_eq := fun _ => rfl
 eGpattern_shape := fun x => .agg [.int .i64 x.least, .int .i64 x.most, .bool x.typed, .bool x.cond, .bool x.scope, .bool x.span]
 eGpattern_shape_eq := fun _ => rfl
 eLGExpr := fun x => .sl (Ar.lst encE x) .ro
 eLGExpr_eq := fun _ => rfl
 eLI := fun x => .sl (Ar.lst (V.int .i64) x) .ro
 eLI_eq := fun _ => rfl
 eLGLimit := fun x => .sl (Ar.lst encL x) .ro
 eLGLimit_eq := fun _ => rfl
section
variable [Glob] {H : Type} {enc : TypeId × Value → H} {W : World} {base : Nat} {spare : Nat → Bool} {held : Bool}
noncomputable def fsOf (P : Program) (t : TypeId) : Array Field := match P.underlying t with | some (.struct fs) => fs | _ => #[]
theorem open_fld {P : Program} {t ty off sz : Nat} {xs : List (DataW H × List MemPlace)} {cs : List Value} {n : Nat} (hl : xs.length = (fsOf P t).size)
 (hf : ∀ (i : Nat) (f : Field), (fsOf P t)[i]? = some f → DataW.trod enc P W base spare held n f.type ((cs.drop f.offset).take (P.cellsOf f.type)) = xs[i]?) (i : Nat)
 (h : ((fsOf P t)[i]?.map fun f => (f.type, f.offset, P.cellsOf f.type)) = some (ty, off, sz)) : ∃ y, xs[i]? = some y ∧ DataW.trod enc P W base spare held n ty ((cs.drop off).take sz) = some y := by
 cases hi : (fsOf P t)[i]? with
 | none => rw [hi] at h; cases h
 | some f =>
  rw [hi] at h
  simp only [Option.map_some, Option.some.injEq, Prod.mk.injEq] at h
  obtain ⟨rfl, rfl, rfl⟩ := h
  exact field_some hl hf i hi
abbrev bk (d : DataW H) : Nat := Rows.uptoBulk d
theorem u3 : Tryz.prog.underlying 3 = some (.int .i64) := by kernel_rfl
theorem u9 : Tryz.prog.underlying 9 = some .string := by kernel_rfl
theorem u22 : Tryz.prog.underlying 22 = some (.slice 29) := by kernel_rfl
theorem u23 : Tryz.prog.underlying 23 = some (.slice 27) := by kernel_rfl
theorem u25 : Tryz.prog.underlying 25 = some (.struct (fsOf Tryz.prog 25)) := by kernel_rfl
theorem u27 : Tryz.prog.underlying 27 = some (.struct (fsOf Tryz.prog 27)) := by kernel_rfl
theorem u29 : Tryz.prog.underlying 29 = some (.struct (fsOf Tryz.prog 29)) := by kernel_rfl
theorem bks_exprs : ∀ (l : List GExpr) (ds : List (DataW H)), RL (fun a d => GExpr.bulk a ≤ bk d) l ds → GExpr.bulks l ≤ Rows.uptoBulkAll ds + 1
 | [], ds, h => by simp [GExpr.bulks]
 | a :: l, [], h => by have := h.1; simp at this
 | a :: l, d :: ds, h => by
  have h1 : GExpr.bulk a ≤ bk d := h.2 0 a d rfl rfl
  have h2 := bks_exprs l ds ⟨by simpa using h.1, fun i a d hi hd => h.2 (i + 1) a d (by simpa using hi) (by simpa using hd)⟩
  simp only [GExpr.bulks, Rows.uptoBulkAll]
  have h3 : bk d = Rows.uptoBulk d := rfl
  omega
theorem bks_patterns : ∀ (l : List GPattern) (ds : List (DataW H)), RL (fun a d => GPattern.bulk a ≤ bk d) l ds → GPattern.bulks l ≤ Rows.uptoBulkAll ds + 1
 | [], ds, h => by simp [GPattern.bulks]
 | a :: l, [], h => by have := h.1; simp at this
 | a :: l, d :: ds, h => by
  have h1 : GPattern.bulk a ≤ bk d := h.2 0 a d rfl rfl
  have h2 := bks_patterns l ds ⟨by simpa using h.1, fun i a d hi hd => h.2 (i + 1) a d (by simpa using hi) (by simpa using hd)⟩
  simp only [GPattern.bulks, Rows.uptoBulkAll]
  have h3 : bk d = Rows.uptoBulk d := rfl
  omega
theorem bs_exprs {l : List GExpr} {d : DataW H} (h : RS (fun a d => GExpr.bulk a ≤ bk d) l d) : GExpr.bulks l ≤ bk d := by
 obtain ⟨_, h⟩ := h
 rcases h with ⟨rfl, rfl⟩ | ⟨es, sp, rfl, h⟩
 ·simp [bk, Rows.uptoBulk, GExpr.bulks]
 ·have := bks_exprs l es h
  simp only [bk, Rows.uptoBulk]; omega
theorem bs_patterns {l : List GPattern} {d : DataW H} (h : RS (fun a d => GPattern.bulk a ≤ bk d) l d) : GPattern.bulks l ≤ bk d := by
 obtain ⟨_, h⟩ := h
 rcases h with ⟨rfl, rfl⟩ | ⟨es, sp, rfl, h⟩
 ·simp [bk, Rows.uptoBulk, GPattern.bulks]
 ·have := bks_patterns l es h
  simp only [bk, Rows.uptoBulk]; omega
theorem cellsT27 : Tryz.prog.cellsOf 27 = 8 := by kernel_rfl
theorem cellsT29 : Tryz.prog.cellsOf 29 = 14 := by kernel_rfl
theorem Opens.down {α : Type} {P : Program} {t : TypeId} {f : α → V} {R : α → DataW H → Prop} {n : Nat} (h : Opens enc P W base spare held t f R (n + 1)) : Opens enc P W base spare held t f R n := fun cs x hx => h cs x (DataW.trod_le (Nat.le_succ n) hx)
theorem list3 {β : Type} {xs : List β} {a b c : β} (hl : xs.length = 3) (h0 : xs[0]? = some a) (h1 : xs[1]? = some b) (h2 : xs[2]? = some c) : xs = [a, b, c] := by
 match xs, hl with
 | [x, y, z], _ => simp at h0 h1 h2; rw [h0, h1, h2]
theorem list6 {β : Type} {xs : List β} {a b c d e f : β} (hl : xs.length = 6) (h0 : xs[0]? = some a) (h1 : xs[1]? = some b) (h2 : xs[2]? = some c) (h3 : xs[3]? = some d) (h4 : xs[4]? = some e) (h5 : xs[5]? = some f) : xs = [a, b, c, d, e, f] := by
 match xs, hl with
 | [x, y, z, u, v, w], _ => simp at h0 h1 h2 h3 h4 h5; rw [h0, h1, h2, h3, h4, h5]
theorem list7 {β : Type} {xs : List β} {a b c d e f g : β} (hl : xs.length = 7) (h0 : xs[0]? = some a) (h1 : xs[1]? = some b) (h2 : xs[2]? = some c) (h3 : xs[3]? = some d) (h4 : xs[4]? = some e) (h5 : xs[5]? = some f) (h6 : xs[6]? = some g) : xs = [a, b, c, d, e, f, g] := by
 match xs, hl with
 | [x, y, z, u, v, w, q], _ => simp at h0 h1 h2 h3 h4 h5 h6; rw [h0, h1, h2, h3, h4, h5, h6]
theorem open_value (n : Nat) : Opens enc Tryz.prog W base spare held 25 Encs.eGValue (fun (a : GValue) d => a.Text.size + 4 ≤ bk d) n := by
 intro cs x h
 obtain ⟨xs, m, rfl, rfl, hcl, hl, hf⟩ := DataW.trod_struct u25 h
 obtain ⟨y0, k0, t0⟩ := open_fld hl hf 0 (ty := 3) (off := 0) (sz := 1) (by kernel_rfl)
 obtain ⟨y1, k1, t1⟩ := open_fld hl hf 1 (ty := 3) (off := 1) (sz := 1) (by kernel_rfl)
 obtain ⟨y2, k2, t2⟩ := open_fld hl hf 2 (ty := 9) (off := 2) (sz := 1) (by kernel_rfl)
 have hxs := list3 (hl.trans (by kernel_rfl)) k0 k1 k2
 obtain ⟨a0, r0, q0⟩ := opens_int u3 _ _ t0
 obtain ⟨a1, r1, q1⟩ := opens_int u3 _ _ t1
 obtain ⟨a2, r2, q2, _⟩ := opens_str u9 _ _ t2
 refine ⟨⟨a0, a1, a2⟩, ?_, ?_⟩
 ·have hc3 : cs.length = 3 := hcl.trans (by kernel_rfl)
  have := (r0.join r1).join r2
  rw [Encs.eGValue_eq]
  simpa [List.take_of_length_le, hc3, V.cells] using this
 ·rw [hxs]
  simp only [List.map_cons, List.map_nil, bk, Rows.uptoBulk, Rows.uptoBulkAll, q0, q1, q2]
  simp
  omega
theorem open_expr : ∀ n : Nat, Opens enc Tryz.prog W base spare held 27 Encs.eGExpr (fun (a : GExpr) d => GExpr.bulk a ≤ bk d) n := by
 intro n
 induction n with
 | zero => intro cs x h; simp [DataW.trod] at h
 | succ n ih =>
  intro cs x h
  obtain ⟨xs, m, hm, rfl, hcl, hl, hf⟩ := DataW.trod_struct u27 h
  cases hm
  obtain ⟨y0, k0, t0⟩ := open_fld hl hf 0 (ty := 3) (off := 0) (sz := 1) (by kernel_rfl)
  obtain ⟨y1, k1, t1⟩ := open_fld hl hf 1 (ty := 23) (off := 1) (sz := 1) (by kernel_rfl)
  obtain ⟨y2, k2, t2⟩ := open_fld hl hf 2 (ty := 3) (off := 2) (sz := 1) (by kernel_rfl)
  obtain ⟨y3, k3, t3⟩ := open_fld hl hf 3 (ty := 3) (off := 3) (sz := 1) (by kernel_rfl)
  obtain ⟨y4, k4, t4⟩ := open_fld hl hf 4 (ty := 3) (off := 4) (sz := 1) (by kernel_rfl)
  obtain ⟨y5, k5, t5⟩ := open_fld hl hf 5 (ty := 25) (off := 5) (sz := 3) (by kernel_rfl)
  have hxs := list6 (hl.trans (by kernel_rfl)) k0 k1 k2 k3 k4 k5
  obtain ⟨a0, r0, q0⟩ := opens_int u3 _ _ t0
  obtain ⟨a1, r1, q1⟩ : ∃ a1 : List GExpr, RowV (g0 W) W ((cs.drop 1).take 1) (V.sl (a1.map Encs.eGExpr) .ro).cells ∧ RS (fun (a : GExpr) d => GExpr.bulk a ≤ bk d) a1 y1.1 := by
   cases n with
   | zero => simp [DataW.trod] at t1
   | succ n => exact opens_slice u23 (by rw [cellsT27]; decide) ih.down _ _ t1
  obtain ⟨a2, r2, q2⟩ := opens_int u3 _ _ t2
  obtain ⟨a3, r3, q3⟩ := opens_int u3 _ _ t3
  obtain ⟨a4, r4, q4⟩ := opens_int u3 _ _ t4
  obtain ⟨a5, r5, q5⟩ := open_value _ _ _ t5
  refine ⟨⟨a0, a1, a2, a3, a4, a5⟩, ?_, ?_⟩
  ·have hc3 : cs.length = 8 := hcl.trans (by kernel_rfl)
   rw [Encs.eGValue_eq] at r5
   have := ((((r0.join r1).join r2).join r3).join r4).join r5
   rw [Encs.eGExpr_eq, Ar.lst_eq]
   simpa [List.take_of_length_le, hc3, V.cells] using this
  ·have hb := bs_exprs q1
   simp only [bk] at hb q5
   rw [hxs]
   simp only [List.map_cons, List.map_nil, bk, Rows.uptoBulk, Rows.uptoBulkAll, q0, q2, q3, q4, GExpr.bulk]
   omega
theorem open_pattern : ∀ n : Nat, Opens enc Tryz.prog W base spare held 29 Encs.eGPattern (fun (a : GPattern) d => GPattern.bulk a ≤ bk d) n := by
 intro n
 induction n with
 | zero => intro cs x h; simp [DataW.trod] at h
 | succ n ih =>
  intro cs x h
  obtain ⟨xs, m, hm, rfl, hcl, hl, hf⟩ := DataW.trod_struct u29 h
  cases hm
  obtain ⟨y0, k0, t0⟩ := open_fld hl hf 0 (ty := 3) (off := 0) (sz := 1) (by kernel_rfl)
  obtain ⟨y1, k1, t1⟩ := open_fld hl hf 1 (ty := 22) (off := 1) (sz := 1) (by kernel_rfl)
  obtain ⟨y2, k2, t2⟩ := open_fld hl hf 2 (ty := 3) (off := 2) (sz := 1) (by kernel_rfl)
  obtain ⟨y3, k3, t3⟩ := open_fld hl hf 3 (ty := 3) (off := 3) (sz := 1) (by kernel_rfl)
  obtain ⟨y4, k4, t4⟩ := open_fld hl hf 4 (ty := 3) (off := 4) (sz := 1) (by kernel_rfl)
  obtain ⟨y5, k5, t5⟩ := open_fld hl hf 5 (ty := 3) (off := 5) (sz := 1) (by kernel_rfl)
  obtain ⟨y6, k6, t6⟩ := open_fld hl hf 6 (ty := 27) (off := 6) (sz := 8) (by kernel_rfl)
  have hxs := list7 (hl.trans (by kernel_rfl)) k0 k1 k2 k3 k4 k5 k6
  obtain ⟨a0, r0, q0⟩ := opens_int u3 _ _ t0
  obtain ⟨a1, r1, q1⟩ : ∃ a1 : List GPattern, RowV (g0 W) W ((cs.drop 1).take 1) (V.sl (a1.map Encs.eGPattern) .ro).cells ∧ RS (fun (a : GPattern) d => GPattern.bulk a ≤ bk d) a1 y1.1 := by
   cases n with
   | zero => simp [DataW.trod] at t1
   | succ n => exact opens_slice u22 (by rw [cellsT29]; decide) ih.down _ _ t1
  obtain ⟨a2, r2, q2⟩ := opens_int u3 _ _ t2
  obtain ⟨a3, r3, q3⟩ := opens_int u3 _ _ t3
  obtain ⟨a4, r4, q4⟩ := opens_int u3 _ _ t4
  obtain ⟨a5, r5, q5⟩ := opens_int u3 _ _ t5
  obtain ⟨a6, r6, q6⟩ := open_expr _ _ _ t6
  refine ⟨⟨a0, a1, a2, a3, a4, a5, a6⟩, ?_, ?_⟩
  ·have hc3 : cs.length = 14 := hcl.trans (by kernel_rfl)
   rw [Encs.eGExpr_eq] at r6
   have := (((((r0.join r1).join r2).join r3).join r4).join r5).join r6
   rw [Encs.eGPattern_eq, Ar.lst_eq]
   simpa [List.take_of_length_le, hc3, V.cells] using this
  ·have hb := bs_patterns q1
   simp only [bk] at hb q6
   rw [hxs]
   simp only [List.map_cons, List.map_nil, bk, Rows.uptoBulk, Rows.uptoBulkAll, q0, q2, q3, q4, q5, GPattern.bulk]
   omega
end
end Go.Ab

namespace Go.Ab
open Go.RowKit Go.ChangeShapes Go.WideShapes Go.ChangeAt Go.Proofs Go.Proofs.YtlbkmdpaalofkaaGreatDoor
set_option maxRecDepth 100000
section
variable {H : Type} {enc : TypeId × Value → H} {W : World} {base : Nat} {spare : Nat → Bool} {held : Bool}
theorem u4 : Tryz.prog.underlying 4 = some .bool := by kernel_rfl
theorem u114 : Tryz.prog.underlying 114 = some (.array tab_pattern_shapes.length 113) := by kernel_rfl
theorem u113 : Tryz.prog.underlying 113 = some (.struct (fsOf Tryz.prog 113)) := by kernel_rfl
theorem open_shape (n : Nat) : Opens enc Tryz.prog W base spare held 113 Encs.eGpattern_shape (fun (a : Gpattern_shape) d => d = .agg [.lit (.int .i64 a.least), .lit (.int .i64 a.most), .lit (.bool a.typed), .lit (.bool a.cond), .lit (.bool a.scope), .lit (.bool a.span)]) n := by
 intro cs x h
 obtain ⟨xs, m, rfl, rfl, hcl, hl, hf⟩ := DataW.trod_struct u113 h
 obtain ⟨y0, k0, t0⟩ := open_fld hl hf 0 (ty := 3) (off := 0) (sz := 1) (by kernel_rfl)
 obtain ⟨y1, k1, t1⟩ := open_fld hl hf 1 (ty := 3) (off := 1) (sz := 1) (by kernel_rfl)
 obtain ⟨y2, k2, t2⟩ := open_fld hl hf 2 (ty := 4) (off := 2) (sz := 1) (by kernel_rfl)
 obtain ⟨y3, k3, t3⟩ := open_fld hl hf 3 (ty := 4) (off := 3) (sz := 1) (by kernel_rfl)
 obtain ⟨y4, k4, t4⟩ := open_fld hl hf 4 (ty := 4) (off := 4) (sz := 1) (by kernel_rfl)
 obtain ⟨y5, k5, t5⟩ := open_fld hl hf 5 (ty := 4) (off := 5) (sz := 1) (by kernel_rfl)
 have hxs := list6 (hl.trans (by kernel_rfl)) k0 k1 k2 k3 k4 k5
 obtain ⟨a0, r0, q0⟩ := opens_int u3 _ _ t0
 obtain ⟨a1, r1, q1⟩ := opens_int u3 _ _ t1
 obtain ⟨a2, r2, q2⟩ := opens_bool u4 _ _ t2
 obtain ⟨a3, r3, q3⟩ := opens_bool u4 _ _ t3
 obtain ⟨a4, r4, q4⟩ := opens_bool u4 _ _ t4
 obtain ⟨a5, r5, q5⟩ := opens_bool u4 _ _ t5
 refine ⟨⟨a0, a1, a2, a3, a4, a5⟩, ?_, ?_⟩
 ·have hc3 : cs.length = 6 := hcl.trans (by kernel_rfl)
  have := ((((r0.join r1).join r2).join r3).join r4).join r5
  rw [Encs.eGpattern_shape_eq]
  simpa [List.take_of_length_le, hc3, V.cells] using this
 ·rw [hxs]
  simp only [List.map_cons, List.map_nil, q0, q1, q2, q3, q4, q5]
theorem shapes_eq : ∀ (l k : List Gpattern_shape), (RL (H := H) (fun (a : Gpattern_shape) d => d = .agg [.lit (.int .i64 a.least), .lit (.int .i64 a.most), .lit (.bool a.typed), .lit (.bool a.cond), .lit (.bool a.scope), .lit (.bool a.span)]) l
 (k.map fun a => .agg [.lit (.int .i64 a.least), .lit (.int .i64 a.most), .lit (.bool a.typed), .lit (.bool a.cond), .lit (.bool a.scope), .lit (.bool a.span)])) → l = k
 | [], [], _ => rfl
 | [], _ :: _, h => by have := h.1; simp at this
 | _ :: _, [], h => by have := h.1; simp at this
 | a :: l, b :: k, h => by
  have h0 := h.2 0 a _ rfl rfl
  have h1 := shapes_eq l k ⟨by simpa using h.1, fun i a d hi hd => h.2 (i + 1) a d (by simpa using hi) (by simpa using hd)⟩
  subst h1
  obtain ⟨a0, a1, a2, a3, a4, a5⟩ := a
  obtain ⟨b0, b1, b2, b3, b4, b5⟩ := b
  simp at h0
  simp [h0]
theorem laid_shapes (h : laidMetH Tryz.prog Rows.derivativeDerivesRow.laid W) : VR (g0 W) W (.pointer (some ⟨0, 0, none⟩)) (Glob.gl 0) := by
 have h' : laidMet Tryz.prog Rows.derivativeDerivesRow.laid W := h
 obtain ⟨ps, ⟨g', t', cs, fuel, p, q, hg', ht', hvar, hd, _, _⟩, _⟩ := h'
 obtain rfl : g' = 0 := Option.some.inj (hg'.symm.trans (by kernel_rfl))
 obtain rfl : t' = 114 := Option.some.inj (ht'.symm.trans (by kernel_rfl))
 obtain ⟨l, hr, ds, hds, hl⟩ := opens_array u114 (by kernel_rfl) (by decide) (fun n => open_shape n) hd
 have e : ds = tab_pattern_shapes.map fun a => .agg [.lit (.int .i64 a.least), .lit (.int .i64 a.most), .lit (.bool a.typed), .lit (.bool a.cond), .lit (.bool a.scope), .lit (.bool a.span)] := by
  have e2 : (Rows.laid_tidegate_pattern_shapes : DataW Unit) = .agg ds := hds
  have e3 : (Rows.laid_tidegate_pattern_shapes : DataW Unit) = .agg (tab_pattern_shapes.map fun a => .agg [.lit (.int .i64 a.least), .lit (.int .i64 a.most), .lit (.bool a.typed), .lit (.bool a.cond), .lit (.bool a.scope), .lit (.bool a.span)]) := rfl
  rw [e3] at e2
  exact (DataW.agg.inj e2).symm
 subst e
 obtain rfl := shapes_eq _ _ hl
 exact glob_of_row hg' hvar hr
theorem globs0 (h : laidMetH Tryz.prog Rows.derivativeDerivesRow.laid W) : ∀ n, VR (g0 W) W (.pointer (some ⟨n, 0, none⟩)) (Glob.gl n)
 | 0 => laid_shapes h
 | _ + 1 => .bad _
end
theorem law_run {f : FuncId} {W : World} {base : Nat} {H : Type} {enc : TypeId × Value → H} (hL : laidMetH Tryz.prog Rows.derivativeDerivesRow.laid W) (hcall : ∀ vals w, (callFunc f vals).run Tryz.prog w = .ok (.enter f vals) w)
 (law : ∀ x : GPattern, x.bulk ≤ 1048576 → CallP Tryz.prog f [Encs.eGPattern x] (.bool true)) {v0 : Value} {d0 : DataW H} {p0 : List MemPlace} (hv : Value.okWide Tryz.prog W .any base 29 v0)
 (h0 : DataW.Trod enc Tryz.prog W 0 (fun _ => true) true 29 v0 d0 p0) (hb : Rows.uptoBulk d0 ≤ 1048576) :
 Calls Tryz.prog f #[v0] W fun e W' => e = .returned (.bool true) ∧ Below W.heap.size W W' := by
 obtain ⟨fuel, ht⟩ := h0
 obtain ⟨cs, rfl, hcs⟩ := okWide_struct u29 hv
 obtain ⟨x, hr, hx⟩ := open_pattern fuel _ _ ht
 have hr' : RowV (g0 W) W cs.toList (Encs.eGPattern x).cells := hr
 have hV : VR (g0 W) W (.agg cs) (Encs.eGPattern x) := by
  have := hr'.agg
  rw [Encs.eGPattern_eq] at this ⊢
  exact this
 have hc := law x (Nat.le_trans hx hb) (fun _ => none) (g0 W) W #[.agg cs] (rl0 (globs0 hL)) ⟨rfl, fun i hi => by
  have : i = 0 := by simpa using hi
  subst this; exact hV⟩
 rw [hcall] at hc
 refine (callsIn_wide.1 hc).mono fun e W' ⟨v, he, g', y, H', hs, hR, hvy, hy, _⟩ => ?_
 subst hy
 cases hvy
 exact ⟨he, hs.low⟩
end Go.Ab

