/- GYCo7 AbG1 AbI1 AbG2 AbG3 -/
import Derived.Test.YtildiiggamckaaaGreatDoorT39
import Derived.Test.YtildiiggamckaaaGreatDoorT26
import Derived.Deep.Slices
import Derived.Carry
import Derived.Lib.LaidTab
set_option linter.all false
namespace Go.Ab
open Go.RowKit Go.Proofs Go.Proofs.Tryz G1
variable [Ar] [G1]
set_option maxRecDepth 100000
end Go.Ab
namespace Go.Ab
open Go.RowKit Go.ChangeShapes Go.WideShapes
variable [G5]
def g0 (W : World) : Gh := ⟨fun _ => none, fun _ => ⟨0, 0, 0⟩, fun _ => none, fun b o => ∃ v, W.cell? ⟨b, o, none⟩ = some v, 0, W.heap.size⟩
theorem rl0 {W : World} (hg : ∀ n, VR (g0 W) W (.pointer (some ⟨n, 0, none⟩)) (G5.gl n)) : Rl (g0 W) (fun _ => none) W :=
 ⟨fun id b h => (by cases h), fun id id' b h => (by simp [Gh.at] at h), fun b o h => h, fun id _ => ⟨rfl, rfl, rfl⟩, Nat.le_refl _, hg⟩
def CS (g : Gh) (w : World) (cs : List Value) (xs : List V) : Prop :=
 cs.length = xs.length ∧ ∀ i, i < xs.length → (cs.getD i undef).oneCell' = true ∧ VR g w (cs.getD i undef) (xs.getD i .bad)
theorem CS.nil (g : Gh) (w : World) : CS g w [] [] := ⟨rfl, fun i hi => by simp at hi⟩
theorem CS.one {g : Gh} {w : World} {v : Value} {x : V} (h1 : v.oneCell' = true) (h : VR g w v x) : CS g w [v] [x] := by
 refine ⟨rfl, fun i hi => ?_⟩
 have : i = 0 := by simpa using hi
 subst this;exact ⟨h1, h⟩
theorem CS.append {g : Gh} {w : World} {cs ds : List Value} {xs ys : List V} (h : CS g w cs xs) (k : CS g w ds ys) : CS g w (cs ++ ds) (xs ++ ys) := by
 refine ⟨by simp [h.1, k.1], fun i hi => ?_⟩;have hl := h.1
 simp only [List.length_append] at hi
 by_cases hx : i < xs.length
 ·have e1 : (cs ++ ds).getD i undef = cs.getD i undef := by simp [List.getD, List.getElem?_append_left (show i < cs.length by omega)]
  have e2 : (xs ++ ys).getD i .bad = xs.getD i .bad := by simp [List.getD, List.getElem?_append_left hx]
  rw [e1, e2]; exact h.2 i hx
 have e1 : (cs ++ ds).getD i undef = ds.getD (i - xs.length) undef := by simp [List.getD, List.getElem?_append_right (show cs.length ≤ i by omega), hl]
 have e2 : (xs ++ ys).getD i .bad = ys.getD (i - xs.length) .bad := by simp [List.getD, List.getElem?_append_right (show xs.length ≤ i by omega)]
 rw [e1, e2]; exact k.2 _ (by omega)
theorem CS.join {g : Gh} {w : World} {cs : List Value} {xs ys : List V} {a n m : Nat} (h : CS g w ((cs.drop a).take n) xs) (k : CS g w ((cs.drop (a + n)).take m) ys) : CS g w ((cs.drop a).take (n + m)) (xs ++ ys) := by
 have := h.append k
 rwa [show (cs.drop (a + n)) = (cs.drop a).drop n by rw [List.drop_drop], ← List.take_add] at this
theorem CS.agg {g : Gh} {w : World} {cs : Array Value} {xs : List V} (h : CS g w cs.toList xs) : VR g w (.agg cs) (.agg xs) := by
 refine .agg (by simpa using h.1) (fun i hi => ?_) fun i hi => ?_
 ·have := (h.2 i hi).1
  simpa [List.getD, Array.getD_eq_getD_getElem?] using this
 have := (h.2 i hi).2
 simpa [List.getD, Array.getD_eq_getD_getElem?] using this
section
variable {H α : Type} {enc : TypeId × Value → H} {P : Program} {W : World} {base : Nat} {spare : Nat → Bool} {held : Bool} {t e : TypeId} {n : Nat}
def Opens (enc : TypeId × Value → H) (P : Program) (W : World) (base : Nat) (spare : Nat → Bool) (held : Bool) (t : TypeId) (f : α → V) (R : α → DataW H → Prop) (n : Nat) : Prop :=
 ∀ cs x, DataW.trod enc P W base spare held n t cs = some x → ∃ a, CS (g0 W) W cs (f a).cells ∧ R a x.1
theorem Hu {k : IntKind} (ht : P.underlying t = some (.int k)) : Opens enc P W base spare held t (V.int k) (fun a d => d = .lit (.int k a)) n := by
 intro cs x h;obtain ⟨a, rfl, rfl, _⟩ := DataW.trod_int ht h;exact ⟨a, .one rfl (.int _ _), rfl⟩
theorem CI (ht : P.underlying t = some .bool) : Opens enc P W base spare held t V.bool (fun a d => d = .lit (.bool a)) n := by
 intro cs x h;obtain ⟨a, rfl, rfl⟩ := DataW.trod_bool ht h;exact ⟨a, .one rfl (.bool _), rfl⟩
def RL (R : α → DataW H → Prop) (l : List α) (ds : List (DataW H)) : Prop := l.length = ds.length ∧ ∀ (i : Nat) a d, l[i]? = some a → ds[i]? = some d → R a d
def RS (R : α → DataW H → Prop) (l : List α) (d : DataW H) : Prop := l.length ≤ maxLen ∧ ((d = .nil ∧ l = []) ∨ ∃ es sp, d = .slice es sp ∧ RL R l es)
theorem BS {f : α → V} {R : α → DataW H → Prop} (ht : P.underlying t = some (.slice e)) (hc : 0 < P.cellsOf e) (he : Opens enc P W base spare held e f R n) :
 Opens enc P W base spare held t (fun l : List α => .sl (l.map f) .ro) (RS R) (n + 1) := by
 intro cs x h
 rcases DataW.trod_slice ht h with ⟨rfl, rfl⟩ | ⟨a, len, cap, elems, rest, n', hn, rfl, rfl, hb, hl, hm, hlen, hel, hsp, hns⟩
 ·exact ⟨[], .one rfl (.sl0 rfl), Nat.zero_le _, .inl ⟨rfl, rfl⟩⟩
 have hn' : n' = n := by omega
 subst hn'
 rcases Nat.eq_zero_or_pos len with h0 | h0
 ·subst h0;have : elems = [] := List.length_eq_zero_iff.1 hlen;subst this;exact ⟨[], .one rfl (.sle (.inl rfl)), Nat.zero_le _, .inr ⟨_, _, rfl, rfl, fun i a d hi => by simp at hi⟩⟩
 have one : ∀ i, i < len → ∃ cs' y b, W.cells? base (a.add (i * P.cellsOf e)) (P.cellsOf e) = some cs' ∧ elems[i]? = some y ∧ CS (g0 W) W cs' (f b).cells ∧ R b y.1 := by
  intro i hi;have h1 := hel i hi
  have h2 : elems[i]? = some (elems[i]'(by omega)) := by simp [hlen, hi]
  rw [h2] at h1
  obtain ⟨cs', hcs, hy⟩ := Option.bind_eq_some_iff.1 h1;obtain ⟨b, hr, hR⟩ := he cs' _ hy;exact ⟨cs', _, b, hcs, h2, hr, hR⟩
 obtain ⟨_, _, b0, _⟩ := one 0 h0
 haveI : Inhabited α := ⟨b0⟩
 obtain ⟨A, hA⟩ := Deep.choose_lt (α := α) (p := fun i b => ∃ cs' y, W.cells? base (a.add (i * P.cellsOf e)) (P.cellsOf e) = some cs' ∧ elems[i]? = some y ∧ CS (g0 W) W cs' (f b).cells ∧ R b y.1)
  (fun i hi => let ⟨cs', y, b, h1, h2, h3, h4⟩ := one i hi; ⟨b, cs', y, h1, h2, h3, h4⟩)
 have hspot : a.spot = none := by
  obtain ⟨cs', y, h1, _, _, _⟩ := hA 0 h0;obtain ⟨_, hcl, hcell⟩ := World.cells?_some h1;have h2 := hcell 0 hc
  have e0 : (a.add (0 * P.cellsOf e)).add 0 = a := by simp [Addr.add]
  rw [e0] at h2
  have h3 : cs'[0]? = some (cs'[0]'(by omega)) := by simp [hcl, hc]
  rw [h3] at h2
  unfold World.cell? at h2
  split at h2
  ·split at h2
   ·cases h2
   rename_i hs; simpa using hs
  cases h2
 obtain ⟨b, o, s⟩ := a
 simp only at hspot
 subst hspot
 let l := (List.range len).map A
 have hll : l.length = len := by simp [l]
 have hg : ∀ i, i < len → (l.map f).getD i .bad = f (A i) := fun i hi => by simp [l, List.getD, hi]
 have cell : ∀ i j, i < len → j < P.cellsOf e → ∃ v, W.cell? ⟨b, o + i * P.cellsOf e + j, none⟩ = some v ∧ v.oneCell' = true ∧ VR (g0 W) W v ((f (A i)).cells.getD j .bad) := by
  intro i j hi hj;obtain ⟨cs', y, h1, _, hr, _⟩ := hA i hi;obtain ⟨_, hcl, hcell⟩ := World.cells?_some h1;have h2 := hcell j hj
  rw [O3, O3] at h2
  have h3 : cs'[j]? = some (cs'.getD j undef) := by simp [List.getD, hcl, hj]
  rw [h3] at h2
  have := hr.2 j (by rw [← hr.1, hcl]; exact hj);exact ⟨_, h2, this.1, this.2⟩
 refine ⟨l, .one rfl ?_, by omega, .inr ⟨_, _, rfl, by simp [hll, hlen], fun i a' d hi hd => ?_⟩⟩
 ·have hz : ∀ i, i < len → ((l.map f).getD i .bad).cells.length = P.cellsOf e := fun i hi => by
   obtain ⟨cs', y, h1, _, hr, _⟩ := hA i hi;obtain ⟨_, hcl, _⟩ := World.cells?_some h1;rw [hg i hi, ← hr.1, hcl]
  refine .sl (sz := P.cellsOf e) (fun i j => (W.cell? ⟨b, o + i * P.cellsOf e + j, none⟩).getD undef) (by simp [hll]) hl hz (fun i j hi hj => ?_) (fun i j hi hj => ?_) (fun i j hi hj => ?_) (fun i j hi hj => ?_) trivial
  ·obtain ⟨v, h1, _⟩ := cell i j hi hj; exact ⟨v, h1⟩
  ·obtain ⟨v, h1, _⟩ := cell i j hi hj; rw [h1]; rfl
  ·obtain ⟨v, h1, h2, _⟩ := cell i j hi hj; rw [h1]; exact h2
  obtain ⟨v, h1, h2, h3⟩ := cell i j hi hj; rw [h1, hg i hi]; exact h3
 have hi' : i < len := by
  rcases Nat.lt_or_ge i l.length with h | h
  ·omega
  rw [List.getElem?_eq_none h] at hi; cases hi
 obtain ⟨cs', y, h1, h2, h3, h4⟩ := hA i hi'
 have e1 : a' = A i := by simp [l, hi'] at hi; exact hi.symm
 have e2 : d = y.1 := by simp [h2] at hd; exact hd.symm
 rw [e1, e2]; exact h4
theorem OT {fs : Array Field} {xs : List (DataW H × List MemPlace)} {cs : List Value} {n : Nat} (hl : xs.length = fs.size)
 (hf : ∀ (i : Nat) (f : Field), fs[i]? = some f → DataW.trod enc P W base spare held n f.type ((cs.drop f.offset).take (P.cellsOf f.type)) = xs[i]?) (i : Nat) {f : Field} (h : fs[i]? = some f) :
 ∃ y, xs[i]? = some y ∧ DataW.trod enc P W base spare held n f.type ((cs.drop f.offset).take (P.cellsOf f.type)) = some y := by
 have hi : i < fs.size := by
  rcases Nat.lt_or_ge i fs.size with h' | h'
  ·exact h'
  rw [Array.getElem?_eq_none h'] at h; cases h
 have h1 : xs[i]? = some (xs[i]'(by omega)) := by simp [hl, hi]
 exact ⟨_, h1, by rw [hf i f h, h1]⟩
end
end Go.Ab
namespace Go.Ab
noncomputable instance arInst : Ar where
 cmp := CV
 cmp_eq := fun _ _ _ => rfl
 ar := Vt
 ar_eq := fun _ _ _ _ => rfl
 sh := VP
 sh_eq := fun _ _ _ _ => rfl
 neg := fun k n => k.wrap (0 - n)
 neg_eq := fun _ _ => rfl
 wr := fun k n => k.wrap n
 wr_eq := fun _ _ => rfl
 scmp := Vs
 scmp_eq := fun _ _ _ => rfl
 cat := fun a b => a ++ b
 cat_eq := fun _ _ => rfl
 slen := fun s => s.size
 slen_eq := fun _ => rfl
 sat := fun s i => match s[i.toNat]? with | some b => (b.toNat : Int) | none => 0
 sat_eq := fun _ _ => rfl
 beq := fun a b => a == b
 beq_eq := fun _ _ => rfl
 nt := fun a => !a
 nt_eq := fun _ => rfl
 an := fun a b => a && b
 an_eq := fun _ _ => rfl
 or := fun a b => a || b
 or_eq := fun _ _ => rfl
 pk := fun c a b => if c then a else b
 pk_eq := fun _ _ _ => rfl
 mx := fun a b => if a < b then b else a
 mx_eq := fun _ _ => rfl
 mn := fun a b => if b < a then b else a
 mn_eq := fun _ _ => rfl
 ofs := fun a b => a + b
 ofs_eq := fun _ _ => rfl
 ofN := fun n => n
 ofN_eq := fun _ => rfl
 len := fun l => l.length
 len_eq := fun _ => rfl
 lst := fun f l => l.map f
 lst_eq := fun _ _ => rfl
end Go.Ab
namespace Go.Ab
open Go.RowKit Go.ChangeShapes Go.WideShapes
variable [G5]
section
variable {H α : Type} {enc : TypeId × Value → H} {P : Program} {W : World} {base : Nat} {spare : Nat → Bool} {held : Bool} {t e : TypeId} {n : Nat}
theorem KJ {cs : List Value} {sz : Nat} {f : α → V} : ∀ (l : List α) (o : Nat), (∀ (i : Nat) a, l[i]? = some a → CS (g0 W) W ((cs.drop (o + i * sz)).take sz) (f a).cells) → CS (g0 W) W ((cs.drop o).take (l.length * sz)) (l.flatMap fun a => (f a).cells)
 | [], o, _ => by simp; exact .nil _ _
 | a :: l, o, h => by
  have h0 := h 0 a rfl
  rw [Nat.zero_mul, Nat.add_zero] at h0
  have h1 := KJ l (o + sz) fun i b hi => by
   have := h (i + 1) b (by simpa using hi)
   rwa [show o + (i + 1) * sz = o + sz + i * sz by rw [Nat.add_mul]; omega] at this
  have := h0.join h1;rw [List.length_cons, List.flatMap_cons, show (l.length + 1) * sz = sz + l.length * sz by rw [Nat.add_mul]; omega];exact this
theorem MW {f : α → V} {R : α → DataW H → Prop} {m : Nat} (ht : P.underlying t = some (.array m e)) (hct : P.cellsOf t = m * P.cellsOf e) (hm : 0 < m) (he : ∀ n, Opens enc P W base spare held e f R n) {cs : List Value} {x : DataW H × List MemPlace}
 (h : DataW.trod enc P W base spare held n t cs = some x) : ∃ l : List α, CS (g0 W) W cs (l.flatMap fun a => (f a).cells) ∧ ∃ ds, x.1 = .agg ds ∧ RL R l ds := by
 cases n with
 | zero => simp [DataW.trod] at h
 | succ n =>
  simp only [DataW.trod, ht] at h
  split at h
  ·rename_i hl;obtain ⟨xs, hmm, rfl⟩ := Option.map_eq_some_iff.1 h
   have hxl : xs.length = m := by simpa using mapM_some_length hmm
   have one : ∀ i, i < m → ∃ b, CS (g0 W) W ((cs.drop (i * P.cellsOf e)).take (P.cellsOf e)) (f b).cells ∧ ∀ y, xs[i]? = some y → R b y.1 := by
    intro i hi;have h1 := mapM_some_get hmm i i (by simp [hi])
    have h2 : xs[i]? = some (xs[i]'(by omega)) := by simp [hxl, hi]
    rw [h2] at h1
    obtain ⟨b, hr, hR⟩ := he n _ _ h1;exact ⟨b, hr, fun y hy => by rw [h2] at hy; cases hy; exact hR⟩
   obtain ⟨b0, _⟩ := one 0 hm
   haveI : Inhabited α := ⟨b0⟩
   obtain ⟨A, hA⟩ := Deep.choose_lt one
   have hat : ∀ (i : Nat) a, ((List.range m).map A)[i]? = some a → i < m ∧ a = A i := fun i a hi => by
    rcases Nat.lt_or_ge i m with hlt | hge
    ·simp [hlt] at hi; exact ⟨hlt, hi.symm⟩
    rw [List.getElem?_eq_none (by simpa using hge)] at hi; cases hi
   refine ⟨(List.range m).map A, ?_, _, rfl, by simp [hxl], fun i a d hi hd => ?_⟩
   ·have := KJ (cs := cs) (sz := P.cellsOf e) (f := f) (W := W) ((List.range m).map A) 0 (fun i a hi => by
     obtain ⟨h1, rfl⟩ := hat i a hi
     simpa using (hA i h1).1)
    simpa [List.take_of_length_le, hl, hct] using this
   obtain ⟨h1, rfl⟩ := hat i a hi
   simp only [List.getElem?_map, Option.map_eq_some_iff] at hd
   obtain ⟨y, hy, rfl⟩ := hd;exact (hA i h1).2 y hy
  cases h
theorem Nq {g : Nat} {cs : Array Value} {xs : List V} {name : String} (hg : P.globalNamed name = some g) (hv : W.var? P name = some cs) (hr : CS (g0 W) W cs.toList xs) : VR (g0 W) W (.pointer (some ⟨g, 0, none⟩)) (.eref xs 0) := by
 have cell : ∀ j, j < xs.length → W.cell? ⟨g, 0 + j, none⟩ = some (cs.toList.getD j undef) := fun j hj => by
  have h1 := World.var?_cell hg hv j
  have h2 : j < cs.size := by have := hr.1; simp at this; omega
  rw [Nat.zero_add, h1];simp [List.getD, h2]
 exact .eref (g := g0 W) (o := 0) (off := 0) (fun j => cs.toList.getD j undef) (fun j hj => (⟨_, cell j hj⟩ : ∃ v, W.cell? ⟨g, 0 + j, none⟩ = some v)) (fun j hj => cell j hj) (fun j hj => (hr.2 j hj).1) fun j hj => (hr.2 j hj).2
end
end Go.Ab
namespace Go.Ab
open Go.RowKit Go.ChangeShapes Go.WideShapes
variable [G5]
section
variable {H : Type} {enc : TypeId × Value → H} {P : Program} {W : World} {base : Nat} {spare : Nat → Bool} {held : Bool} {t e : TypeId} {n : Nat}
end
end Go.Ab
