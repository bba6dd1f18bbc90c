/- AbA7 AbA8 -/
import Derived.Test.YtildiiggamckaaaGreatDoorT02
import Derived.Laws.Strings
set_option linter.all false
namespace Go.Ab
open Go.RowKit
variable [G5]
def X6 : Option V → Option (Option Int)
 | none => some none
 | some (.int _ i) => some (some i)
 | some _ => none
def EN (l h n : Nat) (mx : Option Int) (t : D6) : D6 :=
 match mx with
 | some m => if m = h then .full else .ro
 | none =>
  if h = n then
   match t with
   | .full => .full
   | .nil => .nil
   | .tok t => if l = 0 then .tok t else .ro
   | .ro => .ro
  else .ro
def Jm (P : Program) (t : TypeId) (v : V) (lo hi mx : Option Int) : Option V :=
 match BT P t, v with
 | some e, .sl xs tl =>
  match Bw P e with
  | some sz =>
   if 0 ≤ lo.getD 0 ∧ lo.getD 0 ≤ hi.getD xs.length ∧ hi.getD xs.length ≤ mx.getD xs.length ∧ mx.getD xs.length ≤ xs.length ∧ (mx.isSome = true → hi.isSome = true) ∧
    (lo.getD 0 ≤ 0 ∨ xs.all (fun x => x.cells.length == sz) = true) then
    some (.sl ((xs.drop (lo.getD 0).toNat).take ((hi.getD xs.length).toNat - (lo.getD 0).toNat)) (EN (lo.getD 0).toNat (hi.getD xs.length).toNat xs.length mx tl))
   else none
  | none => none
 | none, .str s =>
  if LZ P t = true ∧ mx = none ∧ 0 ≤ lo.getD 0 ∧ lo.getD 0 ≤ hi.getD s.size ∧ hi.getD s.size ≤ s.size then some (.str (s.extract (lo.getD 0).toNat (hi.getD s.size).toNat)) else none
 | _, _ => none
section
variable {P : Program} {o : Oper} {fr : Fr} {H : A0} {K : V → A0 → Prop}
theorem Jr (isSlice : Bool) (len cap : Nat) (lo hi mx : Option Value) (l h m : Nat) (w : World) (hl : (lo = none ∧ l = 0) ∨ ∃ k, lo = some (.int k l)) (hh : (hi = none ∧ mx = none ∧ h = len) ∨ ∃ k, hi = some (.int k h))
 (hm : (mx = none ∧ m = cap) ∨ ∃ k, mx = some (.int k m)) (h1 : l ≤ h) (h2 : h ≤ m) (h3 : m ≤ cap) : (Instr.sliceBounds isSlice len cap lo hi mx).run P w = .ok (l, h, m) w := by
 rcases hm with ⟨rfl, rfl⟩ | ⟨km, rfl⟩ <;> rcases hh with ⟨rfl, hx, rfl⟩ | ⟨kh, rfl⟩ <;> rcases hl with ⟨rfl, rfl⟩ | ⟨kl, rfl⟩ <;>
  first
   | (cases hx; done)
   | simp [Instr.sliceBounds, Instr.sliceBound, asIntOf, Sem.run_bind, Sem.run_pure, h1, h2, h3]
theorem BL {g : Gh} {w : World} {H : A0} {a : Act} (hR : Rl g H w) (hE : ER g w a fr) {x : Option Operand} {i : Option Int} (h : X6 (x.map (ev fr)) = some i) :
 (x.map a.eval = none ∧ i = none) ∨ ∃ k j, x.map a.eval = some (.int k j) ∧ i = some j := by
 cases x with
 | none => simp [X6] at h; exact .inl ⟨rfl, h.symm⟩
 | some x =>
  have hv := C4 hR hE x
  simp only [Option.map_some] at h ⊢
  generalize ev fr x = X at h hv
  cases X <;> simp [X6] at h
  rename_i k j;have := hv.int_inv;exact .inr ⟨k, j, by rw [this], h.symm⟩
theorem CH {a b : Int} (ha : 0 ≤ a) : (a.toNat : Int) = a := Int.toNat_of_nonneg ha
theorem Rh {t : TypeId} {y : Operand} {lo hi mx : Option Operand} {il ih im : Option Int} {x : V} (ho : o.op = .slice t y lo hi mx) (hlo : X6 (lo.map (ev fr)) = some il) (hhi : X6 (hi.map (ev fr)) = some ih)
 (hmx : X6 (mx.map (ev fr)) = some im) (hl : Jm P t (ev fr y) il ih im = some x) (h : K x H) : E4 P o fr H K := by
 intro g w a hR hE;have hv := C4 hR hE y;have hrl := BL hR hE hlo;have hrh := BL hR hE hhi;have hrm := BL hR hE hmx
 have hb : ∀ (isSlice : Bool) (len cap : Nat), 0 ≤ il.getD 0 → il.getD 0 ≤ ih.getD len → ih.getD len ≤ im.getD cap → im.getD cap ≤ cap → (im.isSome = true → ih.isSome = true) →
  (Instr.sliceBounds isSlice len cap (lo.map a.eval) (hi.map a.eval) (mx.map a.eval)).run P w = .ok ((il.getD 0).toNat, (ih.getD len).toNat, (im.getD cap).toNat) w := by
  intro isSlice len cap c1 c2 c3 c4 c5;refine Jr (P := P) isSlice len cap _ _ _ _ _ _ w ?_ ?_ ?_ (by omega) (by omega) (by omega)
  ·rcases hrl with ⟨e1, rfl⟩ | ⟨k, j, e1, rfl⟩
   ·exact .inl ⟨e1, rfl⟩
   simp only [Option.getD_some] at c1
   exact .inr ⟨k, by rw [e1]; simp only [Option.getD_some]; rw [CH (b := 0) c1]⟩
  ·rcases hrh with ⟨e1, rfl⟩ | ⟨k, j, e1, rfl⟩
   ·rcases hrm with ⟨e2, rfl⟩ | ⟨k, j, e2, rfl⟩
    ·exact .inl ⟨e1, e2, by simp⟩
    simp at c5
   simp only [Option.getD_some] at c2
   exact .inr ⟨k, by rw [e1]; simp only [Option.getD_some]; rw [CH (b := 0) (by omega)]⟩
  rcases hrm with ⟨e1, rfl⟩ | ⟨k, j, e1, rfl⟩
  ·exact .inl ⟨e1, by simp⟩
  simp only [Option.getD_some] at c3
  exact .inr ⟨k, by rw [e1]; simp only [Option.getD_some]; rw [CH (b := 0) (by omega)]⟩
 unfold Jm at hl
 split at hl
 ·rename_i e xs tl hse he;have hu := H8 hse
  split at hl
  ·rename_i sz hs
   split at hl
   ·rename_i hc;obtain ⟨c1, c2, c3, c4, c5, c6⟩ := hc;cases hl
    rw [he] at hv
    generalize hav : a.eval y = v at hv
    unfold execOp; rw [ho]
    cases hv with
    | sl0 ht =>
     simp only [List.length_nil, Int.natCast_zero] at c2 c3 c4
     have e1 : (il.getD 0).toNat = 0 := by omega
     have e2 : (ih.getD 0).toNat = 0 := by omega
     have e3 : (im.getD 0).toNat = 0 := by omega
     have hb0 := hb true 0 0 c1 (by simpa using c2) (by simpa using c3) (by simpa using c4) c5
     simp only [Int.natCast_zero] at hb0
     simp only [hav, Instr.sliceAt, Instr.slice, Sem.run_bind, run_underlying hu, Result.andThen_ok, hb0, H7 hs, Sem.run_pure, D7, e1, e2, e3];refine G8.here hR ?_ h;simp only [List.drop_nil, List.take_nil];refine .sl0 ?_;unfold EN
     cases im with
     | some m => dsimp only; split <;> rfl
     | none =>
      dsimp only
      split
      ·cases tl <;> first | rfl | cases ht
      rfl
    | @sle ad cap _ ht =>
     simp only [List.length_nil, Int.natCast_zero] at c2 c3 c4
     have e1 : (il.getD 0).toNat = 0 := by omega
     have e2 : (ih.getD 0).toNat = 0 := by omega
     have e3 : (im.getD 0).toNat = 0 := by omega
     have hcap0 : (0 : Int) ≤ (cap : Nat) := by omega
     have hc6 : im.getD (cap : Nat) ≤ (cap : Nat) ∧ 0 ≤ im.getD (cap : Nat) := by cases im <;> simp at c3 c4 ⊢ <;> omega
     have hb0 := hb true 0 cap c1 (by simpa using c2) (by simp only [Int.natCast_zero]; omega) hc6.1 c5
     simp only [Int.natCast_zero] at hb0
     simp only [hav, Instr.sliceAt, Instr.slice, Sem.run_bind, run_underlying hu, Result.andThen_ok, hb0, H7 hs, Sem.run_pure, D7, e1, e2, Nat.sub_self, Nat.sub_zero, Nat.zero_mul];refine G8.here hR ?_ h;simp only [List.drop_nil, List.take_nil, Option.map_some, Addr.add, if_true, ite_self];refine .sle ?_;unfold EN
     cases im with
     | some m =>
      simp only [Option.getD_some] at c3 c4 ⊢
      split
      ·exact .inr ⟨rfl, by omega⟩
      exact .inl rfl
     | none =>
      simp only [Option.getD_none]
      split
      ·rcases ht with rfl | ⟨rfl, h⟩
       ·exact .inl rfl
       exact .inr ⟨rfl, by omega⟩
      exact .inl rfl
    | sl vs hn hcc hz hf hw h1 hvv ht =>
     rename_i b q sz' n cap
     rw [hn] at c2 c3 c4 h
     have c4' : im.getD cap ≤ cap := by
      cases im with
      | none => simp
      | some m => simp at c4 ⊢; omega
     have c3' : ih.getD n ≤ im.getD cap := by
      cases im with
      | none => simp at c3 ⊢; omega
      | some m => simpa using c3
     have hb1 := hb true n cap c1 c2 c3' c4' c5;simp only [hav, Instr.sliceAt, Instr.slice, Sem.run_bind, run_underlying hu, Result.andThen_ok, hb1, H7 hs, Sem.run_pure, D7];refine G8.here hR ?_ h
     generalize hL : (il.getD 0).toNat = L at *
     generalize hHH : (ih.getD (n : Int)).toNat = HH at *
     generalize hM : (im.getD (cap : Int)).toNat = M at *
     have b1 : L ≤ HH := by omega
     have b2 : HH ≤ n := by
      cases im with
      | none => simp at c3; omega
      | some m => simp at c3 c4; omega
     have b3 : HH ≤ M := by omega
     have b4 : M ≤ cap := by omega
     have hget : ∀ i, i < HH - L → ((xs.drop L).take (HH - L)).getD i .bad = xs.getD (L + i) .bad := by
      intro i hi;simp [List.getD, List.getElem?_take, List.getElem?_drop, hi]
     have hlen : ((xs.drop L).take (HH - L)).length = HH - L := by simp; omega
     have htail : ∀ q', (HH - L = 0 ∨ q' = q + L * sz') → (L = 0 → q' = q) → DU g b q' sz' (HH - L) (M - L) (EN L HH n im tl) := by
      intro q' hq' hq0;unfold EN
      cases im with
      | some m =>
       dsimp only
       split
       ·rename_i hm
        have : M = HH := by simp at hM; omega
        simp [DU, this]
       trivial
      | none =>
       dsimp only
       have hMc : M = cap := by simp at hM; omega
       split
       ·rename_i hHn
        cases tl with
        | full => simp only [DU] at ht ⊢; omega
        | nil => exact ht.elim
        | ro => trivial
        | tok t =>
         dsimp only
         split
         ·rename_i hL0;obtain ⟨t0, lim, t1, t2⟩ := ht;have := hq0 hL0;subst this;exact ⟨by omega, lim, by rw [t1, hHn, hL0, Nat.sub_zero], by rw [hMc, hL0, Nat.sub_zero]; exact t2⟩
         trivial
       trivial
     by_cases hML : M = L
     ·rw [if_pos hML]
      have hz0 : HH - L = 0 := by omega
      refine .sl (sz := sz') (fun i j => undef) hlen (by omega) (fun i hi => by omega) (fun i j hi => by omega) (fun i j hi => by omega) (fun i j hi => by omega) (fun i j hi => by omega) (htail q (.inl hz0) fun _ => rfl)
     rw [if_neg hML];simp only [Option.map_some, O7]
     by_cases hn0 : HH - L = 0
     ·refine .sl (sz := sz') (fun i j => undef) hlen (by omega) (fun i hi => by omega) (fun i j hi => by omega) (fun i j hi => by omega) (fun i j hi => by omega) (fun i j hi => by omega)
       (htail _ (.inl hn0) fun hL0 => by rw [hL0]; simp)
     have hszz : L * sz = L * sz' := by
      rcases c6 with c6 | c6
      ·have : L = 0 := by omega
       subst this; simp
      have h0 : 0 < xs.length := by omega
      have := (List.all_eq_true.1 c6) (xs.getD 0 .bad) (by simp [List.getD, h0]);have h2 := hz 0 (by omega)
      have : sz' = sz := by rw [← h2]; simpa using this
      rw [this]
     rw [hszz]
     refine .sl (sz := sz') (fun i j => vs (L + i) j) hlen (by omega) (fun i hi => by rw [hget i hi]; exact hz _ (by omega))
      (fun i j hi hj => by have := hf (L + i) j (by omega) hj; rw [Nat.add_mul] at this; rw [show q + L * sz' + i * sz' + j = q + (L * sz' + i * sz') + j by omega]; exact this)
      (fun i j hi hj => by have := hw (L + i) j (by omega) hj; rw [Nat.add_mul] at this; rw [show q + L * sz' + i * sz' + j = q + (L * sz' + i * sz') + j by omega]; exact this)
      (fun i j hi hj => h1 _ j (by omega) hj) (fun i j hi hj => by rw [hget i hi]; exact hvv _ j (by omega) hj) (htail _ (.inr rfl) fun hL0 => by rw [hL0]; simp)
   cases hl
  cases hl
 ·rename_i s hse he
  split at hl
  ·rename_i hc;obtain ⟨c0, rfl, c1, c2, c3⟩ := hc;cases hl
   rw [he] at hv
   have hav := hv.str_inv
   have hu : P.underlying t = some .string := by
    unfold LZ at c0
    split at c0
    ·assumption
    cases c0
   rcases hrm with ⟨e2, _⟩ | ⟨k, j, e2, e3⟩
   ·have hbs := hb false s.size s.size c1 c2 (by simpa using c3) (by simp) (by simp)
    rw [e2] at hbs
    unfold execOp; rw [ho];simp only [hav, e2, Instr.sliceAt, Instr.slice, Sem.run_bind, run_underlying hu, Result.andThen_ok, hbs, Option.isSome_none, Bool.false_eq_true, if_false, Sem.run_pure, D7];exact G8.here hR (.str _) h
   cases e3
  cases hl
 cases hl
theorem Mi {fn : Fn} {fs cs : Array Operand} (ho : o.op = .makeFunc fn fs cs) (h : K (.func fn (fs.toList.map (ev fr)) (cs.toList.map (ev fr))) H) : E4 P o fr H K := by
 intro g w a hR hE
 have hmap : ∀ l : Array Operand, (l.map a.eval).size = (l.toList.map (ev fr)).length ∧ ∀ i, i < (l.toList.map (ev fr)).length → VR g w ((l.map a.eval).getD i undef) ((l.toList.map (ev fr)).getD i .bad) := by
  intro l;refine ⟨by simp, fun i hi => ?_⟩
  have hi' : i < l.size := by simpa using hi
  have e1 : (l.map a.eval).getD i undef = a.eval l[i] := by simp [Array.getD, hi']
  have e2 : (l.toList.map (ev fr)).getD i .bad = ev fr l[i] := by simp [List.getD, hi']
  rw [e1, e2]; exact C4 hR hE _
 unfold execOp; rw [ho];exact G8.here hR (.func (hmap fs).1 (hmap fs).2 (hmap cs).1 (hmap cs).2) h
theorem Ha {t : TypeId} {y : Operand} (ho : o.op = .makeInterface t y) (hi : Xv P t = false) (h : K (.iface t (ev fr y)) H) : E4 P o fr H K := by
 intro g w a hR hE;unfold execOp; rw [ho]
 unfold Xv at hi
 cases hu : P.underlying t with
 | none => simp [hu] at hi
 | some d =>
  simp only [hu] at hi
  cases d <;> first
   | (simp only [Instr.makeInterface, Sem.run_bind, run_underlying hu, Result.andThen_ok, Sem.run_pure, D7]; exact G8.here hR (.iface (C4 hR hE y)) h)
   | cases hi
def Qw : V → Bool
 | .ref _ _ => true
 | .eref _ _ => true
 | .elem _ _ _ _ => true
 | .func (.func _) _ _ => true
 | .func (.yield _) _ _ => true
 | _ => false
theorem Mg {y : Operand} (ho : o.op = .nilCheck y) (hn : Qw (ev fr y) = true) (h : K (ev fr y) H) : E4 P o fr H K := by
 intro g w a hR hE;have hv := C4 hR hE y;unfold execOp; rw [ho]
 generalize hx : ev fr y = X at hn hv
 rw [hx] at h
 generalize hav : a.eval y = v at hv
 cases hv <;> simp [Qw] at hn
 ·rename_i id b off hm;simp only [hav, Sem.run_pure, D7];exact G8.here hR (.ref hm) h
 ·rename_i hm hs;simp only [hav, Sem.run_pure, D7];exact G8.here hR (.elem hm hs) h
 ·rename_i b q off cs vs hf hw h1 hvv;simp only [hav, Sem.run_pure, D7];exact G8.here hR (.eref vs hf hw h1 hvv) h
 rename_i fn fs cs F C h1 h2 h3 h4
 cases fn <;> simp at hn
 ·simp only [hav, Sem.run_pure, D7];exact G8.here hR (.func h1 h2 h3 h4) h
 simp only [hav, Sem.run_pure, D7];exact G8.here hR (.func h1 h2 h3 h4) h
end
end Go.Ab
namespace Go.Ab
open Go.RowKit
variable [G5]
def CQ : V → V → Option Bool
 | .int k a, .int k' b => if k = k' then some (a == b) else none
 | .str a, .str b => some (a.toList == b.toList)
 | .bool a, .bool b => some (a == b)
 | _, _ => none
def R6 : List V → List V → Option Bool
 | [], [] => some true
 | x :: xs, y :: ys =>
  match CQ x y, R6 xs ys with
  | some a, some b => some (a && b)
  | _, _ => none
 | _, _ => none
def kd : V → Nat
 | .int _ _ => 0
 | .bool _ => 1
 | .str _ => 2
 | _ => 9
def GI (P : Program) (q : TypeId → Option (List Nat)) : List Field → Nat → Option (List Nat)
 | [], _ => some []
 | f :: fs, n =>
  if f.name ≠ "_" ∧ f.offset = n then
   match q f.type with
   | some k => (GI P q fs (n + k.length)).map (k ++ ·)
   | none => none
  else none
def Cq (P : Program) : Nat → TypeId → Option (List Nat)
 | 0, _ => none
 | d + 1, t =>
  match P.underlying t with
  | some .bool => some [1]
  | some (.int _) => some [0]
  | some .string => some [2]
  | some (.struct fs) =>
   if P.stoodInHeld t = false ∧ P.eqGuardType P.depth t = false then
    match GI P (Cq P d) fs.toList 0 with
    | some n => if Bw P t = some n.length then some n else none
    | none => none
   else none
  | _ => none
def FC (op : BinOp) (k : IntKind) (a b : Int) : Option V :=
 match op with
 | .add => some (.int k (k.wrap (a + b)))
 | .sub => some (.int k (k.wrap (a - b)))
 | .mul => some (.int k (k.wrap (a * b)))
 | .quo => if b = 0 then none else some (.int k (k.wrap (a.tdiv b)))
 | .rem => if b = 0 then none else some (.int k (a.tmod b))
 | .and => some (.int k (k.wrap (BitVec.ofInt k.bits a &&& BitVec.ofInt k.bits b).toNat))
 | .or => some (.int k (k.wrap (BitVec.ofInt k.bits a ||| BitVec.ofInt k.bits b).toNat))
 | .xor => some (.int k (k.wrap (BitVec.ofInt k.bits a ^^^ BitVec.ofInt k.bits b).toNat))
 | .andNot => some (.int k (k.wrap (BitVec.ofInt k.bits a &&& ~~~(BitVec.ofInt k.bits b)).toNat))
 | .eql => some (.bool (a == b))
 | .neq => some (.bool (a != b))
 | .lss => some (.bool (a < b))
 | .leq => some (.bool (a ≤ b))
 | .gtr => some (.bool (a > b))
 | .geq => some (.bool (a ≥ b))
 | _ => none
def Jl (op : BinOp) (x y : ByteArray) : Option V :=
 match op with
 | .add => if ((x.size + y.size : Nat) : Int) > 9223372036854775807 then none else some (.str (x ++ y))
 | .eql => some (.bool (x.toList == y.toList))
 | .neq => some (.bool (!(x.toList == y.toList)))
 | .lss => some (.bool (Op.bytesLess x.toList y.toList))
 | .leq => some (.bool (Op.bytesLess x.toList y.toList || x.toList == y.toList))
 | .gtr => some (.bool (!(Op.bytesLess x.toList y.toList || x.toList == y.toList)))
 | .geq => some (.bool (!Op.bytesLess x.toList y.toList))
 | _ => none
def Jq (op : BinOp) (k : IntKind) (a b : Int) : Option V :=
 if b < 0 then none else
  match op with
  | .shl => some (.int k (k.wrap (a * 2 ^ (min b.toNat k.bits))))
  | .shr => some (.int k (a.fdiv (2 ^ (min b.toNat k.bits))))
  | _ => none
def Dv : BinOp → Bool
 | .shl => true
 | .shr => true
 | _ => false
def QX : Option TypeDesc → Bool
 | some .bool => true
 | _ => false
def IQ (P : Program) (op : BinOp) (t : TypeId) (x y : V) : Option V :=
 match x, y with
 | .int k a, .int k' b => if Dv op then Jq op k a b else if k = k' then FC op k a b else none
 | .str a, .str b => Jl op a b
 | .bool a, .bool b =>
  if QX (P.underlying t) = true then
   match op with
   | .eql => some (.bool (a == b))
   | .neq => some (.bool (!(a == b)))
   | _ => none
  else none
 | .agg xs, .agg ys =>
  if MX P t = some true ∧ Cq P 9 t = some (xs.map kd) ∧ ys.map kd = xs.map kd then
   match op, R6 xs ys with
   | .eql, some b => some (.bool b)
   | .neq, some b => some (.bool (!b))
   | _, _ => none
  else none
 | _, _ => none
def unV (op : UnOp) (x : V) : Option V :=
 match op, x with
 | .not, .bool b => some (.bool (!b))
 | .neg, .int k n => some (.int k (k.wrap (0 - n)))
 | _, _ => none
def LM (P : Program) (s d : TypeId) (x : V) : Option V :=
 match P.underlying s, P.underlying d, x with
 | some (.int _), some (.int k), .int _ n => some (.int k (k.wrap n))
 | some .string, some .string, .str b => some (.str b)
 | _, _, _ => none
section
variable {P : Program} {o : Oper} {fr : Fr} {H : A0} {K : V → A0 → Prop}
theorem Mk {g : Gh} {w : World} {v v' : Value} {x y : V} {b : Bool} {t : TypeId} {d : Nat} (hv : VR g w v x) (hv' : VR g w v' y) (h : CQ x y = some b)
 (hu : match P.underlying t with | some .bool => kd x = 1 | some (.int _) => kd x = 0 | some .string => kd x = 2 | _ => False) : (Op.equalIn (d + 1) t v v').run P w = .ok b w := by
 unfold CQ at h
 split at h
 ·rename_i k a k' c
  split at h
  ·rename_i e;subst e; cases h;rw [hv.int_inv, hv'.int_inv]
   split at hu <;> simp [kd] at hu
   rename_i hk;exact run_equalIn_int w d t k _ a c hk
  cases h
 ·cases h;rw [hv.str_inv, hv'.str_inv]
  split at hu <;> simp [kd] at hu
  rename_i hk;exact run_equalIn_string w d t _ _ hk
 ·cases h;rw [hv.bool_inv, hv'.bool_inv]
  split at hu <;> simp [kd] at hu
  rename_i hk;exact run_equalIn_bool' w d t _ _ hk
 cases h
theorem FG : ∀ (a b c d : List V) (r : Bool), a.length = c.length → R6 (a ++ b) (c ++ d) = some r → ∃ p q, R6 a c = some p ∧ R6 b d = some q ∧ r = (p && q)
 | [], b, [], d, r, _, h => ⟨true, r, rfl, h, by simp⟩
 | x :: a, b, y :: c, d, r, hl, h => by
  simp only [List.cons_append, R6] at h
  cases h1 : CQ x y with
  | none => simp [h1] at h
  | some s =>
   cases h2 : R6 (a ++ b) (c ++ d) with
   | none => simp [h1, h2] at h
   | some u =>
    simp only [h1, h2, Option.some.injEq] at h
    obtain ⟨p, q, e1, e2, e3⟩ := FG a b c d u (by simpa using hl) h2;exact ⟨s && p, q, by simp [R6, h1, e1], e2, by rw [← h, e3, Bool.and_assoc]⟩
 | [], _, _ :: _, _, _, hl, _ => by simp at hl
 | _ :: _, _, [], _, _, hl, _ => by simp at hl
theorem HM (cs : List V) (off k n : Nat) : (cs.drop off).take (k + n) = (cs.drop off).take k ++ (cs.drop (off + k)).take n := by
 rw [List.take_add, List.drop_drop]
def XG (P : Program) (w : World) (d : Nat) (t : TypeId) (xs ys : Array Value) (cs ds : List V) (ks : List Nat) : Prop :=
 ∀ off b, off + ks.length ≤ cs.length → ((cs.drop off).take ks.length).map kd = ks → R6 ((cs.drop off).take ks.length) ((ds.drop off).take ks.length) = some b →
  ∃ a a', (part t xs off).run P w = .ok a w ∧ (part t ys off).run P w = .ok a' w ∧ (Op.equalIn d t a a').run P w = .ok b w
theorem Hp {w : World} {d : Nat} {q : TypeId → Option (List Nat)} {xs ys : Array Value} {cs ds : List V} (hl : cs.length = ds.length)
 (hq : ∀ t ks, q t = some ks → XG P w d t xs ys cs ds ks) : ∀ (fs : List Field) (n : Nat) (ks : List Nat), GI P q fs n = some ks → n + ks.length ≤ cs.length → ∀ b, ((cs.drop n).take ks.length).map kd = ks →
  R6 ((cs.drop n).take ks.length) ((ds.drop n).take ks.length) = some b → (Op.eqFields d xs ys fs).run P w = .ok b w
 | [], n, ks, h, _, b, _, hb => by
  simp only [GI, Option.some.injEq] at h
  subst h
  simp [R6] at hb
  subst hb;rfl
 | f :: fs, n, ks, h, hle, b, hkd, hb => by
  simp only [GI] at h
  split at h
  ·rename_i hc;obtain ⟨hname, hoff⟩ := hc
   cases hk : q f.type with
   | none => simp [hk] at h
   | some k =>
    simp only [hk] at h
    cases hr : GI P q fs (n + k.length) with
    | none => simp [hr] at h
    | some m =>
     simp only [hr, Option.map_some, Option.some.injEq] at h
     subst h
     simp only [List.length_append] at hle hkd hb
     rw [HM] at hkd
     rw [HM, HM] at hb
     simp only [List.map_append] at hkd
     have hkl : (((cs.drop n).take k.length).map kd).length = k.length := by simp; omega
     have hk1 := List.append_inj_left hkd hkl;have hk2 := List.append_inj_right hkd hkl;obtain ⟨p, r, e1, e2, rfl⟩ := FG _ _ _ _ b (by simp; omega) hb;obtain ⟨a, a', h1, h2, h3⟩ := hq _ _ hk n p (by omega) hk1 e1;have ih := Hp hl hq fs (n + k.length) m hr (by omega) r hk2 e2;simp only [Op.eqFields, if_pos hname, hoff, Sem.run_bind, h1, h2, h3, Result.andThen_ok, Sem.run_ite, Sem.run_pure, ih];cases p <;> rfl
  cases h
theorem Kf {g : Gh} {w : World} {xs ys : Array Value} {cs ds : List V} (hx : KB g w xs cs) (hy : KB g w ys ds) (hl : cs.length = ds.length) : ∀ (e d : Nat) (t : TypeId) (ks : List Nat), Cq P d t = some ks → XG P w (d + e) t xs ys cs ds ks
 | e, 0, t, ks, h => by simp [Cq] at h
 | e, d + 1, t, ks, h => by
  intro off b hle hkd hb
  have scal : ∀ i, (match P.underlying t with | some .bool => i = 1 | some (.int _) => i = 0 | some .string => i = 2 | _ => False) → ks = [i] →
   ∃ a a', (part t xs off).run P w = .ok a w ∧ (part t ys off).run P w = .ok a' w ∧ (Op.equalIn (d + 1 + e) t a a').run P w = .ok b w := by
   intro i hi hks;subst hks
   simp only [List.length_singleton] at hle hkd hb
   have hoc : off < cs.length := by omega
   have hod : off < ds.length := by omega
   have e1 : (cs.drop off).take 1 = [cs.getD off .bad] := by rw [List.drop_eq_getElem_cons hoc, List.take_succ_cons, List.take_zero]; simp [List.getD, hoc]
   have e2 : (ds.drop off).take 1 = [ds.getD off .bad] := by rw [List.drop_eq_getElem_cons hod, List.take_succ_cons, List.take_zero]; simp [List.getD, hod]
   rw [e1] at hkd
   rw [e1, e2] at hb
   simp only [List.map_cons, List.map_nil, List.cons.injEq, and_true] at hkd
   have hs : CQ (cs.getD off .bad) (ds.getD off .bad) = some b := by
    simp only [R6] at hb
    cases hq : CQ (cs.getD off .bad) (ds.getD off .bad) with
    | none => rw [hq] at hb; cases hb
    | some s => rw [hq] at hb; simpa using hb
   have hag : MX P t = some false := by
    unfold MX
    cases hu : P.underlying t with
    | none => simp [hu] at hi
    | some d => cases d <;> simp [hu] at hi <;> rfl
   have hpart : ∀ (zs : Array Value), off < zs.size → (part t zs off).run P w = .ok (zs.getD off undef) w := by
    intro zs hz;unfold part;rw [Sem.run_bind, Fg hag w];simp [Array.getD, hz]
   have hoxs : off < xs.size := by rw [hx.1]; exact hoc
   have hoys : off < ys.size := by rw [hy.1]; exact hod
   refine ⟨_, _, hpart xs hoxs, hpart ys hoys, ?_⟩;rw [show d + 1 + e = (d + e) + 1 by omega];refine Mk (hx.2 off hoc).2 (hy.2 off hod).2 hs ?_
   split <;> rename_i hu <;> simp only [hu] at hi <;> first | exact hkd.trans hi | exact hi
  simp only [Cq] at h
  split at h
  ·rename_i hu; cases h; exact scal 1 (by rw [hu]) rfl
  ·rename_i hu; cases h; exact scal 0 (by rw [hu]) rfl
  ·rename_i hu; cases h; exact scal 2 (by rw [hu]) rfl
  ·rename_i fs hu
   split at h
   ·rename_i hst
    cases hf : GI P (Cq P d) fs.toList 0 with
    | none => simp [hf] at h
    | some n =>
     simp only [hf] at h
     split at h
     ·rename_i hs;cases h
      have hag : MX P t = some true := by simp [MX, hu, Uk]
      have hsub : ∀ (zs : Array Value) (es : List V), KB g w zs es → off + ks.length ≤ es.length → (part t zs off).run P w = .ok (.agg (zs.extract off (off + ks.length))) w ∧ KB g w (zs.extract off (off + ks.length)) ((es.drop off).take ks.length) := by
       intro zs es hz hze;refine ⟨?_, ?_, fun i hi => ?_⟩
       ·unfold part;rw [Sem.run_bind, Fg hag w];simp [Sem.run_bind, H7 hs w]
       ·have := hz.1; simp; omega
       have hi' : i < ks.length := by simp at hi; omega
       have q1 : (zs.extract off (off + ks.length)).getD i undef = zs.getD (off + i) undef := by
        have := hz.1;simp only [Array.getD_eq_getD_getElem?, Array.getElem?_extract];rw [if_pos (by omega)]
       have q2 : ((es.drop off).take ks.length).getD i .bad = es.getD (off + i) .bad := by
        simp [List.getD, List.getElem?_take, List.getElem?_drop, hi']
       rw [q1, q2]; exact hz.2 _ (by omega)
      obtain ⟨p1, r1⟩ := hsub xs cs hx hle;obtain ⟨p2, r2⟩ := hsub ys ds hy (by omega);refine ⟨_, _, p1, p2, ?_⟩;rw [show d + 1 + e = (d + e) + 1 by omega]
      have hfo : P.fieldsOf t = fs := by simp [Program.fieldsOf, hu]
      rw [run_equalIn_struct w (d + e) t _ _ (by rw [hfo]; exact hu) hst.1, hfo]
      have hlen : ((cs.drop off).take ks.length).length = ks.length := by simp; omega
      refine Hp (by simp; omega) (fun t' ks' hq => Kf r1 r2 (by simp; omega) e d t' ks' hq) fs.toList 0 ks hf (by simp; omega) b ?_ ?_
      ·simp only [List.drop_zero, List.take_take, Nat.min_self]; exact hkd
      simp only [List.drop_zero, List.take_take, Nat.min_self]; exact hb
     cases h
   cases h
  cases h
theorem SL {op : UnOp} {t : TypeId} {y : Operand} {x : V} (ho : o.op = .unOp op t y) (hl : unV op (ev fr y) = some x) (h : K x H) : E4 P o fr H K := by
 intro g w a hR hE;have hv := C4 hR hE y;unfold execOp; rw [ho]
 unfold unV at hl
 split at hl
 ·rename_i b he;cases hl
  rw [he] at hv
  simp only [hv.bool_inv, Op.unary, Sem.run_bind, Sem.run_pure, Result.andThen_ok, D7];exact G8.here hR (.bool _) h
 ·rename_i k n he;cases hl
  rw [he] at hv
  simp only [hv.int_inv, Op.unary, Op.intArith, Sem.run_bind, Sem.run_pure, Result.andThen_ok, D7];exact G8.here hR (.int _ _) h
 cases hl
theorem Nv {s d : TypeId} {y : Operand} {x : V} (ho : o.op = .convert s d y) (hl : LM P s d (ev fr y) = some x) (h : K x H) : E4 P o fr H K := by
 intro g w a hR hE;have hv := C4 hR hE y;unfold execOp; rw [ho]
 unfold LM at hl
 split at hl
 ·rename_i k0 k k' n hs hd he;cases hl
  rw [he] at hv
  simp only [hv.int_inv, convert, Sem.run_bind, run_underlying hs, run_underlying hd, Conv.intToInt, Sem.run_pure, Result.andThen_ok, D7];exact G8.here hR (.int _ _) h
 ·rename_i b hs hd he;cases hl
  rw [he] at hv
  simp only [hv.str_inv, convert, Sem.run_bind, run_underlying hs, run_underlying hd, Sem.run_pure, Result.andThen_ok, D7];exact G8.here hR (.str _) h
 cases hl
theorem EJ (op : BinOp) (t : TypeId) (p q : Operand) (u v : Value) (w : World) (h : (∃ k a, u = .int k a) ∨ (∃ s, u = .string s) ∨ ∃ b, u = .bool b) : (eqGuard op t p q u v).run P w = .ok () w := by
 rcases h with ⟨k, a, rfl⟩ | ⟨s, rfl⟩ | ⟨b, rfl⟩ <;> cases op <;> simp [eqGuard]
theorem Pq {op : BinOp} {t : TypeId} {k k' : IntKind} {m n : Int} {x : V} (hs : Dv op = true) (h : Jq op k m n = some x) (w : World) :
 ∃ v, (binOp op t (.int k m) (.int k' n)).run P w = .ok v w ∧ ∀ g, VR g w v x := by
 unfold Jq at h
 split at h
 ·cases h
 rename_i hneg
 cases op <;> simp [Dv] at hs
 ·simp only [Option.some.injEq] at h; subst h
  exact ⟨_, by simp [binOp, Op.shift, hneg], fun g => .int _ _⟩
 simp only [Option.some.injEq] at h; subst h
 exact ⟨_, by simp [binOp, Op.shift, hneg], fun g => .int _ _⟩
theorem Pr {op : BinOp} {t : TypeId} {k : IntKind} {m n : Int} {x : V} (hs : Dv op = false) (h : FC op k m n = some x) (w : World) :
 ∃ v, (binOp op t (.int k m) (.int k n)).run P w = .ok v w ∧ ∀ g, VR g w v x := by
 have one : ∀ r : Int, (binOp op t (.int k m) (.int k n)).run P w = .ok (.int k r) w → x = .int k r → ∃ v, (binOp op t (.int k m) (.int k n)).run P w = .ok v w ∧ ∀ g, VR g w v x :=
  fun r h1 h2 => ⟨_, h1, fun g => h2 ▸ .int _ _⟩
 have two : ∀ r : Bool, (binOp op t (.int k m) (.int k n)).run P w = .ok (.bool r) w → x = .bool r → ∃ v, (binOp op t (.int k m) (.int k n)).run P w = .ok v w ∧ ∀ g, VR g w v x :=
  fun r h1 h2 => ⟨_, h1, fun g => h2 ▸ .bool _⟩
 cases op <;> simp [Dv] at hs <;> simp only [FC] at h
 ·simp only [Option.some.injEq] at h; exact one _ (by simp [binOp, Op.intArith]) h.symm
 ·simp only [Option.some.injEq] at h; exact one _ (by simp [binOp, Op.intArith]) h.symm
 ·simp only [Option.some.injEq] at h; exact one _ (by simp [binOp, Op.intArith]) h.symm
 ·split at h
  ·cases h
  rename_i h0; simp only [Option.some.injEq] at h; exact one _ (by simp [binOp, Op.intDiv, h0]) h.symm
 ·split at h
  ·cases h
  rename_i h0; simp only [Option.some.injEq] at h; exact one _ (by simp [binOp, Op.intDiv, h0]) h.symm
 ·simp only [Option.some.injEq] at h; exact one _ (by simp [binOp, Op.intBits]) h.symm
 ·simp only [Option.some.injEq] at h; exact one _ (by simp [binOp, Op.intBits]) h.symm
 ·simp only [Option.some.injEq] at h; exact one _ (by simp [binOp, Op.intBits]) h.symm
 ·simp only [Option.some.injEq] at h; exact one _ (by simp [binOp, Op.intBits]) h.symm
 all_goals (simp only [Option.some.injEq] at h; exact two _ (by simp [binOp, Op.intCmp]) h.symm)
theorem Pp {op : BinOp} {t : TypeId} {m n : ByteArray} {x : V} (h : Jl op m n = some x) (w : World) :
 ∃ v, (binOp op t (.string m) (.string n)).run P w = .ok v w ∧ ∀ g, VR g w v x := by
 have two : ∀ r : Bool, (binOp op t (.string m) (.string n)).run P w = .ok (.bool r) w → x = .bool r → ∃ v, (binOp op t (.string m) (.string n)).run P w = .ok v w ∧ ∀ g, VR g w v x :=
  fun r h1 h2 => ⟨_, h1, fun g => h2 ▸ .bool _⟩
 cases op <;> simp only [Jl] at h
 ·split at h
  ·cases h
  rename_i h0
  simp only [Option.some.injEq] at h
  have h1 : ¬ (((m.size + n.size : Nat) : Int) > IntKind.i64.max) := h0;subst h;exact ⟨.string (m ++ n), by simp only [binOp, Op.stringOp, if_neg h1, Sem.run_pure], fun g => .str _⟩
 all_goals
  first
   | (cases h; done)
   | (simp only [Option.some.injEq] at h; exact two _ (by simp [binOp, Op.stringOp]) h.symm)
theorem Rs {op : BinOp} {t ty : TypeId} {y z : Operand} {x : V} (ho : o.op = .binOp op t y z ty) (hl : IQ P op t (ev fr y) (ev fr z) = some x) (h : K x H) : E4 P o fr H K := by
 intro g w a hR hE;have hv := C4 hR hE y;have hz := C4 hR hE z;unfold execOp; rw [ho];simp only [Sem.run_bind]
 unfold IQ at hl
 split at hl
 ·rename_i k m k' n he hf
  rw [he] at hv; rw [hf] at hz
  rw [hv.int_inv, hz.int_inv, EJ op t y z _ _ w (.inl ⟨k, m, rfl⟩)];simp only [Result.andThen_ok]
  split at hl
  ·rename_i hsh;obtain ⟨v, h1, h2⟩ := Pq (P := P) (t := t) (k' := k') hsh hl w;rw [h1];simp only [Result.andThen_ok, Sem.run_pure, D7];exact G8.here hR (h2 g) h
  rename_i hsh
  split at hl
  ·rename_i hk;subst hk;obtain ⟨v, h1, h2⟩ := Pr (P := P) (t := t) (by simpa using hsh) hl w;rw [h1];simp only [Result.andThen_ok, Sem.run_pure, D7];exact G8.here hR (h2 g) h
  cases hl
 ·rename_i s1 s2 he hf
  rw [he] at hv; rw [hf] at hz
  rw [hv.str_inv, hz.str_inv, EJ op t y z _ _ w (.inr (.inl ⟨_, rfl⟩))];simp only [Result.andThen_ok];obtain ⟨v, h1, h2⟩ := Pp (P := P) (t := t) hl w;rw [h1];simp only [Result.andThen_ok, Sem.run_pure, D7];exact G8.here hR (h2 g) h
 ·rename_i b1 b2 he hf
  rw [he] at hv; rw [hf] at hz
  split at hl
  ·rename_i hb
   have hu : P.underlying t = some .bool := by
    unfold QX at hb
    split at hb
    ·assumption
    cases hb
   rw [hv.bool_inv, hz.bool_inv, EJ op t y z _ _ w (.inr (.inr ⟨_, rfl⟩))];simp only [Result.andThen_ok];have heq : (Op.equal t (.bool b1) (.bool b2)).run P w = .ok (b1 == b2) w := run_equalIn_bool' w 9999 t b1 b2 hu
   cases op <;> simp only [Option.some.injEq, reduceCtorEq] at hl <;> subst hl <;>
    (simp only [binOp, Sem.run_bind, heq, Result.andThen_ok, Sem.run_pure, D7]; exact G8.here hR (.bool _) h)
  cases hl
 ·rename_i cs ds he hf
  rw [he] at hv; rw [hf] at hz
  split at hl
  ·rename_i hc;obtain ⟨hag, hk, hkd⟩ := hc;obtain ⟨c, hc, hrc⟩ := hv.row;obtain ⟨d, hd, hrd⟩ := hz.row;rw [hc, hd]
   have hlen : cs.length = ds.length := by have := congrArg List.length hkd; simpa using this.symm
   cases heq : R6 cs ds with
   | none => cases op <;> simp [heq] at hl
   | some b =>
    obtain ⟨u, u', p1, p2, p3⟩ := Kf (P := P) hrc hrd hlen (10000 - 9) 9 t _ hk 0 b (by simp) (by simp) (by
     rw [List.length_map, List.drop_zero, List.drop_zero, List.take_of_length_le (Nat.le_refl _), List.take_of_length_le (by omega)]; exact heq)
    have hs : Bw P t = some cs.length ∧ P.eqGuardType P.depth t = false := by
     simp only [Cq] at hk
     split at hk
     ·rename_i hu; simp [MX, hu, Uk] at hag
     ·rename_i hu; simp [MX, hu, Uk] at hag
     ·rename_i hu; simp [MX, hu, Uk] at hag
     ·split at hk
      ·rename_i hst
       split at hk
       ·split at hk
        ·rename_i n _ hs; cases hk; exact ⟨by simpa using hs, hst.2⟩
        cases hk
       cases hk
      cases hk
     cases hk
    unfold part at p1 p2
    rw [Sem.run_bind, Fg hag w] at p1 p2
    simp only [Result.andThen_ok, if_true, Sem.run_bind, H7 hs.1, Sem.run_pure, Nat.zero_add, Result.ok.injEq, and_true] at p1 p2
    have q1 : c.extract 0 cs.length = c := by rw [← hrc.1]; simp
    have q2 : d.extract 0 cs.length = d := by rw [hlen, ← hrd.1]; simp
    rw [q1] at p1; rw [q2] at p2
    subst p1; subst p2;rw [run_eqGuard_agg w op t y z c d hs.2];simp only [Result.andThen_ok];have p3' : (Op.equalIn 10000 t (.agg c) (.agg d)).run P w = .ok b w := p3
    cases op <;> simp only [heq, Option.some.injEq, reduceCtorEq] at hl <;> subst hl
    ·rw [run_eql_struct, p3']; exact G8.here hR (.bool _) h
    rw [run_neq_struct, p3']; exact G8.here hR (.bool _) h
  cases hl
 cases hl
end
end Go.Ab
