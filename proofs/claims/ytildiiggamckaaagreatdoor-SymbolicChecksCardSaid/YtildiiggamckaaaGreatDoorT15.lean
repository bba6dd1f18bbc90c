/- AbA20 -/
import Derived.Test.YtildiiggamckaaaGreatDoorT14
set_option linter.all false
namespace Go.Ab
open Go.RowKit
variable [G5]
structure Rc where
 sz : Nat
 by_ : Nat
 ag : Bool
 sl : Option Nat
 ar : Option (Nat × Nat)
 fs : List (Option (Nat × Nat))
 pl : Option (List (Nat × Nat))
 ze : Option V
 ek : Option (List Nat)
 st : Bool
 bo : Bool
 ik : Option IntKind
 nif : Bool
def SB (P : Program) (t : TypeId) : Nat → List (Option (Nat × Nat)) → Prop
 | _, [] => True
 | i, some p :: l => Vo P t i = some p ∧ SB P t (i + 1) l
 | i, none :: l => SB P t (i + 1) l
def V7 {α : Type} (o : Option α) (p : α → Prop) : Prop :=
 match o with
 | some x => p x
 | none => True
structure Vy (P : Program) (t : TypeId) (I : Rc) : Prop where
 sz : Bm P t = some I.sz
 by_ : IC P t = some I.by_
 ag : Mj P t = some I.ag
 sl : BF P t = I.sl
 ar : UQ P t = I.ar
 fs : SB P t 0 I.fs
 pl : V7 I.pl fun l => GI P t = some l
 ze : V7 I.ze fun z => DR P t = some z
 ek : V7 I.ek fun k => Cc P 9 t = some k
 st : Ls P t = I.st
 bo : I.bo = true → PW (P.underlying t) = true
 ik : V7 I.ik fun k => P.underlying t = some (.int k)
 nif : I.nif = true → VZ P t = false
abbrev CW := List (Nat × Rc)
def EC (P : Program) : CW → Prop
 | [] => True
 | (t, I) :: l => Vy P t I ∧ EC P l
def tg : CW → Nat → Option Rc
 | [], _ => none
 | (k, I) :: l, t => match Nat.beq t k with | true => some I | false => tg l t
theorem D2 {P : Program} {T : CW} (h : EC P T) {t : Nat} {I : Rc} (hg : tg T t = some I) : Vy P t I := by
 induction T with
 | nil => cases hg
 | cons p l ih =>
  obtain ⟨k, J⟩ := p
  simp only [tg] at hg
  split at hg
  ·rename_i hb;have : t = k := Nat.eq_of_beq_eq_true hb;subst this; cases hg; exact h.1
  exact ih h.2 hg
theorem LX {P : Program} {t : TypeId} : ∀ (l : List (Option (Nat × Nat))) (i j : Nat) (p : Nat × Nat), SB P t i l → l[j]? = some (some p) → Vo P t (i + j) = some p
 | [], _, _, _, _, h => by simp at h
 | some q :: l, i, 0, p, ho, h => by simp at h; subst h; exact ho.1
 | none :: l, i, 0, p, ho, h => by simp at h
 | some q :: l, i, j + 1, p, ho, h => by have := LX l (i + 1) j p ho.2 (by simpa using h); rwa [show i + (j + 1) = i + 1 + j by omega]
 | none :: l, i, j + 1, p, ho, h => by have := LX l (i + 1) j p ho (by simpa using h); rwa [show i + (j + 1) = i + 1 + j by omega]
inductive Sl where
 | v (x : V)
 | b (c : Bool)
 | g (j : Nat) (w : Bool) (x : V)
def Sl.V : Sl → V
 | .v x => x
 | .b c => .bool c
 | .g _ _ x => x
def Sl.n : Sl → Sl
 | .g _ _ x => .v x
 | s => s
abbrev Fl := List (Nat × Sl)
def lk : Fl → Nat → Sl
 | [], _ => .v .bad
 | (k, x) :: l, t => match Nat.beq t k with | true => x | false => lk l t
def OM (v : V) (w : Bool) : Bool :=
 match v with
 | .bool c => c == w
 | _ => false
def X1 : Fl → Nat → V
 | [], _ => .bad
 | (k, s) :: l, t =>
  match Nat.beq t k with
  | true => (match s with | .v x => x | .b c => .bool c | .g j w x => bif OM (X1 l j) w then x else .tup [])
  | false => X1 l t
def Rf (l : Fl) : Sl → V
 | .v x => x
 | .b c => .bool c
 | .g j w x => bif OM (X1 l j) w then x else .tup []
def QO : Fl → Nat → Nat → Bool
 | [], _, _ => false
 | (k, _) :: l, t, j => match Nat.beq k j with | true => false | false => (match Nat.beq k t with | true => true | false => QO l t j)
def SA : List (Nat × Bool) → Nat → Bool → Bool
 | [], _, _ => false
 | (j, w) :: G, j', w' => match Nat.beq j j' && (w == w') with | true => true | false => SA G j' w'
def MV (G : List (Nat × Bool)) (l : Fl) (t : Nat) : Option Sl :=
 match lk l t with
 | .g j w x =>
  (match QO l t j with
   | true =>
    (match SA G j w with
     | true => some (.v x)
     | false => (match lk l j with | .b c => (match c == w with | true => some (.v x) | false => some (.v (.tup []))) | _ => none))
   | false => none)
 | s => some s
def TE (G : List (Nat × Bool)) (l : Fl) (t : Nat) : Sl :=
 match MV G l t with
 | some s => s
 | none => .v (X1 l t)
def FY : Fl → Nat → Bool → Fl
 | [], _, _ => []
 | (k, s) :: l, d, c => match Nat.beq d k with | true => (k, .b c) :: l | false => (k, s) :: FY l d c
structure St where
 l : Fl
 df : List Nat
def CV (op : BinOp) (a b : Int) : Bool :=
 match op with
 | .eql => a == b
 | .neq => a != b
 | .lss => decide (a < b)
 | .leq => decide (a ≤ b)
 | .gtr => decide (a > b)
 | .geq => decide (a ≥ b)
 | _ => false
def Vt (op : BinOp) (k : IntKind) (a b : Int) : Int :=
 match op with
 | .add => k.wrap (a + b)
 | .sub => k.wrap (a - b)
 | .mul => k.wrap (a * b)
 | .quo => k.wrap (a.tdiv b)
 | .rem => a.tmod b
 | .and => k.wrap (BitVec.ofInt k.bits a &&& BitVec.ofInt k.bits b).toNat
 | .or => k.wrap (BitVec.ofInt k.bits a ||| BitVec.ofInt k.bits b).toNat
 | .xor => k.wrap (BitVec.ofInt k.bits a ^^^ BitVec.ofInt k.bits b).toNat
 | .andNot => k.wrap (BitVec.ofInt k.bits a &&& ~~~(BitVec.ofInt k.bits b)).toNat
 | _ => 0
def VP (op : BinOp) (k : IntKind) (a b : Int) : Int :=
 match op with
 | .shl => k.wrap (a * 2 ^ (min b.toNat k.bits))
 | _ => a.fdiv (2 ^ (min b.toNat k.bits))
def Vs (op : BinOp) (x y : ByteArray) : Bool :=
 match op with
 | .eql => x.toList == y.toList
 | .neq => !(x.toList == y.toList)
 | .lss => Op.bytesLess x.toList y.toList
 | .leq => Op.bytesLess x.toList y.toList || x.toList == y.toList
 | .gtr => !(Op.bytesLess x.toList y.toList || x.toList == y.toList)
 | .geq => !Op.bytesLess x.toList y.toList
 | _ => false
class Ar where
 cmp : BinOp → Int → Int → Bool
 cmp_eq : ∀ op a b, cmp op a b = CV op a b
 ar : BinOp → IntKind → Int → Int → Int
 ar_eq : ∀ op k a b, ar op k a b = Vt op k a b
 sh : BinOp → IntKind → Int → Int → Int
 sh_eq : ∀ op k a b, sh op k a b = VP op k a b
 neg : IntKind → Int → Int
 neg_eq : ∀ k n, neg k n = k.wrap (0 - n)
 wr : IntKind → Int → Int
 wr_eq : ∀ k n, wr k n = k.wrap n
 scmp : BinOp → ByteArray → ByteArray → Bool
 scmp_eq : ∀ op a b, scmp op a b = Vs op a b
 cat : ByteArray → ByteArray → ByteArray
 cat_eq : ∀ a b, cat a b = a ++ b
 slen : ByteArray → Int
 slen_eq : ∀ s, slen s = s.size
 sat : ByteArray → Int → Int
 sat_eq : ∀ s i, sat s i = match s[i.toNat]? with | some b => (b.toNat : Int) | none => 0
 beq : Bool → Bool → Bool
 beq_eq : ∀ a b, beq a b = (a == b)
 nt : Bool → Bool
 nt_eq : ∀ a, nt a = !a
 an : Bool → Bool → Bool
 an_eq : ∀ a b, an a b = (a && b)
 or : Bool → Bool → Bool
 or_eq : ∀ a b, or a b = (a || b)
 pk : Bool → Bool → Bool → Bool
 pk_eq : ∀ c a b, pk c a b = if c then a else b
 mx : Int → Int → Int
 mx_eq : ∀ a b, mx a b = if a < b then b else a
 mn : Int → Int → Int
 mn_eq : ∀ a b, mn a b = if b < a then b else a
 ofs : Int → Int → Int
 ofs_eq : ∀ a b, ofs a b = a + b
 ofN : Nat → Int
 ofN_eq : ∀ n, ofN n = n
 len : {α : Type} → List α → Int
 len_eq : ∀ {α : Type} (l : List α), len l = l.length
 lst : {α : Type} → (α → V) → List α → List V
 lst_eq : ∀ {α : Type} (f : α → V) (l : List α), lst f l = l.map f
variable [Ar]
structure Cz where
 ln : List V → (Int → Prop) → Prop
 br : Bool → (Unit → Prop) → (Unit → Prop) → Prop
 need : Prop → (Unit → Prop) → Prop
 needB : Bool → (Unit → Prop) → Prop
 idx : List V → Int → (V → Prop) → Prop
 aidx : Int → Nat → (Nat → Prop) → Prop
 elem : List V → Nat → Nat → Nat → Int → (V → Prop) → Prop
 slice : Nat → List V → D4 → Option Int → Option Int → Option Int → (V → Prop) → Prop
 call : V → List V → A0 → (V → A0 → Prop) → Prop
 pcall : A0 → V → List V → (V → Prop) → Prop
 load : A0 → Nat → (List V → Prop) → Prop
 store : A0 → Nat → Nat → Nat → List V → (A0 → Prop) → Prop
 storeP : A0 → Nat → Nat → Nat → List V → (A0 → Prop) → Prop
 alloc : A0 → List V → (Nat → A0 → Prop) → Prop
 oalloc : Nat → A0 → (Nat → A0 → Prop) → Prop
 frz : A0 → Nat → (List V → A0 → Prop) → Prop
 frzL : A0 → Nat → (List V → A0 → Prop) → Prop
 frzIn : A0 → Nat → Nat → (A0 → Prop) → Prop
 adoptIn : A0 → Nat → Nat → (A0 → Prop) → Prop
 wkB : A0 → Nat → (A0 → Prop) → Prop
 give : A0 → Nat → List V → (A0 → Prop) → Prop
 olen : Int → (Int → Prop) → Prop
 ocap : A0 → Nat → Int → (Int → Prop) → Prop
 oidx : A0 → Nat → Nat → Int → Int → Int → (Int → Prop) → Prop
 oload : A0 → Nat → Int → (V → Prop) → Prop
 ostore : A0 → Nat → Int → Nat → Nat → Nat → V → (A0 → Prop) → Prop
 omk : Nat → Nat → V → Int → Int → A0 → (V → A0 → Prop) → Prop
 oapp : Nat → Nat → V → A0 → V → V → (V → A0 → Prop) → Prop
 oappz : Nat → Nat → V → A0 → V → Int → (V → A0 → Prop) → Prop
 onil : Nat → A0 → (V → A0 → Prop) → Prop
 olit : Nat → A0 → List V → (V → A0 → Prop) → Prop
 ostr : Nat → Nat → A0 → V → (V → Prop) → Prop
 mmk : A0 → (V → A0 → Prop) → Prop
 mget : Nat → A0 → V → V → Bool → (V → Prop) → Prop
 mset : Nat → A0 → V → V → V → (A0 → Prop) → Prop
 mrg : Nat → A0 → V → (V → A0 → Prop) → Prop
 mnx : A0 → V → (V → A0 → Prop) → Prop
 men : A0 → V → (V → A0 → Prop) → Prop
 mdel : List Nat → A0 → List V → (V → A0 → Prop) → Prop
 oslice : Nat → A0 → Nat → Int → Int → Option Int → Option Int → Option Int → (V → Prop) → Prop
 ocopy : Nat → A0 → V → V → (V → A0 → Prop) → Prop
 oclear : Nat → V → A0 → V → (A0 → Prop) → Prop
 ofrz : A0 → Nat → Int → Int → (List V → A0 → Prop) → Prop
 nilc : V → (Unit → Prop) → (Unit → Prop) → Prop
 appn : Nat → Nat → A0 → D4 → List V → List V → (V → A0 → Prop) → Prop
 takeT : A0 → (D4 → A0 → Prop) → Prop
 nameT : A0 → (D4 → A0 → Prop) → Prop
 appq : Nat → Nat → List V → List V → (V → Prop) → Prop
 appw : Nat → Nat → A0 → D4 → List V → List V → (V → A0 → Prop) → Prop
 sim : Code → St → A0 → (Exit → St → A0 → Prop) → Prop
 fin : List Nat → A0 → (A0 → Prop) → Prop
def D8 (st : St) : Fr := ⟨fun t => X1 st.l t, st.df⟩
structure Bl (fr : Fr) (st : St) : Prop where
 s : ∀ t, Wk (fr.s t) (X1 st.l t)
 df : fr.df = st.df
def E4 (P : Program) (nt : Nat) (rd : Option Nat) : Cz where
 ln := fun l k => k l.length
 br := fun c x y => (c = true → x ()) ∧ (c = false → y ())
 need := fun p k => p ∧ k ()
 needB := fun b k => b = true ∧ k ()
 idx := fun xs i k => (0 ≤ i ∧ i < xs.length) ∧ k (xs.getD i.toNat .bad)
 aidx := fun i n k => (0 ≤ i ∧ i < n) ∧ k i.toNat
 elem := fun cs off sz n i k => (0 ≤ i ∧ i < n ∧ off + n * sz ≤ cs.length) ∧ k (.eref ((cs.drop (off + i.toNat * sz)).take sz) 0)
 slice := fun sz xs tl lo hi mx k =>
  (0 ≤ lo.getD 0 ∧ lo.getD 0 ≤ hi.getD xs.length ∧ hi.getD xs.length ≤ mx.getD xs.length ∧ mx.getD xs.length ≤ xs.length ∧ (mx.isSome = true → hi.isSome = true) ∧
   (lo.getD 0 ≤ 0 ∨ xs.all (fun x => x.cells.length == sz) = true)) ∧
  k (.sl ((xs.drop (lo.getD 0).toNat).take ((hi.getD xs.length).toNat - (lo.getD 0).toNat)) (Es (lo.getD 0).toNat (hi.getD xs.length).toNat xs.length mx tl))
 call := Z9 P
 pcall := fun H fv args k => ∃ v, HJ P fv args H v ∧ k v
 load := fun H id k => ∃ cs, H id = some (.cells cs) ∧ k cs
 store := fun H id off sz vs k => ∃ cs vs', G4 vs vs' ∧ H id = some (.cells cs) ∧ Nat.ble (off + sz) cs.length = true ∧ k (upd H id (some (.cells (K6 cs off vs'))))
 storeP := fun H id off sz vs k => ∃ cs, H id = some (.cells cs) ∧ Nat.ble (off + sz) cs.length = true ∧ k (upd H id (some (.cells (K6 cs off vs))))
 give := fun H id cs k => k (upd H id (some (.cells cs)))
 frz := fun H id k => ∃ cs, H id = some (.cells cs) ∧ k cs (upd H id none)
 frzL := fun H id k => ∃ cs ds, H id = some (.cells cs) ∧ G4 cs ds ∧ k ds (upd H id none)
 frzIn := fun H id j k => ∃ cs q lo n sz xs ys, H id = some (.cells cs) ∧ cs[j]? = some (.own q lo n) ∧ H q = some (.arr sz xs) ∧ G4 (G3 xs lo n) ys ∧ k (upd (upd H q none) id (some (.cells (cs.set j (.sl ys .ro)))))
 adoptIn := fun H id j k => ∃ cs sz, H id = some (.cells cs) ∧ cs[j]? = some (.sl [] .nil) ∧ ∀ q, H q = none → k (upd (upd H q (some (.arr sz []))) id (some (.cells (cs.set j (.own q 0 0)))))
 wkB := fun H id k => ∃ cs ds, H id = some (.cells cs) ∧ G4 cs ds ∧ k (upd H id (some (.cells ds)))
 alloc := fun H cs k => ∀ id, H id = none → k id (upd H id (some (.cells cs)))
 oalloc := fun sz H k => ∀ q id, H q = none → upd H q (some (.arr sz [])) id = none → k id (upd (upd H q (some (.arr sz []))) id (some (.cells [.own q 0 0])))
 olen := fun n k => k n
 ocap := fun H id lo k => ∃ sz xs, H id = some (.arr sz xs) ∧ k ((xs.length : Nat) - lo)
 oidx := fun H id sz lo n i k => (∃ xs, H id = some (.arr sz xs)) ∧ (0 ≤ i ∧ i < n) ∧ k (Ar.ofs lo i)
 oload := fun H id i k => ∃ sz xs, H id = some (.arr sz xs) ∧ (0 ≤ i ∧ i < (xs.length : Nat)) ∧ k (xs.getD i.toNat .bad)
 ostore := fun H id i esz sz off y k => ∃ xs y', X2 y y' ∧ y'.one = true ∧ y'.cells.length = sz ∧ off + sz ≤ esz ∧ H id = some (.arr esz xs) ∧ (0 ≤ i ∧ i < (xs.length : Nat)) ∧ k (upd H id (some (.arr esz (xs.set i.toNat (LL (xs.getD i.toNat .bad) esz sz off y')))))
 omk := fun sz by_ z n m H k => (0 ≤ n ∧ n ≤ m ∧ m * (by_ : Nat) ≤ 281474976710656) ∧ ∃ ys, G4 (List.replicate m.toNat z) ys ∧ ∀ id, H id = none → k (.own id 0 n) (upd H id (some (.arr sz ys)))
 onil := fun sz H k => ∀ q, H q = none → k (.own q 0 0) (upd H q (some (.arr sz [])))
 olit := fun sz H xs k => ∃ ys, G4 xs ys ∧ ∀ q, H q = none → k (.own q 0 (xs.length : Nat)) (upd H q (some (.arr sz ys)))
 ostr := fun s d H x k => ∃ v, Lh P H s d x v ∧ k v
 mmk := fun H k => TU H k
 mget := fun t H x key ok k => ∃ v, GP P H t x key ok v ∧ k v
 mset := fun t H x key v k => Fk P H (fun _ H' => k H') t x key v
 mrg := fun t H x k => Jb P H k t x
 mnx := fun H x k => MY H k x
 men := fun H x k => JF H k x
 mdel := fun ts H vs k => BK P H k ts vs
 oapp := fun sz by_ z H x y k => ∃ ys', Ip sz H y ys' ∧ FP H k sz by_ z x ys'
 oappz := fun sz by_ z H x m k => (0 ≤ m ∧ (ownN x + m.toNat) * by_ ≤ 140737488355328) ∧ FP H k sz by_ z x (List.replicate m.toNat z)
 oslice := fun sz H id l n lo hi mx k => ∃ xs, H id = some (.arr sz xs) ∧
  (0 ≤ lo.getD 0 ∧ lo.getD 0 ≤ hi.getD n ∧ hi.getD n ≤ mx.getD ((xs.length : Nat) - l) ∧ mx.getD ((xs.length : Nat) - l) ≤ (xs.length : Nat) - l ∧ (mx.isSome = true → hi.isSome = true)) ∧
  k (match mx with | none => .own id (l + lo.getD 0) (hi.getD n - lo.getD 0) | some _ => .bad)
 ocopy := fun sz H x y k =>
  match x with
  | .own id lo n => ∃ xs ys', H id = some (.arr sz xs) ∧ Ip sz H y ys' ∧
   k (.int .i64 (if n < (ys'.length : Nat) then n else (ys'.length : Nat))) (upd H id (some (.arr sz (S5 xs lo.toNat (ys'.take n.toNat)))))
  | _ => False
 oclear := fun sz z H x k =>
  match x with
  | .own id lo n => ∃ xs, H id = some (.arr sz xs) ∧ k (upd H id (some (.arr sz (S5 xs lo.toNat (List.replicate n.toNat z)))))
  | _ => False
 nilc := fun x a b => ∃ p, QF x = some p ∧ (p → a ()) ∧ b ()
 ofrz := fun H id lo n k => ∃ sz xs ys, H id = some (.arr sz xs) ∧ G4 (G3 xs lo n) ys ∧ k ys (upd H id none)
 takeT := fun H k => ∃ τ, Dh H τ ∧ k τ (C7 H τ)
 nameT := fun H k => (∀ tl, tl = .nil ∨ tl = .full → k tl H) ∧ ∀ t, H t = none → k (.tok t) (upd H t (some .spare))
 appn := fun sz by_ H tl xs ys k => ∃ xs' ys', G4 xs xs' ∧ G4 ys ys' ∧ Dh H tl ∧ xs'.all (fun x => x.cells.length == sz) = true ∧ ys'.all (fun x => x.cells.length == sz) = true ∧ (xs'.length + ys'.length) * by_ ≤ 140737488355328 ∧ (ys' = [] → k (.sl xs' tl) H) ∧
  ∀ t, ys' ≠ [] → C7 H tl t = none → k (.sl (xs' ++ ys') (.tok t)) (upd (C7 H tl) t (some .spare))
 appq := fun sz by_ xs ys k => ∃ xs' ys', G4 xs xs' ∧ G4 ys ys' ∧ xs'.all (fun x => x.cells.length == sz) = true ∧ ys'.all (fun x => x.cells.length == sz) = true ∧ (xs'.length + ys'.length) * by_ ≤ 140737488355328 ∧ k (.sl (xs' ++ ys') .ro)
 appw := fun sz by_ H tl xs ys k => ∃ xs' ys', G4 xs xs' ∧ G4 ys ys' ∧ Dh H tl ∧ xs'.all (fun x => x.cells.length == sz) = true ∧ ys'.all (fun x => x.cells.length == sz) = true ∧ (xs'.length + ys'.length) * by_ ≤ 140737488355328 ∧ k (.sl (xs' ++ ys') .ro) (C7 H tl)
 sim := fun c st H K => N5 P nt rd c (D8 st) H fun e fr' H' => ∃ st', Bl fr' st' ∧ K e st' H'
 fin := fun df H k => Um H df ∧ k (clear H df)
section
variable (E : Cz) (T : CW)
def J8 (G : List (Nat × Bool)) (l : Fl) : Operand → Sl
 | .tmp t => TE G l t
 | .const (.bool b) => .b b
 | .const v => .v (cv v)
 | .global n => .v (G5.gl n)
 | .func f => .v (.func (.func f) [] [])
def Pp (t : Nat) (v : V) (H : A0) (k : V → Prop) : Prop :=
 match tg T t with
 | none => False
 | some I =>
  match v with
  | .eref cs off => (match Ci I.ag I.sz cs off with | some y => k y | none => False)
  | .ref id off => E.load H id fun cs => (match Ci I.ag I.sz cs off with | some y => k y | none => False)
  | .elem id i _ off => E.oload H id i fun x => (match Ci I.ag I.sz x.cells off with | some y => k y | none => False)
  | _ => False
def Fs0 (o : Option V) (k : V → Prop) : Prop :=
 match o with
 | some y => k y
 | none => False
def FV (t : Nat) (v : V) (f : Nat) (k : V → Prop) : Prop :=
 match tg T t with
 | none => False
 | some I => (match I.fs[f]? with | some (some p) => Fs0 (Rb v p.1) k | _ => False)
def NZ (t : Nat) (v : V) (f : Nat) (k : V → Prop) : Prop :=
 match tg T t with
 | none => False
 | some I =>
  match I.fs[f]? with
  | some (some p) =>
   (match tg T p.2 with
    | none => False
    | some J => (match v with | .agg cs => Fs0 (Ci J.ag J.sz cs p.1) k | _ => False))
  | _ => False
def FU (t : Nat) (v : V) (i : V) (k : V → Prop) : Prop :=
 match i with
 | .int _ i =>
  (match tg T t with
   | none => False
   | some I =>
    match I.sl with
    | some e =>
     (match tg T e with
      | none => False
      | some J =>
       match v with
       | .sl xs _ => E.idx xs i fun x => (match Nat.beq x.cells.length J.sz with | true => k (.eref x.cells 0) | false => False)
       | _ => False)
    | none =>
     match I.ar with
     | some (n, e) => (match tg T e with | none => False | some J => (match v with | .eref cs off => E.elem cs off J.sz n i k | v => E.aidx i n fun m => Fs0 (Rb v (m * J.sz)) k))
     | none => False)
 | _ => False
def NY (t : Nat) (v : V) (i : V) (k : V → Prop) : Prop :=
 match i with
 | .int _ i =>
  (match tg T t with
   | none => False
   | some I =>
    match I.ar with
    | some (n, e) => (match tg T e with | none => False | some J => (match v with | .agg cs => E.aidx i n fun m => Fs0 (Ci J.ag J.sz cs (m * J.sz)) k | _ => False))
    | none => (match v with | .str s => (match I.st with | true => E.needB (Ar.an (Ar.cmp .geq i 0) (Ar.cmp .lss i (Ar.slen s))) fun _ => k (.int .u8 (Ar.sat s i)) | false => False) | _ => False))
 | _ => False
def Tc : List V → List V → Option Bool
 | [], [] => some true
 | x :: xs, y :: ys =>
  match x, y with
  | .int k a, .int k' b => if k = k' then (Tc xs ys).map (Ar.an (Ar.cmp .eql a b)) else none
  | .str a, .str b => (Tc xs ys).map (Ar.an (Ar.scmp .eql a b))
  | .bool a, .bool b => (Tc xs ys).map (Ar.an (Ar.beq a b))
  | _, _ => none
 | _, _ => none
def Jx : BinOp → Bool
 | .eql | .neq | .lss | .leq | .gtr | .geq => true
 | _ => false
def Sv : BinOp → Bool
 | .quo | .rem => true
 | _ => false
def Ud : BinOp → Bool
 | .add | .sub | .mul | .and | .or | .xor | .andNot => true
 | _ => false
def UU (op : BinOp) (t : Nat) (x y : V) (k : V → Prop) : Prop :=
 match x, y with
 | .int ka a, .int kb b =>
  (match Db op with
   | true => E.needB (Ar.cmp .geq b 0) fun _ => k (.int ka (Ar.sh op ka a b))
   | false =>
    if ka = kb then
     (match Jx op with
      | true => k (.bool (Ar.cmp op a b))
      | false =>
       match Ud op with
       | true => k (.int ka (Ar.ar op ka a b))
       | false => (match Sv op with | true => E.needB (Ar.cmp .neq b 0) fun _ => k (.int ka (Ar.ar op ka a b)) | false => False))
    else False)
 | .str a, .str b =>
  (match Jx op with
   | true => k (.bool (Ar.scmp op a b))
   | false => (match op with | .add => E.needB (Ar.cmp .leq (Ar.slen (Ar.cat a b)) 9223372036854775807) fun _ => k (.str (Ar.cat a b)) | _ => False))
 | .bool a, .bool b =>
  (match tg T t with
   | none => False
   | some I =>
    match I.bo with
    | true => (match op with | .eql => k (.bool (Ar.beq a b)) | .neq => k (.bool (Ar.nt (Ar.beq a b))) | _ => False)
    | false => False)
 | .agg xs, .agg ys =>
  (match tg T t with
   | none => False
   | some I =>
    if I.ag = true ∧ I.ek = some (xs.map kd) ∧ ys.map kd = xs.map kd then
     (match op with
      | .eql => (match Tc xs ys with | some b => k (.bool b) | none => False)
      | .neq => (match Tc xs ys with | some b => k (.bool (Ar.nt b)) | none => False)
      | _ => False)
    else False)
 | _, _ => False
def xun (op : UnOp) (x : Sl) (k : Sl → Prop) : Prop :=
 match op with
 | .not => (match x with | .b c => k (.b (!c)) | .v (.bool c) => k (.v (.bool (Ar.nt c))) | _ => False)
 | .neg => (match x with | .v (.int ki n) => k (.v (.int ki (Ar.neg ki n))) | _ => False)
 | _ => False
def Rs (s d : Nat) (x : V) (H : A0) (k : V → Prop) : Prop :=
 match tg T s, tg T d with
 | some I, some J =>
  (match I.ik, J.ik, x with
   | some _, some ki, .int _ n => k (.int ki (Ar.wr ki n))
   | _, _, .str b => (match I.st, J.st with | true, true => k (.str b) | _, _ => False)
   | _, _, .own id lo n => E.ostr s d H (.own id lo n) k
   | _, _, .sl xs tl => E.ostr s d H (.sl xs tl) k
   | _, _, _ => False)
 | _, _ => False
def Ob (t : Nat) (parts : List (Nat × V)) (k : V → Prop) : Prop :=
 match tg T t with
 | none => False
 | some I =>
  match I.ze with
  | some (.agg cs) =>
   (match I.ar with
    | some (_, e) => (match tg T e with | none => False | some J => (match Fd (fun i => some (i * J.sz, J.sz)) cs parts with | some c => k (.agg c) | none => False))
    | none => (match I.pl with | some pl => (match Fd (fun i => pl[i]?) cs parts with | some c => k (.agg c) | none => False) | none => False))
  | _ => False
def CY (t n : Nat) (parts : List (Nat × V)) (k : V → Prop) : Prop :=
 match tg T t with
 | none => False
 | some I =>
  match I.sl with
  | none => False
  | some e =>
   match tg T e with
   | none => False
   | some J =>
    match J.ze with
    | none => False
    | some _ => if n * J.sz ≤ 16777216 ∧ parts.length = n ∧ X6 J.sz 0 parts = true then k (.sl (parts.map fun q => q.2) .full) else False
def NX (t : Nat) (l c : V) (k : V → Prop) : Prop :=
 match l, c with
 | .int _ n, .int _ m =>
  (match tg T t with
   | none => False
   | some I =>
    match I.sl with
    | none => False
    | some e =>
     match tg T e with
     | none => False
     | some J =>
      match J.ze with
      | none => False
      | some z => if 0 < J.sz ∧ 0 < J.by_ ∧ z.one = true ∧ z.cells.length = J.sz ∧ n = m ∧ 0 ≤ n ∧ n * (J.by_ : Nat) ≤ 281474976710656 then k (.sl (List.replicate n.toNat z) .ro) else False)
 | _, _ => False
def NU (t : Nat) (v : V) (lo hi mx : Option (Option Int)) (k : V → Prop) : Prop :=
 match lo, hi, mx with
 | some l, some h, some m =>
  (match tg T t with
   | none => False
   | some I =>
    match I.sl with
    | some e => (match tg T e with | none => False | some J => (match v with | .sl xs tl => E.slice J.sz xs tl l h m k | _ => False))
    | none => False)
 | _, _, _ => False
def noPl : D4 → Bool
 | .nil => true
 | .full => true
 | _ => false
def Hj (b : Builtin) (ts : List TypeId) (vs : List V) (k : V → Prop) : Prop :=
 match b, ts, vs with
 | .len, [t], [x] =>
  (match tg T t with
   | none => False
   | some I =>
    match I.sl with
    | some _ => (match x with | .sl xs _ => E.ln xs fun n => k (.int .i64 n) | _ => False)
    | none =>
     match I.ar with
     | some (n, _) => k (.int .i64 (Ar.ofN n))
     | none => (match x with | .str s => (match I.st with | true => k (.int .i64 (Ar.slen s)) | false => False) | _ => False))
 | .max, _, [.int ka a, .int kb b] => if ka = kb then k (.int ka (Ar.mx a b)) else False
 | .min, _, [.int ka a, .int kb b] => if ka = kb then k (.int ka (Ar.mn a b)) else False
 | .append, [sT, yT], [.sl xs tl, .sl ys _] =>
  (match tg T sT, tg T yT with
   | some I, some I2 =>
    (match I.sl, I2.sl with
     | some e, some _ =>
      (match tg T e with
       | some J =>
        (match J.ze with
         | some z => if 0 < J.sz ∧ 0 < J.by_ ∧ z.one = true ∧ z.cells.length = J.sz ∧ noPl tl = true then E.appq J.sz J.by_ xs ys k else False
         | none => False)
       | none => False)
     | _, _ => False)
   | _, _ => False)
 | _, _, _ => False
def Vx (c : Operand) (w : Bool) (G : List (Nat × Bool)) : List (Nat × Bool) :=
 match c with
 | .tmp d => (d, w) :: G
 | _ => G
def Rm (t : Bool) (x y : Sl) (k : Sl → Prop) : Prop :=
 match x, y with
 | .b true, .b true => k (.b true)
 | .b true, .b false => k (.v (.bool t))
 | .b true, .v (.bool b) => k (.v (.bool (Ar.or t b)))
 | .b false, .b true => k (.v (.bool (Ar.nt t)))
 | .b false, .b false => k (.b false)
 | .b false, .v (.bool b) => k (.v (.bool (Ar.an (Ar.nt t) b)))
 | .v (.bool a), .b true => k (.v (.bool (Ar.or (Ar.nt t) a)))
 | .v (.bool a), .b false => k (.v (.bool (Ar.an t a)))
 | .v (.bool a), .v (.bool b) => k (.v (.bool (Ar.pk t a b)))
 | x, y => E.br t (fun _ => k x) (fun _ => k y)
def UN : V → Bool
 | .eref _ _ => true
 | .ref _ _ => true
 | _ => false
def EZ (v : V) : Bool :=
 match v with
 | .sl [] .nil => true
 | _ => false
def Uc (x : Operand) : Bool :=
 match x with
 | .const (.slice _ _ _) => true
 | _ => false
def EY (G : List (Nat × Bool)) (o : Oper) (l : Fl) : Bool :=
 match o.op with
 | .move x => !(Uc x)
 | .assign x => !(Uc x)
 | .pick _ _ _ => true
 | .load _ x => UN (J8 G l x).V
 | .fieldAddr _ x _ => UN (J8 G l x).V
 | .field _ _ _ => true
 | .build _ _ => true
 | .binOp op _ _ _ _ => Jx op || Ud op
 | .unOp _ _ _ => true
 | .extract _ _ => true
 | .call c => (match c.callee with | .builtin .len => true | _ => false)
 | _ => false
def UB (t : Nat) (H : A0) (id : Nat) (lo n : Int) (i : V) (k : V → Prop) : Prop :=
 match i with
 | .int _ i =>
  (match tg T t with
   | none => False
   | some I =>
    match I.sl with
    | some e => (match tg T e with | none => False | some J => E.oidx H id J.sz lo n i fun j => k (.elem id j J.sz 0))
    | none => False)
 | _ => False
def Rp (b : Builtin) (ts : List TypeId) (H : A0) (v : V) (k : V → Prop) : Prop :=
 match ts with
 | [t] =>
  (match tg T t with
   | none => False
   | some I =>
    (match I.sl with
     | some _ =>
      (match b, v with
       | .len, .own _ _ n => E.olen n fun n => k (.int .i64 n)
       | .cap, .own id lo _ => E.ocap H id lo fun n => k (.int .i64 n)
       | .cap, .sl [] .nil => k (.int .i64 0)
       | .cap, .sl [] .full => k (.int .i64 0)
       | _, _ => False)
     | none => False))
 | _ => False
def OC (b : Builtin) (vs : List V) : Option V :=
 match b, vs with
 | .len, [.own id lo n] => some (.own id lo n)
 | .cap, [v] => some v
 | _, _ => none
def Lm (t : Nat) (H : A0) (id : Nat) (l n : Int) (lo hi mx : Option (Option Int)) (k : V → Prop) : Prop :=
 match lo, hi, mx with
 | some a, some b, some c =>
  (match tg T t with
   | none => False
   | some I => (match I.sl with | some e => (match tg T e with | none => False | some J => E.oslice J.sz H id l n a b c k) | none => False))
 | _, _, _ => False
def xq (G : List (Nat × Bool)) (o : Oper) (l : Fl) (H : A0) (k : Sl → Prop) : Prop :=
 match o.op with
 | .move x => k (J8 G l x)
 | .assign x => k (J8 G l x)
 | .pick c x y =>
  (match J8 G l c with
   | .b true => k (J8 G l x)
   | .b false => k (J8 G l y)
   | .v (.bool t) => Rm E t (J8 (Vx c true G) l x) (J8 (Vx c false G) l y) k
   | _ => False)
 | .box _ x => (match (J8 G l x).V.one with | true => k (.v (.eref (J8 G l x).V.cells 0)) | false => False)
 | .build t ps => Ob T t (ps.toList.map fun p => (p.1, (J8 G l p.2).V)) fun v => k (.v v)
 | .buildSlice t n ps => CY T t n (ps.toList.map fun p => (p.1, (J8 G l p.2).V)) fun v => k (.v v)
 | .makeSlice t x y => NX T t (J8 G l x).V (J8 G l y).V fun v => k (.v v)
 | .load t x => Pp E T t (J8 G l x).V H fun v => k (.v v)
 | .nilCheck x => (match Pz (J8 G l x).V with | true => k (J8 G l x) | false => False)
 | .binOp op t x y _ => UU E T op t (J8 G l x).V (J8 G l y).V fun v => k (.v v)
 | .unOp op _ x => xun op (J8 G l x) k
 | .convert s d x => Rs E T s d (J8 G l x).V H fun v => k (.v v)
 | .lookup t x y ok => E.mget t H (J8 G l x).V (J8 G l y).V ok fun v => k (.v v)
 | .makeInterface t x => (match tg T t with | some I => (match I.nif with | true => k (.v (.iface t (J8 G l x).V)) | false => False) | none => False)
 | .makeFunc fn fs cs => k (.v (.func fn (fs.toList.map fun x => (J8 G l x).V) (cs.toList.map fun x => (J8 G l x).V)))
 | .slice t x lo hi mx =>
  match (J8 G l x).V with
  | .own id l0 n => Lm E T t H id l0 n (W3 (lo.map fun x => (J8 G l x).V)) (W3 (hi.map fun x => (J8 G l x).V)) (W3 (mx.map fun x => (J8 G l x).V)) fun v => k (.v v)
  | v => NU E T t v (W3 (lo.map fun x => (J8 G l x).V)) (W3 (hi.map fun x => (J8 G l x).V)) (W3 (mx.map fun x => (J8 G l x).V)) fun v => k (.v v)
 | .fieldAddr t x f => FV T t (J8 G l x).V f fun v => k (.v v)
 | .field t x f => NZ T t (J8 G l x).V f fun v => k (.v v)
 | .indexAddr t x y => (match (J8 G l x).V with | .own id lo n => UB E T t H id lo n (J8 G l y).V fun v => k (.v v) | v => FU E T t v (J8 G l y).V fun v => k (.v v))
 | .index t x y => NY E T t (J8 G l x).V (J8 G l y).V fun v => k (.v v)
 | .extract x n => (match (J8 G l x).V with | .tup cs => Fs0 cs[n]? fun v => k (.v v) | _ => False)
 | .call c =>
  (match c.callee with
   | .builtin b =>
    (match OC b (c.args.toList.map fun x => (J8 G l x).V) with
     | some w => Rp E T b c.argTypes.toList H w fun v => k (.v v)
     | none => Hj E T b c.argTypes.toList (c.args.toList.map fun x => (J8 G l x).V) fun v => k (.v v))
   | _ => False)
 | _ => False
end
end Go.Ab
