/- AbA20 -/
import Derived.Test.YtodfgmbacmnalaaGreatT14
set_option linter.all false

namespace Go.Ab
open Go.RowKit
variable [Glob]
structure TInf where
 sz : Nat
 by_ : Nat
 ag : Bool
 sl : Option Nat
 ar : Option (Nat × Nat)
 fs : List (Option (Nat × Nat))
 pl : Option (List (Nat × Nat))
 ze : Option V
 ek : Option (List Nat)
 st : Bool
 bo : Bool
 ik : Option IntKind
 nif : Bool
def fsOk (P : Program) (t : TypeId) : Nat → List (Option (Nat × Nat)) → Prop
 | _, [] => True
 | i, some p :: l => fdO P t i = some p ∧ fsOk P t (i + 1) l
 | i, none :: l => fsOk P t (i + 1) l
def optOk {α : Type} (o : Option α) (p : α → Prop) : Prop :=
 match o with
 | some x => p x
 | none => True
structure TOk1 (P : Program) (t : TypeId) (I : TInf) : Prop where
 sz : szO P t = some I.sz
 by_ : byO P t = some I.by_
 ag : agO P t = some I.ag
 sl : slO P t = I.sl
 ar : arO P t = I.ar
 fs : fsOk P t 0 I.fs
 pl : optOk I.pl fun l => placesO P t = some l
 ze : optOk I.ze fun z => zeO P t = some z
 ek : optOk I.ek fun k => flatEq P 9 t = some k
 st : strO P t = I.st
 bo : I.bo = true → boolD (P.underlying t) = true
 ik : optOk I.ik fun k => P.underlying t = some (.int k)
 nif : I.nif = true → ifO P t = false
abbrev Tbl := List (Nat × TInf)
def TOk (P : Program) : Tbl → Prop
 | [] => True
 | (t, I) :: l => TOk1 P t I ∧ TOk P l
def tg : Tbl → Nat → Option TInf
 | [], _ => none
 | (k, I) :: l, t => match Nat.beq t k with | true => some I | false => tg l t
theorem tg_ok {P : Program} {T : Tbl} (h : TOk P T) {t : Nat} {I : TInf} (hg : tg T t = some I) : TOk1 P t I := by
 induction T with
 | nil => cases hg
 | cons p l ih =>
  obtain ⟨k, J⟩ := p
  simp only [tg] at hg
  split at hg
  ·rename_i hb
   have : t = k := Nat.eq_of_beq_eq_true hb
   subst this; cases hg; exact h.1
  ·exact ih h.2 hg
theorem fsOk_at {P : Program} {t : TypeId} : ∀ (l : List (Option (Nat × Nat))) (i j : Nat) (p : Nat × Nat), fsOk P t i l → l[j]? = some (some p) → fdO P t (i + j) = some p
 | [], _, _, _, _, h => by simp at h
 | some q :: l, i, 0, p, ho, h => by simp at h; subst h; exact ho.1
 | none :: l, i, 0, p, ho, h => by simp at h
 | some q :: l, i, j + 1, p, ho, h => by have := fsOk_at l (i + 1) j p ho.2 (by simpa using h); rwa [show i + (j + 1) = i + 1 + j by omega]
 | none :: l, i, j + 1, p, ho, h => by have := fsOk_at l (i + 1) j p ho (by simpa using h); rwa [show i + (j + 1) = i + 1 + j by omega]
inductive Sl where
 | v (x : V)
 | b (c : Bool)
 | g (j : Nat) (w : Bool) (x : V)
def Sl.V : Sl → V
 | .v x => x
 | .b c => .bool c
 | .g _ _ x => x
def Sl.n : Sl → Sl
 | .g _ _ x => .v x
 | s => s
abbrev Fl := List (Nat × Sl)
def lk : Fl → Nat → Sl
 | [], _ => .v .bad
 | (k, x) :: l, t => match Nat.beq t k with | true => x | false => lk l t
def isB (v : V) (w : Bool) : Bool :=
 match v with
 | .bool c => c == w
 | _ => false
def lkV : Fl → Nat → V
 | [], _ => .bad
 | (k, s) :: l, t =>
  match Nat.beq t k with
  | true => (match s with | .v x => x | .b c => .bool c | .g j w x => bif isB (lkV l j) w then x else .tup [])
  | false => lkV l t
def slV (l : Fl) : Sl → V
 | .v x => x
 | .b c => .bool c
 | .g j w x => bif isB (lkV l j) w then x else .tup []
def frsh : Fl → Nat → Nat → Bool
 | [], _, _ => false
 | (k, _) :: l, t, j => match Nat.beq k j with | true => false | false => (match Nat.beq k t with | true => true | false => frsh l t j)
def hasG : List (Nat × Bool) → Nat → Bool → Bool
 | [], _, _ => false
 | (j, w) :: G, j', w' => match Nat.beq j j' && (w == w') with | true => true | false => hasG G j' w'
def opndO (G : List (Nat × Bool)) (l : Fl) (t : Nat) : Option Sl :=
 match lk l t with
 | .g j w x =>
  (match frsh l t j with
   | true =>
    (match hasG G j w with
     | true => some (.v x)
     | false => (match lk l j with | .b c => (match c == w with | true => some (.v x) | false => some (.v (.tup []))) | _ => none))
   | false => none)
 | s => some s
def opnd (G : List (Nat × Bool)) (l : Fl) (t : Nat) : Sl :=
 match opndO G l t with
 | some s => s
 | none => .v (lkV l t)
def setK : Fl → Nat → Bool → Fl
 | [], _, _ => []
 | (k, s) :: l, d, c => match Nat.beq d k with | true => (k, .b c) :: l | false => (k, s) :: setK l d c
structure St where
 l : Fl
 df : List Nat
def cmpI (op : BinOp) (a b : Int) : Bool :=
 match op with
 | .eql => a == b
 | .neq => a != b
 | .lss => decide (a < b)
 | .leq => decide (a ≤ b)
 | .gtr => decide (a > b)
 | .geq => decide (a ≥ b)
 | _ => false
def arI (op : BinOp) (k : IntKind) (a b : Int) : Int :=
 match op with
 | .add => k.wrap (a + b)
 | .sub => k.wrap (a - b)
 | .mul => k.wrap (a * b)
 | .quo => k.wrap (a.tdiv b)
 | .rem => a.tmod b
 | .and => k.wrap (BitVec.ofInt k.bits a &&& BitVec.ofInt k.bits b).toNat
 | .or => k.wrap (BitVec.ofInt k.bits a ||| BitVec.ofInt k.bits b).toNat
 | .xor => k.wrap (BitVec.ofInt k.bits a ^^^ BitVec.ofInt k.bits b).toNat
 | .andNot => k.wrap (BitVec.ofInt k.bits a &&& ~~~(BitVec.ofInt k.bits b)).toNat
 | _ => 0
def shI (op : BinOp) (k : IntKind) (a b : Int) : Int :=
 match op with
 | .shl => k.wrap (a * 2 ^ (min b.toNat k.bits))
 | _ => a.fdiv (2 ^ (min b.toNat k.bits))
def cmpS (op : BinOp) (x y : ByteArray) : Bool :=
 match op with
 | .eql => x.toList == y.toList
 | .neq => !(x.toList == y.toList)
 | .lss => Op.bytesLess x.toList y.toList
 | .leq => Op.bytesLess x.toList y.toList || x.toList == y.toList
 | .gtr => !(Op.bytesLess x.toList y.toList || x.toList == y.toList)
 | .geq => !Op.bytesLess x.toList y.toList
 | _ => false
class Ar where
 cmp : BinOp → Int → Int → Bool
 cmp_eq : ∀ op a b, cmp op a b = cmpI op a b
 ar : BinOp → IntKind → Int → Int → Int
 ar_eq : ∀ op k a b, ar op k a b = arI op k a b
 sh : BinOp → IntKind → Int → Int → Int
 sh_eq : ∀ op k a b, sh op k a b = shI op k a b
 neg : IntKind → Int → Int
 neg_eq : ∀ k n, neg k n = k.wrap (0 - n)
 wr : IntKind → Int → Int
 wr_eq : ∀ k n, wr k n = k.wrap n
 scmp : BinOp → ByteArray → ByteArray → Bool
 scmp_eq : ∀ op a b, scmp op a b = cmpS op a b
 cat : ByteArray → ByteArray → ByteArray
 cat_eq : ∀ a b, cat a b = a ++ b
 slen : ByteArray → Int
 slen_eq : ∀ s, slen s = s.size
 sat : ByteArray → Int → Int
 sat_eq : ∀ s i, sat s i = match s[i.toNat]? with | some b => (b.toNat : Int) | none => 0
 beq : Bool → Bool → Bool
 beq_eq : ∀ a b, beq a b = (a == b)
 nt : Bool → Bool
 nt_eq : ∀ a, nt a = !a
 an : Bool → Bool → Bool
 an_eq : ∀ a b, an a b = (a && b)
 or : Bool → Bool → Bool
 or_eq : ∀ a b, or a b = (a || b)
 pk : Bool → Bool → Bool → Bool
 pk_eq : ∀ c a b, pk c a b = if c then a else b
 mx : Int → Int → Int
 mx_eq : ∀ a b, mx a b = if a < b then b else a
 mn : Int → Int → Int
 mn_eq : ∀ a b, mn a b = if b < a then b else a
 ofs : Int → Int → Int
 ofs_eq : ∀ a b, ofs a b = a + b
 ofN : Nat → Int
 ofN_eq : ∀ n, ofN n = n
 len : {α : Type} → List α → Int
 len_eq : ∀ {α : Type} (l : List α), len l = l.length
 lst : {α : Type} → (α → V) → List α → List V
 lst_eq : ∀ {α : Type} (f : α → V) (l : List α), lst f l = l.map f
variable [Ar]
structure Env where
 ln : List V → (Int → Prop) → Prop
 br : Bool → (Unit → Prop) → (Unit → Prop) → Prop
 need : Prop → (Unit → Prop) → Prop
 needB : Bool → (Unit → Prop) → Prop
 idx : List V → Int → (V → Prop) → Prop
 aidx : Int → Nat → (Nat → Prop) → Prop
 elem : List V → Nat → Nat → Nat → Int → (V → Prop) → Prop
 slice : Nat → List V → Tail → Option Int → Option Int → Option Int → (V → Prop) → Prop
 call : V → List V → Heap → (V → Heap → Prop) → Prop
 pcall : Heap → V → List V → (V → Prop) → Prop
 load : Heap → Nat → (List V → Prop) → Prop
 store : Heap → Nat → Nat → Nat → List V → (Heap → Prop) → Prop
 storeP : Heap → Nat → Nat → Nat → List V → (Heap → Prop) → Prop
 alloc : Heap → List V → (Nat → Heap → Prop) → Prop
 oalloc : Nat → Heap → (Nat → Heap → Prop) → Prop
 frz : Heap → Nat → (List V → Heap → Prop) → Prop
 frzL : Heap → Nat → (List V → Heap → Prop) → Prop
 frzIn : Heap → Nat → Nat → (Heap → Prop) → Prop
 adoptIn : Heap → Nat → Nat → (Heap → Prop) → Prop
 wkB : Heap → Nat → (Heap → Prop) → Prop
 give : Heap → Nat → List V → (Heap → Prop) → Prop
 olen : Int → (Int → Prop) → Prop
 ocap : Heap → Nat → Int → (Int → Prop) → Prop
 oidx : Heap → Nat → Nat → Int → Int → Int → (Int → Prop) → Prop
 oload : Heap → Nat → Int → (V → Prop) → Prop
 ostore : Heap → Nat → Int → Nat → Nat → Nat → V → (Heap → Prop) → Prop
 omk : Nat → Nat → V → Int → Int → Heap → (V → Heap → Prop) → Prop
 oapp : Nat → Nat → V → Heap → V → V → (V → Heap → Prop) → Prop
 oappz : Nat → Nat → V → Heap → V → Int → (V → Heap → Prop) → Prop
 onil : Nat → Heap → (V → Heap → Prop) → Prop
 olit : Nat → Heap → List V → (V → Heap → Prop) → Prop
 ostr : Nat → Nat → Heap → V → (V → Prop) → Prop
 mmk : Heap → (V → Heap → Prop) → Prop
 mget : Nat → Heap → V → V → Bool → (V → Prop) → Prop
 mset : Nat → Heap → V → V → V → (Heap → Prop) → Prop
 mrg : Nat → Heap → V → (V → Heap → Prop) → Prop
 mnx : Heap → V → (V → Heap → Prop) → Prop
 men : Heap → V → (V → Heap → Prop) → Prop
 mdel : List Nat → Heap → List V → (V → Heap → Prop) → Prop
 oslice : Nat → Heap → Nat → Int → Int → Option Int → Option Int → Option Int → (V → Prop) → Prop
 ocopy : Nat → Heap → V → V → (V → Heap → Prop) → Prop
 oclear : Nat → V → Heap → V → (Heap → Prop) → Prop
 ofrz : Heap → Nat → Int → Int → (List V → Heap → Prop) → Prop
 nilc : V → (Unit → Prop) → (Unit → Prop) → Prop
 appn : Nat → Nat → Heap → Tail → List V → List V → (V → Heap → Prop) → Prop
 takeT : Heap → (Tail → Heap → Prop) → Prop
 nameT : Heap → (Tail → Heap → Prop) → Prop
 appq : Nat → Nat → List V → List V → (V → Prop) → Prop
 appw : Nat → Nat → Heap → Tail → List V → List V → (V → Heap → Prop) → Prop
 sim : Code → St → Heap → (Exit → St → Heap → Prop) → Prop
 fin : List Nat → Heap → (Heap → Prop) → Prop
def frOf (st : St) : Fr := ⟨fun t => lkV st.l t, st.df⟩
structure FrLe (fr : Fr) (st : St) : Prop where
 s : ∀ t, Wk (fr.s t) (lkV st.l t)
 df : fr.df = st.df
def real (P : Program) (nt : Nat) (rd : Option Nat) : Env where
 ln := fun l k => k l.length
 br := fun c x y => (c = true → x ()) ∧ (c = false → y ())
 need := fun p k => p ∧ k ()
 needB := fun b k => b = true ∧ k ()
 idx := fun xs i k => (0 ≤ i ∧ i < xs.length) ∧ k (xs.getD i.toNat .bad)
 aidx := fun i n k => (0 ≤ i ∧ i < n) ∧ k i.toNat
 elem := fun cs off sz n i k => (0 ≤ i ∧ i < n ∧ off + n * sz ≤ cs.length) ∧ k (.eref ((cs.drop (off + i.toNat * sz)).take sz) 0)
 slice := fun sz xs tl lo hi mx k =>
  (0 ≤ lo.getD 0 ∧ lo.getD 0 ≤ hi.getD xs.length ∧ hi.getD xs.length ≤ mx.getD xs.length ∧ mx.getD xs.length ≤ xs.length ∧ (mx.isSome = true → hi.isSome = true) ∧
   (lo.getD 0 ≤ 0 ∨ xs.all (fun x => x.cells.length == sz) = true)) ∧
  k (.sl ((xs.drop (lo.getD 0).toNat).take ((hi.getD xs.length).toNat - (lo.getD 0).toNat)) (cutTail (lo.getD 0).toNat (hi.getD xs.length).toNat xs.length mx tl))
 call := CallV P
 pcall := fun H fv args k => ∃ v, CallVH P fv args H v ∧ k v
 load := fun H id k => ∃ cs, H id = some (.cells cs) ∧ k cs
 store := fun H id off sz vs k => ∃ cs vs', LeVs vs vs' ∧ H id = some (.cells cs) ∧ Nat.ble (off + sz) cs.length = true ∧ k (upd H id (some (.cells (splice cs off vs'))))
 storeP := fun H id off sz vs k => ∃ cs, H id = some (.cells cs) ∧ Nat.ble (off + sz) cs.length = true ∧ k (upd H id (some (.cells (splice cs off vs))))
 give := fun H id cs k => k (upd H id (some (.cells cs)))
 frz := fun H id k => ∃ cs, H id = some (.cells cs) ∧ k cs (upd H id none)
 frzL := fun H id k => ∃ cs ds, H id = some (.cells cs) ∧ LeVs cs ds ∧ k ds (upd H id none)
 frzIn := fun H id j k => ∃ cs q lo n sz xs ys, H id = some (.cells cs) ∧ cs[j]? = some (.own q lo n) ∧ H q = some (.arr sz xs) ∧ LeVs (subL xs lo n) ys ∧ k (upd (upd H q none) id (some (.cells (cs.set j (.sl ys .ro)))))
 adoptIn := fun H id j k => ∃ cs sz, H id = some (.cells cs) ∧ cs[j]? = some (.sl [] .nil) ∧ ∀ q, H q = none → k (upd (upd H q (some (.arr sz []))) id (some (.cells (cs.set j (.own q 0 0)))))
 wkB := fun H id k => ∃ cs ds, H id = some (.cells cs) ∧ LeVs cs ds ∧ k (upd H id (some (.cells ds)))
 alloc := fun H cs k => ∀ id, H id = none → k id (upd H id (some (.cells cs)))
 oalloc := fun sz H k => ∀ q id, H q = none → upd H q (some (.arr sz [])) id = none → k id (upd (upd H q (some (.arr sz []))) id (some (.cells [.own q 0 0])))
 olen := fun n k => k n
 ocap := fun H id lo k => ∃ sz xs, H id = some (.arr sz xs) ∧ k ((xs.length : Nat) - lo)
 oidx := fun H id sz lo n i k => (∃ xs, H id = some (.arr sz xs)) ∧ (0 ≤ i ∧ i < n) ∧ k (Ar.ofs lo i)
 oload := fun H id i k => ∃ sz xs, H id = some (.arr sz xs) ∧ (0 ≤ i ∧ i < (xs.length : Nat)) ∧ k (xs.getD i.toNat .bad)
 ostore := fun H id i esz sz off y k => ∃ xs y', LeV y y' ∧ y'.one = true ∧ y'.cells.length = sz ∧ off + sz ≤ esz ∧ H id = some (.arr esz xs) ∧ (0 ≤ i ∧ i < (xs.length : Nat)) ∧ k (upd H id (some (.arr esz (xs.set i.toNat (putV (xs.getD i.toNat .bad) esz sz off y')))))
 omk := fun sz by_ z n m H k => (0 ≤ n ∧ n ≤ m ∧ m * (by_ : Nat) ≤ 281474976710656) ∧ ∃ ys, LeVs (List.replicate m.toNat z) ys ∧ ∀ id, H id = none → k (.own id 0 n) (upd H id (some (.arr sz ys)))
 onil := fun sz H k => ∀ q, H q = none → k (.own q 0 0) (upd H q (some (.arr sz [])))
 olit := fun sz H xs k => ∃ ys, LeVs xs ys ∧ ∀ q, H q = none → k (.own q 0 (xs.length : Nat)) (upd H q (some (.arr sz ys)))
 ostr := fun s d H x k => ∃ v, convO P H s d x v ∧ k v
 mmk := fun H k => mapO H k
 mget := fun t H x key ok k => ∃ v, lookupO P H t x key ok v ∧ k v
 mset := fun t H x key v k => updateO P H (fun _ H' => k H') t x key v
 mrg := fun t H x k => rangeO P H k t x
 mnx := fun H x k => nextO H k x
 men := fun H x k => entryO H k x
 mdel := fun ts H vs k => deleteO P H k ts vs
 oapp := fun sz by_ z H x y k => ∃ ys', Src sz H y ys' ∧ appTo H k sz by_ z x ys'
 oappz := fun sz by_ z H x m k => (0 ≤ m ∧ (ownN x + m.toNat) * by_ ≤ 140737488355328) ∧ appTo H k sz by_ z x (List.replicate m.toNat z)
 oslice := fun sz H id l n lo hi mx k => ∃ xs, H id = some (.arr sz xs) ∧
  (0 ≤ lo.getD 0 ∧ lo.getD 0 ≤ hi.getD n ∧ hi.getD n ≤ mx.getD ((xs.length : Nat) - l) ∧ mx.getD ((xs.length : Nat) - l) ≤ (xs.length : Nat) - l ∧ (mx.isSome = true → hi.isSome = true)) ∧
  k (match mx with | none => .own id (l + lo.getD 0) (hi.getD n - lo.getD 0) | some _ => .bad)
 ocopy := fun sz H x y k =>
  match x with
  | .own id lo n => ∃ xs ys', H id = some (.arr sz xs) ∧ Src sz H y ys' ∧
   k (.int .i64 (if n < (ys'.length : Nat) then n else (ys'.length : Nat))) (upd H id (some (.arr sz (over xs lo.toNat (ys'.take n.toNat)))))
  | _ => False
 oclear := fun sz z H x k =>
  match x with
  | .own id lo n => ∃ xs, H id = some (.arr sz xs) ∧ k (upd H id (some (.arr sz (over xs lo.toNat (List.replicate n.toNat z)))))
  | _ => False
 nilc := fun x a b => ∃ p, nilO x = some p ∧ (p → a ()) ∧ b ()
 ofrz := fun H id lo n k => ∃ sz xs ys, H id = some (.arr sz xs) ∧ LeVs (subL xs lo n) ys ∧ k ys (upd H id none)
 takeT := fun H k => ∃ τ, AppOk H τ ∧ k τ (dropTok H τ)
 nameT := fun H k => (∀ tl, tl = .nil ∨ tl = .full → k tl H) ∧ ∀ t, H t = none → k (.tok t) (upd H t (some .spare))
 appn := fun sz by_ H tl xs ys k => ∃ xs' ys', LeVs xs xs' ∧ LeVs ys ys' ∧ AppOk H tl ∧ xs'.all (fun x => x.cells.length == sz) = true ∧ ys'.all (fun x => x.cells.length == sz) = true ∧ (xs'.length + ys'.length) * by_ ≤ 140737488355328 ∧ (ys' = [] → k (.sl xs' tl) H) ∧
  ∀ t, ys' ≠ [] → dropTok H tl t = none → k (.sl (xs' ++ ys') (.tok t)) (upd (dropTok H tl) t (some .spare))
 appq := fun sz by_ xs ys k => ∃ xs' ys', LeVs xs xs' ∧ LeVs ys ys' ∧ xs'.all (fun x => x.cells.length == sz) = true ∧ ys'.all (fun x => x.cells.length == sz) = true ∧ (xs'.length + ys'.length) * by_ ≤ 140737488355328 ∧ k (.sl (xs' ++ ys') .ro)
 appw := fun sz by_ H tl xs ys k => ∃ xs' ys', LeVs xs xs' ∧ LeVs ys ys' ∧ AppOk H tl ∧ xs'.all (fun x => x.cells.length == sz) = true ∧ ys'.all (fun x => x.cells.length == sz) = true ∧ (xs'.length + ys'.length) * by_ ≤ 140737488355328 ∧ k (.sl (xs' ++ ys') .ro) (dropTok H tl)
 sim := fun c st H K => Sim P nt rd c (frOf st) H fun e fr' H' => ∃ st', FrLe fr' st' ∧ K e st' H'
 fin := fun df H k => dfOk H df ∧ k (clear H df)
section
variable (E : Env) (T : Tbl)
def evS (G : List (Nat × Bool)) (l : Fl) : Operand → Sl
 | .tmp t => opnd G l t
 | .const (.bool b) => .b b
 | .const v => .v (cv v)
 | .global n => .v (Glob.gl n)
 | .func f => .v (.func (.func f) [] [])
def xload (t : Nat) (v : V) (H : Heap) (k : V → Prop) : Prop :=
 match tg T t with
 | none => False
 | some I =>
  match v with
  | .eref cs off => (match partV I.ag I.sz cs off with | some y => k y | none => False)
  | .ref id off => E.load H id fun cs => (match partV I.ag I.sz cs off with | some y => k y | none => False)
  | .elem id i _ off => E.oload H id i fun x => (match partV I.ag I.sz x.cells off with | some y => k y | none => False)
  | _ => False
def xsomeK (o : Option V) (k : V → Prop) : Prop :=
 match o with
 | some y => k y
 | none => False
def xfieldAddr (t : Nat) (v : V) (f : Nat) (k : V → Prop) : Prop :=
 match tg T t with
 | none => False
 | some I => (match I.fs[f]? with | some (some p) => xsomeK (addV v p.1) k | _ => False)
def xfield (t : Nat) (v : V) (f : Nat) (k : V → Prop) : Prop :=
 match tg T t with
 | none => False
 | some I =>
  match I.fs[f]? with
  | some (some p) =>
   (match tg T p.2 with
    | none => False
    | some J => (match v with | .agg cs => xsomeK (partV J.ag J.sz cs p.1) k | _ => False))
  | _ => False
def xindexAddr (t : Nat) (v : V) (i : V) (k : V → Prop) : Prop :=
 match i with
 | .int _ i =>
  (match tg T t with
   | none => False
   | some I =>
    match I.sl with
    | some e =>
     (match tg T e with
      | none => False
      | some J =>
       match v with
       | .sl xs _ => E.idx xs i fun x => (match Nat.beq x.cells.length J.sz with | true => k (.eref x.cells 0) | false => False)
       | _ => False)
    | none =>
     match I.ar with
     | some (n, e) => (match tg T e with | none => False | some J => (match v with | .eref cs off => E.elem cs off J.sz n i k | v => E.aidx i n fun m => xsomeK (addV v (m * J.sz)) k))
     | none => False)
 | _ => False
def xindex (t : Nat) (v : V) (i : V) (k : V → Prop) : Prop :=
 match i with
 | .int _ i =>
  (match tg T t with
   | none => False
   | some I =>
    match I.ar with
    | some (n, e) => (match tg T e with | none => False | some J => (match v with | .agg cs => E.aidx i n fun m => xsomeK (partV J.ag J.sz cs (m * J.sz)) k | _ => False))
    | none => (match v with | .str s => (match I.st with | true => E.needB (Ar.an (Ar.cmp .geq i 0) (Ar.cmp .lss i (Ar.slen s))) fun _ => k (.int .u8 (Ar.sat s i)) | false => False) | _ => False))
 | _ => False
def xeq : List V → List V → Option Bool
 | [], [] => some true
 | x :: xs, y :: ys =>
  match x, y with
  | .int k a, .int k' b => if k = k' then (xeq xs ys).map (Ar.an (Ar.cmp .eql a b)) else none
  | .str a, .str b => (xeq xs ys).map (Ar.an (Ar.scmp .eql a b))
  | .bool a, .bool b => (xeq xs ys).map (Ar.an (Ar.beq a b))
  | _, _ => none
 | _, _ => none
def isCmp : BinOp → Bool
 | .eql | .neq | .lss | .leq | .gtr | .geq => true
 | _ => false
def isDiv : BinOp → Bool
 | .quo | .rem => true
 | _ => false
def isAr : BinOp → Bool
 | .add | .sub | .mul | .and | .or | .xor | .andNot => true
 | _ => false
def xbin (op : BinOp) (t : Nat) (x y : V) (k : V → Prop) : Prop :=
 match x, y with
 | .int ka a, .int kb b =>
  (match isShift op with
   | true => E.needB (Ar.cmp .geq b 0) fun _ => k (.int ka (Ar.sh op ka a b))
   | false =>
    if ka = kb then
     (match isCmp op with
      | true => k (.bool (Ar.cmp op a b))
      | false =>
       match isAr op with
       | true => k (.int ka (Ar.ar op ka a b))
       | false => (match isDiv op with | true => E.needB (Ar.cmp .neq b 0) fun _ => k (.int ka (Ar.ar op ka a b)) | false => False))
    else False)
 | .str a, .str b =>
  (match isCmp op with
   | true => k (.bool (Ar.scmp op a b))
   | false => (match op with | .add => E.needB (Ar.cmp .leq (Ar.slen (Ar.cat a b)) 9223372036854775807) fun _ => k (.str (Ar.cat a b)) | _ => False))
 | .bool a, .bool b =>
  (match tg T t with
   | none => False
   | some I =>
    match I.bo with
    | true => (match op with | .eql => k (.bool (Ar.beq a b)) | .neq => k (.bool (Ar.nt (Ar.beq a b))) | _ => False)
    | false => False)
 | .agg xs, .agg ys =>
  (match tg T t with
   | none => False
   | some I =>
    if I.ag = true ∧ I.ek = some (xs.map kd) ∧ ys.map kd = xs.map kd then
     (match op with
      | .eql => (match xeq xs ys with | some b => k (.bool b) | none => False)
      | .neq => (match xeq xs ys with | some b => k (.bool (Ar.nt b)) | none => False)
      | _ => False)
    else False)
 | _, _ => False
def xun (op : UnOp) (x : Sl) (k : Sl → Prop) : Prop :=
 match op with
 | .not => (match x with | .b c => k (.b (!c)) | .v (.bool c) => k (.v (.bool (Ar.nt c))) | _ => False)
 | .neg => (match x with | .v (.int ki n) => k (.v (.int ki (Ar.neg ki n))) | _ => False)
 | _ => False
def xconv (s d : Nat) (x : V) (H : Heap) (k : V → Prop) : Prop :=
 match tg T s, tg T d with
 | some I, some J =>
  (match I.ik, J.ik, x with
   | some _, some ki, .int _ n => k (.int ki (Ar.wr ki n))
   | _, _, .str b => (match I.st, J.st with | true, true => k (.str b) | _, _ => False)
   | _, _, .own id lo n => E.ostr s d H (.own id lo n) k
   | _, _, .sl xs tl => E.ostr s d H (.sl xs tl) k
   | _, _, _ => False)
 | _, _ => False
def xbuild (t : Nat) (parts : List (Nat × V)) (k : V → Prop) : Prop :=
 match tg T t with
 | none => False
 | some I =>
  match I.ze with
  | some (.agg cs) =>
   (match I.ar with
    | some (_, e) => (match tg T e with | none => False | some J => (match fillV (fun i => some (i * J.sz, J.sz)) cs parts with | some c => k (.agg c) | none => False))
    | none => (match I.pl with | some pl => (match fillV (fun i => pl[i]?) cs parts with | some c => k (.agg c) | none => False) | none => False))
  | _ => False
def xbuildSlice (t n : Nat) (parts : List (Nat × V)) (k : V → Prop) : Prop :=
 match tg T t with
 | none => False
 | some I =>
  match I.sl with
  | none => False
  | some e =>
   match tg T e with
   | none => False
   | some J =>
    match J.ze with
    | none => False
    | some _ => if n * J.sz ≤ 16777216 ∧ parts.length = n ∧ seqParts J.sz 0 parts = true then k (.sl (parts.map fun q => q.2) .full) else False
def xmakeQ (t : Nat) (l c : V) (k : V → Prop) : Prop :=
 match l, c with
 | .int _ n, .int _ m =>
  (match tg T t with
   | none => False
   | some I =>
    match I.sl with
    | none => False
    | some e =>
     match tg T e with
     | none => False
     | some J =>
      match J.ze with
      | none => False
      | some z => if 0 < J.sz ∧ 0 < J.by_ ∧ z.one = true ∧ z.cells.length = J.sz ∧ n = m ∧ 0 ≤ n ∧ n * (J.by_ : Nat) ≤ 281474976710656 then k (.sl (List.replicate n.toNat z) .ro) else False)
 | _, _ => False
def xslice (t : Nat) (v : V) (lo hi mx : Option (Option Int)) (k : V → Prop) : Prop :=
 match lo, hi, mx with
 | some l, some h, some m =>
  (match tg T t with
   | none => False
   | some I =>
    match I.sl with
    | some e => (match tg T e with | none => False | some J => (match v with | .sl xs tl => E.slice J.sz xs tl l h m k | _ => False))
    | none => False)
 | _, _, _ => False
def noPl : Tail → Bool
 | .nil => true
 | .full => true
 | _ => false
def xbuiltinQ (b : Builtin) (ts : List TypeId) (vs : List V) (k : V → Prop) : Prop :=
 match b, ts, vs with
 | .len, [t], [x] =>
  (match tg T t with
   | none => False
   | some I =>
    match I.sl with
    | some _ => (match x with | .sl xs _ => E.ln xs fun n => k (.int .i64 n) | _ => False)
    | none =>
     match I.ar with
     | some (n, _) => k (.int .i64 (Ar.ofN n))
     | none => (match x with | .str s => (match I.st with | true => k (.int .i64 (Ar.slen s)) | false => False) | _ => False))
 | .max, _, [.int ka a, .int kb b] => if ka = kb then k (.int ka (Ar.mx a b)) else False
 | .min, _, [.int ka a, .int kb b] => if ka = kb then k (.int ka (Ar.mn a b)) else False
 | .append, [sT, yT], [.sl xs tl, .sl ys _] =>
  (match tg T sT, tg T yT with
   | some I, some I2 =>
    (match I.sl, I2.sl with
     | some e, some _ =>
      (match tg T e with
       | some J =>
        (match J.ze with
         | some z => if 0 < J.sz ∧ 0 < J.by_ ∧ z.one = true ∧ z.cells.length = J.sz ∧ noPl tl = true then E.appq J.sz J.by_ xs ys k else False
         | none => False)
       | none => False)
     | _, _ => False)
   | _, _ => False)
 | _, _, _ => False
def addG (c : Operand) (w : Bool) (G : List (Nat × Bool)) : List (Nat × Bool) :=
 match c with
 | .tmp d => (d, w) :: G
 | _ => G
def xpick (t : Bool) (x y : Sl) (k : Sl → Prop) : Prop :=
 match x, y with
 | .b true, .b true => k (.b true)
 | .b true, .b false => k (.v (.bool t))
 | .b true, .v (.bool b) => k (.v (.bool (Ar.or t b)))
 | .b false, .b true => k (.v (.bool (Ar.nt t)))
 | .b false, .b false => k (.b false)
 | .b false, .v (.bool b) => k (.v (.bool (Ar.an (Ar.nt t) b)))
 | .v (.bool a), .b true => k (.v (.bool (Ar.or (Ar.nt t) a)))
 | .v (.bool a), .b false => k (.v (.bool (Ar.an t a)))
 | .v (.bool a), .v (.bool b) => k (.v (.bool (Ar.pk t a b)))
 | x, y => E.br t (fun _ => k x) (fun _ => k y)
def isPtr : V → Bool
 | .eref _ _ => true
 | .ref _ _ => true
 | _ => false
def isNilS (v : V) : Bool :=
 match v with
 | .sl [] .nil => true
 | _ => false
def isCS (x : Operand) : Bool :=
 match x with
 | .const (.slice _ _ _) => true
 | _ => false
def isTot (G : List (Nat × Bool)) (o : Oper) (l : Fl) : Bool :=
 match o.op with
 | .move x => !(isCS x)
 | .assign x => !(isCS x)
 | .pick _ _ _ => true
 | .load _ x => isPtr (evS G l x).V
 | .fieldAddr _ x _ => isPtr (evS G l x).V
 | .field _ _ _ => true
 | .build _ _ => true
 | .binOp op _ _ _ _ => isCmp op || isAr op
 | .unOp _ _ _ => true
 | .extract _ _ => true
 | .call c => (match c.callee with | .builtin .len => true | _ => false)
 | _ => false
def xoidx (t : Nat) (H : Heap) (id : Nat) (lo n : Int) (i : V) (k : V → Prop) : Prop :=
 match i with
 | .int _ i =>
  (match tg T t with
   | none => False
   | some I =>
    match I.sl with
    | some e => (match tg T e with | none => False | some J => E.oidx H id J.sz lo n i fun j => k (.elem id j J.sz 0))
    | none => False)
 | _ => False
def xolen (b : Builtin) (ts : List TypeId) (H : Heap) (v : V) (k : V → Prop) : Prop :=
 match ts with
 | [t] =>
  (match tg T t with
   | none => False
   | some I =>
    (match I.sl with
     | some _ =>
      (match b, v with
       | .len, .own _ _ n => E.olen n fun n => k (.int .i64 n)
       | .cap, .own id lo _ => E.ocap H id lo fun n => k (.int .i64 n)
       | .cap, .sl [] .nil => k (.int .i64 0)
       | .cap, .sl [] .full => k (.int .i64 0)
       | _, _ => False)
     | none => False))
 | _ => False
def ownLen (b : Builtin) (vs : List V) : Option V :=
 match b, vs with
 | .len, [.own id lo n] => some (.own id lo n)
 | .cap, [v] => some v
 | _, _ => none
def xoslice (t : Nat) (H : Heap) (id : Nat) (l n : Int) (lo hi mx : Option (Option Int)) (k : V → Prop) : Prop :=
 match lo, hi, mx with
 | some a, some b, some c =>
  (match tg T t with
   | none => False
   | some I => (match I.sl with | some e => (match tg T e with | none => False | some J => E.oslice J.sz H id l n a b c k) | none => False))
 | _, _, _ => False
def xq (G : List (Nat × Bool)) (o : Oper) (l : Fl) (H : Heap) (k : Sl → Prop) : Prop :=
 match o.op with
 | .move x => k (evS G l x)
 | .assign x => k (evS G l x)
 | .pick c x y =>
  (match evS G l c with
   | .b true => k (evS G l x)
   | .b false => k (evS G l y)
   | .v (.bool t) => xpick E t (evS (addG c true G) l x) (evS (addG c false G) l y) k
   | _ => False)
 | .box _ x => (match (evS G l x).V.one with | true => k (.v (.eref (evS G l x).V.cells 0)) | false => False)
 | .build t ps => xbuild T t (ps.toList.map fun p => (p.1, (evS G l p.2).V)) fun v => k (.v v)
 | .buildSlice t n ps => xbuildSlice T t n (ps.toList.map fun p => (p.1, (evS G l p.2).V)) fun v => k (.v v)
 | .makeSlice t x y => xmakeQ T t (evS G l x).V (evS G l y).V fun v => k (.v v)
 | .load t x => xload E T t (evS G l x).V H fun v => k (.v v)
 | .nilCheck x => (match nilOk (evS G l x).V with | true => k (evS G l x) | false => False)
 | .binOp op t x y _ => xbin E T op t (evS G l x).V (evS G l y).V fun v => k (.v v)
 | .unOp op _ x => xun op (evS G l x) k
 | .convert s d x => xconv E T s d (evS G l x).V H fun v => k (.v v)
 | .lookup t x y ok => E.mget t H (evS G l x).V (evS G l y).V ok fun v => k (.v v)
 | .makeInterface t x => (match tg T t with | some I => (match I.nif with | true => k (.v (.iface t (evS G l x).V)) | false => False) | none => False)
 | .makeFunc fn fs cs => k (.v (.func fn (fs.toList.map fun x => (evS G l x).V) (cs.toList.map fun x => (evS G l x).V)))
 | .slice t x lo hi mx =>
  match (evS G l x).V with
  | .own id l0 n => xoslice E T t H id l0 n (optInt (lo.map fun x => (evS G l x).V)) (optInt (hi.map fun x => (evS G l x).V)) (optInt (mx.map fun x => (evS G l x).V)) fun v => k (.v v)
  | v => xslice E T t v (optInt (lo.map fun x => (evS G l x).V)) (optInt (hi.map fun x => (evS G l x).V)) (optInt (mx.map fun x => (evS G l x).V)) fun v => k (.v v)
 | .fieldAddr t x f => xfieldAddr T t (evS G l x).V f fun v => k (.v v)
 | .field t x f => xfield T t (evS G l x).V f fun v => k (.v v)
 | .indexAddr t x y => (match (evS G l x).V with | .own id lo n => xoidx E T t H id lo n (evS G l y).V fun v => k (.v v) | v => xindexAddr E T t v (evS G l y).V fun v => k (.v v))
 | .index t x y => xindex E T t (evS G l x).V (evS G l y).V fun v => k (.v v)
 | .extract x n => (match (evS G l x).V with | .tup cs => xsomeK cs[n]? fun v => k (.v v) | _ => False)
 | .call c =>
  (match c.callee with
   | .builtin b =>
    (match ownLen b (c.args.toList.map fun x => (evS G l x).V) with
     | some w => xolen E T b c.argTypes.toList H w fun v => k (.v v)
     | none => xbuiltinQ E T b c.argTypes.toList (c.args.toList.map fun x => (evS G l x).V) fun v => k (.v v))
   | _ => False)
 | _ => False
end
end Go.Ab

