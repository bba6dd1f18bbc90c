/- AbA20 AbA21 AbA22 AbA23 -/
import Derived.Test.YtjhobbohibnioaaGreatDoorD04
set_option linter.all false
open Nat (beq_refl)
namespace Go.Ab
open Go.RowKit
variable [J9]
structure XH where
 sz:Nat
 by_:Nat
 ag:Bool
 sl:Option Nat
 ar:Option (Nat×Nat)
 fs:List (Option (Nat×Nat))
 pl:Option (List (Nat×Nat))
 ze:Option V
 ek:Option (List Nat)
 st:Bool
 bo:Bool
 ik:Option IntKind
 nif:Bool
def Zu (P:Program)(t:TypeId):Nat→List (Option (Nat×Nat))→Prop
 |_,[]=>True
 |i,some p::l=>fdO P t i=some p∧Zu P t (i+1) l
 |i,none::l=>Zu P t (i+1) l
def Bm {α:Type}(o:Option α)(p:α→Prop):Prop:=
 match o with
 |some x=>p x
 |none=>True
structure Ap5 (P:Program) (t:TypeId) (I:XH):Prop where
 sz:Ed P t=some I.sz
 by_:Oc P t=some I.by_
 ag:QT P t=some I.ag
 sl:Fc P t=I.sl
 ar:arO P t=I.ar
 fs:Zu P t 0 I.fs
 pl:Bm I.pl fun l=>Ks P t=some l
 ze:Bm I.ze fun z=>Gt P t=some z
 ek:Bm I.ek fun k=>DS P 9 t=some k
 st:PX P t=I.st
 bo:I.bo=true→Wl (P.underlying t)=true
 ik:Bm I.ik fun k=>P.underlying t=some (.int k)
 nif:I.nif=true→ifO P t=false
abbrev EZ :=List (Nat×XH)
def Hl (P:Program):EZ→Prop
 |[]=>True
 |(t,I)::l=>Ap5 P t I∧Hl P l
def tg :EZ→Nat→Option XH
 |[],_=>none
 |(k,I)::l,t=>match Nat.beq t k with|true=>some I|false=>tg l t
theorem E9 {P:Program} {T:EZ} (h:Hl P T) {t:Nat} {I:XH} (hg:tg T t=some I):Ap5 P t I:=by
 induction T with
 |nil=>cases hg
 |cons p l ih=>
  obtain⟨k,J⟩:=p
  simp only[tg]at hg
  split at hg
  ·rename_i hb;have:t=k:=Nat.eq_of_beq_eq_true hb;subst this;cases hg;exact h.1
  exact ih h.2 hg
theorem QE {P:Program}{t:TypeId}:∀(l:List (Option (Nat×Nat))) (i j:Nat) (p:Nat×Nat),Zu P t i l→l[j]? =some (some p)→fdO P t (i+j)=some p
 |[],_,_,_,_,h=>by simp at h
 |some q::l,i,0,p,ho,h=>by simp at h;subst h;exact ho.1
 |none::l,i,0,p,ho,h=>by simp at h
 |some q::l,i,j+1,p,ho,h=>by have:=QE l (i+1) j p ho.2 (by simpa using h);rwa[show i+(j+1)=i+1+j by omega]
 |none::l,i,j+1,p,ho,h=>by have:=QE l (i+1) j p ho (by simpa using h);rwa[show i+(j+1)=i+1+j by omega]
inductive Sl where
 |v (x:V)
 |b (c:Bool)
 |g (j:Nat) (w:Bool) (x:V)
def Sl.V :Sl→V
 | .v x=>x
 | .b c=>.bool c
 | .g _ _ x=>x
def Sl.n :Sl→Sl
 | .g _ _ x=>.v x
 |s=>s
abbrev Fl :=List (Nat×Sl)
def lk :Fl→Nat→Sl
 |[],_=>.v .bad
 |(k,x)::l,t=>match Nat.beq t k with|true=>x|false=>lk l t
def UM (v:V)(w:Bool):Bool:=
 match v with
 | .bool c=>c==w
 |_=>false
def AY :Fl→Nat→V
 |[],_=>.bad
 |(k,s)::l,t=>
  match Nat.beq t k with
  |true=>(match s with| .v x=>x| .b c=>.bool c| .g j w x=>bif UM (AY l j) w then x else .tup [])
  |false=>AY l t
def XM (l:Fl):Sl→V
 | .v x=>x
 | .b c=>.bool c
 | .g j w x=>bif UM (AY l j) w then x else .tup []
def Xs :Fl→Nat→Nat→Bool
 |[],_,_=>false
 |(k,_)::l,t,j=>match Nat.beq k j with|true=>false|false=>(match Nat.beq k t with|true=>true|false=>Xs l t j)
def Zp :List (Nat×Bool)→Nat→Bool→Bool
 |[],_,_=>false
 |(j,w)::G,j',w'=>match Nat.beq j j'&&(w==w')with|true=>true|false=>Zp G j' w'
def Sr (G:List (Nat×Bool)) (l:Fl) (t:Nat):Option Sl:=
 match lk l t with
 | .g j w x=>
  (match Xs l t j with
   | true=>
    (match Zp G j w with
     |true=>some (.v x)
     |false=>(match lk l j with| .b c=>(match c==w with|true=>some (.v x)|false=>some (.v (.tup [])))|_=>none))
   |false=>none)
 |s=>some s
def Ad6 (G:List (Nat×Bool))(l:Fl)(t:Nat):Sl:=
 match Sr G l t with
 |some s=>s
 |none=>.v (AY l t)
def Jw :Fl→Nat→Bool→Fl
 |[],_,_=>[]
 |(k,s)::l,d,c=>match Nat.beq d k with|true=>(k,.b c)::l|false=>(k,s)::Jw l d c
structure St where
 l:Fl
 df:List Nat
def JZ (op:BinOp)(a b:Int):Bool:=
 match op with
 | .eql=>a==b
 | .neq=>a !=b
 | .lss=>decide (a<b)
 | .leq=>decide (a≤b)
 | .gtr=>decide (a>b)
 | .geq=>decide (a≥b)
 |_=>false
def arI (op:BinOp)(k:IntKind)(a b:Int):Int:=
 match op with
 | .add=>k.wrap (a+b)
 | .sub=>k.wrap (a - b)
 | .mul=>k.wrap (a*b)
 | .quo=>k.wrap (a.tdiv b)
 | .rem=>a.tmod b
 | .and=>k.wrap (BitVec.ofInt k.bits a&&&BitVec.ofInt k.bits b).toNat
 | .or=>k.wrap (BitVec.ofInt k.bits a|||BitVec.ofInt k.bits b).toNat
 | .xor=>k.wrap (BitVec.ofInt k.bits a ^^^ BitVec.ofInt k.bits b).toNat
 | .andNot=>k.wrap (BitVec.ofInt k.bits a&&& ~~~(BitVec.ofInt k.bits b)).toNat
 |_=>0
def shI (op:BinOp)(k:IntKind)(a b:Int):Int:=
 match op with
 | .shl=>k.wrap (a*2 ^ (min b.toNat k.bits))
 |_=>a.fdiv (2 ^ (min b.toNat k.bits))
def Ao6 (op:BinOp)(x y:ByteArray):Bool:=
 match op with
 | .eql=>x.toList==y.toList
 | .neq=> !(x.toList==y.toList)
 | .lss=>Op.bytesLess x.toList y.toList
 | .leq=>Op.bytesLess x.toList y.toList||x.toList==y.toList
 | .gtr=> !(Op.bytesLess x.toList y.toList||x.toList==y.toList)
 | .geq=> !Op.bytesLess x.toList y.toList
 |_=>false
class Ar where
 cmp:BinOp→Int→Int→Bool
 cmp_eq:∀op a b,cmp op a b=JZ op a b
 ar:BinOp→IntKind→Int→Int→Int
 ar_eq:∀op k a b,ar op k a b=arI op k a b
 sh:BinOp→IntKind→Int→Int→Int
 sh_eq:∀op k a b,sh op k a b=shI op k a b
 neg:IntKind→Int→Int
 neg_eq:∀k n,neg k n=k.wrap (0 - n)
 wr:IntKind→Int→Int
 wr_eq:∀k n,wr k n=k.wrap n
 scmp:BinOp→ByteArray→ByteArray→Bool
 scmp_eq:∀op a b,scmp op a b=Ao6 op a b
 cat:ByteArray→ByteArray→ByteArray
 cat_eq:∀a b,cat a b=a++b
 slen:ByteArray→Int
 slen_eq:∀s,slen s=s.size
 sat:ByteArray→Int→Int
 sat_eq:∀s i,sat s i=match s[i.toNat]? with|some b=>(b.toNat:Int)|none=>0
 beq:Bool→Bool→Bool
 beq_eq:∀a b,beq a b=(a==b)
 nt:Bool→Bool
 nt_eq:∀a,nt a= !a
 an:Bool→Bool→Bool
 an_eq:∀a b,an a b=(a&&b)
 or:Bool→Bool→Bool
 or_eq:∀a b,or a b=(a||b)
 pk:Bool→Bool→Bool→Bool
 pk_eq:∀c a b,pk c a b=if c then a else b
 mx:Int→Int→Int
 mx_eq:∀a b,mx a b=if a<b then b else a
 mn:Int→Int→Int
 mn_eq:∀a b,mn a b=if b<a then b else a
 ofs:Int→Int→Int
 ofs_eq:∀a b,ofs a b=a+b
 ofN:Nat→Int
 ofN_eq:∀n,ofN n=n
 len:{α:Type}→List α→Int
 len_eq:∀{α:Type} (l:List α),len l=l.length
 lst:{α:Type}→(α→V)→List α→List V
 lst_eq:∀{α:Type} (f:α→V) (l:List α),lst f l=l.map f
variable [Ar]
structure CU where
 ln:List V→(Int→Prop)→Prop
 br:Bool→(Unit→Prop)→(Unit→Prop)→Prop
 need:Prop→(Unit→Prop)→Prop
 needB:Bool→(Unit→Prop)→Prop
 idx:List V→Int→(V→Prop)→Prop
 aidx:Int→Nat→(Nat→Prop)→Prop
 elem:List V→Nat→Nat→Nat→Int→(V→Prop)→Prop
 slice:Nat→List V→E4→Option Int→Option Int→Option Int→(V→Prop)→Prop
 call:V→List V→A2→(V→A2→Prop)→Prop
 pcall:A2→V→List V→(V→Prop)→Prop
 load:A2→Nat→(List V→Prop)→Prop
 store:A2→Nat→Nat→Nat→List V→(A2→Prop)→Prop
 storeP:A2→Nat→Nat→Nat→List V→(A2→Prop)→Prop
 alloc:A2→List V→(Nat→A2→Prop)→Prop
 oalloc:Nat→A2→(Nat→A2→Prop)→Prop
 frz:A2→Nat→(List V→A2→Prop)→Prop
 frzL:A2→Nat→(List V→A2→Prop)→Prop
 frzIn:A2→Nat→Nat→(A2→Prop)→Prop
 adoptIn:A2→Nat→Nat→(A2→Prop)→Prop
 wkB:A2→Nat→(A2→Prop)→Prop
 give:A2→Nat→List V→(A2→Prop)→Prop
 olen:Int→(Int→Prop)→Prop
 ocap:A2→Nat→Int→(Int→Prop)→Prop
 oidx:A2→Nat→Nat→Int→Int→Int→(Int→Prop)→Prop
 oload:A2→Nat→Int→(V→Prop)→Prop
 ostore:A2→Nat→Int→Nat→Nat→Nat→V→(A2→Prop)→Prop
 omk:Nat→Nat→V→Int→Int→A2→(V→A2→Prop)→Prop
 oapp:Nat→Nat→V→A2→V→V→(V→A2→Prop)→Prop
 oappz:Nat→Nat→V→A2→V→Int→(V→A2→Prop)→Prop
 oapps:Nat→V→A2→V→ByteArray→(V→A2→Prop)→Prop
 onil:Nat→A2→(V→A2→Prop)→Prop
 olit:Nat→A2→List V→(V→A2→Prop)→Prop
 ostr:Nat→Nat→A2→V→(V→Prop)→Prop
 mmk:A2→(V→A2→Prop)→Prop
 mget:Nat→A2→V→V→Bool→(V→Prop)→Prop
 mset:Nat→A2→V→V→V→(A2→Prop)→Prop
 mrg:Nat→A2→V→(V→A2→Prop)→Prop
 mnx:A2→V→(V→A2→Prop)→Prop
 men:A2→V→(V→A2→Prop)→Prop
 mdel:List Nat→A2→List V→(V→A2→Prop)→Prop
 oslice:Nat→A2→Nat→Int→Int→Option Int→Option Int→Option Int→(V→Prop)→Prop
 ocopy:Nat→A2→V→V→(V→A2→Prop)→Prop
 oclear:Nat→V→A2→V→(A2→Prop)→Prop
 ofrz:A2→Nat→Int→Int→(List V→A2→Prop)→Prop
 nilc:V→(Unit→Prop)→(Unit→Prop)→Prop
 appn:Nat→Nat→A2→E4→List V→List V→(V→A2→Prop)→Prop
 takeT:A2→(E4→A2→Prop)→Prop
 nameT:A2→(E4→A2→Prop)→Prop
 appq:Nat→Nat→List V→List V→(V→Prop)→Prop
 appw:Nat→Nat→A2→E4→List V→List V→(V→A2→Prop)→Prop
 sim:Code→St→A2→(Exit→St→A2→Prop)→Prop
 fin:List Nat→A2→(A2→Prop)→Prop
def F4 (st:St):Fr:=⟨fun t=>AY st.l t,st.df⟩
structure Ei (fr:Fr) (st:St):Prop where
 s:∀t,Wk (fr.s t) (AY st.l t)
 df:fr.df=st.df
def G0 (P:Program) (nt:Nat) (rd:Option Nat):CU where
 ln:=fun l k=>k l.length
 br:=fun c x y=>(c=true→x ())∧(c=false→y ())
 need:=fun p k=>p∧k ()
 needB:=fun b k=>b=true∧k ()
 idx:=fun xs i k=>(0≤i∧i<xs.length)∧k (xs.getD i.toNat .bad)
 aidx:=fun i n k=>(0≤i∧i<n)∧k i.toNat
 elem:=fun cs off sz n i k=>(0≤i∧i<n∧off+n*sz≤cs.length)∧k (.eref ((cs.drop (off+i.toNat*sz)).take sz) 0)
 slice:=fun sz xs tl lo hi mx k=>
  (0≤lo.getD 0∧lo.getD 0≤hi.getD xs.length∧hi.getD xs.length≤mx.getD xs.length∧mx.getD xs.length≤xs.length∧(mx.isSome=true→hi.isSome=true)∧
   (lo.getD 0≤0∨xs.all (fun x=>x.cells.length==sz)=true))∧
  k (.sl ((xs.drop (lo.getD 0).toNat).take ((hi.getD xs.length).toNat - (lo.getD 0).toNat)) (FB (lo.getD 0).toNat (hi.getD xs.length).toNat xs.length mx tl))
 call:=AX P
 pcall:=fun H fv args k=>∃v,LE P fv args H v∧k v
 load:=fun H id k=>∃cs,H id=some (.cells cs)∧k cs
 store:=fun H id off sz vs k=>∃cs vs',H9 vs vs'∧H id=some (.cells cs)∧Nat.ble (off+sz) cs.length=true∧k (upd H id (some (.cells (S3 cs off vs'))))
 storeP:=fun H id off sz vs k=>∃cs,H id=some (.cells cs)∧Nat.ble (off+sz) cs.length=true∧k (upd H id (some (.cells (S3 cs off vs))))
 give:=fun H id cs k=>k (upd H id (some (.cells cs)))
 frz:=fun H id k=>∃cs,H id=some (.cells cs)∧k cs (upd H id none)
 frzL:=fun H id k=>∃cs ds,H id=some (.cells cs)∧H9 cs ds∧k ds (upd H id none)
 frzIn:=fun H id j k=>∃cs q lo n sz xs ys,H id=some (.cells cs)∧cs[j]? =some (.own q lo n)∧H q=some (.arr sz xs)∧H9 (L7 xs lo n) ys∧k (upd (upd H q none) id (some (.cells (cs.set j (.sl ys .ro)))))
 adoptIn:=fun H id j k=>∃cs sz,H id=some (.cells cs)∧cs[j]? =some (.sl [] .nil)∧∀q,H q=none→k (upd (upd H q (some (.arr sz []))) id (some (.cells (cs.set j (.own q 0 0)))))
 wkB:=fun H id k=>∃cs ds,H id=some (.cells cs)∧H9 cs ds∧k (upd H id (some (.cells ds)))
 alloc:=fun H cs k=>∀id,H id=none→k id (upd H id (some (.cells cs)))
 oalloc:=fun sz H k=>∀q id,H q=none→upd H q (some (.arr sz [])) id=none→k id (upd (upd H q (some (.arr sz []))) id (some (.cells [.own q 0 0])))
 olen:=fun n k=>k n
 ocap:=fun H id lo k=>∃sz xs,H id=some (.arr sz xs)∧k ((xs.length:Nat) - lo)
 oidx:=fun H id sz lo n i k=>(∃xs,H id=some (.arr sz xs))∧(0≤i∧i<n)∧k (Ar.ofs lo i)
 oload:=fun H id i k=>∃sz xs,H id=some (.arr sz xs)∧(0≤i∧i<(xs.length:Nat))∧k (xs.getD i.toNat .bad)
 ostore:=fun H id i esz sz off y k=>∃xs y',BG y y'∧y'.one=true∧y'.cells.length=sz∧off+sz≤esz∧H id=some (.arr esz xs)∧(0≤i∧i<(xs.length:Nat))∧k (upd H id (some (.arr esz (xs.set i.toNat (Qm (xs.getD i.toNat .bad) esz sz off y')))))
 omk:=fun sz by_ z n m H k=>(0≤n∧n≤m∧m*(by_:Nat)≤281474976710656)∧∃ys,H9 (List.replicate m.toNat z) ys∧∀id,H id=none→k (.own id 0 n) (upd H id (some (.arr sz ys)))
 onil:=fun sz H k=>∀q,H q=none→k (.own q 0 0) (upd H q (some (.arr sz [])))
 olit:=fun sz H xs k=>∃ys,H9 xs ys∧∀q,H q=none→k (.own q 0 (xs.length:Nat)) (upd H q (some (.arr sz ys)))
 ostr:=fun s d H x k=>∃v,PC P H s d x v∧k v
 mmk:=fun H k=>Af4 H k
 mget:=fun t H x key ok k=>∃v,Kz P H t x key ok v∧k v
 mset:=fun t H x key v k=>Ip P H (fun _ H'=>k H') t x key v
 mrg:=fun t H x k=>Am7 P H k t x
 mnx:=fun H x k=>Ar9 H k x
 men:=fun H x k=>Ao1 H k x
 mdel:=fun ts H vs k=>Ai2 P H k ts vs
 oapp:=fun sz by_ z H x y k=>∃ys',Oh sz H y ys'∧FC H k sz by_ z x ys'
 oappz:=fun sz by_ z H x m k=>(0≤m∧(ownN x+m.toNat)*by_≤140737488355328)∧FC H k sz by_ z x (List.replicate m.toNat z)
 oapps:=fun by_ z H x s k=>FC H k 1 by_ z x (DQ s)
 oslice:=fun sz H id l n lo hi mx k=>∃xs,H id=some (.arr sz xs)∧
  (0≤lo.getD 0∧lo.getD 0≤hi.getD n∧hi.getD n≤mx.getD ((xs.length:Nat) - l)∧mx.getD ((xs.length:Nat) - l)≤(xs.length:Nat) - l∧(mx.isSome=true→hi.isSome=true))∧
  k (match mx with|none=>.own id (l+lo.getD 0) (hi.getD n - lo.getD 0)|some _=>.bad)
 ocopy:=fun sz H x y k=>
  match x with
  | .own id lo n=>∃xs ys',H id=some (.arr sz xs)∧Oh sz H y ys'∧
   k (.int .i64 (if n<(ys'.length:Nat)then n else(ys'.length:Nat))) (upd H id (some (.arr sz (Cg xs lo.toNat (ys'.take n.toNat)))))
  |_=>False
 oclear:=fun sz z H x k=>
  match x with
  | .own id lo n=>∃xs,H id=some (.arr sz xs)∧k (upd H id (some (.arr sz (Cg xs lo.toNat (List.replicate n.toNat z)))))
  |_=>False
 nilc:=fun x a b=>∃p,Xg x=some p∧(p→a ())∧b ()
 ofrz:=fun H id lo n k=>∃sz xs ys,H id=some (.arr sz xs)∧H9 (L7 xs lo n) ys∧k ys (upd H id none)
 takeT:=fun H k=>∃τ,Ik H τ∧k τ (G7 H τ)
 nameT:=fun H k=>(∀tl,tl= .nil∨tl= .full→k tl H)∧∀t,H t=none→k (.tok t) (upd H t (some .spare))
 appn:=fun sz by_ H tl xs ys k=>∃xs' ys',H9 xs xs'∧H9 ys ys'∧Ik H tl∧xs'.all (fun x=>x.cells.length==sz)=true∧ys'.all (fun x=>x.cells.length==sz)=true∧(xs'.length+ys'.length)*by_≤140737488355328∧(ys'=[]→k (.sl xs' tl) H)∧
  ∀t,ys'≠[]→G7 H tl t=none→k (.sl (xs'++ys') (.tok t)) (upd (G7 H tl) t (some .spare))
 appq:=fun sz by_ xs ys k=>∃xs' ys',H9 xs xs'∧H9 ys ys'∧xs'.all (fun x=>x.cells.length==sz)=true∧ys'.all (fun x=>x.cells.length==sz)=true∧(xs'.length+ys'.length)*by_≤140737488355328∧k (.sl (xs'++ys') .ro)
 appw:=fun sz by_ H tl xs ys k=>∃xs' ys',H9 xs xs'∧H9 ys ys'∧Ik H tl∧xs'.all (fun x=>x.cells.length==sz)=true∧ys'.all (fun x=>x.cells.length==sz)=true∧(xs'.length+ys'.length)*by_≤140737488355328∧k (.sl (xs'++ys') .ro) (G7 H tl)
 sim:=fun c st H K=>T9 P nt rd c (F4 st) H fun e fr' H'=>∃st',Ei fr' st'∧K e st' H'
 fin:=fun df H k=>Ai1 H df∧k (clear H df)
section
variable (E:CU)(T:EZ)
def Q3 (G:List (Nat×Bool))(l:Fl):Operand→Sl
 | .tmp t=>Ad6 G l t
 | .const (.bool b)=>.b b
 | .const v=>.v (cv v)
 | .global n=>.v (J9.gl n)
 | .func f=>.v (.func (.func f) [] [])
def Vo (t:Nat) (v:V) (H:A2) (k:V→Prop):Prop:=
 match tg T t with
 |none=>False
 |some I=>
  match v with
  | .eref cs off=>(match DW I.ag I.sz cs off with|some y=>k y|none=>False)
  | .ref id off=>E.load H id fun cs=>(match DW I.ag I.sz cs off with|some y=>k y|none=>False)
  | .elem id i _ off=>E.oload H id i fun x=>(match DW I.ag I.sz x.cells off with|some y=>k y|none=>False)
  |_=>False
def Jl (o:Option V)(k:V→Prop):Prop:=
 match o with
 |some y=>k y
 |none=>False
def Jo (t:Nat)(v:V)(f:Nat)(k:V→Prop):Prop:=
 match tg T t with
 |none=>False
 |some I=>(match I.fs[f]? with|some (some p)=>Jl (XG v p.1) k|_=>False)
def TN (t:Nat) (v:V) (f:Nat) (k:V→Prop):Prop:=
 match tg T t with
 |none=>False
 | some I=>
  match I.fs[f]? with
  | some (some p)=>
   (match tg T p.2 with
    |none=>False
    |some J=>(match v with| .agg cs=>Jl (DW J.ag J.sz cs p.1) k|_=>False))
  |_=>False
def Jn (t:Nat) (v:V) (i:V) (k:V→Prop):Prop:=
 match i with
 | .int _ i=>
  (match tg T t with
   |none=>False
   | some I=>
    match I.sl with
    | some e=>
     (match tg T e with
      |none=>False
      |some J=>
       match v with
       | .sl xs _=>E.idx xs i fun x=>(match Nat.beq x.cells.length J.sz with|true=>k (.eref x.cells 0)|false=>False)
       |_=>False)
    |none=>
     match I.ar with
     |some (n,e)=>(match tg T e with|none=>False|some J=>(match v with| .eref cs off=>E.elem cs off J.sz n i k|v=>E.aidx i n fun m=>Jl (XG v (m*J.sz)) k))
     |none=>False)
 |_=>False
def TM (t:Nat) (v:V) (i:V) (k:V→Prop):Prop:=
 match i with
 | .int _ i=>
  (match tg T t with
   |none=>False
   |some I=>
    match I.ar with
    |some (n,e)=>(match tg T e with|none=>False|some J=>(match v with| .agg cs=>E.aidx i n fun m=>Jl (DW J.ag J.sz cs (m*J.sz)) k|_=>False))
    |none=>(match v with| .str s=>(match I.st with|true=>E.needB (Ar.an (Ar.cmp .geq i 0) (Ar.cmp .lss i (Ar.slen s))) fun _=>k (.int .u8 (Ar.sat s i))|false=>False)|_=>False))
 |_=>False
def xeq :List V→List V→Option Bool
 |[],[]=>some true
 |x::xs,y::ys=>
  match x,y with
  | .int k a,.int k' b=>if k=k' then(xeq xs ys).map (Ar.an (Ar.cmp .eql a b))else none
  | .str a,.str b=>(xeq xs ys).map (Ar.an (Ar.scmp .eql a b))
  | .bool a,.bool b=>(xeq xs ys).map (Ar.an (Ar.beq a b))
  |_,_=>none
 |_,_=>none
def NB :BinOp→Bool
 | .eql| .neq| .lss| .leq| .gtr| .geq=>true
 |_=>false
def Zm :BinOp→Bool
 | .quo| .rem=>true
 |_=>false
def Ag3 :BinOp→Bool
 | .add| .sub| .mul| .and| .or| .xor| .andNot=>true
 |_=>false
def Am4 (op:BinOp) (t:Nat) (x y:V) (k:V→Prop):Prop:=
 match x,y with
 | .int ka a,.int kb b=>
  (match Fu op with
   |true=>E.needB (Ar.cmp .geq b 0) fun _=>k (.int ka (Ar.sh op ka a b))
   | false=>
    if ka=kb then
     (match NB op with
      |true=>k (.bool (Ar.cmp op a b))
      |false=>
       match Ag3 op with
       |true=>k (.int ka (Ar.ar op ka a b))
       |false=>(match Zm op with|true=>E.needB (Ar.cmp .neq b 0) fun _=>k (.int ka (Ar.ar op ka a b))|false=>False))
    else False)
 | .str a,.str b=>
  (match NB op with
   |true=>k (.bool (Ar.scmp op a b))
   |false=>(match op with| .add=>E.needB (Ar.cmp .leq (Ar.slen (Ar.cat a b)) 9223372036854775807) fun _=>k (.str (Ar.cat a b))|_=>False))
 | .bool a,.bool b=>
  (match tg T t with
   |none=>False
   |some I=>
    match I.bo with
    |true=>(match op with| .eql=>k (.bool (Ar.beq a b))| .neq=>k (.bool (Ar.nt (Ar.beq a b)))|_=>False)
    |false=>False)
 | .agg xs,.agg ys=>
  (match tg T t with
   |none=>False
   | some I=>
    if I.ag=true∧I.ek=some (xs.map kd)∧ys.map kd=xs.map kd then
     (match op with
      | .eql=>(match xeq xs ys with|some b=>k (.bool b)|none=>False)
      | .neq=>(match xeq xs ys with|some b=>k (.bool (Ar.nt b))|none=>False)
      |_=>False)
    else False)
 |_,_=>False
def xun (op:UnOp)(x:Sl)(k:Sl→Prop):Prop:=
 match op with
 | .not=>(match x with| .b c=>k (.b (!c))| .v (.bool c)=>k (.v (.bool (Ar.nt c)))|_=>False)
 | .neg=>(match x with| .v (.int ki n)=>k (.v (.int ki (Ar.neg ki n)))|_=>False)
 |_=>False
def XW (s d:Nat) (x:V) (H:A2) (k:V→Prop):Prop:=
 match tg T s,tg T d with
 | some I,some J=>
  (match I.ik,J.ik,x with
   |some _,some ki,.int _ n=>k (.int ki (Ar.wr ki n))
   |_,_,.str b=>(match I.st,J.st with|true,true=>k (.str b)|_,_=>False)
   |_,_,.own id lo n=>E.ostr s d H (.own id lo n) k
   |_,_,.sl xs tl=>E.ostr s d H (.sl xs tl) k
   |_,_,_=>False)
 |_,_=>False
def TP (t:Nat) (parts:List (Nat×V)) (k:V→Prop):Prop:=
 match tg T t with
 |none=>False
 | some I=>
  match I.ze with
  | some (.agg cs)=>
   (match I.ar with
    |some (_,e)=>(match tg T e with|none=>False|some J=>(match HV (fun i=>some (i*J.sz,J.sz)) cs parts with|some c=>k (.agg c)|none=>False))
    |none=>(match I.pl with|some pl=>(match HV (fun i=>pl[i]?) cs parts with|some c=>k (.agg c)|none=>False)|none=>False))
  |_=>False
def Fg (t n:Nat) (parts:List (Nat×V)) (k:V→Prop):Prop:=
 match tg T t with
 |none=>False
 | some I=>
  match I.sl with
  |none=>False
  | some e=>
   match tg T e with
   |none=>False
   |some J=>
    match J.ze with
    |none=>False
    |some _=>if n*J.sz≤16777216∧parts.length=n∧Be J.sz 0 parts=true then k (.sl (parts.map fun q=>q.2) .full)else False
def TL (t:Nat) (l c:V) (k:V→Prop):Prop:=
 match l,c with
 | .int _ n,.int _ m=>
  (match tg T t with
   |none=>False
   | some I=>
    match I.sl with
    |none=>False
    | some e=>
     match tg T e with
     |none=>False
     |some J=>
      match J.ze with
      |none=>False
      |some z=>if 0<J.sz∧0<J.by_∧z.one=true∧z.cells.length=J.sz∧n=m∧0≤n∧n*(J.by_:Nat)≤281474976710656 then k (.sl (List.replicate n.toNat z) .ro)else False)
 |_,_=>False
def TI (t:Nat) (v:V) (lo hi mx:Option (Option Int)) (k:V→Prop):Prop:=
 match lo,hi,mx with
 | some l,some h,some m=>
  (match tg T t with
   |none=>False
   |some I=>
    match I.sl with
    |some e=>(match tg T e with|none=>False|some J=>(match v with| .sl xs tl=>E.slice J.sz xs tl l h m k|_=>False))
    |none=>False)
 |_,_,_=>False
def noPl :E4→Bool
 | .nil=>true
 | .full=>true
 |_=>false
def Lb (b:Builtin) (ts:List TypeId) (vs:List V) (k:V→Prop):Prop:=
 match b,ts,vs with
 | .len,[t],[x]=>
  (match tg T t with
   |none=>False
   | some I=>
    match I.sl with
    |some _=>(match x with| .sl xs _=>E.ln xs fun n=>k (.int .i64 n)|_=>False)
    |none=>
     match I.ar with
     |some (n,_)=>k (.int .i64 (Ar.ofN n))
     |none=>(match x with| .str s=>(match I.st with|true=>k (.int .i64 (Ar.slen s))|false=>False)|_=>False))
 | .max,_,[.int ka a,.int kb b]=>if ka=kb then k (.int ka (Ar.mx a b))else False
 | .min,_,[.int ka a,.int kb b]=>if ka=kb then k (.int ka (Ar.mn a b))else False
 | .append,[sT,yT],[.sl xs tl,.sl ys _]=>
  (match tg T sT,tg T yT with
   | some I,some I2=>
    (match I.sl,I2.sl with
     | some e,some _=>
      (match tg T e with
       | some J=>
        (match J.ze with
         |some z=>if 0<J.sz∧0<J.by_∧z.one=true∧z.cells.length=J.sz∧noPl tl=true then E.appq J.sz J.by_ xs ys k else False
         |none=>False)
       |none=>False)
     |_,_=>False)
   |_,_=>False)
 |_,_,_=>False
def Ap4 (c:Operand)(w:Bool)(G:List (Nat×Bool)):List (Nat×Bool):=
 match c with
 | .tmp d=>(d,w)::G
 |_=>G
def XR (t:Bool)(x y:Sl)(k:Sl→Prop):Prop:=
 match x,y with
 | .b true,.b true=>k (.b true)
 | .b true,.b false=>k (.v (.bool t))
 | .b true,.v (.bool b)=>k (.v (.bool (Ar.or t b)))
 | .b false,.b true=>k (.v (.bool (Ar.nt t)))
 | .b false,.b false=>k (.b false)
 | .b false,.v (.bool b)=>k (.v (.bool (Ar.an (Ar.nt t) b)))
 | .v (.bool a),.b true=>k (.v (.bool (Ar.or (Ar.nt t) a)))
 | .v (.bool a),.b false=>k (.v (.bool (Ar.an t a)))
 | .v (.bool a),.v (.bool b)=>k (.v (.bool (Ar.pk t a b)))
 |x,y=>E.br t (fun _=>k x) (fun _=>k y)
def Al1 :V→Bool
 | .eref _ _=>true
 | .ref _ _=>true
 |_=>false
def HQ (v:V):Bool:=
 match v with
 | .sl [] .nil=>true
 |_=>false
def Ag2 (x:Operand):Bool:=
 match x with
 | .const (.slice _ _ _)=>true
 |_=>false
def HP (G:List (Nat×Bool))(o:Oper)(l:Fl):Bool:=
 match o.op with
 | .move x=> !(Ag2 x)
 | .assign x=> !(Ag2 x)
 | .pick _ _ _=>true
 | .load _ x=>Al1 (Q3 G l x).V
 | .fieldAddr _ x _=>Al1 (Q3 G l x).V
 | .field _ _ _=>true
 | .build _ _=>true
 | .binOp op _ _ _ _=>NB op||Ag3 op
 | .unOp _ _ _=>true
 | .extract _ _=>true
 | .call c=>(match c.callee with| .builtin .len=>true|_=>false)
 |_=>false
def Aj4 (t:Nat) (H:A2) (id:Nat) (lo n:Int) (i:V) (k:V→Prop):Prop:=
 match i with
 | .int _ i=>
  (match tg T t with
   |none=>False
   |some I=>
    match I.sl with
    |some e=>(match tg T e with|none=>False|some J=>E.oidx H id J.sz lo n i fun j=>k (.elem id j J.sz 0))
    |none=>False)
 |_=>False
def XU (b:Builtin) (ts:List TypeId) (H:A2) (v:V) (k:V→Prop):Prop:=
 match ts with
 | [t] =>
  (match tg T t with
   |none=>False
   | some I=>
    (match I.sl with
     | some _=>
      (match b,v with
       | .len,.own _ _ n=>E.olen n fun n=>k (.int .i64 n)
       | .cap,.own id lo _=>E.ocap H id lo fun n=>k (.int .i64 n)
       | .cap,.sl [] .nil=>k (.int .i64 0)
       | .cap,.sl [] .full=>k (.int .i64 0)
       |_,_=>False)
     |none=>False))
 |_=>False
def Ux (b:Builtin)(vs:List V):Option V:=
 match b,vs with
 | .len,[.own id lo n]=>some (.own id lo n)
 | .cap,[v]=>some v
 |_,_=>none
def PL (t:Nat) (H:A2) (id:Nat) (l n:Int) (lo hi mx:Option (Option Int)) (k:V→Prop):Prop:=
 match lo,hi,mx with
 | some a,some b,some c=>
  (match tg T t with
   |none=>False
   |some I=>(match I.sl with|some e=>(match tg T e with|none=>False|some J=>E.oslice J.sz H id l n a b c k)|none=>False))
 |_,_,_=>False
def xq (G:List (Nat×Bool)) (o:Oper) (l:Fl) (H:A2) (k:Sl→Prop):Prop:=
 match o.op with
 | .move x=>k (Q3 G l x)
 | .assign x=>k (Q3 G l x)
 | .pick c x y=>
  (match Q3 G l c with
   | .b true=>k (Q3 G l x)
   | .b false=>k (Q3 G l y)
   | .v (.bool t)=>XR E t (Q3 (Ap4 c true G) l x) (Q3 (Ap4 c false G) l y) k
   |_=>False)
 | .box _ x=>(match(Q3 G l x).V.one with|true=>k (.v (.eref (Q3 G l x).V.cells 0))|false=>False)
 | .build t ps=>TP T t (ps.toList.map fun p=>(p.1,(Q3 G l p.2).V)) fun v=>k (.v v)
 | .buildSlice t n ps=>Fg T t n (ps.toList.map fun p=>(p.1,(Q3 G l p.2).V)) fun v=>k (.v v)
 | .makeSlice t x y=>TL T t (Q3 G l x).V (Q3 G l y).V fun v=>k (.v v)
 | .load t x=>Vo E T t (Q3 G l x).V H fun v=>k (.v v)
 | .nilCheck x=>(match VI (Q3 G l x).V with|true=>k (Q3 G l x)|false=>False)
 | .binOp op t x y _=>Am4 E T op t (Q3 G l x).V (Q3 G l y).V fun v=>k (.v v)
 | .unOp op _ x=>xun op (Q3 G l x) k
 | .convert s d x=>XW E T s d (Q3 G l x).V H fun v=>k (.v v)
 | .lookup t x y ok=>E.mget t H (Q3 G l x).V (Q3 G l y).V ok fun v=>k (.v v)
 | .makeInterface t x=>(match tg T t with|some I=>(match I.nif with|true=>k (.v (.iface t (Q3 G l x).V))|false=>False)|none=>False)
 | .makeFunc fn fs cs=>k (.v (.func fn (fs.toList.map fun x=>(Q3 G l x).V) (cs.toList.map fun x=>(Q3 G l x).V)))
 | .slice t x lo hi mx=>
  match(Q3 G l x).V with
  | .own id l0 n=>PL E T t H id l0 n (AI (lo.map fun x=>(Q3 G l x).V)) (AI (hi.map fun x=>(Q3 G l x).V)) (AI (mx.map fun x=>(Q3 G l x).V)) fun v=>k (.v v)
  |v=>TI E T t v (AI (lo.map fun x=>(Q3 G l x).V)) (AI (hi.map fun x=>(Q3 G l x).V)) (AI (mx.map fun x=>(Q3 G l x).V)) fun v=>k (.v v)
 | .fieldAddr t x f=>Jo T t (Q3 G l x).V f fun v=>k (.v v)
 | .field t x f=>TN T t (Q3 G l x).V f fun v=>k (.v v)
 | .indexAddr t x y=>(match(Q3 G l x).V with| .own id lo n=>Aj4 E T t H id lo n (Q3 G l y).V fun v=>k (.v v)|v=>Jn E T t v (Q3 G l y).V fun v=>k (.v v))
 | .index t x y=>TM E T t (Q3 G l x).V (Q3 G l y).V fun v=>k (.v v)
 | .extract x n=>(match(Q3 G l x).V with| .tup cs=>Jl cs[n]? fun v=>k (.v v)|_=>False)
 | .call c=>
  (match c.callee with
   | .builtin b=>
    (match Ux b (c.args.toList.map fun x=>(Q3 G l x).V)with
     |some w=>XU E T b c.argTypes.toList H w fun v=>k (.v v)
     |none=>Lb E T b c.argTypes.toList (c.args.toList.map fun x=>(Q3 G l x).V) fun v=>k (.v v))
   |_=>False)
 |_=>False
end
end Go.Ab
namespace Go.Ab
open Go.RowKit
variable [J9][Ar]
section
variable {P:Program}{nt:Nat}{rd:Option Nat}{T:EZ}{l:Fl}{df:List Nat}{H:A2}
def Ih (G:List (Nat×Bool))(l:Fl):Prop:=∀j w,Zp G j w=true→UM (AY l j) w=true
theorem Ih.nil :Ih [] l:=fun j w h=>by simp[Zp]at h
theorem Ih.add {G:List (Nat×Bool)} (h:Ih G l) {d:Nat} {w:Bool} (hd:UM (AY l d) w=true):Ih ((d,w)::G) l:=by
 intro j w' hg
 simp only[Zp]at hg
 split at hg
 ·rename_i e
  simp only[Bool.and_eq_true,beq_iff_eq]at e
  have:=Nat.eq_of_beq_eq_true e.1;rw[←this,←e.2];exact hd
 exact h j w' hg
theorem ZN {a b:Nat}(h:Nat.beq a b=false):a≠b:=fun e=>by subst e;rw[beq_refl]at h;cases h
theorem JM :∀(l:Fl) (t:Nat) (s:Sl),lk l t=s→(∀j w x,s≠ .g j w x)→AY l t=s.V
 |[],t,s,h,_=>by simp only[lk]at h;subst h;rfl
 | (k,x)::l,t,s,h,hn=>by
  simp only[lk]at h
  simp only[AY]
  cases hb:Nat.beq t k with
  |true=>
   simp only[hb]at h
   subst h
   cases x with
   |v x=>rfl
   |b c=>rfl
   |g j w x=>exact absurd rfl (hn j w x)
  |false=>simp only[hb]at h;exact JM l t s h hn
theorem QF :∀(l:Fl) (t j:Nat) (w:Bool) (x:V),lk l t= .g j w x→Xs l t j=true→AY l t=bif UM (AY l j) w then x else .tup []
 |[],_,_,_,_,_,h=>by simp[Xs]at h
 | (k,s)::l,t,j,w,x,h,hf=>by
  simp only[Xs]at hf
  simp only[lk]at h
  cases hj:Nat.beq k j with
  |true=>simp[hj]at hf
  | false=>
   simp only[hj]at hf
   have hj':Nat.beq j k=false:=by
    cases e:Nat.beq j k with
    |false=>rfl
    |true=>exact absurd (Nat.eq_of_beq_eq_true e).symm (ZN hj)
   have ej:AY ((k,s)::l) j=AY l j:=by simp only[AY,hj']
   rw[ej];simp only[AY]
   cases ht:Nat.beq t k with
   |true=>
    simp only[ht]at h
    subst h;rfl
   | false=>
    have ht':Nat.beq k t=false:=by
     cases e:Nat.beq k t with
     |false=>rfl
     |true=>exact absurd (Nat.eq_of_beq_eq_true e).symm (ZN ht)
    simp only[ht',ht]at hf h ⊢
    exact QF l t j w x h hf
theorem HI {G:List (Nat×Bool)} (hG:Ih G l) {t:Nat} {s:Sl} (h:Sr G l t=some s):s.V=AY l t∧∀j w x,s≠ .g j w x:=by
 unfold Sr at h
 split at h
 ·rename_i j w x hl
  split at h
  ·rename_i hf;have e:=QF l t j w x hl hf
   split at h
   ·rename_i hg;cases h;rw[e,hG j w hg];exact⟨rfl,fun _ _ _ h=>(by cases h)⟩
   split at h
   ·rename_i c hc;have ec:=JM l j _ hc (fun _ _ _ h=>by cases h)
    rw[ec]at e
    split at h
    ·rename_i hcw;cases h;rw[e];simp only[UM,Sl.V,hcw];exact⟨rfl,fun _ _ _ h=>(by cases h)⟩
    rename_i hcw;cases h;rw[e];simp only[UM,Sl.V,hcw];exact⟨rfl,fun _ _ _ h=>(by cases h)⟩
   cases h
  cases h
 rename_i s' hn;cases h;exact⟨(JM l t _ rfl (fun j w x e=>hn j w x e)).symm,fun j w x e=>hn j w x e⟩
theorem VE {G:List (Nat×Bool)}(hG:Ih G l)(t:Nat):(Ad6 G l t).V=AY l t:=by
 unfold Ad6
 split
 ·rename_i s h;exact(HI hG h).1
 rfl
theorem Dh {G:List (Nat×Bool)} (hG:Ih G l) (x:Operand):(Q3 G l x).V=ev (F4 ⟨l,df⟩) x:=by
 cases x with
 |tmp t=>exact VE hG t
 |const v=>
  cases v<;>first|rfl|skip
 |global n=>rfl
 |func f=>rfl
theorem Mt :∀(l:Fl) (d:Nat) (c:Bool),AY l d= .bool c→∀t,AY (Jw l d c) t=AY l t
 |[],_,_,_,_=>rfl
 | (k,s)::l,d,c,h,t=>by
  simp only[Jw]
  cases hd:Nat.beq d k with
  | true=>
   have e:=Nat.eq_of_beq_eq_true hd;subst e;simp only[AY]
   cases ht:Nat.beq t d with
   |true=>
    have e:=Nat.eq_of_beq_eq_true ht;subst e
    simp only[AY,beq_refl]at h
    exact h.symm
   |false=>rfl
  | false=>
   have hl:AY l d= .bool c:=by simpa only[AY,hd]using h
   have ih:=Mt l d c hl;simp only[AY]
   cases ht:Nat.beq t k with
   |true=>
    cases s with
    |v x=>rfl
    |b c=>rfl
    |g j w x=>simp only[ih j]
   |false=>exact ih t
theorem Lt {d:Nat}{c:Bool}(h:AY l d= .bool c):F4 ⟨Jw l d c,df⟩=F4 ⟨l,df⟩:=by
 simp only[F4,Fr.mk.injEq,and_true]
 funext t;exact Mt l d c h t
theorem Br {o:Option V}{k:V→Prop}(h:Jl o k):∃y,o=some y∧k y:=by
 unfold Jl at h
 split at h
 ·exact⟨_,rfl,h⟩
 exact h.elim
theorem Hm (hT:Hl P T) {t:Nat} {v:V} {k:V→Prop} (h:Vo (G0 P nt rd) T t v H k):∃y,(Fs P H t v=some y∨Jb P H t v=some y)∧k y:=by
 unfold Vo at h
 split at h
 ·exact h.elim
 rename_i I hI;have ok:=E9 hT hI
 split at h
 ·rename_i cs off
  split at h
  ·rename_i y hy;exact⟨y,.inl (by simp only[Fs,ok.ag,ok.sz];exact hy),h⟩
  exact h.elim
 ·rename_i id off;obtain⟨cs,hk,h⟩:=h
  split at h
  ·rename_i y hy;exact⟨y,.inl (by simp only[Fs,ok.ag,ok.sz,hk];exact hy),h⟩
  exact h.elim
 ·rename_i id i esz off;obtain⟨sz,xs,hk,hb,h⟩:=h
  split at h
  ·rename_i y hy;exact⟨y,.inr (by simp only[Jb,ok.ag,ok.sz,CP,hk];rw[if_pos hb];exact hy),h⟩
  exact h.elim
 exact h.elim
theorem Al5 (hT:Hl P T){t f:Nat}{I:XH}{p:Nat×Nat}(hI:tg T t=some I)(hf:I.fs[f]? =some (some p)):fdO P t f=some p:=by
 have:=QE I.fs 0 f p (E9 hT hI).fs hf
 rwa[Nat.zero_add]at this
theorem FM (hT:Hl P T){t f:Nat}{v:V}{k:V→Prop}(h:Jo T t v f k):∃y,ES P t v f=some y∧k y:=by
 unfold Jo at h
 split at h
 ·exact h.elim
 rename_i I hI
 split at h
 ·rename_i p hp;obtain⟨y,h1,h2⟩:=Br h;exact⟨y,by simp only[ES,Al5 hT hI hp];exact h1,h2⟩
 exact h.elim
theorem Kg (hT:Hl P T) {t f:Nat} {v:V} {k:V→Prop} (h:TN T t v f k):∃y,NN P t v f=some y∧k y:=by
 unfold TN at h
 split at h
 ·exact h.elim
 rename_i I hI
 split at h
 ·rename_i p hp
  split at h
  ·exact h.elim
  rename_i J hJ
  split at h
  ·obtain⟨y,h1,h2⟩:=Br h;exact⟨y,by simp only[NN,Al5 hT hI hp,(E9 hT hJ).ag,(E9 hT hJ).sz];exact h1,h2⟩
  exact h.elim
 exact h.elim
theorem La (hT:Hl P T) {t:Nat} {v i:V} {k:V→Prop} (h:Jn (G0 P nt rd) T t v i k):∃ki j u y,i= .int ki j∧Ci P t v j=some u∧BG u y∧k y:=by
 unfold Jn at h
 split at h
 ·rename_i ki j
  split at h
  ·exact h.elim
  rename_i I hI;have ok:=E9 hT hI;refine⟨ki,j,?_⟩
  split at h
  ·rename_i e he
   split at h
   ·exact h.elim
   rename_i J hJ;have okJ:=E9 hT hJ
   split at h
   ·rename_i xs tl;obtain⟨hb,h⟩:=h
    split at h
    ·rename_i hsz;refine⟨_,_,rfl,?_,.refl _,h⟩;simp only[Ci,ok.sl,he,okJ.sz];rw[if_pos ⟨hb,by rw[Nat.eq_of_beq_eq_true hsz]⟩]
    exact h.elim
   exact h.elim
  rename_i he
  split at h
  ·rename_i n e hae
   split at h
   ·exact h.elim
   rename_i J hJ
   split at h
   ·obtain⟨⟨hb1,hb2,hb3⟩,h⟩:=h;rename_i cs off
    have hle:off+j.toNat*J.sz+J.sz≤cs.length:=by
     have h1:j.toNat+1≤n:=by omega
     have h2:=Nat.mul_le_mul_right J.sz h1
     rw[Nat.add_mul,Nat.one_mul]at h2
     omega
    refine⟨_,_,rfl,?_,.sub hle,h⟩;simp only[Ci,ok.sl,he,ok.ar,hae,(E9 hT hJ).sz];rw[if_pos ⟨hb1,hb2⟩];rfl
   obtain⟨hb,h⟩:=h;obtain⟨y,h1,h2⟩:=Br h;refine⟨y,y,rfl,?_,.refl _,h2⟩;simp only[Ci,ok.sl,he,ok.ar,hae,(E9 hT hJ).sz];rw[if_pos hb];exact h1
  exact h.elim
 exact h.elim
theorem PQ (hT:Hl P T) {t:Nat} {v i:V} {k:V→Prop} (h:TM (G0 P nt rd) T t v i k):∃ki j y,i= .int ki j∧Lp P t v j=some y∧k y:=by
 unfold TM at h
 split at h
 ·rename_i ki j
  split at h
  ·exact h.elim
  rename_i I hI;have ok:=E9 hT hI;refine⟨ki,j,?_⟩
  split at h
  ·rename_i n e hae
   split at h
   ·exact h.elim
   rename_i J hJ
   split at h
   ·obtain⟨hb,h⟩:=h;obtain⟨y,h1,h2⟩:=Br h;refine⟨y,rfl,?_,h2⟩;simp only[Lp,ok.ar,hae,(E9 hT hJ).ag,(E9 hT hJ).sz];rw[if_pos hb];exact h1
   exact h.elim
  rename_i hae
  split at h
  ·split at h
   ·rename_i hs;obtain⟨hb,h⟩:=h;refine⟨_,rfl,?_,h⟩;rename_i str _
    have hb:0≤j∧j<(str.size:Nat):=by
     rw[Ar.an_eq,Ar.cmp_eq,Ar.cmp_eq,Ar.slen_eq]at hb
     simpa[JZ]using hb
    simp only[Lp,ok.ar,hae,ok.st];rw[if_pos ⟨hs,hb.1⟩,Ar.sat_eq]
    have hlt:j.toNat<str.size:=by omega
    simp[hlt]
   exact h.elim
  exact h.elim
 exact h.elim
theorem TO :∀xs ys:List V,xeq xs ys=W6 xs ys
 |[],[]=>rfl
 |[],_::_=>rfl
 |x::xs,[]=>by unfold xeq W6;rfl
 | x::xs,y::ys=>by
  have ih:=TO xs ys
  have hAn:(Ar.an:Bool→Bool→Bool)=fun a b=>a&&b:=by funext a b;exact Ar.an_eq a b
  unfold xeq W6;rw[ih,hAn]
  cases x<;>cases y<;>simp only[Ex,Ar.cmp_eq,Ar.scmp_eq,Ar.beq_eq,JZ,Ao6]<;>first
   |rfl
   |(cases W6 xs ys<;>rfl)
   |(split<;>cases W6 xs ys<;>rfl)
theorem UO {op:BinOp}{ki:IntKind}{a b:Int}(h:NB op=true):HR op ki a b=some (.bool (Ar.cmp op a b)):=by
 rw[Ar.cmp_eq]
 cases op<;>simp[NB]at h<;>rfl
theorem Xm {op:BinOp}{ki:IntKind}{a b:Int}(h:Ag3 op=true):HR op ki a b=some (.int ki (Ar.ar op ki a b)):=by
 rw[Ar.ar_eq]
 cases op<;>simp[Ag3]at h<;>rfl
theorem UN {op:BinOp}{ki:IntKind}{a b:Int}(h:Zm op=true)(hb:b≠0):HR op ki a b=some (.int ki (Ar.ar op ki a b)):=by
 rw[Ar.ar_eq]
 cases op<;>simp[Zm]at h<;>simp[HR,arI,hb]
theorem Ua {op:BinOp}{a b:ByteArray}(h:NB op=true):MQ op a b=some (.bool (Ar.scmp op a b)):=by
 rw[Ar.scmp_eq]
 cases op<;>simp[NB]at h<;>rfl
theorem WO {op:BinOp}{ki:IntKind}{a b:Int}(h:Fu op=true)(hb:0≤b):MW op ki a b=some (.int ki (Ar.sh op ki a b)):=by
 rw[Ar.sh_eq]
 cases op<;>simp[Fu]at h<;>simp only[MW,shI]<;>rw[if_neg (by omega)]
theorem MK (hT:Hl P T) {op:BinOp} {t:Nat} {x y:V} {k:V→Prop} (h:Am4 (G0 P nt rd) T op t x y k):∃v,Mo P op t x y=some v∧k v:=by
 unfold Am4 at h
 split at h
 ·rename_i ka a kb b
  split at h
  ·rename_i hs;obtain⟨hb,h⟩:=h
   have hb:0≤b:=by rw[Ar.cmp_eq]at hb;simpa[JZ]using hb
   exact⟨_,by simp only[Mo,hs,if_true];exact WO hs hb,h⟩
  rename_i hs
  split at h
  ·rename_i hk
   have e:Mo P op t (.int ka a) (.int kb b)=HR op ka a b:=by simp[Mo,hs,hk]
   split at h
   ·rename_i hc;exact⟨_,e.trans (UO hc),h⟩
   split at h
   ·rename_i hc;exact⟨_,e.trans (Xm hc),h⟩
   split at h
   ·rename_i hc;obtain⟨hb,h⟩:=h
    have hb:b≠0:=by rw[Ar.cmp_eq]at hb;simpa[JZ]using hb
    exact⟨_,e.trans (UN hc hb),h⟩
   exact h.elim
  exact h.elim
 ·rename_i a b
  split at h
  ·rename_i hc;exact⟨_,Ua hc,h⟩
  split at h
  ·obtain⟨hb,h⟩:=h
   have hb:((a.size+b.size:Nat):Int)≤9223372036854775807:=by
    rw[Ar.cmp_eq,Ar.slen_eq,Ar.cat_eq]at hb
    have e:(a++b).size=a.size+b.size:=by simp
    rw[e]at hb
    simpa[JZ]using hb
   refine⟨_,?_,h⟩;simp only[Mo,MQ,Ar.cat_eq];rw[if_neg (by omega)]
  exact h.elim
 ·rename_i a b
  split at h
  ·exact h.elim
  rename_i I hI
  split at h
  ·rename_i hbo;have hbo':=(E9 hT hI).bo hbo
   split at h
   ·exact⟨_,by simp only[Mo,hbo',if_true,Ar.beq_eq],h⟩
   ·exact⟨_,by simp only[Mo,hbo',if_true,Ar.beq_eq,Ar.nt_eq],h⟩
   exact h.elim
  exact h.elim
 ·rename_i xs ys
  split at h
  ·exact h.elim
  rename_i I hI;have ok:=E9 hT hI
  split at h
  ·rename_i hc;obtain⟨h1,h2,h3⟩:=hc
   have hek:DS P 9 t=some (xs.map kd):=by
    have:=ok.ek
    rw[h2]at this
    exact this
   have hcond:QT P t=some true∧DS P 9 t=some (xs.map kd)∧ys.map kd=xs.map kd:=⟨by rw[ok.ag,h1],hek,h3⟩;cases op<;>try exact h.elim
   ·cases hx:xeq xs ys with
    |none=>simp only[hx]at h
    |some b=>
     simp only[hx]at h
     rw[TO]at hx
     exact⟨_,by simp only[Mo];rw[if_pos hcond];simp only[hx],h⟩
   cases hx:xeq xs ys with
   |none=>simp only[hx]at h
   |some b=>
    simp only[hx]at h
    rw[TO]at hx
    exact⟨_,by simp only[Mo];rw[if_pos hcond];simp only[hx,Ar.nt_eq],h⟩
  exact h.elim
 exact h.elim
theorem OF {op:UnOp} {x:Sl} {k:Sl→Prop} (h:xun op x k):∃s:Sl,unV op x.V=some s.V∧k s:=by
 unfold xun at h
 split at h
 ·split at h
  ·exact⟨_,rfl,h⟩
  ·exact⟨_,by rw[Ar.nt_eq];rfl,h⟩
  exact h.elim
 ·split at h
  ·exact⟨_,by rw[Ar.neg_eq];rfl,h⟩
  exact h.elim
 exact h.elim
theorem Rf (hT:Hl P T) {s d:Nat} {x:V} {H:A2} {k:V→Prop} (h:XW (G0 P nt rd) T s d x H k):∃v,(PB P s d x=some v∨PC P H s d x v)∧k v:=by
 unfold XW at h
 split at h
 ·rename_i I J hI hJ;have okI:=E9 hT hI;have okJ:=E9 hT hJ
  split at h
  ·rename_i ki kj n hi hj
   have e1:=okI.ik;rw[hi]at e1
   have e2:=okJ.ik;rw[hj]at e2
   simp only[Bm]at e1 e2
   exact⟨_,.inl (by simp only[PB,e1,e2,Ar.wr_eq]),h⟩
  ·rename_i b _
   split at h
   ·rename_i h1 h2;have e1:=Iu (okI.st.trans h1);have e2:=Iu (okJ.st.trans h2);exact⟨_,.inl (by simp only[PB,e1,e2]),h⟩
   exact h.elim
  ·obtain⟨v,h1,h2⟩:=h;exact⟨v,.inr h1,h2⟩
  ·obtain⟨v,h1,h2⟩:=h;exact⟨v,.inr h1,h2⟩
  exact h.elim
 exact h.elim
theorem Kh (hT:Hl P T) {t:Nat} {parts:List (Nat×V)} {k:V→Prop} (h:TP T t parts k):∃v,LB P t parts=some v∧k v:=by
 unfold TP at h
 split at h
 ·exact h.elim
 rename_i I hI;have ok:=E9 hT hI
 split at h
 ·rename_i cs hz
  have ez:=ok.ze;rw[hz]at ez;simp only[Bm]at ez
  split at h
  ·rename_i n e ha
   split at h
   ·exact h.elim
   rename_i J hJ
   split at h
   ·rename_i c hc;exact⟨_,by simp only[LB,ok.ar,ha,ez,(E9 hT hJ).sz,hc];rfl,h⟩
   exact h.elim
  rename_i ha
  split at h
  ·rename_i pl hpl
   have ep:=ok.pl;rw[hpl]at ep;simp only[Bm]at ep
   split at h
   ·rename_i c hc;have hc':HV (pl[·]?) cs parts=some c:=hc;exact⟨_,by simp only[LB,ok.ar,ha,ez,ep,hc'];rfl,h⟩
   exact h.elim
  exact h.elim
 exact h.elim
theorem Ff (hT:Hl P T){t n:Nat}{parts:List (Nat×V)}{k:V→Prop}(h:Fg T t n parts k):∃v,X8 P t n parts=some v∧k v:=by
 unfold Fg at h
 split at h
 ·exact h.elim
 rename_i I hI
 split at h
 ·exact h.elim
 rename_i e he
 split at h
 ·exact h.elim
 rename_i J hJ
 split at h
 ·exact h.elim
 rename_i z hz
 have ez:=(E9 hT hJ).ze;rw[hz]at ez;simp only[Bm]at ez
 split at h
 ·rename_i hc;refine⟨_,?_,h⟩;simp only[X8,(E9 hT hI).sl,he,(E9 hT hJ).sz,ez];rw[if_pos hc]
 exact h.elim
theorem PO (hT:Hl P T) {t:Nat} {l c:V} {k:V→Prop} (h:TL T t l c k):∃v,Za P t l c v∧k v:=by
 unfold TL at h
 split at h
 ·split at h
  ·exact h.elim
  rename_i I hI
  split at h
  ·exact h.elim
  rename_i e he
  split at h
  ·exact h.elim
  rename_i J hJ
  split at h
  ·exact h.elim
  rename_i z hz
  have ez:=(E9 hT hJ).ze;rw[hz]at ez;simp only[Bm]at ez
  split at h
  ·rename_i hc;obtain⟨h1,h2,h3,h4,rfl,h6,h7⟩:=hc;exact⟨_,⟨_,_,_,e,J.sz,J.by_,z,rfl,rfl,by rw[(E9 hT hI).sl,he],(E9 hT hJ).sz,h1,(E9 hT hJ).by_,h2,ez,h3,h4,h6,h7,rfl⟩,h⟩
  exact h.elim
 exact h.elim
theorem PK (hT:Hl P T) {t:Nat} {v:V} {lo hi mx:Option (Option Int)} {k:V→Prop} (h:TI (G0 P nt rd) T t v lo hi mx k):
 ∃a b c y,lo=some a∧hi=some b∧mx=some c∧MR P t v a b c=some y∧k y:=by
 unfold TI at h
 split at h
 ·rename_i a b c;refine⟨a,b,c,?_⟩
  split at h
  ·exact h.elim
  rename_i I hI
  split at h
  ·rename_i e he
   split at h
   ·exact h.elim
   rename_i J hJ
   split at h
   ·obtain⟨hc,h⟩:=h;refine⟨_,rfl,rfl,rfl,?_,h⟩;simp only[MR,(E9 hT hI).sl,he,(E9 hT hJ).sz];rw[if_pos hc]
   exact h.elim
  exact h.elim
 exact h.elim
theorem Om (hT:Hl P T) {t id:Nat} {l0 n:Int} {lo hi mx:Option (Option Int)} {k:V→Prop} (h:PL (G0 P nt rd) T t H id l0 n lo hi mx k):
 ∃a b c y,lo=some a∧hi=some b∧mx=some c∧Hr P H t (.own id l0 n) a b c=some y∧k y:=by
 unfold PL at h
 split at h
 ·rename_i a b c;refine⟨a,b,c,?_⟩
  split at h
  ·exact h.elim
  rename_i I hI
  split at h
  ·rename_i e he
   split at h
   ·exact h.elim
   rename_i J hJ;obtain⟨xs,hk,hc,h⟩:=h;refine⟨_,rfl,rfl,rfl,?_,h⟩;simp only[Hr,(E9 hT hI).sl,he,(E9 hT hJ).sz,CP,hk];rw[if_pos ⟨trivial,hc⟩];rfl
  exact h.elim
 exact h.elim
theorem GW (hT:Hl P T) {b:Builtin} {ts:List TypeId} {vs:List V} {k:V→Prop} (h:Lb (G0 P nt rd) T b ts vs k):∃v,CO P b ts vs v∧k v:=by
 unfold Lb at h
 split at h
 ·rename_i t x
  split at h
  ·exact h.elim
  rename_i I hI;have ok:=E9 hT hI
  split at h
  ·rename_i e he
   split at h
   ·exact⟨_,by simp only[CO,Xk,ok.sl,he],h⟩
   exact h.elim
  rename_i he
  split at h
  ·rename_i n e ha;exact⟨_,by simp only[CO,Xk,ok.sl,he,ok.ar,ha,Ar.ofN_eq],h⟩
  rename_i ha
  split at h
  ·split at h
   ·rename_i hs;exact⟨_,by simp only[CO,Xk,ok.sl,he,ok.ar,ha,ok.st,hs,if_true,Ar.slen_eq],h⟩
   exact h.elim
  exact h.elim
 ·split at h
  ·rename_i hk;rw[Ar.mx_eq]at h;exact⟨_,⟨hk,rfl⟩,h⟩
  exact h.elim
 ·split at h
  ·rename_i hk;rw[Ar.mn_eq]at h;exact⟨_,⟨hk,rfl⟩,h⟩
  exact h.elim
 ·rename_i sT yT xs tl ys tl'
  split at h
  ·rename_i I I2 hI hI2
   split at h
   ·rename_i e e2 he he2
    split at h
    ·rename_i J hJ
     split at h
     ·rename_i z hz
      have ez:=(E9 hT hJ).ze;rw[hz]at ez;simp only[Bm]at ez
      split at h
      ·rename_i hc;obtain⟨c1,c2,c3,c4,c5⟩:=hc;obtain⟨xs',ys',l1,l2,k1,k2,k3,k4⟩:=h;refine⟨_,⟨?_,e,J.sz,J.by_,z,xs',ys',(E9 hT hI).sl.trans he,by rw[(E9 hT hI2).sl,he2];rfl,(E9 hT hJ).sz,c1,(E9 hT hJ).by_,c2,ez,c3,c4,l1,l2,k1,k2,k3,rfl⟩,k4⟩;cases tl<;>first|exact .inl rfl|exact .inr rfl|cases c5
      exact h.elim
     exact h.elim
    exact h.elim
   exact h.elim
  exact h.elim
 exact h.elim
theorem LF {t:Bool}{x y:Sl}{k:Sl→Prop}(h:XR (G0 P nt rd) t x y k):∃s:Sl,(t=true→s.V=x.V)∧(t=false→s.V=y.V)∧k s:=by
 unfold XR at h
 split at h
 ·exact⟨_,fun _=>rfl,fun _=>rfl,h⟩
 ·exact⟨_,fun e=>(by simp[Sl.V,e]),fun e=>(by simp[Sl.V,e]),h⟩
 ·exact⟨_,fun e=>(by simp[Sl.V,Ar.or_eq,e]),fun e=>(by simp[Sl.V,Ar.or_eq,e]),h⟩
 ·exact⟨_,fun e=>(by simp[Sl.V,Ar.nt_eq,e]),fun e=>(by simp[Sl.V,Ar.nt_eq,e]),h⟩
 ·exact⟨_,fun _=>rfl,fun _=>rfl,h⟩
 ·exact⟨_,fun e=>(by simp[Sl.V,Ar.nt_eq,Ar.an_eq,e]),fun e=>(by simp[Sl.V,Ar.nt_eq,Ar.an_eq,e]),h⟩
 ·exact⟨_,fun e=>(by simp[Sl.V,Ar.nt_eq,Ar.or_eq,e]),fun e=>(by simp[Sl.V,Ar.nt_eq,Ar.or_eq,e]),h⟩
 ·exact⟨_,fun e=>(by simp[Sl.V,Ar.an_eq,e]),fun e=>(by simp[Sl.V,Ar.an_eq,e]),h⟩
 ·exact⟨_,fun e=>(by simp[Sl.V,Ar.pk_eq,e]),fun e=>(by simp[Sl.V,Ar.pk_eq,e]),h⟩
 obtain⟨h1,h2⟩:=h;cases t
 ·exact⟨y,fun e=>(by cases e),fun _=>rfl,h2 rfl⟩
 exact⟨x,fun _=>rfl,fun e=>(by cases e),h1 rfl⟩
theorem Ih.arm {G:List (Nat×Bool)} (hG:Ih G l) {c:Operand} {w:Bool} (h:ev (F4 ⟨l,df⟩) c= .bool w):Ih (Ap4 c w G) l:=by
 cases c with
 |tmp d=>
  refine hG.add ?_;have:AY l d= .bool w:=h;rw[this];simp[UM]
 |const _=>exact hG
 |global _=>exact hG
 |func _=>exact hG
theorem LG (hT:Hl P T) {b:Builtin} {ts:List TypeId} {vs:List V} {w:V} {k:V→Prop} (hid:Ux b vs=some w) (h:XU (G0 P nt rd) T b ts H w k):∃v,JO P H b ts vs v∧k v:=by
 unfold Ux at hid
 unfold XU at h
 split at hid
 ·cases hid
  split at h
  ·split at h
   ·exact h.elim
   rename_i I hI
   split at h
   ·rename_i e he;exact⟨_,by simp only[JO,Af7,(E9 hT hI).sl,he],h⟩
   exact h.elim
  exact h.elim
 ·cases hid
  split at h
  ·split at h
   ·exact h.elim
   rename_i I hI
   split at h
   ·rename_i e he
    split at h
    ·rename_i e1;cases e1
    ·obtain⟨sz,xs,hk,h⟩:=h;exact⟨_,by simp only[JO,Vg,(E9 hT hI).sl,he,CP,hk];rfl,h⟩
    ·exact⟨_,by simp only[JO,Vg,(E9 hT hI).sl,he],h⟩
    ·exact⟨_,by simp only[JO,Vg,(E9 hT hI).sl,he],h⟩
    exact h.elim
   exact h.elim
  exact h.elim
 cases hid
theorem Kd (hT:Hl P T) {G:List (Nat×Bool)} (hG:Ih G l) {o:Oper} {k:Sl→Prop} (h:xq (G0 P nt rd) T G o l H k):∃s:Sl,JG P o (ev (F4 ⟨l,df⟩)) H s.V∧k s:=by
 have E:∀x,(Q3 G l x).V=ev (F4 ⟨l,df⟩) x:=fun x=>Dh hG x;have Em:∀xs:List Operand,(xs.map fun x=>(Q3 G l x).V)=xs.map (ev (F4 ⟨l,df⟩)):=fun xs=>List.map_congr_left fun p _=>E p
 have Eo:∀x:Option Operand,(x.map fun x=>(Q3 G l x).V)=x.map (ev (F4 ⟨l,df⟩)):=fun x=>by cases x<;>simp[E]
 have Ep:∀ps:List (Nat×Operand),(ps.map fun p=>(p.1,(Q3 G l p.2).V))=ps.map fun p=>(p.1,ev (F4 ⟨l,df⟩) p.2):=fun ps=>List.map_congr_left fun p _=>by rw[E]
 unfold xq at h
 unfold JG
 split at h<;>rename_i ho<;>simp only[ho]
 ·exact⟨_,E _,h⟩
 ·exact⟨_,E _,h⟩
 ·rename_i c x y
  split at h
  ·rename_i hc
   have:ev (F4 ⟨l,df⟩) c= .bool true:=by rw[←E,hc];rfl
   exact⟨_,by simp only[this,if_true];exact E _,h⟩
  ·rename_i hc
   have:ev (F4 ⟨l,df⟩) c= .bool false:=by rw[←E,hc];rfl
   exact⟨_,by simp only[this];exact E _,h⟩
  ·rename_i b hc
   have hb:ev (F4 ⟨l,df⟩) c= .bool b:=by rw[←E,hc];rfl
   obtain⟨s,h1,h2,h3⟩:=LF h;refine⟨s,?_,h3⟩;simp only[hb];cases b
   ·simp only[Bool.false_eq_true,if_false];rw[h2 rfl];exact Dh (hG.arm hb) _
   simp only[if_true];rw[h1 rfl];exact Dh (hG.arm hb) _
  exact h.elim
 ·split at h
  ·rename_i h1;rw[E]at h1;exact⟨_,⟨h1,by rw[E];rfl⟩,h⟩
  exact h.elim
 ·obtain⟨v,h1,h2⟩:=Kh hT h
  rw[Ep]at h1;exact⟨.v v,h1,h2⟩
 ·obtain⟨v,h1,h2⟩:=Ff hT h
  rw[Ep]at h1;exact⟨.v v,h1,h2⟩
 ·obtain⟨v,h1,h2⟩:=PO hT h
  rw[E,E]at h1;exact⟨.v v,h1,h2⟩
 ·obtain⟨v,h1,h2⟩:=Hm hT h
  rw[E]at h1;exact⟨.v v,h1,h2⟩
 ·split at h
  ·rename_i h1;rw[E]at h1;exact⟨_,⟨h1,E _⟩,h⟩
  exact h.elim
 ·obtain⟨v,h1,h2⟩:=MK hT h
  rw[E,E]at h1;exact⟨.v v,h1,h2⟩
 ·obtain⟨s,h1,h2⟩:=OF h
  rw[E]at h1;exact⟨s,h1,h2⟩
 ·obtain⟨v,h1,h2⟩:=Rf hT h
  rw[E]at h1;exact⟨.v v,h1,h2⟩
 ·obtain⟨v,h1,h2⟩:=h
  rw[E,E]at h1;exact⟨.v v,h1,h2⟩
 ·split at h
  ·rename_i I hI
   split at h
   ·rename_i hn;exact⟨_,⟨(E9 hT hI).nif hn,by rw[E];rfl⟩,h⟩
   exact h.elim
  exact h.elim
 ·exact⟨_,by rw[Em,Em];rfl,h⟩
 ·split at h
  ·rename_i id l0 n hx;obtain⟨a,b,c,y,h1,h2,h3,h4,h5⟩:=Om hT h
   rw[Eo]at h1 h2 h3
   rw[E]at hx
   exact⟨.v y,by simp only[h1,h2,h3,hx];exact .inr h4,h5⟩
  obtain⟨a,b,c,y,h1,h2,h3,h4,h5⟩:=PK hT h
  rw[Eo]at h1 h2 h3
  rw[E]at h4
  exact⟨.v y,by simp only[h1,h2,h3];exact .inl h4,h5⟩
 ·obtain⟨v,h1,h2⟩:=FM hT h
  rw[E]at h1;exact⟨.v v,h1,h2⟩
 ·obtain⟨v,h1,h2⟩:=Kg hT h
  rw[E]at h1;exact⟨.v v,h1,h2⟩
 ·split at h
  ·rename_i id lo n hx
   unfold Aj4 at h
   split at h
   ·rename_i i hi
    split at h
    ·exact h.elim
    rename_i I hI
    split at h
    ·rename_i e he
     split at h
     ·exact h.elim
     rename_i J hJ;obtain⟨⟨xs,hk⟩,hb,h⟩:=h
     rw[E]at hx hi
     refine⟨.v _,?_,h⟩;simp only[hi,hx];refine .inr ?_;simp only[UR,(E9 hT hI).sl,he,CP,hk,(E9 hT hJ).sz,Ar.ofs_eq];rw[if_pos ⟨hb,trivial⟩];rfl
    exact h.elim
   exact h.elim
  obtain⟨ki,j,u,y,h1,h2,h4,h3⟩:=La hT h
  rw[E]at h1 h2
  exact⟨.v y,by simp only[h1];exact .inl ⟨u,h2,h4⟩,h3⟩
 ·obtain⟨ki,j,y,h1,h2,h3⟩:=PQ hT h
  rw[E]at h1 h2
  exact⟨.v y,by simp only[h1];exact h2,h3⟩
 ·split at h
  ·rename_i cs hc
   rw[E]at hc
   obtain⟨y,h1,h2⟩:=Br h;exact⟨.v y,by simp only[hc];exact h1,h2⟩
  exact h.elim
 ·rename_i c
  split at h
  ·rename_i b hb
   split at h
   ·rename_i w hid
    rw[Em]at hid
    obtain⟨v,h1,h2⟩:=LG hT hid h;exact⟨.v v,by simp only[hb];exact .inr h1,h2⟩
   obtain⟨v,h1,h2⟩:=GW hT h
   rw[Em]at h1
   exact⟨.v v,by simp only[hb];exact .inl h1,h2⟩
  exact h.elim
 exact h.elim
end
end Go.Ab
namespace Go.Ab
open Go.RowKit
variable [J9][Ar]
def Ce (d:Option Tmp)(s:Sl)(l:Fl):Fl:=
 match d with
 |some d=>(d,s)::l
 |none=>l
section
variable (E:CU)(T:EZ)(nt:Nat)(A:Nat→Bool)(Z:Nat→List Nat)
def Vp (H:A2) (k:V→A2→Prop) (ts:List TypeId) (vs:List V):Prop:=
 match ts,vs with
 | [sT, yT],[.sl xs tl,.sl ys _]=>
  (match tg T sT,tg T yT with
   | some I,some I2=>
    (match I.sl,I2.sl with
     | some e,some _=>
      (match tg T e with
       | some J=>
        (match J.ze with
         |some z=>if 0<J.sz∧0<J.by_∧z.one=true∧z.cells.length=J.sz then E.appn J.sz J.by_ H tl xs ys k else False
         |none=>False)
       |none=>False)
     |_,_=>False)
   |_,_=>False)
 |_,_=>False
def Rg (H:A2) (k:V→A2→Prop) (ts:List TypeId) (vs:List V):Prop:=
 match ts,vs with
 | [sT, yT],[.sl xs tl,.sl ys _]=>
  (match tg T sT,tg T yT with
   | some I,some I2=>
    (match I.sl,I2.sl with
     | some e,some _=>
      (match tg T e with
       | some J=>
        (match J.ze with
         |some z=>if 0<J.sz∧0<J.by_∧z.one=true∧z.cells.length=J.sz then E.appw J.sz J.by_ H tl xs ys k else False
         |none=>False)
       |none=>False)
     |_,_=>False)
   |_,_=>False)
 |_,_=>False
def YG (a:Bool)(vs:List V):Bool:=
 match vs with
 | .own _ _ _::_=>true
 |_=>a
def Rh (H : A2) (k:V→A2→Prop) (ts:List TypeId) (vs:List V):Prop:=
 match ts,vs with
 | [sT, yT],[x,y]=>
  (match tg T sT,tg T yT with
   | some I,some I2=>
    (match I.sl with
     | some e=>
      (match tg T e with
       | some J=>
        (match J.ze with
         | some z=>
          if 0<J.sz∧0<J.by_∧z.one=true∧z.cells.length=J.sz then
           (match I2.sl,I2.ik,y with
            |some _,_,y=>E.oapp J.sz J.by_ z H x y k
            |none,some _,.int _ m=>E.oappz J.sz J.by_ z H x m k
            |none,none,.str s=>(match I2.st,J.sz with|true,1=>E.oapps J.by_ z H x s k|_,_=>False)
            |_,_,_=>False)
          else False
         |none=>False)
       |none=>False)
     |_=>False)
   |_,_=>False)
 |_,_=>False
def Aj7 (H:A2) (k:V→A2→Prop) (ts:List TypeId) (vs:List V):Prop:=
 match ts,vs with
 | [sT,_],[.own id lo n,y]=>
  (match tg T sT with
   | some I=>
    (match I.sl with
     |some e=>(match tg T e with|some J=>if 0<J.sz then E.ocopy J.sz H (.own id lo n) y k else False|none=>False)
     |_=>False)
   |_=>False)
 |_,_=>False
def Aj5 (t:Nat) (H:A2) (k:V→A2→Prop) (l c:V):Prop:=
 match l,c with
 | .int _ n,.int _ m=>
  (match tg T t with
   | some I=>
    (match I.sl with
     | some e=>
      (match tg T e with
       | some J=>
        (match J.ze with
         |some z=>if 0<J.sz∧0<J.by_∧z.one=true∧z.cells.length=J.sz then E.omk J.sz J.by_ z n m H k else False
         |none=>False)
       |none=>False)
     |none=>False)
   |none=>False)
 |_,_=>False
def Aa7 (t:Nat)(H:A2)(k:Sl→A2→Prop):Prop:=
 match tg T t with
 |some I=>(match I.sl with|some e=>(match tg T e with|some J=>E.onil J.sz H fun v H'=>k (.v v) H'|none=>False)|none=>False)
 |none=>False
def xlit (t n:Nat) (H:A2) (parts:List (Nat×V)) (k:Sl→A2→Prop):Prop:=
 match tg T t with
 |none=>False
 | some I=>
  match I.sl with
  |none=>False
  | some e=>
   match tg T e with
   |none=>False
   |some J=>
    match J.ze with
    |none=>False
    |some _=>if n*J.sz≤16777216∧parts.length=n∧Be J.sz 0 parts=true then E.olit J.sz H (parts.map fun q=>q.2) fun v H'=>k (.v v) H' else False
def XT (G:List (Nat×Bool)) (o:Oper) (l:Fl) (H:A2) (k:Sl→A2→Prop):Prop:=
 match o.op with
 | .alloc t=>
  (match tg T t with
   | some I=>
    (match I.ze with
     | some z=>
      (match A (o.dst.getD 0+5000000),HQ z with
       |true,true=>(match I.sl with|some e=>(match tg T e with|some J=>E.oalloc J.sz H fun id H'=>k (.v (.ref id 0)) H'|none=>False)|none=>False)
       |_,_=>(match z.one with|true=>E.alloc H z.cells fun id H'=>(match A (o.dst.getD 0+10000000)with|true=>E.wkB H' id fun H2=>k (.v (.ref id 0)) H2|false=>k (.v (.ref id 0)) H')|false=>False))
     |none=>False)
   |none=>False)
 | .box _ x=>
  match A (o.dst.getD 0+1000000)with
  |true=>E.need ((Q3 G l x).V.one=true∧(Q3 G l x).V.cells=[(Q3 G l x).V]) fun _=>(match A (o.dst.getD 0)with|true=>E.alloc H [(Q3 G l x).V] fun id H'=>k (.v (.ref id 0)) H'|false=>k (.v (.eref [(Q3 G l x).V] 0)) H)
  |false=>
  (match(Q3 G l x).V.one with
   |true=>(match A (o.dst.getD 0)with|true=>E.alloc H (Q3 G l x).V.cells fun id H'=>k (.v (.ref id 0)) H'|false=>k (.v (.eref (Q3 G l x).V.cells 0)) H)
   |false=>False)
 | .store t x y=>
  (match tg T t with
   | some I=>
    (match(Q3 G l x).V with
     | .ref id off=>
      (match(Q3 G l y).V.one with
       | true=>
        (match Nat.beq (Q3 G l y).V.cells.length I.sz with
         |true=>E.store H id off I.sz (Q3 G l y).V.cells fun H'=>k (.v .bad) H'
         |false=>False)
       |false=>False)
     | .elem id i esz off=>E.ostore H id i esz I.sz off (Q3 G l y).V fun H'=>k (.v .bad) H'
     |_=>False)
   |none=>False)
 | .binOp op t x y _=>
  (match Wf op,HQ (Q3 G l y).V with
   |some q,true=>(match tg T t with|some I=>(match I.sl with|some _=>E.nilc (Q3 G l x).V (fun _=>k (.b q) H) (fun _=>k (.b (!q)) H)|none=>xq E T G o l H fun s=>k s H)|none=>False)
   |_,_=>xq E T G o l H fun s=>k s H)
 | .makeSlice t x y=>Aj5 E T t H (fun v H'=>k (.v v) H') (Q3 G l x).V (Q3 G l y).V
 | .assign x=>(match A (o.dst.getD 0+6000000),Ag2 x with|true,true=>(match HQ (Q3 G l x).V with|true=>Aa7 E T o.type H k|false=>k (Q3 G l x) H)|_,_=>k (Q3 G l x) H)
 | .move x=>(match A (o.dst.getD 0+6000000),Ag2 x with|true,true=>(match HQ (Q3 G l x).V with|true=>Aa7 E T o.type H k|false=>k (Q3 G l x) H)|_,_=>k (Q3 G l x) H)
 | .buildSlice t n ps=>
  (match A (o.dst.getD 0+6000000)with
   |true=>xlit E T t n H (ps.toList.map fun p=>(p.1,(Q3 G l p.2).V)) k
   |false=>Fg T t n (ps.toList.map fun p=>(p.1,(Q3 G l p.2).V)) fun v=>k (.v v) H)
 | .makeMap _ r=>(match r with|none=>E.mmk H fun v H'=>k (.v v) H'|some _=>False)
 | .mapUpdate t x y z=>E.mset t H (Q3 G l x).V (Q3 G l y).V (Q3 G l z).V fun H'=>k (.v .bad) H'
 | .insert t x y z=>E.mset t H (Q3 G l x).V (Q3 G l y).V (Q3 G l z).V fun H'=>k (.v .bad) H'
 | .call c=>
  (match c.callee with
   | .value x=>E.call (Q3 G l x).V (c.args.toList.map fun x=>(Q3 G l x).V) H fun v H'=>k (.v v) H'
   | .builtin .append=>
    (match YG (A (o.dst.getD 0)) (c.args.toList.map fun x=>(Q3 G l x).V)with
     |true=>Rh E T H (fun v H'=>k (.v v) H') c.argTypes.toList (c.args.toList.map fun x=>(Q3 G l x).V)
     | false=>
      (match A (o.dst.getD 0+4000000)with
       |true=>Rg E T H (fun v H'=>k (.v v) H') c.argTypes.toList (c.args.toList.map fun x=>(Q3 G l x).V)
       |false=>Vp E T H (fun v H'=>k (.v v) H') c.argTypes.toList (c.args.toList.map fun x=>(Q3 G l x).V)))
   | .builtin .copy=>Aj7 E T H (fun v H'=>k (.v v) H') c.argTypes.toList (c.args.toList.map fun x=>(Q3 G l x).V)
   | .builtin _=>xq E T G o l H fun s=>k s H
   |_=>False)
 |_=>xq E T G o l H fun s=>k s H
def UL (o o2:Oper):Option (Nat×TypeId×TypeId×Operand):=
 match o.op,o.dst,o.guard with
 | .alloc t,some d,none=>
  (match o2.op,o2.dst,o2.guard with
   | .store t2 (.tmp d2) x,none,none=>
    (match A d,Nat.beq d d2 with
     |false,true=>(match x with| .tmp d3=>(match Nat.beq d d3 with|true=>none|false=>some (d,t,t2,x))|_=>some (d,t,t2,x))
     |_,_=>none)
   |_,_,_=>none)
 |_,_,_=>none
def Ak4 (l:Fl) (t t2:TypeId) (x:Operand):Option (List V):=
 match tg T t,tg T t2 with
 | some I,some I2=>
  (match I.ze with
   |some z=>if z.one=true∧(Q3 [] l x).V.one=true∧(Q3 [] l x).V.cells.length=I2.sz∧I2.sz≤z.cells.length then some (S3 z.cells 0 (Q3 [] l x).V.cells)else none
   |none=>none)
 |_,_=>none
def Eu (ops : Array Oper) (o:Oper):Nat→Fl→(List (Nat×Bool)→Fl→(Sl→Sl)→Prop)→(Fl→Prop)→Prop
 | n, l, go, skip=>
  match o.guard with
  |none=>go [] l Sl.n
  | some (j, want)=>
   (match (ops[j]?).bind (·.dst)with
    |none=>False
    | some d =>
     (match Sr [] l d with
      |some (.b c)=>(match c==want with|true=>go [] l Sl.n|false=>skip l)
      | some (.v (.bool c))=>
       (match HP [(d,want)] o l with
        |true=>go [(d,want)] l fun s=>.g d want s.V
        | false=>
         E.br c (fun _=>match want with|true=>go [] (Jw l d true) Sl.n|false=>skip (Jw l d true))
          (fun _=>match want with|false=>go [] (Jw l d false) Sl.n|true=>skip (Jw l d false)))
      |some (.v (.tup _))=>skip l
      |some _=>False
      | none =>
       (match lk l d with
        | .g j' _ (.bool _)=>
         (match Xs l d j' with
          | true=>
           (match HP [(d,want)] o l with
            |true=>go [(d,want)] l fun s=>.g d want s.V
            | false=>
             (match lk l j',n with
              | .v (.bool c),n+1=>E.br c (fun _=>Eu ops o n (Jw l j' true) go skip) (fun _=>Eu ops o n (Jw l j' false) go skip)
              |_,_=>False))
          |false=>False)
        |_=>False)))
def Kf :Option (Nat×Int×Int×List V)→List Nat→Fl→A2→(Fl→A2→Prop)→Prop
 |_,[],l,H,k=>k l H
 | some (id,lo,n,xs),d::ds,l,H,k=>
  (match lk l d with
   | .v (.own id' lo' n')=>E.need (id'=id∧lo'=lo∧n'=n) fun _=>Kf (some (id,lo,n,xs)) ds ((d,.v (.sl xs .ro))::l) H k
   |_=>Kf none ds l H k)
 | none,d::ds,l,H,k=>
  match decide (1000000≤d)with
  | true=>
   (match lk l (d % 1000000)with
    | .v (.ref id 0)=>
     (match decide (100000000≤d)with
      |true=>E.adoptIn H id ((d - 100000000) / 1000000) fun H'=>Kf none ds l H' k
      |false=>E.frzIn H id (d / 1000000 - 1) fun H'=>Kf none ds l H' k)
    |_=>False)
  |false=>
   match lk l d with
   | .v (.ref id 0)=>E.frzL H id fun cs H'=>Kf none ds ((d,.v (.eref cs 0))::l) H' k
   | .v (.own id lo n)=>E.ofrz H id lo n fun xs H'=>Kf (some (id,lo,n,xs)) ds ((d,.v (.sl xs .ro))::l) H' k
   | .v (.sl _ _)=>Kf none ds l H k
   |_=>False
def At1 (o:Oper):List Nat:=
 match o.dst with
 |some q=>Z q
 |none=>[]
def Ke (ops:Array Oper):List Oper→Fl→A2→(Fl→A2→Prop)→Prop
 |[],l,H,K=>K l H
 | o ::rest,l,H,K=>
  match DZ nt o.dst with
  |false=>False
  | true=>
   Kf E none (At1 Z o) l H fun l H=>
   match rest with
   |[]=>Eu E ops o 4 l (fun G l' wr=>XT E T A G o l' H fun s H'=>K (Ce o.dst (wr s) l') H') fun l'=>K (Ce o.dst (.v (.tup [])) l') H
   | o2::rest'=>
    (match UL A o o2 with
     | some (d,t,t2,x)=>
      (match Ak4 T l t t2 x with
       |some cs=>Ke ops rest' ((d,.v (.eref cs 0))::l) H K
       |none=>False)
     |none=>Eu E ops o 4 l (fun G l' wr=>XT E T A G o l' H fun s H'=>Ke ops (o2::rest') (Ce o.dst (wr s) l') H' K) fun l'=>Ke ops (o2::rest') (Ce o.dst (.v (.tup [])) l') H K)
end
section
variable {P:Program}{nt:Nat}{rd:Option Nat}{T:EZ}{A:Nat→Bool}{df:List Nat}
theorem VP (l:Fl) (d t:Nat) (s:Sl):AY ((d,s)::l) t=if t=d then XM l s else AY l t:=by
 simp only[AY]
 by_cases h:t=d
 ·subst h;simp only[beq_refl,if_true];cases s<;>rfl
 have:Nat.beq t d=false:=by
  cases hb:Nat.beq t d with
  |false=>rfl
  |true=>exact absurd (Nat.eq_of_beq_eq_true hb) h
 simp[this,h]
theorem K8 (l:Fl) (d:Option Tmp) (s:Sl):F4 ⟨Ce d s l,df⟩=(F4 ⟨l,df⟩).put d (XM l s):=by
 cases d with
 |none=>rfl
 |some d=>
  simp only[F4,Ce,Fr.put,Fr.mk.injEq,and_true]
  funext t
  exact VP l d t s
theorem CB {ops:Array Oper} {o:Oper} {go:List (Nat×Bool)→Fl→(Sl→Sl)→Prop} {skip:Fl→Prop}:∀(n:Nat) (l:Fl),Eu (G0 P nt rd) ops o n l go skip→
 ∃l',(∀t,AY l' t=AY l t)∧((Z4 ops (F4 ⟨l,df⟩) o=some true∧∃G wr,Ih G l'∧(∀s,XM l' (wr s)=s.V)∧go G l' wr)∨
  (Z4 ops (F4 ⟨l,df⟩) o=some false∧(skip l'∨∃G d want,HP G o l'=true∧UM (AY l' d) want=false∧go G l' fun s=>.g d want s.V)))
 | n, l,h=>by
  unfold Eu at h
  split at h
  ·rename_i hg;exact⟨l,fun _=>rfl,.inl ⟨by simp[Z4,hg],[],_,Ih.nil,fun s=>by cases s<;>rfl,h⟩⟩
  rename_i j want hg
  split at h
  ·exact h.elim
  rename_i d hjd
  have gv:∀x,AY l d=x→Z4 ops (F4 ⟨l,df⟩) o=match x with| .bool c=>some (c==want)| .tup _=>some false|_=>none:=fun x hx=>by
   simp only[Z4,hg,hjd,F4,hx]
   try (cases x<;>rfl)
  have idok:∀(l':Fl) (s:Sl),XM l' s.n=s.V:=fun l' s=>by cases s<;>rfl
  have tot:∀c,AY l d= .bool c→HP [(d,want)] o l=true→go [(d,want)] l (fun s=>.g d want s.V)→∃l',(∀t,AY l' t=AY l t)∧((Z4 ops (F4 ⟨l,df⟩) o=some true∧∃G wr,Ih G l'∧(∀s,XM l' (wr s)=s.V)∧go G l' wr)∨
   (Z4 ops (F4 ⟨l,df⟩) o=some false∧(skip l'∨∃G d want,HP G o l'=true∧UM (AY l' d) want=false∧go G l' fun s=>.g d want s.V))):=by
   intro c hc ht h;have:=gv _ hc
   simp only at this
   cases hcw:c==want with
   |true=>exact⟨l,fun _=>rfl,.inl ⟨by rw[this,hcw],_,_,Ih.nil.add (by rw[hc];simp only[UM,hcw]),fun s=>by simp only[XM,hc,UM,hcw,cond_true],h⟩⟩
   |false=>exact⟨l,fun _=>rfl,.inr ⟨by rw[this,hcw],.inr ⟨_,d,want,ht,by rw[hc];simp only[UM,hcw],h⟩⟩⟩
  split at h
  ·rename_i c hc;have hv:AY l d= .bool c:=(HI Ih.nil hc).1.symm;have:=gv _ hv
   split at h
   ·rename_i e;exact⟨l,fun _=>rfl,.inl ⟨by rw[this];simp only[e],[],_,Ih.nil,idok l,h⟩⟩
   rename_i e;exact⟨l,fun _=>rfl,.inr ⟨by rw[this];simp only[e],.inl h⟩⟩
  ·rename_i c hc;have hv:AY l d= .bool c:=(HI Ih.nil hc).1.symm;have hgv:=gv _ hv
   split at h
   ·rename_i ht;exact tot c hv ht h
   have e:=Mt l d c hv;obtain⟨h1,h2⟩:=h;cases c
   ·have h:=h2 rfl;cases want
    ·exact⟨_,e,.inl ⟨hgv,[],_,Ih.nil,idok _,h⟩⟩
    exact⟨_,e,.inr ⟨hgv,.inl h⟩⟩
   have h:=h1 rfl;cases want
   ·exact⟨_,e,.inr ⟨hgv,.inl h⟩⟩
   exact⟨_,e,.inl ⟨hgv,[],_,Ih.nil,idok _,h⟩⟩
  ·rename_i vs hc;have hv:AY l d= .tup vs:=(HI Ih.nil hc).1.symm;exact⟨l,fun _=>rfl,.inr ⟨gv _ hv,.inl h⟩⟩
  ·exact h.elim
  split at h
  ·rename_i j' w' cx hl
   split at h
   ·rename_i hf;have hv:=QF l d j' w' _ hl hf
    split at h
    ·rename_i ht
     cases hb:UM (AY l j') w' with
     |true=>
      rw[hb]at hv
      exact tot cx hv ht h
     |false=>
      rw[hb]at hv
      have hv:AY l d= .tup []:=hv;exact⟨l,fun _=>rfl,.inr ⟨gv _ hv,.inr ⟨_,d,want,ht,by rw[hv];rfl,h⟩⟩⟩
    split at h
    ·rename_i c m hc;have hvj:=JM l j' _ hc (fun _ _ _ h=>by cases h);obtain⟨h1,h2⟩:=h
     have key:∀b,c=b→Eu (G0 P nt rd) ops o m (Jw l j' b) go skip→∃l',(∀t,AY l' t=AY l t)∧((Z4 ops (F4 ⟨l,df⟩) o=some true∧∃G wr,Ih G l'∧(∀s,XM l' (wr s)=s.V)∧go G l' wr)∨
      (Z4 ops (F4 ⟨l,df⟩) o=some false∧(skip l'∨∃G d want,HP G o l'=true∧UM (AY l' d) want=false∧go G l' fun s=>.g d want s.V))):=by
      intro b hb h
      have hk:AY l j'= .bool b:=by rw[hvj,hb];rfl
      have e:=Mt l j' b hk;obtain⟨l',e',h⟩:=CB m _ h
      rw[Lt hk]at h
      exact⟨l',fun t=>(e' t).trans (e t),h⟩
     cases c
     ·exact key false rfl (h2 rfl)
     exact key true rfl (h1 rfl)
    exact h.elim
   exact h.elim
  exact h.elim
theorem H9.whole {y:V} {vs:List V} (h:H9 y.cells vs) (h1:y.one=true):∃z,BG y z∧z.cells=vs:=by
 have one:∀{y:V} {vs:List V},H9 [y] vs→(∀z,BG y z→z.cells=[z])→∃z,BG y z∧z.cells=vs:=by
  intro y vs h hz
  cases h with
  |cons q r=>cases r;exact⟨_,q,hz _ q⟩
 cases y with
 |agg cs=>exact⟨.agg vs,.agg h,rfl⟩
 |tup vs=>cases h1
 |_=>exact one h fun z hz=>by cases hz<;>rfl
theorem KZ (hT:Hl P T) {G:List (Nat×Bool)} {o:Oper} {l:Fl} (hG:Ih G l) {H:A2} {k:Sl→A2→Prop} (h:XT (G0 P nt rd) T A G o l H k):Gb P A o (ev (F4 ⟨l,df⟩)) H fun v H'=>∃s:Sl,v=s.V∧k s H':=by
 have E:∀x,(Q3 G l x).V=ev (F4 ⟨l,df⟩) x:=fun x=>Dh hG x;have Em:∀xs:List Operand,(xs.map fun x=>(Q3 G l x).V)=xs.map (ev (F4 ⟨l,df⟩)):=fun xs=>List.map_congr_left fun p _=>E p
 have quiet:xq (G0 P nt rd) T G o l H (fun s=>k s H)→∃v,JG P o (ev (F4 ⟨l,df⟩)) H v∧∃s:Sl,v=s.V∧k s H:=fun h=>by
  obtain⟨s,h1,h2⟩:=Kd (df:=df) hT hG h;exact⟨_,h1,s,rfl,h2⟩
 unfold XT at h
 split at h
 ·rename_i t ho;simp only[Gb,ho]
  split at h
  ·rename_i I hI
   split at h
   ·rename_i z hz
    have ez:=(E9 hT hI).ze;rw[hz]at ez;simp only[Bm]at ez
    split at h
    ·rename_i hA hn
     split at h
     ·split at h
      ·rename_i J _
       have e2:z= .sl [] .nil:=by
        unfold HQ at hn
        split at hn
        ·rfl
        cases hn
       rw[e2]at ez
       exact .inr ⟨ez,J.sz,fun q id hq hid=>⟨.v (.ref id 0),rfl,h q id hq hid⟩⟩
      exact h.elim
     exact h.elim
    split at h
    ·rename_i h1;refine .inl ⟨z,ez,h1,fun id hid=>?_⟩;have h:=h id hid
     split at h
     ·obtain⟨cs,ds,q1,q2,q3⟩:=h
      rw[B7]at q1;cases q1
      rw[Bu]at q3
      exact⟨ds,q2,.v (.ref id 0),rfl,q3⟩
     exact⟨_,.refl _,.v (.ref id 0),rfl,h⟩
    exact h.elim
   exact h.elim
  exact h.elim
 ·rename_i t x ho;simp only[Gb,ho]
  split at h
  ·rw[E]at h
   obtain⟨⟨h1,h2⟩,h⟩:=h;refine⟨h1,?_⟩;rw[h2]
   split at h
   ·rename_i hA;rw[if_pos hA];exact fun id hid=>⟨.v (.ref id 0),rfl,h id hid⟩
   rename_i hA;rw[if_neg (by rw[hA];simp)];exact⟨.v (.eref _ 0),rfl,h⟩
  split at h
  ·rename_i h1
   rw[E]at h1
   refine⟨h1,?_⟩
   split at h
   ·rename_i hA;rw[if_pos hA];intro id hid;have:=h id hid
    rw[E]at this
    exact⟨.v (.ref id 0),rfl,this⟩
   rename_i hA;rw[if_neg (by rw[hA];simp)]
   rw[E]at h
   exact⟨.v (.eref _ 0),rfl,h⟩
  exact h.elim
 ·rename_i t x y ho;simp only[Gb,ho]
  split at h
  ·rename_i I hI
   split at h
   ·rename_i id off hx
    split at h
    ·rename_i h1
     split at h
     ·rename_i h2;obtain⟨cs,vs',hle,hk,h3,h⟩:=h
      rw[E]at hx h1 h2 hle
      obtain⟨z,hz,hzc⟩:=hle.whole h1;subst hzc;refine .inl ⟨z,_,hz,?_,.v .bad,rfl,h⟩;simp only[Jt,(E9 hT hI).sz,hx,hk];rw[if_pos ⟨hz.one h1,by rw[←hz.cells.length];exact Nat.eq_of_beq_eq_true h2,Nat.le_of_ble_eq_true h3⟩]
     exact h.elim
    exact h.elim
   ·rename_i id i esz off hx;obtain⟨xs,y',q1,q2,q3,q4,q5,q6,h⟩:=h
    rw[E]at hx q1
    refine .inr ⟨y',_,q1,?_,.v .bad,rfl,h⟩;simp only[PY,(E9 hT hI).sz,hx,CP,q5];rw[if_pos ⟨q6,trivial,q2,q3,q4⟩]
   exact h.elim
  exact h.elim
 ·rename_i op t x y ty ho
  have old:xq (G0 P nt rd) T G o l H (fun s=>k s H)→Gb P A o (ev (F4 ⟨l,df⟩)) H fun v H'=>∃s:Sl,v=s.V∧k s H':=fun h=>by
   obtain⟨v,h1,h2⟩:=quiet h;simp only[Gb,ho];exact .inl ⟨v,h1,h2⟩
  split at h
  ·rename_i q hq hn
   split at h
   ·rename_i I hI
    split at h
    ·rename_i e he;obtain⟨p,h1,h2,h3⟩:=h
     rw[E]at h1 hn
     simp only[Gb,ho];refine .inr ⟨q,e,p,hq,(E9 hT hI).sl.trans he,h1,?_,fun hx=>⟨.b q,rfl,h2 hx⟩,⟨.b (!q),rfl,h3⟩⟩
     unfold HQ at hn
     split at hn
     ·assumption
     cases hn
    exact old h
   exact h.elim
  exact old h
 ·rename_i t x y ho;simp only[Gb,ho]
  rw[E,E]at h
  refine .inr ?_
  unfold Aj5 at h
  unfold LM
  split at h
  ·rename_i k1 n k2 m e1 e2;rw[e1,e2]
   simp only
   split at h
   ·rename_i I hI
    split at h
    ·rename_i e he
     split at h
     ·rename_i J hJ
      split at h
      ·rename_i z hz
       have ez:=(E9 hT hJ).ze;rw[hz]at ez;simp only[Bm]at ez
       split at h
       ·rename_i hc;obtain⟨c1,c2,c3,c4⟩:=hc;obtain⟨⟨q1,q2,q3⟩,ys,hle,h⟩:=h;exact⟨e,J.sz,J.by_,z,(E9 hT hI).sl.trans he,(E9 hT hJ).sz,c1,(E9 hT hJ).by_,c2,ez,c3,c4,q1,q2,q3,fun id hid=>⟨id,J.sz,_,ys,B7 _ _ _,hle,.v _,rfl,by rw[Bu];exact h id hid⟩⟩
       exact h.elim
      exact h.elim
     exact h.elim
    exact h.elim
   exact h.elim
  exact h.elim
 ·rename_i x ho;simp only[Gb,ho]
  split at h
  ·split at h
   ·rename_i hn
    rw[E]at hn
    unfold Aa7 at h
    split at h
    ·split at h
     ·split at h
      ·rename_i J _;refine .inr ⟨?_,J.sz,fun q hq=>⟨.v _,rfl,h q hq⟩⟩
       unfold HQ at hn
       split at hn
       ·assumption
       cases hn
      exact h.elim
     exact h.elim
    exact h.elim
   exact .inl ⟨_,(E x).symm,h⟩
  exact .inl ⟨_,(E x).symm,h⟩
 ·rename_i x ho;simp only[Gb,ho]
  split at h
  ·split at h
   ·rename_i hn
    rw[E]at hn
    unfold Aa7 at h
    split at h
    ·split at h
     ·split at h
      ·rename_i J _;refine .inr ⟨?_,J.sz,fun q hq=>⟨.v _,rfl,h q hq⟩⟩
       unfold HQ at hn
       split at hn
       ·assumption
       cases hn
      exact h.elim
     exact h.elim
    exact h.elim
   exact .inl ⟨_,(E x).symm,h⟩
  exact .inl ⟨_,(E x).symm,h⟩
 ·rename_i t n ps ho
  have Ep:∀ps:List (Nat×Operand),(ps.map fun p=>(p.1,(Q3 G l p.2).V))=ps.map fun p=>(p.1,ev (F4 ⟨l,df⟩) p.2):=fun ps=>List.map_congr_left fun p _=>by rw[E]
  split at h
  ·simp only[Gb,ho];refine .inr ?_
   rw[Ep]at h
   unfold xlit at h
   split at h
   ·exact h.elim
   rename_i I hI
   split at h
   ·exact h.elim
   rename_i e he
   split at h
   ·exact h.elim
   rename_i J hJ
   split at h
   ·exact h.elim
   rename_i z hz
   have ez:=(E9 hT hJ).ze;rw[hz]at ez;simp only[Bm]at ez
   split at h
   ·rename_i hc;obtain⟨ys,hle,h⟩:=h;refine⟨e,J.sz,_,ys,?_,(E9 hT hI).sl.trans he,(E9 hT hJ).sz,hle,fun q hq=>⟨.v _,rfl,h q hq⟩⟩;simp only[X8,(E9 hT hI).sl,he,(E9 hT hJ).sz,ez];rw[if_pos hc]
   exact h.elim
  obtain⟨v,h1,h2⟩:=Ff hT h
  rw[Ep]at h1
  simp only[Gb,ho];exact .inl ⟨v,by simp only[JG,ho];exact h1,.v v,rfl,h2⟩
 ·rename_i t r ho;simp only[Gb,ho]
  split at h
  ·exact⟨rfl,Pf (K:=fun v H'=>k (.v v) H') h fun v H' hk=>⟨.v v,rfl,hk⟩⟩
  exact h.elim
 ·rename_i t x y z ho;simp only[Gb,ho]
  rw[E,E,E]at h
  exact Ec (K:=fun _ H'=>k (.v .bad) H') h fun H' hk=>⟨.v .bad,rfl,hk⟩
 ·rename_i t x y z ho;simp only[Gb,ho]
  rw[E,E,E]at h
  exact Ec (K:=fun _ H'=>k (.v .bad) H') h fun H' hk=>⟨.v .bad,rfl,hk⟩
 ·rename_i c ho
  split at h
  ·rename_i x hc;simp only[Gb,ho,hc]
   rw[E,Em]at h
   exact AX.mono h fun v H' hk=>⟨.v v,rfl,hk⟩
  ·rename_i hc;simp only[Gb,ho,hc]
   rw[Em]at h
   split at h
   ·refine .inr (.inl ?_)
    unfold Rh at h
    unfold KT
    split at h
    ·rename_i sT yT x y hts hvs;rw[hts,hvs]
     simp only
     split at h
     ·rename_i I I2 hI hI2
      split at h
      ·rename_i e he
       split at h
       ·rename_i J hJ
        split at h
        ·rename_i z hz
         have ez:=(E9 hT hJ).ze;rw[hz]at ez;simp only[Bm]at ez
         split at h
         ·rename_i hc;obtain⟨c1,c2,c3,c4⟩:=hc;refine⟨e,J.sz,J.by_,z,(E9 hT hI).sl.trans he,(E9 hT hJ).sz,c1,(E9 hT hJ).by_,c2,ez,c3,c4,?_⟩
          split at h
          ·rename_i he2;obtain⟨ys',q1,h⟩:=h;exact .inl ⟨by rw[(E9 hT hI2).sl,he2];rfl,ys',q1,Dq h fun v H' hk=>⟨.v _,rfl,hk⟩⟩
          ·rename_i k0 he2 hik;have eik:=(E9 hT hI2).ik
           rw[hik]at eik
           obtain⟨q1,h⟩:=h;exact .inr (.inl ⟨⟨_,eik⟩,_,_,rfl,q1.1,q1.2,Dq h fun v H' hk=>⟨.v _,rfl,hk⟩⟩)
          ·split at h
           ·rename_i hst hj1;have est:=(E9 hT hI2).st
            rw[hst]at est
            have h:FC H (fun v H'=>k (.v v) H') 1 J.by_ z x (DQ _):=h
            rw[←hj1]at h
            exact .inr (.inr ⟨Iu est,_,rfl,hj1,Dq h fun v H' hk=>⟨.v _,rfl,hk⟩⟩)
           exact h.elim
          exact h.elim
         exact h.elim
        exact h.elim
       exact h.elim
      exact h.elim
     exact h.elim
    exact h.elim
   split at h
   ·refine .inr (.inr ?_)
    unfold Rg at h
    unfold Eh
    split at h
    ·rename_i sT yT xs tl ys tl' hts hvs;rw[hts,hvs]
     simp only
     split at h
     ·rename_i I I2 hI hI2
      split at h
      ·rename_i e e2 he he2
       split at h
       ·rename_i J hJ
        split at h
        ·rename_i z hz
         have ez:=(E9 hT hJ).ze;rw[hz]at ez;simp only[Bm]at ez
         split at h
         ·rename_i hc;obtain⟨c1,c2,c3,c4⟩:=hc;obtain⟨xs',ys',l1,l2,k1,k2,k3,k4,k5⟩:=h;exact⟨e,J.sz,J.by_,z,(E9 hT hI).sl.trans he,by rw[(E9 hT hI2).sl,he2];rfl,(E9 hT hJ).sz,c1,(E9 hT hJ).by_,c2,ez,c3,c4,xs',ys',l1,l2,k1,k2,k3,k4,fun e=>⟨_,_,by subst e;rw[List.append_nil];exact .ro _ _,fun _ _ hx=>KL hx,⟨.v _,rfl,k5⟩⟩,fun t h1 h2=>⟨_,_,.ro _ _,fun id b hx=>by rw[A7 _ _ fun e=>by subst e;rw[h2]at hx;cases hx];exact hx,⟨.v _,rfl,k5⟩⟩⟩
         exact h.elim
        exact h.elim
       exact h.elim
      exact h.elim
     exact h.elim
    exact h.elim
   refine .inl ?_
   unfold Vp at h
   unfold Eh
   split at h
   ·rename_i sT yT xs tl ys tl' hts hvs;rw[hts,hvs]
    simp only
    split at h
    ·rename_i I I2 hI hI2
     split at h
     ·rename_i e e2 he he2
      split at h
      ·rename_i J hJ
       split at h
       ·rename_i z hz
        have ez:=(E9 hT hJ).ze;rw[hz]at ez;simp only[Bm]at ez
        split at h
        ·rename_i hc;obtain⟨c1,c2,c3,c4⟩:=hc;obtain⟨xs',ys',l1,l2,k1,k2,k3,k4,k5,k6⟩:=h;exact⟨e,J.sz,J.by_,z,(E9 hT hI).sl.trans he,by rw[(E9 hT hI2).sl,he2];rfl,(E9 hT hJ).sz,c1,(E9 hT hJ).by_,c2,ez,c3,c4,xs',ys',l1,l2,k1,k2,k3,k4,fun e=>⟨.v _,rfl,k5 e⟩,fun t h1 h2=>⟨.v _,rfl,k6 t h1 h2⟩⟩
        exact h.elim
       exact h.elim
      exact h.elim
     exact h.elim
    exact h.elim
   exact h.elim
  ·rename_i hc;simp only[Gb,ho,hc]
   rw[Em]at h
   unfold Aj7 at h
   unfold Tp
   split at h
   ·rename_i sT yT id lo n y hts hvs;rw[hts,hvs]
    simp only
    split at h
    ·rename_i I hI
     split at h
     ·rename_i e he
      split at h
      ·rename_i J hJ
       split at h
       ·rename_i c1;obtain⟨xs,ys',q1,q2,h⟩:=h;exact⟨e,J.sz,xs,ys',(E9 hT hI).sl.trans he,(E9 hT hJ).sz,c1,q1,q2,.v _,rfl,h⟩
       exact h.elim
      exact h.elim
     exact h.elim
    exact h.elim
   exact h.elim
  ·rename_i b hb _ hc;obtain⟨v,h1,h2⟩:=quiet h
   simp only[JG,ho,hc]at h1
   simp only[Gb,ho,hc];exact⟨v,h1,h2⟩
  exact h.elim
 rename_i n1 n2 n3 n4 n5 n6 n7 n8 n9 n10 n11 n12;obtain⟨v,h1,h2⟩:=quiet h;unfold Gb
 split<;>rename_i ho<;>first|exact⟨v,h1,h2⟩|exact(n1 _ ho).elim|exact(n1 _ _ ho).elim|exact(n1 _ _ _ ho).elim|exact(n1 _ _ _ _ ho).elim|exact(n1 _ _ _ _ _ ho).elim|exact(n2 _ ho).elim|exact(n2 _ _ ho).elim|exact(n2 _ _ _ ho).elim|exact(n2 _ _ _ _ ho).elim|exact(n2 _ _ _ _ _ ho).elim|exact(n3 _ ho).elim|exact(n3 _ _ ho).elim|exact(n3 _ _ _ ho).elim|exact(n3 _ _ _ _ ho).elim|exact(n3 _ _ _ _ _ ho).elim|exact(n4 _ ho).elim|exact(n4 _ _ ho).elim|exact(n4 _ _ _ ho).elim|exact(n4 _ _ _ _ ho).elim|exact(n4 _ _ _ _ _ ho).elim|exact(n5 _ ho).elim|exact(n5 _ _ ho).elim|exact(n5 _ _ _ ho).elim|exact(n5 _ _ _ _ ho).elim|exact(n5 _ _ _ _ _ ho).elim|exact(n6 _ ho).elim|exact(n6 _ _ ho).elim|exact(n6 _ _ _ ho).elim|exact(n6 _ _ _ _ ho).elim|exact(n6 _ _ _ _ _ ho).elim|exact(n7 _ ho).elim|exact(n7 _ _ ho).elim|exact(n7 _ _ _ ho).elim|exact(n7 _ _ _ _ ho).elim|exact(n7 _ _ _ _ _ ho).elim|exact(n8 _ ho).elim|exact(n8 _ _ ho).elim|exact(n8 _ _ _ ho).elim|exact(n8 _ _ _ _ ho).elim|exact(n8 _ _ _ _ _ ho).elim|exact(n9 _ ho).elim|exact(n9 _ _ ho).elim|exact(n9 _ _ _ ho).elim|exact(n9 _ _ _ _ ho).elim|exact(n9 _ _ _ _ _ ho).elim|exact(n10 _ ho).elim|exact(n10 _ _ ho).elim|exact(n10 _ _ _ ho).elim|exact(n10 _ _ _ _ ho).elim|exact(n10 _ _ _ _ _ ho).elim|exact(n11 _ ho).elim|exact(n11 _ _ ho).elim|exact(n11 _ _ _ ho).elim|exact(n11 _ _ _ _ ho).elim|exact(n11 _ _ _ _ _ ho).elim|exact(n12 _ ho).elim|exact(n12 _ _ ho).elim|exact(n12 _ _ _ ho).elim|exact(n12 _ _ _ _ ho).elim|exact(n12 _ _ _ _ _ ho).elim
theorem VR.nil_inv {g:Gh}{w:World}{u:Value}(h:VR g w u (.sl [] .nil)):u= .slice none 0 0:=by
 cases h with
 |sl0 _=>rfl
 |sle ht=>rcases ht with h|⟨h,_⟩<;>cases h
 |sl _ _ _ _ _ _ _ _ ht=>exact ht.elim
theorem Cy {cs:List V}{i j:Nat}{x:V}(hi:i<cs.length):(cs.set i x).getD j .bad=if j=i then x else cs.getD j .bad:=by
 simp only[List.getD_eq_getElem?_getD,List.getElem?_set]
 by_cases h:i=j
 ·subst h;simp[hi]
 rw[if_neg h,if_neg (fun e=>h e.symm)]
theorem VR.erefLe {g:Gh} {w:World} {v:Value} {cs ds:List V} {off:Nat} (h:VR g w v (.eref cs off)) (hl:H9 cs ds):VR g w v (.eref ds off):=by
 have e:=hl.length
 cases h with
 |eref vs hf hw h1 hv=>
  exact .eref vs (fun j hj=>hf j (by omega)) (fun j hj=>hw j (by omega)) (fun j hj=>h1 j (by omega)) fun j hj=>(hv j (by omega)).le (hl.at j)
theorem Ah {w:World} {a:Act}:∀(q:Option (Nat×Int×Int×List V)) (ds:List Nat) (l:Fl) (H:A2) (g:Gh) (k:Fl→A2→Prop),(∀id lo n xs,q=some (id,lo,n,xs)→∀v,VR g w v (.own id lo n)→VR g w v (.sl xs .ro))→Rl g H w→FR nt g w a (F4 ⟨l,df⟩)→Kf (G0 P nt rd) q ds l H k→∃g' l' H',T4 g w g' w∧Rl g' H' w∧FR nt g' w a (F4 ⟨l',df⟩)∧k l' H'
 |q,[],l,H,g,k,_,hR,hF,h=>⟨g,l,H,T4.refl _ _,hR,hF,by unfold Kf at h;exact h⟩
 | some (id,lo,n,xs),d::ds,l,H,g,k,hq,hR,hF,h=>by
  unfold Kf at h
  split at h
  ·rename_i id' lo' n' hl;obtain⟨⟨e,e2,e3⟩,h⟩:=h;subst e;subst e2;subst e3
   have hF1:FR nt g w a (F4 ⟨(d,.v (.sl xs .ro))::l,df⟩):=by
    have e:=K8 (df:=df) l (some d) (.v (.sl xs .ro))
    rw[show Ce (some d) (.v (.sl xs .ro)) l=(d,Sl.v (.sl xs .ro))::l from rfl]at e
    rw[e];refine⟨hF.size,fun t=>?_,hF.df⟩;simp only[Fr.put]
    split
    ·rename_i ht;subst ht;have h0:=hF.s t;have e0:(F4 ⟨l,df⟩).s t= .own id' lo' n':=JM l t _ hl (fun _ _ _ h=>by cases h)
     rw[e0]at h0
     exact hq _ _ _ _ rfl _ h0
    exact hF.s t
   exact Ah _ ds _ _ g k hq hR hF1 h
  exact Ah none ds _ _ g k (fun _ _ _ _ h=>by cases h) hR hF h
 | none,d::ds,l,H,g,k,_,hR,hF,h=>by
  unfold Kf at h
  split at h
  ·split at h
   ·rename_i id hl
    split at h
    ·obtain⟨cs,sz,hk,hj,h⟩:=h;obtain⟨jl,_⟩:=List.getElem?_eq_some_iff.1 hj;obtain⟨g1,s1,hR1,hn,hv⟩:=CZ hR sz (.inl rfl) (.sl0 rfl:VR g w (.slice none 0 0) (.sl [] .nil))
     have hk1:upd H g.nx (some (.arr sz [])) id=some (.cells cs):=by
      rw[A7 _ _ (fun e=>by rw[e]at hk;rw[hn]at hk;cases hk)];exact hk
     have hR2:=hR1.chgCells hk1 (ds:=cs.set ((d - 100000000) / 1000000) (.own g.nx 0 0)) (by simp) fun j' u hj' hu=>by
      rw[Cy jl]
      split
      ·rename_i e;subst e
       rw[List.getD_eq_getElem?_getD,hj]at hu
       rw[VR.nil_inv hu];exact hv
      exact hu
     obtain⟨g2,l2,H2,s2,r⟩:=Ah none ds _ _ g1 k (fun _ _ _ _ h=>by cases h) hR2 (hF.mono s1) (h _ hn);exact⟨g2,l2,H2,s1.trans s2,r⟩
    obtain⟨cs,q,lo,n,sz,xs,ys,hk,hj,hq,hle,h⟩:=h;obtain⟨jl,_⟩:=List.getElem?_eq_some_iff.1 hj;obtain⟨g1,s1,hR1,hv⟩:=hR.freezeArr hq
    have hk1:upd H q none id=some (.cells cs):=by
     rw[A7 _ _ (fun e=>by subst e;rw[hk]at hq;cases hq)];exact hk
    have hR2:=hR1.chgCells hk1 (ds:=cs.set (d / 1000000 - 1) (.sl ys .ro)) (by simp) fun j' u hj' hu=>by
     rw[Cy jl]
     split
     ·rename_i e;subst e
      rw[List.getD_eq_getElem?_getD,hj]at hu
      exact(hv _ _ _ hu).le (.sl _ hle)
     exact hu
    obtain⟨g2,l2,H2,s2,r⟩:=Ah none ds _ _ g1 k (fun _ _ _ _ h=>by cases h) hR2 (hF.mono s1) h;exact⟨g2,l2,H2,s1.trans s2,r⟩
   exact h.elim
  split at h
  ·rename_i id hl;obtain⟨cs0,cs,hk,hle,h⟩:=h;obtain⟨g1,s1,hR1,hv⟩:=hR.freeze hk
   have hF1:FR nt g1 w a (F4 ⟨(d,.v (.eref cs 0))::l,df⟩):=by
    have e:=K8 (df:=df) l (some d) (.v (.eref cs 0))
    rw[show Ce (some d) (.v (.eref cs 0)) l=(d,Sl.v (.eref cs 0))::l from rfl]at e
    rw[e];have hm:=hF.mono s1;refine⟨hm.size,fun t=>?_,hm.df⟩;simp only[Fr.put]
    split
    ·rename_i ht;subst ht;have h0:=hF.s t;have e0:(F4 ⟨l,df⟩).s t= .ref id 0:=JM l t _ hl (fun _ _ _ h=>by cases h)
     rw[e0]at h0
     exact(hv _ _ h0).erefLe hle
    exact hm.s t
   obtain⟨g2,l2,H2,s2,r⟩:=Ah none ds _ _ g1 k (fun _ _ _ _ h=>by cases h) hR1 hF1 h;exact⟨g2,l2,H2,s1.trans s2,r⟩
  ·rename_i id lo n hl;obtain⟨sz,xs,ys,hk,hle,h⟩:=h;obtain⟨g1,s1,hR1,hv0⟩:=hR.freezeArr hk;have hv:∀v,VR g1 w v (.own id lo n)→VR g1 w v (.sl ys .ro):=fun v hv1=>(hv0 v lo n hv1).le (.sl _ hle)
   have hF1:FR nt g1 w a (F4 ⟨(d,.v (.sl ys .ro))::l,df⟩):=by
    have e:=K8 (df:=df) l (some d) (.v (.sl ys .ro))
    rw[show Ce (some d) (.v (.sl ys .ro)) l=(d,Sl.v (.sl ys .ro))::l from rfl]at e
    rw[e];have hm:=hF.mono s1;refine⟨hm.size,fun t=>?_,hm.df⟩;simp only[Fr.put]
    split
    ·rename_i ht;subst ht;have h0:=hm.s t;have e0:(F4 ⟨l,df⟩).s t= .own id lo n:=JM l t _ hl (fun _ _ _ h=>by cases h)
     rw[e0]at h0
     exact hv _ h0
    exact hm.s t
   obtain⟨g2,l2,H2,s2,r⟩:=Ah (some (id,lo,n,ys)) ds _ _ g1 k (fun _ _ _ _ h=>by cases h;exact hv) hR1 hF1 h;exact⟨g2,l2,H2,s1.trans s2,r⟩
  ·exact Ah none ds _ _ g k (fun _ _ _ _ h=>by cases h) hR hF h
  exact h.elim
theorem TJ (hT:Hl P T) {G:List (Nat×Bool)} {o:Oper} {l:Fl} {H:A2} {k:Sl→Prop} (ht:HP G o l=true) (h:xq (G0 P nt rd) T G o l H k):∃s,k s:=by
 unfold HP at ht
 unfold xq at h
 split at ht<;>rename_i ho<;>try simp only[ho]at h
 ·exact⟨_,h⟩
 ·exact⟨_,h⟩
 ·split at h
  ·exact⟨_,h⟩
  ·exact⟨_,h⟩
  ·obtain⟨s,_,_,hk⟩:=LF h;exact⟨s,hk⟩
  exact h.elim
 ·obtain⟨_,_,hk⟩:=Hm hT h;exact⟨_,hk⟩
 ·obtain⟨_,_,hk⟩:=FM hT h;exact⟨_,hk⟩
 ·obtain⟨_,_,hk⟩:=Kg hT h;exact⟨_,hk⟩
 ·obtain⟨_,_,hk⟩:=Kh hT h;exact⟨_,hk⟩
 ·obtain⟨_,_,hk⟩:=MK hT h;exact⟨_,hk⟩
 ·obtain⟨_,_,hk⟩:=OF h;exact⟨_,hk⟩
 ·split at h
  ·obtain⟨_,_,hk⟩:=Br h;exact⟨_,hk⟩
  exact h.elim
 ·split at h
  ·split at h
   ·rename_i hid;obtain⟨_,_,hk⟩:=LG hT hid h;exact⟨_,hk⟩
   obtain⟨_,_,hk⟩:=GW hT h;exact⟨_,hk⟩
  exact h.elim
 cases ht
theorem PM (hT:Hl P T) {G:List (Nat×Bool)} {o:Oper} {l:Fl} {H:A2} {k:Sl→A2→Prop} (ht:HP G o l=true) (h:XT (G0 P nt rd) T A G o l H k):∃s,k s H:=by
 have key:xq (G0 P nt rd) T G o l H (fun s=>k s H)→∃s,k s H:=fun h=>TJ hT ht h
 unfold HP at ht
 unfold XT at h
 split at ht<;>rename_i ho<;>try simp only[ho]at h
 all_goals try exact key h
 ·simp only[Bool.not_eq_true']at ht
  split at h
  ·rename_i h1;rw[ht]at h1;cases h1
  exact⟨_,h⟩
 ·simp only[Bool.not_eq_true']at ht
  split at h
  ·rename_i h1;rw[ht]at h1;cases h1
  exact⟨_,h⟩
 ·split at h
  ·split at h
   ·split at h
    ·obtain⟨_,_,_,h⟩:=h;exact⟨_,h⟩
    exact key h
   exact h.elim
  exact key h
 ·split at ht
  ·rename_i hc
   simp only[hc]at h
   exact key h
  cases ht
 cases ht
end
end Go.Ab
namespace Go.Ab
open Go.RowKit
variable [J9][Ar]
section
variable {P:Program}{nt:Nat}{rd:Option Nat}{T:EZ}{A:Nat→Bool}{Z:Nat→List Nat}{df:List Nat}
theorem UK {o o2:Oper} {d:Nat} {t t2:TypeId} {x:Operand} (h:UL A o o2=some (d,t,t2,x)):
 o.op= .alloc t∧o.dst=some d∧o.guard=none∧o2.op= .store t2 (.tmp d) x∧o2.dst=none∧o2.guard=none∧x≠ .tmp d:=by
 unfold UL at h
 split at h
 ·rename_i t' d' h1 h2 h3
  split at h
  ·rename_i t2' d2 x' k1 k2 k3
   split at h
   ·rename_i hA hb;have hd:=Nat.eq_of_beq_eq_true hb;subst hd
    split at h
    ·rename_i d3
     split at h
     ·cases h
     rename_i hn;cases h;refine⟨h1,h2,h3,k1,k2,k3,fun e=>?_⟩;cases e
     rw[beq_refl]at hn;cases hn
    rename_i hx;cases h;exact⟨h1,h2,h3,k1,k2,k3,fun e=>hx _ e⟩
   cases h
  cases h
 cases h
theorem TK (hT:Hl P T) {ops:Array Oper} {r:Option Nat} {K:Fl→A2→Prop} {Q:Exit→Act→World→Prop} {g0:Gh} {w0:World}
 (hQ:∀g w a l H,T4 g0 w0 g w→Rl g H w→FR nt g w a (F4 ⟨l,df⟩)→K l H→Q .normal a w):
 ∀(m i:Nat) (l:Fl) (H:A2),i+m=ops.size→Ke (G0 P nt rd) T nt A Z ops (ops.toList.drop i) l H K→∀g w a,T4 g0 w0 g w→Rl g H w→FR nt g w a (F4 ⟨l,df⟩)→wpOpsIn (Fw r) 0 P ops Q (List.range' i m) a w:=by
 intro m
 induction m using Nat.strongRecOn with
 |_ m ih=>
 intro i l H hi h g w a s hR hF
 cases m with
 |zero=>
  have:ops.toList.drop i=[]:=by simp;omega
  rw[this]at h
  unfold Ke at h
  exact hQ g w a l H s hR hF h
 | succ m=>
  have hlt:i<ops.toList.length:=by simp;omega
  have hlt':i<ops.size:=by omega
  have hdrop:=List.drop_eq_getElem_cons hlt
  rw[hdrop]at h
  simp only[Array.getElem_toList]at h
  generalize ho:ops[i]=o at h
  simp only[List.range'_succ,wpOpsIn,Array.getElem?_eq_getElem hlt',ho]
  unfold Ke at h
  split at h
  ·exact h.elim
  rename_i hd;obtain⟨g1,l1,H1,s1,hR1,hF1,h⟩:=Ah (df:=df) none _ _ _ _ _ (fun _ _ _ _ h=>by cases h) hR hF h;replace s:=s.trans s1;clear s1 hR hF
  revert h hF1 hR1 s
  generalize l1=l,H1=H,g1=g;intro hR hF h s
  have guarded:∀{rest:List Oper},DZ nt o.dst=true→rest=ops.toList.drop (i+1)→
   Eu (G0 P nt rd) ops o 4 l (fun G l' wr=>XT (G0 P nt rd) T A G o l' H fun s H'=>Ke (G0 P nt rd) T nt A Z ops rest (Ce o.dst (wr s) l') H' K) (fun l'=>Ke (G0 P nt rd) T nt A Z ops rest (Ce o.dst (.v (.tup [])) l') H K)→
   if Region.wanted o (yielded ops a.tmps)then o.wpIn (Fw r) 0 P a w (wpOpsIn (Fw r) 0 P ops Q (List.range' (i+1) m)) Q else(∀f,o.about P w a.eval=some f→(Fw r).fn f)∧wpOpsIn (Fw r) 0 P ops Q (List.range' (i+1) m) (a.put o.dst undef) w:=by
   intro rest hd hrest h;subst hrest;obtain⟨l',e,h⟩:=CB (df:=df) 4 l h
   have ef:F4 ⟨l',df⟩=F4 ⟨l,df⟩:=by simp only[F4,Fr.mk.injEq,and_true];funext t;exact e t
   have hF':FR nt g w a (F4 ⟨l',df⟩):=ef▸hF
   rcases h with⟨hgv,G,wr,hG,hwr,h⟩|⟨hgv,h⟩
   ·have hw:Region.wanted o (yielded ops a.tmps)=true:=R8 hF.s hgv;rw[if_pos hw];refine OI (A:=A) hR hF' hd (KZ (df:=df) hT hG h) fun g' w' a' v H' s' hR' hF2 ⟨sl,hv,hK⟩=>?_;subst hv
    rw[←hwr sl,←K8]at hF2
    exact ih m (by omega) (i+1) _ _ (by omega) hK g' w' a' (s.trans s') hR' hF2
   have hw:Region.wanted o (yielded ops a.tmps)=false:=R8 hF.s hgv;rw[if_neg (by rw[hw];simp)];refine⟨fun _ _=>trivial,?_⟩;have hput:FR nt g w (a.put o.dst undef) ((F4 ⟨l',df⟩).put o.dst (.tup [])):=hF'.put (CK hd) (VR.und _ _)
   rcases h with h|⟨G,d,want,ht,hb,h⟩
   ·refine ih m (by omega) (i+1) _ _ (by omega) h g w _ s hR ?_;rw[K8];exact hput
   obtain⟨sl,h⟩:=PM hT ht h;refine ih m (by omega) (i+1) _ _ (by omega) h g w _ s hR ?_;rw[K8];simp only[XM,hb,cond_false];exact hput
  split at h
  ·rename_i hrest;refine guarded hd hrest.symm ?_
   have e:(fun(G:List (Nat×Bool)) (l':Fl) (wr:Sl→Sl)=>XT (G0 P nt rd) T A G o l' H fun s H'=>Ke (G0 P nt rd) T nt A Z ops [] (Ce o.dst (wr s) l') H' K)=fun G l' wr=>XT (G0 P nt rd) T A G o l' H fun s H'=>K (Ce o.dst (wr s) l') H':=by
    funext G l' wr
    have:(fun s H'=>Ke (G0 P nt rd) T nt A Z ops [] (Ce o.dst (wr s) l') H' K)=fun s H'=>K (Ce o.dst (wr s) l') H':=by
     funext s H';unfold Ke;rfl
    rw[this]
   have e2:(fun l'=>Ke (G0 P nt rd) T nt A Z ops [] (Ce o.dst (.v (.tup [])) l') H K)=fun l'=>K (Ce o.dst (.v (.tup [])) l') H:=by
    funext l';unfold Ke;rfl
   rw[e,e2];exact h
  rename_i o2 rest' hrest
  split at h
  ·rename_i d t t2 x hp;obtain⟨p1,p2,p3,p4,p5,p6,p7⟩:=UK hp
   have hw:∀y,Region.wanted o y=true:=fun y=>by simp[Region.wanted,p3]
   rw[if_pos (hw _)]
   split at h
   ·rename_i cs hcs
    unfold Ak4 at hcs
    split at hcs
    ·rename_i I I2 hI hI2
     split at hcs
     ·rename_i z hz
      have ez:=(E9 hT hI).ze;rw[hz]at ez;simp only[Bm]at ez
      split at hcs
      ·rename_i hc;obtain⟨c1,c2,c3,c4⟩:=hc;cases hcs
       have hlen:i+1<ops.toList.length:=by
        rcases Nat.lt_or_ge (i+1) ops.toList.length with h'|h'
        ·exact h'
        rw[List.drop_eq_nil_of_le h']at hrest;cases hrest
       have hlen':i+1<ops.size:=by simpa using hlen
       have hdrop2:=List.drop_eq_getElem_cons hlen
       rw[hrest,Array.getElem_toList]at hdrop2
       have ho2:ops[i+1]=o2:=by injection hdrop2 with e _;exact e.symm
       have hr2:rest'=ops.toList.drop (i+2):=by injection hdrop2
       rw[hr2]at h
       obtain⟨m',rfl⟩:∃m',m=m'+1:=⟨m - 1,by omega⟩
       refine OI (A:=A) (K:=fun v H'=>∃id,v= .ref id 0∧H id=none∧H'=upd H id (some (.cells z.cells))) hR hF hd (by
        simp only[Gb,p1]
        exact .inl ⟨z,ez,c1,fun id hid=>⟨_,.refl _,id,rfl,hid,rfl⟩⟩) fun g1 w1 a1 v H1 s1 hR1 hF1 hK1=>?_
       obtain⟨id,rfl,hid,rfl⟩:=hK1;simp only[List.range'_succ,wpOpsIn,Array.getElem?_eq_getElem hlen',ho2];rw[if_pos (by simp[Region.wanted,p6])]
       have hev:ev ((F4 ⟨l,df⟩).put o.dst (.ref id 0)) x=(Q3 [] l x).V:=by
        rw[Dh (df:=df) Ih.nil,p2]
        cases x with
        |tmp t=>
         have:t≠d:=fun e=>p7 (by rw[e]);simp[ev,Fr.put,this]
        |const _=>rfl
        |global _=>rfl
        |func _=>rfl
       have hev2:ev ((F4 ⟨l,df⟩).put o.dst (.ref id 0)) (.tmp d)= .ref id 0:=by rw[p2];simp[ev,Fr.put]
       refine OI (A:=A) (K:=fun v H'=>H'=upd (upd H id (some (.cells z.cells))) id (some (.cells (S3 z.cells 0 (Q3 [] l x).V.cells)))) hR1 hF1 (by rw[p5];rfl) (by
        simp only[Gb,p4];refine .inl ⟨_,_,.refl _,?_,rfl⟩;simp only[Jt,(E9 hT hI2).sz,hev,hev2,B7]
        rw[if_pos ⟨c2,c3,by omega⟩]) fun g2 w2 a2 v2 H2 s2 hR2 hF2 hK2=>?_
       subst hK2;obtain⟨g3,s3,hR3,hv3⟩:=hR2.freeze (B7 _ _ _)
       rw[Bu,Rq _ _ _ hid]at hR3
       refine ih m' (by omega) (i+2) _ H (by omega) h g3 w2 a2 (((s.trans s1).trans s2).trans s3) hR3 ?_
       rw[p5,p2]at hF2
       have hF3:=hF2.mono s3;have e1:=K8 (df:=df) l (some d) (.v (.eref (S3 z.cells 0 (Q3 [] l x).V.cells) 0))
       rw[show Ce (some d) (.v (.eref (S3 z.cells 0 (Q3 [] l x).V.cells) 0)) l=(d,.v (.eref (S3 z.cells 0 (Q3 [] l x).V.cells) 0))::l from rfl]at e1
       rw[e1];refine⟨hF3.size,fun q=>?_,hF3.df⟩;have hq:=hF2.s q;have hq3:=hF3.s q
       simp only[Fr.put]at hq hq3 ⊢
       split
       ·rename_i e;rw[if_pos e]at hq;exact hv3 _ _ hq
       rename_i e;rw[if_neg e]at hq3;exact hq3
      cases hcs
     cases hcs
    cases hcs
   exact h.elim
  exact guarded hd hrest.symm h
end
end Go.Ab
