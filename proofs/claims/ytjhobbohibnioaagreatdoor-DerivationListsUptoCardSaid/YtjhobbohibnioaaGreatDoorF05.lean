/- . -/
import Derived.Test.YtjhobbohibnioaaGreatDoorF04
set_option linter.all false
namespace Go.Ab
open Go.RowKit
variable [O5]
structure Aw6 where
 sz:Nat
 by_:Nat
 ag:Bool
 sl:Option Nat
 ar:Option (Nat×Nat)
 fs:List (Option (Nat×Nat))
 pl:Option (List (Nat×Nat))
 ze:Option V
 ek:Option (List Nat)
 st:Bool
 bo:Bool
 ik:Option IntKind
 nif:Bool
def Au9 (P:Program)(t:TypeId):Nat→List (Option (Nat×Nat))→Prop
 |_,[]=>True
 |i,some p::l=>fdO P t i=some p∧Au9 P t (i+1) l
 |i,none::l=>Au9 P t (i+1) l
def Cs {α:Type}(o:Option α)(p:α→Prop):Prop:=
 match o with
 |some x=>p x
 |none=>True
structure Bb0 (P:Program) (t:TypeId) (I:Aw6):Prop where
 sz:GS P t=some I.sz
 by_:TZ P t=some I.by_
 ag:ZH P t=some I.ag
 sl:HG P t=I.sl
 ar:arO P t=I.ar
 fs:Au9 P t 0 I.fs
 pl:Cs I.pl fun l=>Pm P t=some l
 ze:Cs I.ze fun z=>JD P t=some z
 ek:Cs I.ek fun k=>GM P 9 t=some k
 st:VT P t=I.st
 bo:I.bo=true→Ao3 (P.underlying t)=true
 ik:Cs I.ik fun k=>P.underlying t=some (.int k)
 nif:I.nif=true→ifO P t=false
abbrev Ih:=List (Nat×Aw6)
def Lc (P:Program):Ih→Prop
 |[]=>True
 |(t,I)::l=>Bb0 P t I∧Lc P l
def tg:Ih→Nat→Option Aw6
 |[],_=>none
 |(k,I)::l,t=>match Nat.beq t k with|true=>some I|false=>tg l t
theorem I4 {P:Program} {T:Ih} (h:Lc P T) {t:Nat} {I:Aw6} (hg:tg T t=some I):Bb0 P t I:=by
 induction T with
 |nil=>cases hg
 |cons p l ih=>
  obtain⟨k,J⟩:=p
  simp only[tg]at hg
  split at hg
  ·simp_all[Lc]
  exact ih h.2 hg
theorem Wz {P:Program}{t:TypeId}:∀(l:List (Option (Nat×Nat))) (i j:Nat) (p:Nat×Nat),Au9 P t i l→l[j]? =some (some p)→fdO P t (i+j)=some p
 |[],_,_,_,_,h=>by simp at h
 |some q::l,i,0,p,ho,h=>by simp_all[Au9]
 |none::l,i,0,p,ho,h=>by simp at h
 |some q::l,i,j+1,p,ho,h=>by have:=Wz l (i+1) j p ho.2 (by grind);rwa[show i+(j+1)=i+1+j by omega]
 |none::l,i,j+1,p,ho,h=>by have:=Wz l (i+1) j p ho (by grind);rwa[show i+(j+1)=i+1+j by omega]
inductive Sl where
 |v (x:V)
 |b (c:Bool)
 |g (j:Nat) (w:Bool) (x:V)
def Sl.V:Sl→V
 | .v x=>x
 | .b c=>.bool c
 | .g _ _ x=>x
def Sl.n:Sl→Sl
 | .g _ _ x=>.v x
 |s=>s
abbrev Fl:=List (Nat×Sl)
def lk:Fl→Nat→Sl
 |[],_=>.v .bad
 |(k,x)::l,t=>match Nat.beq t k with|true=>x|false=>lk l t
def isB (v:V)(w:Bool):Bool:=
 match v with
 | .bool c=>c==w
 |_=>false
def CA:Fl→Nat→V
 |[],_=>.bad
 |(k,s)::l,t=>
  match Nat.beq t k with
  |true=>(match s with| .v x=>x| .b c=>.bool c| .g j w x=>bif isB (CA l j) w then x else .tup [])
  |false=>CA l t
def slV (l:Fl):Sl→V
 | .v x=>x
 | .b c=>.bool c
 | .g j w x=>bif isB (CA l j) w then x else .tup []
def Av0:Fl→Nat→Nat→Bool
 |[],_,_=>false
 |(k,_)::l,t,j=>match Nat.beq k j with|true=>false|false=>(match Nat.beq k t with|true=>true|false=>Av0 l t j)
def AG2:List (Nat×Bool)→Nat→Bool→Bool
 |[],_,_=>false
 |(j,w)::G,j',w'=>match Nat.beq j j'&&(w==w')with|true=>true|false=>AG2 G j' w'
def Yn (G:List (Nat×Bool)) (l:Fl) (t:Nat):Option Sl:=
 match lk l t with
 | .g j w x=>
  (match Av0 l t j with
   | true=>
    (match AG2 G j w with
     |true=>some (.v x)
     |false=>(match lk l j with| .b c=>(match c==w with|true=>some (.v x)|false=>some (.v (.tup [])))|_=>none))
   |false=>none)
 |s=>some s
def AO1 (G:List (Nat×Bool))(l:Fl)(t:Nat):Sl:=
 match Yn G l t with
 |some s=>s
 |none=>.v (CA l t)
def Oe:Fl→Nat→Bool→Fl
 |[],_,_=>[]
 |(k,s)::l,d,c=>match Nat.beq d k with|true=>(k,.b c)::l|false=>(k,s)::Oe l d c
structure St where
 l:Fl
 df:List Nat
def PG (op:BinOp)(a b:Int):Bool:=
 match op with
 | .eql=>a==b
 | .neq=>a !=b
 | .lss=>decide (a<b)
 | .leq=>decide (a≤b)
 | .gtr=>decide (a>b)
 | .geq=>decide (a≥b)
 |_=>false
def arI (op:BinOp)(k:IntKind)(a b:Int):Int:=
 match op with
 | .add=>k.wrap (a+b)
 | .sub=>k.wrap (a-b)
 | .mul=>k.wrap (a*b)
 | .quo=>k.wrap (a.tdiv b)
 | .rem=>a.tmod b
 | .and=>k.wrap (BitVec.ofInt k.bits a&&&BitVec.ofInt k.bits b).toNat
 | .or=>k.wrap (BitVec.ofInt k.bits a|||BitVec.ofInt k.bits b).toNat
 | .xor=>k.wrap (BitVec.ofInt k.bits a ^^^ BitVec.ofInt k.bits b).toNat
 | .andNot=>k.wrap (BitVec.ofInt k.bits a&&& ~~~(BitVec.ofInt k.bits b)).toNat
 |_=>0
def shI (op:BinOp)(k:IntKind)(a b:Int):Int:=
 match op with
 | .shl=>k.wrap (a*2 ^ (min b.toNat k.bits))
 |_=>a.fdiv (2 ^ (min b.toNat k.bits))
def Ba3 (op:BinOp)(x y:ByteArray):Bool:=
 match op with
 | .eql=>x.toList==y.toList
 | .neq=> !(x.toList==y.toList)
 | .lss=>Op.bytesLess x.toList y.toList
 | .leq=>Op.bytesLess x.toList y.toList||x.toList==y.toList
 | .gtr=> !(Op.bytesLess x.toList y.toList||x.toList==y.toList)
 | .geq=> !Op.bytesLess x.toList y.toList
 |_=>false
class Ar where
 cmp:BinOp→Int→Int→Bool
 cmp_eq:∀op a b,cmp op a b=PG op a b
 ar:BinOp→IntKind→Int→Int→Int
 ar_eq:∀op k a b,ar op k a b=arI op k a b
 sh:BinOp→IntKind→Int→Int→Int
 sh_eq:∀op k a b,sh op k a b=shI op k a b
 neg:IntKind→Int→Int
 neg_eq:∀k n,neg k n=k.wrap (0-n)
 wr:IntKind→Int→Int
 wr_eq:∀k n,wr k n=k.wrap n
 scmp:BinOp→ByteArray→ByteArray→Bool
 scmp_eq:∀op a b,scmp op a b=Ba3 op a b
 cat:ByteArray→ByteArray→ByteArray
 cat_eq:∀a b,cat a b=a++b
 slen:ByteArray→Int
 slen_eq:∀s,slen s=s.size
 sat:ByteArray→Int→Int
 sat_eq:∀s i,sat s i=match s[i.toNat]? with|some b=>(b.toNat:Int)|none=>0
 beq:Bool→Bool→Bool
 beq_eq:∀a b,beq a b=(a==b)
 nt:Bool→Bool
 nt_eq:∀a,nt a= !a
 an:Bool→Bool→Bool
 an_eq:∀a b,an a b=(a&&b)
 or:Bool→Bool→Bool
 or_eq:∀a b,or a b=(a||b)
 pk:Bool→Bool→Bool→Bool
 pk_eq:∀c a b,pk c a b=if c then a else b
 mx:Int→Int→Int
 mx_eq:∀a b,mx a b=if a<b then b else a
 mn:Int→Int→Int
 mn_eq:∀a b,mn a b=if b<a then b else a
 ofs:Int→Int→Int
 ofs_eq:∀a b,ofs a b=a+b
 ofN:Nat→Int
 ofN_eq:∀n,ofN n=n
 len:{α:Type}→List α→Int
 len_eq:∀{α:Type} (l:List α),len l=l.length
 lst:{α:Type}→(α→V)→List α→List V
 lst_eq:∀{α:Type} (f:α→V) (l:List α),lst f l=l.map f
variable [Ar]
structure Fo where
 ln:List V→(Int→Prop)→Prop
 br:Bool→(Unit→Prop)→(Unit→Prop)→Prop
 need:Prop→(Unit→Prop)→Prop
 needB:Bool→(Unit→Prop)→Prop
 idx:List V→Int→(V→Prop)→Prop
 aidx:Int→Nat→(Nat→Prop)→Prop
 elem:List V→Nat→Nat→Nat→Int→(V→Prop)→Prop
 slice:Nat→List V→G6→Option Int→Option Int→Option Int→(V→Prop)→Prop
 call:V→List V→A5→(V→A5→Prop)→Prop
 pcall:A5→V→List V→(V→Prop)→Prop
 load:A5→Nat→(List V→Prop)→Prop
 store:A5→Nat→Nat→Nat→List V→(A5→Prop)→Prop
 storeP:A5→Nat→Nat→Nat→List V→(A5→Prop)→Prop
 alloc:A5→List V→(Nat→A5→Prop)→Prop
 oalloc:Nat→A5→(Nat→A5→Prop)→Prop
 frz:A5→Nat→(List V→A5→Prop)→Prop
 frzL:A5→Nat→(List V→A5→Prop)→Prop
 frzIn:A5→Nat→Nat→(A5→Prop)→Prop
 adoptIn:A5→Nat→Nat→(A5→Prop)→Prop
 wkB:A5→Nat→(A5→Prop)→Prop
 give:A5→Nat→List V→(A5→Prop)→Prop
 olen:Int→(Int→Prop)→Prop
 ocap:A5→Nat→Int→(Int→Prop)→Prop
 oidx:A5→Nat→Nat→Int→Int→Int→(Int→Prop)→Prop
 oload:A5→Nat→Int→(V→Prop)→Prop
 ostore:A5→Nat→Int→Nat→Nat→Nat→V→(A5→Prop)→Prop
 omk:Nat→Nat→V→Int→Int→A5→(V→A5→Prop)→Prop
 oapp:Nat→Nat→V→A5→V→V→(V→A5→Prop)→Prop
 oappz:Nat→Nat→V→A5→V→Int→(V→A5→Prop)→Prop
 oapps:Nat→V→A5→V→ByteArray→(V→A5→Prop)→Prop
 onil:Nat→A5→(V→A5→Prop)→Prop
 olit:Nat→A5→List V→(V→A5→Prop)→Prop
 ostr:Nat→Nat→A5→V→(V→Prop)→Prop
 mmk:A5→(V→A5→Prop)→Prop
 mget:Nat→A5→V→V→Bool→(V→Prop)→Prop
 mset:Nat→A5→V→V→V→(A5→Prop)→Prop
 mrg:Nat→A5→V→(V→A5→Prop)→Prop
 mnx:A5→V→(V→A5→Prop)→Prop
 men:A5→V→(V→A5→Prop)→Prop
 mdel:List Nat→A5→List V→(V→A5→Prop)→Prop
 oslice:Nat→A5→Nat→Int→Int→Option Int→Option Int→Option Int→(V→Prop)→Prop
 ocopy:Nat→A5→V→V→(V→A5→Prop)→Prop
 oclear:Nat→V→A5→V→(A5→Prop)→Prop
 ofrz:A5→Nat→Int→Int→(List V→A5→Prop)→Prop
 nilc:V→(Unit→Prop)→(Unit→Prop)→Prop
 appn:Nat→Nat→A5→G6→List V→List V→(V→A5→Prop)→Prop
 takeT:A5→(G6→A5→Prop)→Prop
 nameT:A5→(G6→A5→Prop)→Prop
 appq:Nat→Nat→List V→List V→(V→Prop)→Prop
 appw:Nat→Nat→A5→G6→List V→List V→(V→A5→Prop)→Prop
 sim:Code→St→A5→(Exit→St→A5→Prop)→Prop
 fin:List Nat→A5→(A5→Prop)→Prop
def I9 (st:St):Fr:=⟨fun t=>CA st.l t,st.df⟩
structure GJ (fr:Fr) (st:St):Prop where
 s:∀t,Wk (fr.s t) (CA st.l t)
 df:fr.df=st.df
def I5 (P:Program) (nt:Nat) (rd:Option Nat):Fo where
 ln:=fun l k=>k l.length
 br:=fun c x y=>(c=true→x ())∧(c=false→y ())
 need:=fun p k=>p∧k ()
 needB:=fun b k=>b=true∧k ()
 idx:=fun xs i k=>(0≤i∧i<xs.length)∧k (xs.getD i.toNat .bad)
 aidx:=fun i n k=>(0≤i∧i<n)∧k i.toNat
 elem:=fun cs off sz n i k=>(0≤i∧i<n∧off+n*sz≤cs.length)∧k (.eref ((cs.drop (off+i.toNat*sz)).take sz) 0)
 slice:=fun sz xs tl lo hi mx k=>
  (0≤lo.getD 0∧lo.getD 0≤hi.getD xs.length∧hi.getD xs.length≤mx.getD xs.length∧mx.getD xs.length≤xs.length∧(mx.isSome=true→hi.isSome=true)∧
   (lo.getD 0≤0∨xs.all (fun x=>x.cells.length==sz)=true))∧
  k (.sl ((xs.drop (lo.getD 0).toNat).take ((hi.getD xs.length).toNat-(lo.getD 0).toNat)) (Jr (lo.getD 0).toNat (hi.getD xs.length).toNat xs.length mx tl))
 call:=Cw P
 pcall:=fun H fv args k=>∃v,QI P fv args H v∧k v
 load:=fun H id k=>∃cs,H id=some (.cells cs)∧k cs
 store:=fun H id off sz vs k=>∃cs vs',M1 vs vs'∧H id=some (.cells cs)∧Nat.ble (off+sz) cs.length=true∧k (upd H id (some (.cells (Z0 cs off vs'))))
 storeP:=fun H id off sz vs k=>∃cs,H id=some (.cells cs)∧Nat.ble (off+sz) cs.length=true∧k (upd H id (some (.cells (Z0 cs off vs))))
 give:=fun H id cs k=>k (upd H id (some (.cells cs)))
 frz:=fun H id k=>∃cs,H id=some (.cells cs)∧k cs (upd H id none)
 frzL:=fun H id k=>∃cs ds,H id=some (.cells cs)∧M1 cs ds∧k ds (upd H id none)
 frzIn:=fun H id j k=>∃cs q lo n sz xs ys,H id=some (.cells cs)∧cs[j]? =some (.own q lo n)∧H q=some (.arr sz xs)∧M1 (R3 xs lo n) ys∧k (upd (upd H q none) id (some (.cells (cs.set j (.sl ys .ro)))))
 adoptIn:=fun H id j k=>∃cs sz,H id=some (.cells cs)∧cs[j]? =some (.sl [] .nil)∧∀q,H q=none→k (upd (upd H q (some (.arr sz []))) id (some (.cells (cs.set j (.own q 0 0)))))
 wkB:=fun H id k=>∃cs ds,H id=some (.cells cs)∧M1 cs ds∧k (upd H id (some (.cells ds)))
 alloc:=fun H cs k=>∀id,H id=none→k id (upd H id (some (.cells cs)))
 oalloc:=fun sz H k=>∀q id,H q=none→upd H q (some (.arr sz [])) id=none→k id (upd (upd H q (some (.arr sz []))) id (some (.cells [.own q 0 0])))
 olen:=fun n k=>k n
 ocap:=fun H id lo k=>∃sz xs,H id=some (.arr sz xs)∧k ((xs.length:Nat)-lo)
 oidx:=fun H id sz lo n i k=>(∃xs,H id=some (.arr sz xs))∧(0≤i∧i<n)∧k (Ar.ofs lo i)
 oload:=fun H id i k=>∃sz xs,H id=some (.arr sz xs)∧(0≤i∧i<(xs.length:Nat))∧k (xs.getD i.toNat .bad)
 ostore:=fun H id i esz sz off y k=>∃xs y',Dx y y'∧y'.one=true∧y'.cells.length=sz∧off+sz≤esz∧H id=some (.arr esz xs)∧(0≤i∧i<(xs.length:Nat))∧k (upd H id (some (.arr esz (xs.set i.toNat (Wi (xs.getD i.toNat .bad) esz sz off y')))))
 omk:=fun sz by_ z n m H k=>(0≤n∧n≤m∧m*(by_:Nat)≤281474976710656)∧∃ys,M1 (List.replicate m.toNat z) ys∧∀id,H id=none→k (.own id 0 n) (upd H id (some (.arr sz ys)))
 onil:=fun sz H k=>∀q,H q=none→k (.own q 0 0) (upd H q (some (.arr sz [])))
 olit:=fun sz H xs k=>∃ys,M1 xs ys∧∀q,H q=none→k (.own q 0 (xs.length:Nat)) (upd H q (some (.arr sz ys)))
 ostr:=fun s d H x k=>∃v,Vx P H s d x v∧k v
 mmk:=fun H k=>AE6 H k
 mget:=fun t H x key ok k=>∃v,Ng P H t x key ok v∧k v
 mset:=fun t H x key v k=>MO P H (fun _ H'=>k H') t x key v
 mrg:=fun t H x k=>Ok P H k t x
 mnx:=fun H x k=>Ta H k x
 men:=fun H x k=>OD H k x
 mdel:=fun ts H vs k=>AS6 P H k ts vs
 oapp:=fun sz by_ z H x y k=>∃ys',Uf sz H y ys'∧GX H k sz by_ z x ys'
 oappz:=fun sz by_ z H x m k=>(0≤m∧(ownN x+m.toNat)*by_≤140737488355328)∧GX H k sz by_ z x (List.replicate m.toNat z)
 oapps:=fun by_ z H x s k=>GX H k 1 by_ z x (GL s)
 oslice:=fun sz H id l n lo hi mx k=>∃xs,H id=some (.arr sz xs)∧
  (0≤lo.getD 0∧lo.getD 0≤hi.getD n∧hi.getD n≤mx.getD ((xs.length:Nat)-l)∧mx.getD ((xs.length:Nat)-l)≤(xs.length:Nat)-l∧(mx.isSome=true→hi.isSome=true))∧
  k (match mx with|none=>.own id (l+lo.getD 0) (hi.getD n-lo.getD 0)|some _=>.bad)
 ocopy:=fun sz H x y k=>
  match x with
  | .own id lo n=>∃xs ys',H id=some (.arr sz xs)∧Uf sz H y ys'∧
   k (.int .i64 (if n<(ys'.length:Nat)then n else(ys'.length:Nat))) (upd H id (some (.arr sz (DA xs lo.toNat (ys'.take n.toNat)))))
  |_=>False
 oclear:=fun sz z H x k=>
  match x with
  | .own id lo n=>∃xs,H id=some (.arr sz xs)∧k (upd H id (some (.arr sz (DA xs lo.toNat (List.replicate n.toNat z)))))
  |_=>False
 nilc:=fun x a b=>∃p,At1 x=some p∧(p→a ())∧b ()
 ofrz:=fun H id lo n k=>∃sz xs ys,H id=some (.arr sz xs)∧M1 (R3 xs lo n) ys∧k ys (upd H id none)
 takeT:=fun H k=>∃τ,Kd H τ∧k τ (M0 H τ)
 nameT:=fun H k=>(∀tl,tl= .nil∨tl= .full→k tl H)∧∀t,H t=none→k (.tok t) (upd H t (some .spare))
 appn:=fun sz by_ H tl xs ys k=>∃xs' ys',M1 xs xs'∧M1 ys ys'∧Kd H tl∧xs'.all (fun x=>x.cells.length==sz)=true∧ys'.all (fun x=>x.cells.length==sz)=true∧(xs'.length+ys'.length)*by_≤140737488355328∧(ys'=[]→k (.sl xs' tl) H)∧
  ∀t,ys'≠[]→M0 H tl t=none→k (.sl (xs'++ys') (.tok t)) (upd (M0 H tl) t (some .spare))
 appq:=fun sz by_ xs ys k=>∃xs' ys',M1 xs xs'∧M1 ys ys'∧xs'.all (fun x=>x.cells.length==sz)=true∧ys'.all (fun x=>x.cells.length==sz)=true∧(xs'.length+ys'.length)*by_≤140737488355328∧k (.sl (xs'++ys') .ro)
 appw:=fun sz by_ H tl xs ys k=>∃xs' ys',M1 xs xs'∧M1 ys ys'∧Kd H tl∧xs'.all (fun x=>x.cells.length==sz)=true∧ys'.all (fun x=>x.cells.length==sz)=true∧(xs'.length+ys'.length)*by_≤140737488355328∧k (.sl (xs'++ys') .ro) (M0 H tl)
 sim:=fun c st H K=>Aa P nt rd c (I9 st) H fun e fr' H'=>∃st',GJ fr' st'∧K e st' H'
 fin:=fun df H k=>AS5 H df∧k (clear H df)
section
variable (E:Fo)(T:Ih)
def V5 (G:List (Nat×Bool))(l:Fl):Operand→Sl
 | .tmp t=>AO1 G l t
 | .const (.bool b)=>.b b
 | .const v=>.v (cv v)
 | .global n=>.v (O5.gl n)
 | .func f=>.v (.func (.func f) [] [])
def Ah7 (t:Nat) (v:V) (H:A5) (k:V→Prop):Prop:=
 match tg T t with
 |none=>False
 |some I=>
  match v with
  | .eref cs off=>(match GT I.ag I.sz cs off with|some y=>k y|none=>False)
  | .ref id off=>E.load H id fun cs=>(match GT I.ag I.sz cs off with|some y=>k y|none=>False)
  | .elem id i _ off=>E.oload H id i fun x=>(match GT I.ag I.sz x.cells off with|some y=>k y|none=>False)
  |_=>False
def LO (o:Option V)(k:V→Prop):Prop:=
 match o with
 |some y=>k y
 |none=>False
def NV (t:Nat)(v:V)(f:Nat)(k:V→Prop):Prop:=
 match tg T t with
 |none=>False
 |some I=>(match I.fs[f]? with|some (some p)=>LO (Aw5 v p.1) k|_=>False)
def ZU (t:Nat) (v:V) (f:Nat) (k:V→Prop):Prop:=
 match tg T t with
 |none=>False
 | some I=>
  match I.fs[f]? with
  | some (some p)=>
   (match tg T p.2 with
    |none=>False
    |some J=>(match v with| .agg cs=>LO (GT J.ag J.sz cs p.1) k|_=>False))
  |_=>False
def NU (t:Nat) (v:V) (i:V) (k:V→Prop):Prop:=
 match i with
 | .int _ i=>
  (match tg T t with
   |none=>False
   | some I=>
    match I.sl with
    | some e=>
     (match tg T e with
      |none=>False
      |some J=>
       match v with
       | .sl xs _=>E.idx xs i fun x=>(match Nat.beq x.cells.length J.sz with|true=>k (.eref x.cells 0)|false=>False)
       |_=>False)
    |none=>
     match I.ar with
     |some (n,e)=>(match tg T e with|none=>False|some J=>(match v with| .eref cs off=>E.elem cs off J.sz n i k|v=>E.aidx i n fun m=>LO (Aw5 v (m*J.sz)) k))
     |none=>False)
 |_=>False
def ZT (t:Nat) (v:V) (i:V) (k:V→Prop):Prop:=
 match i with
 | .int _ i=>
  (match tg T t with
   |none=>False
   |some I=>
    match I.ar with
    |some (n,e)=>(match tg T e with|none=>False|some J=>(match v with| .agg cs=>E.aidx i n fun m=>LO (GT J.ag J.sz cs (m*J.sz)) k|_=>False))
    |none=>(match v with| .str s=>(match I.st with|true=>E.needB (Ar.an (Ar.cmp .geq i 0) (Ar.cmp .lss i (Ar.slen s))) fun _=>k (.int .u8 (Ar.sat s i))|false=>False)|_=>False))
 |_=>False
def xeq:List V→List V→Option Bool
 |[],[]=>some true
 |x::xs,y::ys=>
  match x,y with
  | .int k a,.int k' b=>if k=k' then(xeq xs ys).map (Ar.an (Ar.cmp .eql a b))else none
  | .str a,.str b=>(xeq xs ys).map (Ar.an (Ar.scmp .eql a b))
  | .bool a,.bool b=>(xeq xs ys).map (Ar.an (Ar.beq a b))
  |_,_=>none
 |_,_=>none
def Tw:BinOp→Bool
 | .eql| .neq| .lss| .leq| .gtr| .geq=>true
 |_=>false
def AF9:BinOp→Bool
 | .quo| .rem=>true
 |_=>false
def AQ7:BinOp→Bool
 | .add| .sub| .mul| .and| .or| .xor| .andNot=>true
 |_=>false
def AX6 (op:BinOp) (t:Nat) (x y:V) (k:V→Prop):Prop:=
 match x,y with
 | .int ka a,.int kb b=>
  (match Jl op with
   |true=>E.needB (Ar.cmp .geq b 0) fun _=>k (.int ka (Ar.sh op ka a b))
   | false=>
    if ka=kb then
     (match Tw op with
      |true=>k (.bool (Ar.cmp op a b))
      |false=>
       match AQ7 op with
       |true=>k (.int ka (Ar.ar op ka a b))
       |false=>(match AF9 op with|true=>E.needB (Ar.cmp .neq b 0) fun _=>k (.int ka (Ar.ar op ka a b))|false=>False))
    else False)
 | .str a,.str b=>
  (match Tw op with
   |true=>k (.bool (Ar.scmp op a b))
   |false=>(match op with| .add=>E.needB (Ar.cmp .leq (Ar.slen (Ar.cat a b)) 9223372036854775807) fun _=>k (.str (Ar.cat a b))|_=>False))
 | .bool a,.bool b=>
  (match tg T t with
   |none=>False
   |some I=>
    match I.bo with
    |true=>(match op with| .eql=>k (.bool (Ar.beq a b))| .neq=>k (.bool (Ar.nt (Ar.beq a b)))|_=>False)
    |false=>False)
 | .agg xs,.agg ys=>
  (match tg T t with
   |none=>False
   | some I=>
    if I.ag=true∧I.ek=some (xs.map kd)∧ys.map kd=xs.map kd then
     (match op with
      | .eql=>(match xeq xs ys with|some b=>k (.bool b)|none=>False)
      | .neq=>(match xeq xs ys with|some b=>k (.bool (Ar.nt b))|none=>False)
      |_=>False)
    else False)
 |_,_=>False
def xun (op:UnOp)(x:Sl)(k:Sl→Prop):Prop:=
 match op with
 | .not=>(match x with| .b c=>k (.b (!c))| .v (.bool c)=>k (.v (.bool (Ar.nt c)))|_=>False)
 | .neg=>(match x with| .v (.int ki n)=>k (.v (.int ki (Ar.neg ki n)))|_=>False)
 |_=>False
def Ay1 (s d:Nat) (x:V) (H:A5) (k:V→Prop):Prop:=
 match tg T s,tg T d with
 | some I,some J=>
  (match I.ik,J.ik,x with
   |some _,some ki,.int _ n=>k (.int ki (Ar.wr ki n))
   |_,_,.str b=>(match I.st,J.st with|true,true=>k (.str b)|_,_=>False)
   |_,_,.own id lo n=>E.ostr s d H (.own id lo n) k
   |_,_,.sl xs tl=>E.ostr s d H (.sl xs tl) k
   |_,_,_=>False)
 |_,_=>False
def ZW (t:Nat) (parts:List (Nat×V)) (k:V→Prop):Prop:=
 match tg T t with
 |none=>False
 | some I=>
  match I.ze with
  | some (.agg cs)=>
   (match I.ar with
    |some (_,e)=>(match tg T e with|none=>False|some J=>(match My (fun i=>some (i*J.sz,J.sz)) cs parts with|some c=>k (.agg c)|none=>False))
    |none=>(match I.pl with|some pl=>(match My (fun i=>pl[i]?) cs parts with|some c=>k (.agg c)|none=>False)|none=>False))
  |_=>False
def IS (t n:Nat) (parts:List (Nat×V)) (k:V→Prop):Prop:=
 match tg T t with
 |none=>False
 | some I=>
  match I.sl with
  |none=>False
  | some e=>
   match tg T e with
   |none=>False
   |some J=>
    match J.ze with
    |none=>False
    |some _=>if n*J.sz≤16777216∧parts.length=n∧CV J.sz 0 parts=true then k (.sl (parts.map fun q=>q.2) .full)else False
def ZS (t:Nat) (l c:V) (k:V→Prop):Prop:=
 match l,c with
 | .int _ n,.int _ m=>
  (match tg T t with
   |none=>False
   | some I=>
    match I.sl with
    |none=>False
    | some e=>
     match tg T e with
     |none=>False
     |some J=>
      match J.ze with
      |none=>False
      |some z=>if 0<J.sz∧0<J.by_∧z.one=true∧z.cells.length=J.sz∧n=m∧0≤n∧n*(J.by_:Nat)≤281474976710656 then k (.sl (List.replicate n.toNat z) .ro)else False)
 |_,_=>False
def ZP (t:Nat) (v:V) (lo hi mx:Option (Option Int)) (k:V→Prop):Prop:=
 match lo,hi,mx with
 | some l,some h,some m=>
  (match tg T t with
   |none=>False
   |some I=>
    match I.sl with
    |some e=>(match tg T e with|none=>False|some J=>(match v with| .sl xs tl=>E.slice J.sz xs tl l h m k|_=>False))
    |none=>False)
 |_,_,_=>False
def noPl:G6→Bool
 | .nil=>true
 | .full=>true
 |_=>false
def Qb (b:Builtin) (ts:List TypeId) (vs:List V) (k:V→Prop):Prop:=
 match b,ts,vs with
 | .len,[t],[x]=>
  (match tg T t with
   |none=>False
   | some I=>
    match I.sl with
    |some _=>(match x with| .sl xs _=>E.ln xs fun n=>k (.int .i64 n)|_=>False)
    |none=>
     match I.ar with
     |some (n,_)=>k (.int .i64 (Ar.ofN n))
     |none=>(match x with| .str s=>(match I.st with|true=>k (.int .i64 (Ar.slen s))|false=>False)|_=>False))
 | .max,_,[.int ka a,.int kb b]=>if ka=kb then k (.int ka (Ar.mx a b))else False
 | .min,_,[.int ka a,.int kb b]=>if ka=kb then k (.int ka (Ar.mn a b))else False
 | .append,[sT,yT],[.sl xs tl,.sl ys _]=>
  (match tg T sT,tg T yT with
   | some I,some I2=>
    (match I.sl,I2.sl with
     | some e,some _=>
      (match tg T e with
       | some J=>
        (match J.ze with
         |some z=>if 0<J.sz∧0<J.by_∧z.one=true∧z.cells.length=J.sz∧noPl tl=true then E.appq J.sz J.by_ xs ys k else False
         |none=>False)
       |none=>False)
     |_,_=>False)
   |_,_=>False)
 |_,_,_=>False
def Ba9 (c:Operand)(w:Bool)(G:List (Nat×Bool)):List (Nat×Bool):=
 match c with
 | .tmp d=>(d,w)::G
 |_=>G
def Ax6 (t:Bool)(x y:Sl)(k:Sl→Prop):Prop:=
 match x,y with
 | .b true,.b true=>k (.b true)
 | .b true,.b false=>k (.v (.bool t))
 | .b true,.v (.bool b)=>k (.v (.bool (Ar.or t b)))
 | .b false,.b true=>k (.v (.bool (Ar.nt t)))
 | .b false,.b false=>k (.b false)
 | .b false,.v (.bool b)=>k (.v (.bool (Ar.an (Ar.nt t) b)))
 | .v (.bool a),.b true=>k (.v (.bool (Ar.or (Ar.nt t) a)))
 | .v (.bool a),.b false=>k (.v (.bool (Ar.an t a)))
 | .v (.bool a),.v (.bool b)=>k (.v (.bool (Ar.pk t a b)))
 |x,y=>E.br t (fun _=>k x) (fun _=>k y)
def AW4:V→Bool
 | .eref _ _=>true
 | .ref _ _=>true
 |_=>false
def Mr (v:V):Bool:=
 match v with
 | .sl [] .nil=>true
 |_=>false
def AQ6 (x:Operand):Bool:=
 match x with
 | .const (.slice _ _ _)=>true
 |_=>false
def Mq (G:List (Nat×Bool))(o:Oper)(l:Fl):Bool:=
 match o.op with
 | .move x=> !(AQ6 x)
 | .assign x=> !(AQ6 x)
 | .pick _ _ _=>true
 | .load _ x=>AW4 (V5 G l x).V
 | .fieldAddr _ x _=>AW4 (V5 G l x).V
 | .field _ _ _=>true
 | .build _ _=>true
 | .binOp op _ _ _ _=>Tw op||AQ7 op
 | .unOp _ _ _=>true
 | .extract _ _=>true
 | .call c=>(match c.callee with| .builtin .len=>true|_=>false)
 |_=>false
def AU4 (t:Nat) (H:A5) (id:Nat) (lo n:Int) (i:V) (k:V→Prop):Prop:=
 match i with
 | .int _ i=>
  (match tg T t with
   |none=>False
   |some I=>
    match I.sl with
    |some e=>(match tg T e with|none=>False|some J=>E.oidx H id J.sz lo n i fun j=>k (.elem id j J.sz 0))
    |none=>False)
 |_=>False
def Ax9 (b:Builtin) (ts:List TypeId) (H:A5) (v:V) (k:V→Prop):Prop:=
 match ts with
 | [t] =>
  (match tg T t with
   |none=>False
   | some I=>
    (match I.sl with
     | some _=>
      (match b,v with
       | .len,.own _ _ n=>E.olen n fun n=>k (.int .i64 n)
       | .cap,.own id lo _=>E.ocap H id lo fun n=>k (.int .i64 n)
       | .cap,.sl [] .nil=>k (.int .i64 0)
       | .cap,.sl [] .full=>k (.int .i64 0)
       |_,_=>False)
     |none=>False))
 |_=>False
def Ad1 (b:Builtin)(vs:List V):Option V:=
 match b,vs with
 | .len,[.own id lo n]=>some (.own id lo n)
 | .cap,[v]=>some v
 |_,_=>none
def VI (t:Nat) (H:A5) (id:Nat) (l n:Int) (lo hi mx:Option (Option Int)) (k:V→Prop):Prop:=
 match lo,hi,mx with
 | some a,some b,some c=>
  (match tg T t with
   |none=>False
   |some I=>(match I.sl with|some e=>(match tg T e with|none=>False|some J=>E.oslice J.sz H id l n a b c k)|none=>False))
 |_,_,_=>False
def xq (G:List (Nat×Bool)) (o:Oper) (l:Fl) (H:A5) (k:Sl→Prop):Prop:=
 match o.op with
 | .move x=>k (V5 G l x)
 | .assign x=>k (V5 G l x)
 | .pick c x y=>
  (match V5 G l c with
   | .b true=>k (V5 G l x)
   | .b false=>k (V5 G l y)
   | .v (.bool t)=>Ax6 E t (V5 (Ba9 c true G) l x) (V5 (Ba9 c false G) l y) k
   |_=>False)
 | .box _ x=>(match(V5 G l x).V.one with|true=>k (.v (.eref (V5 G l x).V.cells 0))|false=>False)
 | .build t ps=>ZW T t (ps.toList.map fun p=>(p.1,(V5 G l p.2).V)) fun v=>k (.v v)
 | .buildSlice t n ps=>IS T t n (ps.toList.map fun p=>(p.1,(V5 G l p.2).V)) fun v=>k (.v v)
 | .makeSlice t x y=>ZS T t (V5 G l x).V (V5 G l y).V fun v=>k (.v v)
 | .load t x=>Ah7 E T t (V5 G l x).V H fun v=>k (.v v)
 | .nilCheck x=>(match Ak3 (V5 G l x).V with|true=>k (V5 G l x)|false=>False)
 | .binOp op t x y _=>AX6 E T op t (V5 G l x).V (V5 G l y).V fun v=>k (.v v)
 | .unOp op _ x=>xun op (V5 G l x) k
 | .convert s d x=>Ay1 E T s d (V5 G l x).V H fun v=>k (.v v)
 | .lookup t x y ok=>E.mget t H (V5 G l x).V (V5 G l y).V ok fun v=>k (.v v)
 | .makeInterface t x=>(match tg T t with|some I=>(match I.nif with|true=>k (.v (.iface t (V5 G l x).V))|false=>False)|none=>False)
 | .makeFunc fn fs cs=>k (.v (.func fn (fs.toList.map fun x=>(V5 G l x).V) (cs.toList.map fun x=>(V5 G l x).V)))
 | .slice t x lo hi mx=>
  match(V5 G l x).V with
  | .own id l0 n=>VI E T t H id l0 n (Cj (lo.map fun x=>(V5 G l x).V)) (Cj (hi.map fun x=>(V5 G l x).V)) (Cj (mx.map fun x=>(V5 G l x).V)) fun v=>k (.v v)
  |v=>ZP E T t v (Cj (lo.map fun x=>(V5 G l x).V)) (Cj (hi.map fun x=>(V5 G l x).V)) (Cj (mx.map fun x=>(V5 G l x).V)) fun v=>k (.v v)
 | .fieldAddr t x f=>NV T t (V5 G l x).V f fun v=>k (.v v)
 | .field t x f=>ZU T t (V5 G l x).V f fun v=>k (.v v)
 | .indexAddr t x y=>(match(V5 G l x).V with| .own id lo n=>AU4 E T t H id lo n (V5 G l y).V fun v=>k (.v v)|v=>NU E T t v (V5 G l y).V fun v=>k (.v v))
 | .index t x y=>ZT E T t (V5 G l x).V (V5 G l y).V fun v=>k (.v v)
 | .extract x n=>(match(V5 G l x).V with| .tup cs=>LO cs[n]? fun v=>k (.v v)|_=>False)
 | .call c=>
  (match c.callee with
   | .builtin b=>
    (match Ad1 b (c.args.toList.map fun x=>(V5 G l x).V)with
     |some w=>Ax9 E T b c.argTypes.toList H w fun v=>k (.v v)
     |none=>Qb E T b c.argTypes.toList (c.args.toList.map fun x=>(V5 G l x).V) fun v=>k (.v v))
   |_=>False)
 |_=>False
end
end Go.Ab
namespace Go.Ab
open Go.RowKit
variable [O5][Ar]
section
variable {P:Program}{nt:Nat}{rd:Option Nat}{T:Ih}{l:Fl}{df:List Nat}{H:A5}
def MI (G:List (Nat×Bool))(l:Fl):Prop:=∀j w,AG2 G j w=true→isB (CA l j) w=true
theorem MI.nil:MI [] l:=fun j w h=>by simp[AG2]at h
theorem MI.add {G:List (Nat×Bool)}(h:MI G l){d:Nat}{w:Bool}(hd:isB (CA l d) w=true):MI ((d,w)::G) l:=by
 intro j w' hg
 simp only[AG2]at hg
 split at hg
 ·simp_all
 exact h j w' hg
theorem Ou:∀(l:Fl) (t:Nat) (s:Sl),lk l t=s→(∀j w x,s≠ .g j w x)→CA l t=s.V
 |[],t,s,h,_=>by grind[CA,Sl.V,lk]
 | (k,x)::l,t,s,h,hn=>by
  simp only[lk]at h
  simp only[CA]
  cases hb:Nat.beq t k with
  |true=>
   simp only[hb]at h
   subst h
   cases x with
   |v x=>rfl
   |b c=>rfl
   |g j w x=>simp_all
  |false=>simp only[hb]at h;exact Ou l t s h hn
theorem WB:∀(l:Fl) (t j:Nat) (w:Bool) (x:V),lk l t= .g j w x→Av0 l t j=true→CA l t=bif isB (CA l j) w then x else .tup []
 |[],_,_,_,_,_,h=>by simp[Av0]at h
 | (k,s)::l,t,j,w,x,h,hf=>by
  simp only[Av0]at hf
  simp only[lk]at h
  cases hj:Nat.beq k j with
  |true=>grind
  | false=>
   simp only[hj]at hf
   have hj':Nat.beq j k=false:=by
    cases e:Nat.beq j k with
    |false=>rfl
    |true=>simp_all
   have ej:CA ((k,s)::l) j=CA l j:=by simp_all[CA]
   rw[ej];simp only[CA]
   cases ht:Nat.beq t k with
   |true=>
    simp_all
   | false=>
    have ht':Nat.beq k t=false:=by
     cases e:Nat.beq k t with
     |false=>rfl
     |true=>simp_all
    simp only[ht',ht]at hf h ⊢
    exact WB l t j w x h hf
theorem Ml {G:List (Nat×Bool)} (hG:MI G l) {t:Nat} {s:Sl} (h:Yn G l t=some s):s.V=CA l t∧∀j w x,s≠ .g j w x:=by
 unfold Yn at h
 split at h
 ·rename_i j w x hl
  split at h
  ·rename_i hf;have e:=WB l t j w x hl hf
   split at h
   ·rename_i hg;cases h;rw[e,hG j w hg];simp[Sl.V]
   split at h
   ·rename_i c hc;have ec:=Ou l j _ hc (fun _ _ _ h=>by cases h)
    rw[ec]at e
    grind[Sl.V,isB]
   cases h
  cases h
 grind[Ou]
theorem Aj8 {G:List (Nat×Bool)}(hG:MI G l)(t:Nat):(AO1 G l t).V=CA l t:=by
 unfold AO1
 split
 ·grind[Ml]
 rfl
theorem FF {G:List (Nat×Bool)} (hG:MI G l) (x:Operand):(V5 G l x).V=ev (I9 ⟨l,df⟩) x:=by
 cases x with
 |tmp t=>exact Aj8 hG t
 |const v=>
  cases v<;>first|rfl|skip
 |global n=>rfl
 |func f=>rfl
theorem RU:∀(l:Fl) (d:Nat) (c:Bool),CA l d= .bool c→∀t,CA (Oe l d c) t=CA l t
 |[],_,_,_,_=>rfl
 | (k,s)::l,d,c,h,t=>by
  simp only[Oe]
  cases hd:Nat.beq d k with
  |true=>
   have e:=Fv hd
   simp_all[CA]
  |false=>
   have hl:CA l d= .bool c:=by simp_all[CA]
   have ih:=RU l d c hl
   simp_all[CA]
theorem Qv {d:Nat}{c:Bool}(h:CA l d= .bool c):I9 ⟨Oe l d c,df⟩=I9 ⟨l,df⟩:=by
 simp_all[I9,RU]
theorem EG {o:Option V}{k:V→Prop}(h:LO o k):∃y,o=some y∧k y:=by
 unfold LO at h
 grind
theorem LP (hT:Lc P T) {t:Nat} {v:V} {k:V→Prop} (h:Ah7 (I5 P nt rd) T t v H k):∃y,(Jj P H t v=some y∨NK P H t v=some y)∧k y:=by
 unfold Ah7 at h
 split at h
 ·exact h.elim
 rename_i I hI;have ok:=I4 hT hI
 split at h
 ·rename_i cs off
  split at h
  ·rename_i y hy;exact⟨y,.inl (by simp only[Jj,ok.ag,ok.sz];exact hy),h⟩
  grind
 ·rename_i id off;obtain⟨cs,hk,h⟩:=h
  split at h
  ·rename_i y hy;exact⟨y,.inl (by simp only[Jj,ok.ag,ok.sz,hk];exact hy),h⟩
  grind
 ·rename_i id i esz off;obtain⟨sz,xs,hk,hb,h⟩:=h
  split at h
  ·rename_i y hy;exact⟨y,.inr (by simp only[NK,ok.ag,ok.sz,Ig,hk];rw[A2 hb];exact hy),h⟩
  grind
 grind
theorem AW7 (hT:Lc P T){t f:Nat}{I:Aw6}{p:Nat×Nat}(hI:tg T t=some I)(hf:I.fs[f]? =some (some p)):fdO P t f=some p:=by
 have:=Wz I.fs 0 f p (I4 hT hI).fs hf
 rwa[K1]at this
theorem JE (hT:Lc P T){t f:Nat}{v:V}{k:V→Prop}(h:NV T t v f k):∃y,HW P t v f=some y∧k y:=by
 unfold NV at h
 grind[EG,HW,AW7]
theorem OU (hT:Lc P T) {t f:Nat} {v:V} {k:V→Prop} (h:ZU T t v f k):∃y,TF P t v f=some y∧k y:=by
 unfold ZU at h
 split at h
 ·exact h.elim
 rename_i I hI
 split at h
 ·rename_i p hp
  split at h
  ·exact h.elim
  rename_i J hJ
  split at h
  ·obtain⟨y,h1,h2⟩:=EG h;exact⟨y,by simp only[TF,AW7 hT hI hp,(I4 hT hJ).ag,(I4 hT hJ).sz];exact h1,h2⟩
  grind
 grind
theorem Qa (hT:Lc P T) {t:Nat} {v i:V} {k:V→Prop} (h:NU (I5 P nt rd) T t v i k):∃ki j u y,i= .int ki j∧Ed P t v j=some u∧Dx u y∧k y:=by
 unfold NU at h
 split at h
 ·rename_i ki j
  split at h
  ·exact h.elim
  rename_i I hI;have ok:=I4 hT hI;refine⟨ki,j,?_⟩
  split at h
  ·rename_i e he
   split at h
   ·exact h.elim
   rename_i J hJ;have okJ:=I4 hT hJ
   split at h
   ·rename_i xs tl;obtain⟨hb,h⟩:=h
    split at h
    ·rename_i hsz;refine⟨_,_,rfl,?_,.refl _,h⟩;simp only[Ed,ok.sl,he,okJ.sz];rw[A2 ⟨hb,by rw[Fv hsz]⟩]
    grind
   grind
  rename_i he
  split at h
  ·rename_i n e hae
   split at h
   ·exact h.elim
   rename_i J hJ
   split at h
   ·obtain⟨⟨hb1,hb2,hb3⟩,h⟩:=h;rename_i cs off
    have hle:off+j.toNat*J.sz+J.sz≤cs.length:=by
     have h1:j.toNat+1≤n:=by omega
     have h2:=G5 J.sz h1
     rw[E3,S5]at h2
     omega
    refine⟨_,_,rfl,?_,.sub hle,h⟩;simp only[Ed,ok.sl,he,ok.ar,hae,(I4 hT hJ).sz];rw[A2 ⟨hb1,hb2⟩];rfl
   obtain⟨hb,h⟩:=h;obtain⟨y,h1,h2⟩:=EG h;refine⟨y,y,rfl,?_,.refl _,h2⟩;simp only[Ed,ok.sl,he,ok.ar,hae,(I4 hT hJ).sz];rw[A2 hb];exact h1
  grind
 grind
theorem VM (hT:Lc P T) {t:Nat} {v i:V} {k:V→Prop} (h:ZT (I5 P nt rd) T t v i k):∃ki j y,i= .int ki j∧Qs P t v j=some y∧k y:=by
 unfold ZT at h
 split at h
 ·rename_i ki j
  split at h
  ·exact h.elim
  rename_i I hI;have ok:=I4 hT hI;refine⟨ki,j,?_⟩
  split at h
  ·rename_i n e hae
   split at h
   ·exact h.elim
   rename_i J hJ
   split at h
   ·obtain⟨hb,h⟩:=h;obtain⟨y,h1,h2⟩:=EG h;refine⟨y,rfl,?_,h2⟩;simp only[Qs,ok.ar,hae,(I4 hT hJ).ag,(I4 hT hJ).sz];rw[A2 hb];exact h1
   grind
  rename_i hae
  split at h
  ·split at h
   ·rename_i hs;obtain⟨hb,h⟩:=h;refine⟨_,rfl,?_,h⟩;rename_i str _
    have hb:0≤j∧j<(str.size:Nat):=by
     rw[Ar.an_eq,Ar.cmp_eq,Ar.cmp_eq,Ar.slen_eq]at hb
     grind[PG]
    simp only[Qs,ok.ar,hae,ok.st];rw[A2 ⟨hs,hb.1⟩,Ar.sat_eq]
    have hlt:j.toNat<str.size:=by omega
    simp[hlt]
   grind
  grind
 grind
theorem ZV:∀xs ys:List V,xeq xs ys=AM xs ys
 |[],[]=>rfl
 |[],_::_=>rfl
 |x::xs,[]=>by grind[xeq,AM]
 | x::xs,y::ys=>by
  have ih:=ZV xs ys
  have hAn:(Ar.an:Bool→Bool→Bool)=fun a b=>a&&b:=by funext a b;simp[Ar.an_eq]
  unfold xeq AM;rw[ih,hAn]
  cases x<;>cases y<;>simp only[JJ,Ar.cmp_eq,Ar.scmp_eq,Ar.beq_eq,PG,Ba3]<;>first
   |rfl
   |(cases AM xs ys<;>rfl)
   |(split<;>cases AM xs ys<;>rfl)
theorem Ae8 {op:BinOp}{ki:IntKind}{a b:Int}(h:Tw op=true):Ms op ki a b=some (.bool (Ar.cmp op a b)):=by
 rw[Ar.cmp_eq]
 cases op<;>simp[Tw]at h<;>rfl
theorem Au3 {op:BinOp}{ki:IntKind}{a b:Int}(h:AQ7 op=true):Ms op ki a b=some (.int ki (Ar.ar op ki a b)):=by
 rw[Ar.ar_eq]
 cases op<;>simp[AQ7]at h<;>rfl
theorem Ae7 {op:BinOp}{ki:IntKind}{a b:Int}(h:AF9 op=true)(hb:b≠0):Ms op ki a b=some (.int ki (Ar.ar op ki a b)):=by
 rw[Ar.ar_eq]
 cases op<;>simp[AF9]at h<;>simp[Ms,arI,hb]
theorem Aa4 {op:BinOp}{a b:ByteArray}(h:Tw op=true):Sz op a b=some (.bool (Ar.scmp op a b)):=by
 rw[Ar.scmp_eq]
 cases op<;>simp[Tw]at h<;>rfl
theorem Ar5 {op:BinOp}{ki:IntKind}{a b:Int}(h:Jl op=true)(hb:0≤b):SF op ki a b=some (.int ki (Ar.sh op ki a b)):=by
 rw[Ar.sh_eq]
 cases op<;>simp[Jl]at h<;>simp only[SF,shI]<;>rw[A0 (by omega)]
theorem So (hT:Lc P T) {op:BinOp} {t:Nat} {x y:V} {k:V→Prop} (h:AX6 (I5 P nt rd) T op t x y k):∃v,RN P op t x y=some v∧k v:=by
 unfold AX6 at h
 split at h
 ·rename_i ka a kb b
  split at h
  ·rename_i hs;obtain⟨hb,h⟩:=h
   have hb:0≤b:=by rw[Ar.cmp_eq]at hb;grind[PG]
   simp_all[RN,Ar5]
  rename_i hs
  split at h
  ·rename_i hk
   have e:RN P op t (.int ka a) (.int kb b)=Ms op ka a b:=by simp[RN,hs,hk]
   split at h
   ·grind[Ae8]
   split at h
   ·grind[Au3]
   split at h
   ·rename_i hc;obtain⟨hb,h⟩:=h
    have hb:b≠0:=by rw[Ar.cmp_eq]at hb;grind[PG]
    grind[Ae7]
   grind
  grind
 ·rename_i a b
  split at h
  ·rename_i hc;exact⟨_,Aa4 hc,h⟩
  split at h
  ·obtain⟨hb,h⟩:=h
   have hb:((a.size+b.size:Nat):Int)≤9223372036854775807:=by
    rw[Ar.cmp_eq,Ar.slen_eq,Ar.cat_eq]at hb
    have e:(a++b).size=a.size+b.size:=by simp
    rw[e]at hb
    grind[PG]
   simp_all[RN,Sz,Ar.cat_eq]
  grind
 ·rename_i a b
  split at h
  ·exact h.elim
  rename_i I hI
  split at h
  ·rename_i hbo;have hbo':=(I4 hT hI).bo hbo
   split at h
   ·simp_all[RN,Ar.beq_eq]
   ·simp_all[RN,Ar.beq_eq,Ar.nt_eq]
   grind
  grind
 ·rename_i xs ys
  split at h
  ·exact h.elim
  rename_i I hI;have ok:=I4 hT hI
  split at h
  ·rename_i hc;obtain⟨h1,h2,h3⟩:=hc
   have hek:GM P 9 t=some (xs.map kd):=by
    have:=ok.ek
    rw[h2]at this
    exact this
   have hcond:ZH P t=some true∧GM P 9 t=some (xs.map kd)∧ys.map kd=xs.map kd:=⟨by rw[ok.ag,h1],hek,h3⟩;cases op<;>try exact h.elim
   ·cases hx:xeq xs ys with
    |none=>simp_all
    |some b=>
     simp_all[ZV,RN]
   cases hx:xeq xs ys with
   |none=>simp_all
   |some b=>
    simp_all[ZV,RN,Ar.nt_eq]
  grind
 grind
theorem UE {op:UnOp}{x:Sl}{k:Sl→Prop}(h:xun op x k):∃s:Sl,unV op x.V=some s.V∧k s:=by
 unfold xun at h
 grind[unV,Sl.V,Ar.nt_eq,Ar.neg_eq]
theorem Xd (hT:Lc P T) {s d:Nat} {x:V} {H:A5} {k:V→Prop} (h:Ay1 (I5 P nt rd) T s d x H k):∃v,(Vw P s d x=some v∨Vx P H s d x v)∧k v:=by
 unfold Ay1 at h
 split at h
 ·rename_i I J hI hJ;have okI:=I4 hT hI;have okJ:=I4 hT hJ
  split at h
  ·rename_i ki kj n hi hj
   have e1:=okI.ik;rw[hi]at e1
   have e2:=okJ.ik;rw[hj]at e2
   simp_all[Cs,Vw,Ar.wr_eq]
  ·rename_i b _
   split at h
   ·rename_i h1 h2;have e1:=MR (okI.st.trans h1);have e2:=MR (okJ.st.trans h2)
    simp_all[Vw]
   grind
  ·obtain⟨v,h1,h2⟩:=h;grind
  ·obtain⟨v,h1,h2⟩:=h;grind
  grind
 grind
theorem OV (hT:Lc P T) {t:Nat} {parts:List (Nat×V)} {k:V→Prop} (h:ZW T t parts k):∃v,QD P t parts=some v∧k v:=by
 unfold ZW at h
 split at h
 ·exact h.elim
 rename_i I hI;have ok:=I4 hT hI
 split at h
 ·rename_i cs hz
  have ez:=ok.ze;rw[hz]at ez;simp only[Cs]at ez
  split at h
  ·rename_i n e ha
   split at h
   ·exact h.elim
   rename_i J hJ
   split at h
   ·rename_i c hc;exact⟨_,by simp only[QD,ok.ar,ha,ez,(I4 hT hJ).sz,hc];rfl,h⟩
   grind
  rename_i ha
  split at h
  ·rename_i pl hpl
   have ep:=ok.pl;rw[hpl]at ep;simp only[Cs]at ep
   split at h
   ·rename_i c hc;have hc':My (pl[·]?) cs parts=some c:=hc;exact⟨_,by simp only[QD,ok.ar,ha,ez,ep,hc'];rfl,h⟩
   grind
  grind
 grind
theorem IR (hT:Lc P T){t n:Nat}{parts:List (Nat×V)}{k:V→Prop}(h:IS T t n parts k):∃v,Bc P t n parts=some v∧k v:=by
 unfold IS at h
 split at h
 ·exact h.elim
 rename_i I hI
 split at h
 ·exact h.elim
 rename_i e he
 split at h
 ·exact h.elim
 rename_i J hJ
 split at h
 ·exact h.elim
 rename_i z hz
 have ez:=(I4 hT hJ).ze;rw[hz]at ez;simp only[Cs]at ez
 split at h
 ·rename_i hc;refine⟨_,?_,h⟩;simp only[Bc,(I4 hT hI).sl,he,(I4 hT hJ).sz,ez];rw[A2 hc]
 grind
theorem VL (hT:Lc P T) {t:Nat} {l c:V} {k:V→Prop} (h:ZS T t l c k):∃v,AE7 P t l c v∧k v:=by
 unfold ZS at h
 split at h
 ·split at h
  ·exact h.elim
  rename_i I hI
  split at h
  ·exact h.elim
  rename_i e he
  split at h
  ·exact h.elim
  rename_i J hJ
  split at h
  ·exact h.elim
  rename_i z hz
  have ez:=(I4 hT hJ).ze;rw[hz]at ez;simp only[Cs]at ez
  split at h
  ·rename_i hc;obtain⟨h1,h2,h3,h4,rfl,h6,h7⟩:=hc;exact⟨_,⟨_,_,_,e,J.sz,J.by_,z,rfl,rfl,by rw[(I4 hT hI).sl,he],(I4 hT hJ).sz,h1,(I4 hT hJ).by_,h2,ez,h3,h4,h6,h7,rfl⟩,h⟩
  grind
 grind
theorem VH (hT:Lc P T) {t:Nat} {v:V} {lo hi mx:Option (Option Int)} {k:V→Prop} (h:ZP (I5 P nt rd) T t v lo hi mx k):
 ∃a b c y,lo=some a∧hi=some b∧mx=some c∧SA P t v a b c=some y∧k y:=by
 unfold ZP at h
 split at h
 ·rename_i a b c;refine⟨a,b,c,?_⟩
  split at h
  ·exact h.elim
  rename_i I hI
  split at h
  ·rename_i e he
   split at h
   ·exact h.elim
   rename_i J hJ
   split at h
   ·obtain⟨hc,h⟩:=h;refine⟨_,rfl,rfl,rfl,?_,h⟩;simp only[SA,(I4 hT hI).sl,he,(I4 hT hJ).sz];rw[A2 hc]
   grind
  grind
 grind
theorem Uj (hT:Lc P T) {t id:Nat} {l0 n:Int} {lo hi mx:Option (Option Int)} {k:V→Prop} (h:VI (I5 P nt rd) T t H id l0 n lo hi mx k):
 ∃a b c y,lo=some a∧hi=some b∧mx=some c∧LW P H t (.own id l0 n) a b c=some y∧k y:=by
 unfold VI at h
 split at h
 ·rename_i a b c;refine⟨a,b,c,?_⟩
  split at h
  ·exact h.elim
  rename_i I hI
  split at h
  ·rename_i e he
   split at h
   ·exact h.elim
   rename_i J hJ;obtain⟨xs,hk,hc,h⟩:=h;refine⟨_,rfl,rfl,rfl,?_,h⟩;simp only[LW,(I4 hT hI).sl,he,(I4 hT hJ).sz,Ig,hk];rw[A2 ⟨trivial,hc⟩];rfl
  grind
 grind
theorem KP (hT:Lc P T) {b:Builtin} {ts:List TypeId} {vs:List V} {k:V→Prop} (h:Qb (I5 P nt rd) T b ts vs k):∃v,Dj P b ts vs v∧k v:=by
 unfold Qb at h
 split at h
 ·rename_i t x
  split at h
  ·exact h.elim
  rename_i I hI;have ok:=I4 hT hI
  split at h
  ·rename_i e he
   split at h
   ·exact⟨_,by simp only[Dj,Au0,ok.sl,he],h⟩
   grind
  rename_i he
  split at h
  ·rename_i n e ha;exact⟨_,by simp only[Dj,Au0,ok.sl,he,ok.ar,ha,Ar.ofN_eq],h⟩
  rename_i ha
  split at h
  ·split at h
   ·rename_i hs;exact⟨_,by simp only[Dj,Au0,ok.sl,he,ok.ar,ha,ok.st,hs,D1,Ar.slen_eq],h⟩
   grind
  grind
 ·grind[Ar.mx_eq,Dj]
 ·grind[Ar.mn_eq,Dj]
 ·rename_i sT yT xs tl ys tl'
  split at h
  ·rename_i I I2 hI hI2
   split at h
   ·rename_i e e2 he he2
    split at h
    ·rename_i J hJ
     split at h
     ·rename_i z hz
      have ez:=(I4 hT hJ).ze;rw[hz]at ez;simp only[Cs]at ez
      split at h
      ·rename_i hc;obtain⟨c1,c2,c3,c4,c5⟩:=hc;obtain⟨xs',ys',l1,l2,k1,k2,k3,k4⟩:=h;refine⟨_,⟨?_,e,J.sz,J.by_,z,xs',ys',(I4 hT hI).sl.trans he,by rw[(I4 hT hI2).sl,he2];rfl,(I4 hT hJ).sz,c1,(I4 hT hJ).by_,c2,ez,c3,c4,l1,l2,k1,k2,k3,rfl⟩,k4⟩;cases tl<;>first|exact .inl rfl|exact .inr rfl|cases c5
      grind
     grind
    grind
   grind
  grind
 grind
theorem QX {t:Bool}{x y:Sl}{k:Sl→Prop}(h:Ax6 (I5 P nt rd) t x y k):∃s:Sl,(t=true→s.V=x.V)∧(t=false→s.V=y.V)∧k s:=by
 unfold Ax6 at h
 split at h
 ·grind
 ·exact⟨_,fun e=>(by simp[Sl.V,e]),fun e=>(by simp[Sl.V,e]),h⟩
 ·grind[Sl.V,Ar.or_eq]
 ·grind[Sl.V,Ar.nt_eq]
 ·grind
 ·grind[Sl.V,Ar.nt_eq,Ar.an_eq]
 ·grind[Sl.V,Ar.nt_eq,Ar.or_eq]
 ·grind[Sl.V,Ar.an_eq]
 ·grind[Ar.pk_eq]
 obtain⟨h1,h2⟩:=h;cases t
 ·grind
 grind
theorem MI.arm {G:List (Nat×Bool)} (hG:MI G l) {c:Operand} {w:Bool} (h:ev (I9 ⟨l,df⟩) c= .bool w):MI (Ba9 c w G) l:=by
 cases c with
 |tmp d=>
  refine hG.add ?_;have:CA l d= .bool w:=h;rw[this];simp[isB]
 |const _=>exact hG
 |global _=>exact hG
 |func _=>exact hG
theorem QY (hT:Lc P T) {b:Builtin} {ts:List TypeId} {vs:List V} {w:V} {k:V→Prop} (hid:Ad1 b vs=some w) (h:Ax9 (I5 P nt rd) T b ts H w k):∃v,Ov P H b ts vs v∧k v:=by
 unfold Ad1 at hid
 unfold Ax9 at h
 split at hid
 ·cases hid
  split at h
  ·split at h
   ·exact h.elim
   rename_i I hI
   split at h
   ·rename_i e he;exact⟨_,by simp only[Ov,AP9,(I4 hT hI).sl,he],h⟩
   grind
  grind
 ·cases hid
  split at h
  ·split at h
   ·exact h.elim
   rename_i I hI
   split at h
   ·rename_i e he
    split at h
    ·simp_all
    ·obtain⟨sz,xs,hk,h⟩:=h;exact⟨_,by simp only[Ov,Ag8,(I4 hT hI).sl,he,Ig,hk];rfl,h⟩
    ·exact⟨_,by simp only[Ov,Ag8,(I4 hT hI).sl,he],h⟩
    ·exact⟨_,by simp only[Ov,Ag8,(I4 hT hI).sl,he],h⟩
    grind
   grind
  grind
 cases hid
theorem OQ (hT:Lc P T) {G:List (Nat×Bool)} (hG:MI G l) {o:Oper} {k:Sl→Prop} (h:xq (I5 P nt rd) T G o l H k):∃s:Sl,OP P o (ev (I9 ⟨l,df⟩)) H s.V∧k s:=by
 have E:∀x,(V5 G l x).V=ev (I9 ⟨l,df⟩) x:=fun x=>FF hG x;have Em:∀xs:List Operand,(xs.map fun x=>(V5 G l x).V)=xs.map (ev (I9 ⟨l,df⟩)):=fun xs=>V6 fun p _=>E p
 have Eo:∀x:Option Operand,(x.map fun x=>(V5 G l x).V)=x.map (ev (I9 ⟨l,df⟩)):=fun x=>by cases x<;>simp[E]
 have Ep:∀ps:List (Nat×Operand),(ps.map fun p=>(p.1,(V5 G l p.2).V))=ps.map fun p=>(p.1,ev (I9 ⟨l,df⟩) p.2):=fun ps=>V6 fun p _=>by rw[E]
 unfold xq at h
 unfold OP
 split at h<;>rename_i ho<;>simp only[ho]
 ·grind
 ·grind
 ·rename_i c x y
  split at h
  ·rename_i hc
   have:ev (I9 ⟨l,df⟩) c= .bool true:=by rw[←E,hc];rfl
   grind
  ·rename_i hc
   have:ev (I9 ⟨l,df⟩) c= .bool false:=by rw[←E,hc];rfl
   grind
  ·rename_i b hc
   have hb:ev (I9 ⟨l,df⟩) c= .bool b:=by rw[←E,hc];rfl
   obtain⟨s,h1,h2,h3⟩:=QX h;refine⟨s,?_,h3⟩;simp only[hb];cases b
   ·simp only[J7,G4];rw[h2 rfl];exact FF (hG.arm hb) _
   simp only[D1];rw[h1 rfl];exact FF (hG.arm hb) _
  grind
 ·split at h
  ·rename_i h1;rw[E]at h1;exact⟨_,⟨h1,by rw[E];rfl⟩,h⟩
  grind
 ·obtain⟨v,h1,h2⟩:=OV hT h
  rw[Ep]at h1;exact⟨.v v,h1,h2⟩
 ·obtain⟨v,h1,h2⟩:=IR hT h
  rw[Ep]at h1;exact⟨.v v,h1,h2⟩
 ·obtain⟨v,h1,h2⟩:=VL hT h
  rw[E,E]at h1;exact⟨.v v,h1,h2⟩
 ·obtain⟨v,h1,h2⟩:=LP hT h
  rw[E]at h1;exact⟨.v v,h1,h2⟩
 ·grind
 ·obtain⟨v,h1,h2⟩:=So hT h
  rw[E,E]at h1;exact⟨.v v,h1,h2⟩
 ·grind[UE]
 ·obtain⟨v,h1,h2⟩:=Xd hT h
  rw[E]at h1;exact⟨.v v,h1,h2⟩
 ·obtain⟨v,h1,h2⟩:=h
  rw[E,E]at h1;exact⟨.v v,h1,h2⟩
 ·split at h
  ·rename_i I hI
   split at h
   ·rename_i hn;exact⟨_,⟨(I4 hT hI).nif hn,by rw[E];rfl⟩,h⟩
   grind
  grind
 ·grind[Sl.V]
 ·split at h
  ·rename_i id l0 n hx;obtain⟨a,b,c,y,h1,h2,h3,h4,h5⟩:=Uj hT h
   rw[Eo]at h1 h2 h3
   rw[E]at hx
   exact⟨.v y,by simp only[h1,h2,h3,hx];exact .inr h4,h5⟩
  obtain⟨a,b,c,y,h1,h2,h3,h4,h5⟩:=VH hT h
  rw[Eo]at h1 h2 h3
  rw[E]at h4
  exact⟨.v y,by simp only[h1,h2,h3];exact .inl h4,h5⟩
 ·obtain⟨v,h1,h2⟩:=JE hT h
  rw[E]at h1;exact⟨.v v,h1,h2⟩
 ·obtain⟨v,h1,h2⟩:=OU hT h
  rw[E]at h1;exact⟨.v v,h1,h2⟩
 ·split at h
  ·rename_i id lo n hx
   unfold AU4 at h
   split at h
   ·rename_i i hi
    split at h
    ·exact h.elim
    rename_i I hI
    split at h
    ·rename_i e he
     split at h
     ·exact h.elim
     rename_i J hJ;obtain⟨⟨xs,hk⟩,hb,h⟩:=h
     rw[E]at hx hi
     refine⟨.v _,?_,h⟩;simp only[hi,hx];refine .inr ?_;simp only[Af0,(I4 hT hI).sl,he,Ig,hk,(I4 hT hJ).sz,Ar.ofs_eq];rw[A2 ⟨hb,trivial⟩];rfl
    grind
   grind
  obtain⟨ki,j,u,y,h1,h2,h4,h3⟩:=Qa hT h
  rw[E]at h1 h2
  exact⟨.v y,by simp only[h1];exact .inl ⟨u,h2,h4⟩,h3⟩
 ·obtain⟨ki,j,y,h1,h2,h3⟩:=VM hT h
  rw[E]at h1 h2
  exact⟨.v y,by simp only[h1];exact h2,h3⟩
 ·split at h
  ·rename_i cs hc
   rw[E]at hc
   obtain⟨y,h1,h2⟩:=EG h;exact⟨.v y,by simp only[hc];exact h1,h2⟩
  grind
 ·rename_i c
  split at h
  ·rename_i b hb
   split at h
   ·rename_i w hid
    rw[Em]at hid
    obtain⟨v,h1,h2⟩:=QY hT hid h;exact⟨.v v,by simp only[hb];exact .inr h1,h2⟩
   obtain⟨v,h1,h2⟩:=KP hT h
   rw[Em]at h1
   exact⟨.v v,by simp only[hb];exact .inl h1,h2⟩
  grind
 grind
end
def DZ (d:Option Tmp)(s:Sl)(l:Fl):Fl:=
 match d with
 |some d=>(d,s)::l
 |none=>l
section
variable (E:Fo)(T:Ih)(nt:Nat)(A:Nat→Bool)(Z:Nat→List Nat)
def Ah8 (H:A5) (k:V→A5→Prop) (ts:List TypeId) (vs:List V):Prop:=
 match ts,vs with
 | [sT, yT],[.sl xs tl,.sl ys _]=>
  (match tg T sT,tg T yT with
   | some I,some I2=>
    (match I.sl,I2.sl with
     | some e,some _=>
      (match tg T e with
       | some J=>
        (match J.ze with
         |some z=>if 0<J.sz∧0<J.by_∧z.one=true∧z.cells.length=J.sz then E.appn J.sz J.by_ H tl xs ys k else False
         |none=>False)
       |none=>False)
     |_,_=>False)
   |_,_=>False)
 |_,_=>False
def Xe (H:A5) (k:V→A5→Prop) (ts:List TypeId) (vs:List V):Prop:=
 match ts,vs with
 | [sT, yT],[.sl xs tl,.sl ys _]=>
  (match tg T sT,tg T yT with
   | some I,some I2=>
    (match I.sl,I2.sl with
     | some e,some _=>
      (match tg T e with
       | some J=>
        (match J.ze with
         |some z=>if 0<J.sz∧0<J.by_∧z.one=true∧z.cells.length=J.sz then E.appw J.sz J.by_ H tl xs ys k else False
         |none=>False)
       |none=>False)
     |_,_=>False)
   |_,_=>False)
 |_,_=>False
def AC1 (a:Bool)(vs:List V):Bool:=
 match vs with
 | .own _ _ _::_=>true
 |_=>a
def Xf (H : A5) (k:V→A5→Prop) (ts:List TypeId) (vs:List V):Prop:=
 match ts,vs with
 | [sT, yT],[x,y]=>
  (match tg T sT,tg T yT with
   | some I,some I2=>
    (match I.sl with
     | some e=>
      (match tg T e with
       | some J=>
        (match J.ze with
         | some z=>
          if 0<J.sz∧0<J.by_∧z.one=true∧z.cells.length=J.sz then
           (match I2.sl,I2.ik,y with
            |some _,_,y=>E.oapp J.sz J.by_ z H x y k
            |none,some _,.int _ m=>E.oappz J.sz J.by_ z H x m k
            |none,none,.str s=>(match I2.st,J.sz with|true,1=>E.oapps J.by_ z H x s k|_,_=>False)
            |_,_,_=>False)
          else False
         |none=>False)
       |none=>False)
     |_=>False)
   |_,_=>False)
 |_,_=>False
def AU7 (H:A5) (k:V→A5→Prop) (ts:List TypeId) (vs:List V):Prop:=
 match ts,vs with
 | [sT,_],[.own id lo n,y]=>
  (match tg T sT with
   | some I=>
    (match I.sl with
     |some e=>(match tg T e with|some J=>if 0<J.sz then E.ocopy J.sz H (.own id lo n) y k else False|none=>False)
     |_=>False)
   |_=>False)
 |_,_=>False
def Ay2 (H:A5) (k:V→A5→Prop) (ts:List TypeId) (vs:List V):Prop:=
 match ts,vs with
 | [sT],[.own id lo n]=>
  (match tg T sT with
   | some I=>
    (match I.sl with
     | some e=>
      (match tg T e with
       |some J=>(match J.ze with|some z=>if 0<J.sz∧z.one=true∧z.cells.length=J.sz then E.oclear J.sz z H (.own id lo n) fun H'=>k (.tup []) H' else False|none=>False)
       |none=>False)
     |_=>False)
   |_=>False)
 |_,_=>False
def AU5 (t:Nat) (H:A5) (k:V→A5→Prop) (l c:V):Prop:=
 match l,c with
 | .int _ n,.int _ m=>
  (match tg T t with
   | some I=>
    (match I.sl with
     | some e=>
      (match tg T e with
       | some J=>
        (match J.ze with
         |some z=>if 0<J.sz∧0<J.by_∧z.one=true∧z.cells.length=J.sz then E.omk J.sz J.by_ z n m H k else False
         |none=>False)
       |none=>False)
     |none=>False)
   |none=>False)
 |_,_=>False
def AL1 (t:Nat)(H:A5)(k:Sl→A5→Prop):Prop:=
 match tg T t with
 |some I=>(match I.sl with|some e=>(match tg T e with|some J=>E.onil J.sz H fun v H'=>k (.v v) H'|none=>False)|none=>False)
 |none=>False
def xlit (t n:Nat) (H:A5) (parts:List (Nat×V)) (k:Sl→A5→Prop):Prop:=
 match tg T t with
 |none=>False
 | some I=>
  match I.sl with
  |none=>False
  | some e=>
   match tg T e with
   |none=>False
   |some J=>
    match J.ze with
    |none=>False
    |some _=>if n*J.sz≤16777216∧parts.length=n∧CV J.sz 0 parts=true then E.olit J.sz H (parts.map fun q=>q.2) fun v H'=>k (.v v) H' else False
def xop (G:List (Nat×Bool)) (o:Oper) (l:Fl) (H:A5) (k:Sl→A5→Prop):Prop:=
 match o.op with
 | .alloc t=>
  (match tg T t with
   | some I=>
    (match I.ze with
     | some z=>
      (match A (o.dst.getD 0+5000000),Mr z with
       |true,true=>(match I.sl with|some e=>(match tg T e with|some J=>E.oalloc J.sz H fun id H'=>k (.v (.ref id 0)) H'|none=>False)|none=>False)
       |_,_=>(match z.one with|true=>E.alloc H z.cells fun id H'=>(match A (o.dst.getD 0+10000000)with|true=>E.wkB H' id fun H2=>k (.v (.ref id 0)) H2|false=>k (.v (.ref id 0)) H')|false=>False))
     |none=>False)
   |none=>False)
 | .box _ x=>
  match A (o.dst.getD 0+1000000)with
  |true=>E.need ((V5 G l x).V.one=true∧(V5 G l x).V.cells=[(V5 G l x).V]) fun _=>(match A (o.dst.getD 0)with|true=>E.alloc H [(V5 G l x).V] fun id H'=>k (.v (.ref id 0)) H'|false=>k (.v (.eref [(V5 G l x).V] 0)) H)
  |false=>
  (match(V5 G l x).V.one with
   |true=>(match A (o.dst.getD 0)with|true=>E.alloc H (V5 G l x).V.cells fun id H'=>k (.v (.ref id 0)) H'|false=>k (.v (.eref (V5 G l x).V.cells 0)) H)
   |false=>False)
 | .store t x y=>
  (match tg T t with
   | some I=>
    (match(V5 G l x).V with
     | .ref id off=>
      (match(V5 G l y).V.one with
       | true=>
        (match Nat.beq (V5 G l y).V.cells.length I.sz with
         |true=>E.store H id off I.sz (V5 G l y).V.cells fun H'=>k (.v .bad) H'
         |false=>False)
       |false=>False)
     | .elem id i esz off=>E.ostore H id i esz I.sz off (V5 G l y).V fun H'=>k (.v .bad) H'
     |_=>False)
   |none=>False)
 | .binOp op t x y _=>
  (match An3 op,Mr (V5 G l y).V with
   |some q,true=>(match tg T t with|some I=>(match I.sl with|some _=>E.nilc (V5 G l x).V (fun _=>k (.b q) H) (fun _=>k (.b (!q)) H)|none=>xq E T G o l H fun s=>k s H)|none=>False)
   |_,_=>xq E T G o l H fun s=>k s H)
 | .makeSlice t x y=>AU5 E T t H (fun v H'=>k (.v v) H') (V5 G l x).V (V5 G l y).V
 | .assign x=>(match A (o.dst.getD 0+6000000),AQ6 x with|true,true=>(match Mr (V5 G l x).V with|true=>AL1 E T o.type H k|false=>k (V5 G l x) H)|_,_=>k (V5 G l x) H)
 | .move x=>(match A (o.dst.getD 0+6000000),AQ6 x with|true,true=>(match Mr (V5 G l x).V with|true=>AL1 E T o.type H k|false=>k (V5 G l x) H)|_,_=>k (V5 G l x) H)
 | .buildSlice t n ps=>
  (match A (o.dst.getD 0+6000000)with
   |true=>xlit E T t n H (ps.toList.map fun p=>(p.1,(V5 G l p.2).V)) k
   |false=>IS T t n (ps.toList.map fun p=>(p.1,(V5 G l p.2).V)) fun v=>k (.v v) H)
 | .makeMap _ r=>(match r with|none=>E.mmk H fun v H'=>k (.v v) H'|some _=>False)
 | .mapUpdate t x y z=>E.mset t H (V5 G l x).V (V5 G l y).V (V5 G l z).V fun H'=>k (.v .bad) H'
 | .insert t x y z=>E.mset t H (V5 G l x).V (V5 G l y).V (V5 G l z).V fun H'=>k (.v .bad) H'
 | .range t x=>E.mrg t H (V5 G l x).V fun v H'=>k (.v v) H'
 | .next x s=>(match s with|false=>E.mnx H (V5 G l x).V fun v H'=>k (.v v) H'|true=>False)
 | .entry x=>E.men H (V5 G l x).V fun v H'=>k (.v v) H'
 | .call c=>
  (match c.callee with
   | .value x=>E.call (V5 G l x).V (c.args.toList.map fun x=>(V5 G l x).V) H fun v H'=>k (.v v) H'
   | .builtin .append=>
    (match AC1 (A (o.dst.getD 0)) (c.args.toList.map fun x=>(V5 G l x).V)with
     |true=>Xf E T H (fun v H'=>k (.v v) H') c.argTypes.toList (c.args.toList.map fun x=>(V5 G l x).V)
     | false=>
      (match A (o.dst.getD 0+4000000)with
       |true=>Xe E T H (fun v H'=>k (.v v) H') c.argTypes.toList (c.args.toList.map fun x=>(V5 G l x).V)
       |false=>Ah8 E T H (fun v H'=>k (.v v) H') c.argTypes.toList (c.args.toList.map fun x=>(V5 G l x).V)))
   | .builtin .copy=>AU7 E T H (fun v H'=>k (.v v) H') c.argTypes.toList (c.args.toList.map fun x=>(V5 G l x).V)
   | .builtin .clear=>Ay2 E T H (fun v H'=>k (.v v) H') c.argTypes.toList (c.args.toList.map fun x=>(V5 G l x).V)
   | .builtin _=>xq E T G o l H fun s=>k s H
   |_=>False)
 |_=>xq E T G o l H fun s=>k s H
def Ae6 (o o2:Oper):Option (Nat×TypeId×TypeId×Operand):=
 match o.op,o.dst,o.guard with
 | .alloc t,some d,none=>
  (match o2.op,o2.dst,o2.guard with
   | .store t2 (.tmp d2) x,none,none=>
    (match A d,Nat.beq d d2 with
     |false,true=>(match x with| .tmp d3=>(match Nat.beq d d3 with|true=>none|false=>some (d,t,t2,x))|_=>some (d,t,t2,x))
     |_,_=>none)
   |_,_,_=>none)
 |_,_,_=>none
def AV4 (l:Fl) (t t2:TypeId) (x:Operand):Option (List V):=
 match tg T t,tg T t2 with
 | some I,some I2=>
  (match I.ze with
   |some z=>if z.one=true∧(V5 [] l x).V.one=true∧(V5 [] l x).V.cells.length=I2.sz∧I2.sz≤z.cells.length then some (Z0 z.cells 0 (V5 [] l x).V.cells)else none
   |none=>none)
 |_,_=>none
def HB (ops : Array Oper) (o:Oper):Nat→Fl→(List (Nat×Bool)→Fl→(Sl→Sl)→Prop)→(Fl→Prop)→Prop
 | n, l, go, skip=>
  match o.guard with
  |none=>go [] l Sl.n
  | some (j, want)=>
   (match (ops[j]?).bind (·.dst)with
    |none=>False
    | some d =>
     (match Yn [] l d with
      |some (.b c)=>(match c==want with|true=>go [] l Sl.n|false=>skip l)
      | some (.v (.bool c))=>
       (match Mq [(d,want)] o l with
        |true=>go [(d,want)] l fun s=>.g d want s.V
        | false=>
         E.br c (fun _=>match want with|true=>go [] (Oe l d true) Sl.n|false=>skip (Oe l d true))
          (fun _=>match want with|false=>go [] (Oe l d false) Sl.n|true=>skip (Oe l d false)))
      |some (.v (.tup _))=>skip l
      |some _=>False
      | none =>
       (match lk l d with
        | .g j' _ (.bool _)=>
         (match Av0 l d j' with
          | true=>
           (match Mq [(d,want)] o l with
            |true=>go [(d,want)] l fun s=>.g d want s.V
            | false=>
             (match lk l j',n with
              | .v (.bool c),n+1=>E.br c (fun _=>HB ops o n (Oe l j' true) go skip) (fun _=>HB ops o n (Oe l j' false) go skip)
              |_,_=>False))
          |false=>False)
        |_=>False)))
def OT:Option (Nat×Int×Int×List V)→List Nat→Fl→A5→(Fl→A5→Prop)→Prop
 |_,[],l,H,k=>k l H
 | some (id,lo,n,xs),d::ds,l,H,k=>
  (match lk l d with
   | .v (.own id' lo' n')=>E.need (id'=id∧lo'=lo∧n'=n) fun _=>OT (some (id,lo,n,xs)) ds ((d,.v (.sl xs .ro))::l) H k
   |_=>OT none ds l H k)
 | none,d::ds,l,H,k=>
  match decide (1000000≤d)with
  | true=>
   (match lk l (d % 1000000)with
    | .v (.ref id 0)=>
     (match decide (100000000≤d)with
      |true=>E.adoptIn H id ((d-100000000) / 1000000) fun H'=>OT none ds l H' k
      |false=>E.frzIn H id (d / 1000000-1) fun H'=>OT none ds l H' k)
    |_=>False)
  |false=>
   match lk l d with
   | .v (.ref id 0)=>E.frzL H id fun cs H'=>OT none ds ((d,.v (.eref cs 0))::l) H' k
   | .v (.own id lo n)=>E.ofrz H id lo n fun xs H'=>OT (some (id,lo,n,xs)) ds ((d,.v (.sl xs .ro))::l) H' k
   | .v (.sl _ _)=>OT none ds l H k
   |_=>False
def Bf3 (o:Oper):List Nat:=
 match o.dst with
 |some q=>Z q
 |none=>[]
def OR (ops:Array Oper):List Oper→Fl→A5→(Fl→A5→Prop)→Prop
 |[],l,H,K=>K l H
 | o ::rest,l,H,K=>
  match GV nt o.dst with
  |false=>False
  | true=>
   OT E none (Bf3 Z o) l H fun l H=>
   match rest with
   |[]=>HB E ops o 4 l (fun G l' wr=>xop E T A G o l' H fun s H'=>K (DZ o.dst (wr s) l') H') fun l'=>K (DZ o.dst (.v (.tup [])) l') H
   | o2::rest'=>
    (match Ae6 A o o2 with
     | some (d,t,t2,x)=>
      (match AV4 T l t t2 x with
       |some cs=>OR ops rest' ((d,.v (.eref cs 0))::l) H K
       |none=>False)
     |none=>HB E ops o 4 l (fun G l' wr=>xop E T A G o l' H fun s H'=>OR ops (o2::rest') (DZ o.dst (wr s) l') H' K) fun l'=>OR ops (o2::rest') (DZ o.dst (.v (.tup [])) l') H K)
end
section
variable {P:Program}{nt:Nat}{rd:Option Nat}{T:Ih}{A:Nat→Bool}{df:List Nat}
theorem Al8 (l:Fl) (d t:Nat) (s:Sl):CA ((d,s)::l) t=if t=d then slV l s else CA l t:=by
 simp only[CA]
 by_cases h:t=d
 ·subst h;simp only[Nat.beq_refl,D1];cases s<;>rfl
 have:Nat.beq t d=false:=by
  cases hb:Nat.beq t d with
  |false=>rfl
  |true=>simp_all
 grind
theorem Q1 (l:Fl) (d:Option Tmp) (s:Sl):I9 ⟨DZ d s l,df⟩=(I9 ⟨l,df⟩).put d (slV l s):=by
 cases d with
 |none=>rfl
 |some d=>
  simp_all[I9,DZ,Fr.put,Al8]
theorem EH {ops:Array Oper} {o:Oper} {go:List (Nat×Bool)→Fl→(Sl→Sl)→Prop} {skip:Fl→Prop}:∀(n:Nat) (l:Fl),HB (I5 P nt rd) ops o n l go skip→
 ∃l',(∀t,CA l' t=CA l t)∧((BA ops (I9 ⟨l,df⟩) o=some true∧∃G wr,MI G l'∧(∀s,slV l' (wr s)=s.V)∧go G l' wr)∨
  (BA ops (I9 ⟨l,df⟩) o=some false∧(skip l'∨∃G d want,Mq G o l'=true∧isB (CA l' d) want=false∧go G l' fun s=>.g d want s.V)))
 | n, l,h=>by
  unfold HB at h
  split at h
  ·rename_i hg;exact⟨l,fun _=>rfl,.inl ⟨by simp[BA,hg],[],_,MI.nil,fun s=>by cases s<;>rfl,h⟩⟩
  rename_i j want hg
  split at h
  ·exact h.elim
  rename_i d hjd
  have gv:∀x,CA l d=x→BA ops (I9 ⟨l,df⟩) o=match x with| .bool c=>some (c==want)| .tup _=>some false|_=>none:=fun x hx=>by
   simp only[BA,hg,hjd,I9,hx]
   grind
  have idok:∀(l':Fl) (s:Sl),slV l' s.n=s.V:=fun l' s=>by cases s<;>rfl
  have tot:∀c,CA l d= .bool c→Mq [(d,want)] o l=true→go [(d,want)] l (fun s=>.g d want s.V)→∃l',(∀t,CA l' t=CA l t)∧((BA ops (I9 ⟨l,df⟩) o=some true∧∃G wr,MI G l'∧(∀s,slV l' (wr s)=s.V)∧go G l' wr)∨
   (BA ops (I9 ⟨l,df⟩) o=some false∧(skip l'∨∃G d want,Mq G o l'=true∧isB (CA l' d) want=false∧go G l' fun s=>.g d want s.V))):=by
   intro c hc ht h;have:=gv _ hc
   simp only at this
   cases hcw:c==want with
   |true=>exact⟨l,fun _=>rfl,.inl ⟨by rw[this,hcw],_,_,MI.nil.add (by rw[hc];simp_all[isB]),fun s=>by simp_all[slV,isB],h⟩⟩
   |false=>exact⟨l,fun _=>rfl,.inr ⟨by rw[this,hcw],.inr ⟨_,d,want,ht,by rw[hc];simp_all[isB],h⟩⟩⟩
  split at h
  ·rename_i c hc;have hv:CA l d= .bool c:=(Ml MI.nil hc).1.symm;have:=gv _ hv
   split at h
   ·rename_i e;exact⟨l,fun _=>rfl,.inl ⟨by rw[this];grind,[],_,MI.nil,idok l,h⟩⟩
   grind
  ·rename_i c hc;have hv:CA l d= .bool c:=(Ml MI.nil hc).1.symm;have hgv:=gv _ hv
   split at h
   ·simp_all
   have e:=RU l d c hv;obtain⟨h1,h2⟩:=h;cases c
   ·have h:=h2 rfl;cases want
    ·exact⟨_,e,.inl ⟨hgv,[],_,MI.nil,idok _,h⟩⟩
    grind
   have h:=h1 rfl;cases want
   ·grind
   exact⟨_,e,.inl ⟨hgv,[],_,MI.nil,idok _,h⟩⟩
  ·rename_i vs hc;have hv:CA l d= .tup vs:=(Ml MI.nil hc).1.symm
   grind
  ·exact h.elim
  split at h
  ·rename_i j' w' cx hl
   split at h
   ·rename_i hf;have hv:=WB l d j' w' _ hl hf
    split at h
    ·rename_i ht
     cases hb:isB (CA l j') w' with
     |true=>
      rw[hb]at hv
      simp_all
     |false=>
      rw[hb]at hv
      have hv:CA l d= .tup []:=hv;exact⟨l,fun _=>rfl,.inr ⟨gv _ hv,.inr ⟨_,d,want,ht,by rw[hv];rfl,h⟩⟩⟩
    split at h
    ·rename_i c m hc;have hvj:=Ou l j' _ hc (fun _ _ _ h=>by cases h);obtain⟨h1,h2⟩:=h
     have key:∀b,c=b→HB (I5 P nt rd) ops o m (Oe l j' b) go skip→∃l',(∀t,CA l' t=CA l t)∧((BA ops (I9 ⟨l,df⟩) o=some true∧∃G wr,MI G l'∧(∀s,slV l' (wr s)=s.V)∧go G l' wr)∨
      (BA ops (I9 ⟨l,df⟩) o=some false∧(skip l'∨∃G d want,Mq G o l'=true∧isB (CA l' d) want=false∧go G l' fun s=>.g d want s.V))):=by
      intro b hb h
      have hk:CA l j'= .bool b:=by rw[hvj,hb];rfl
      have e:=RU l j' b hk;obtain⟨l',e',h⟩:=EH m _ h
      rw[Qv hk]at h
      grind
     cases c
     ·simp_all
     simp_all
    grind
   grind
  grind
theorem M1.whole {y:V} {vs:List V} (h:M1 y.cells vs) (h1:y.one=true):∃z,Dx y z∧z.cells=vs:=by
 have one:∀{y:V} {vs:List V},M1 [y] vs→(∀z,Dx y z→z.cells=[z])→∃z,Dx y z∧z.cells=vs:=by
  intro y vs h hz
  cases h with
  |cons q r=>cases r;grind
 cases y with
 |agg cs=>exact⟨.agg vs,.agg h,rfl⟩
 |tup vs=>cases h1
 |_=>exact one h fun z hz=>by cases hz<;>rfl
theorem PZ (hT:Lc P T) {G:List (Nat×Bool)} {o:Oper} {l:Fl} (hG:MI G l) {H:A5} {k:Sl→A5→Prop} (h:xop (I5 P nt rd) T A G o l H k):Im P A o (ev (I9 ⟨l,df⟩)) H fun v H'=>∃s:Sl,v=s.V∧k s H':=by
 have E:∀x,(V5 G l x).V=ev (I9 ⟨l,df⟩) x:=fun x=>FF hG x;have Em:∀xs:List Operand,(xs.map fun x=>(V5 G l x).V)=xs.map (ev (I9 ⟨l,df⟩)):=fun xs=>V6 fun p _=>E p
 have quiet:xq (I5 P nt rd) T G o l H (fun s=>k s H)→∃v,OP P o (ev (I9 ⟨l,df⟩)) H v∧∃s:Sl,v=s.V∧k s H:=fun h=>by
  obtain⟨s,h1,h2⟩:=OQ (df:=df) hT hG h
  grind
 unfold xop at h
 split at h
 ·rename_i t ho;simp only[Im,ho]
  split at h
  ·rename_i I hI
   split at h
   ·rename_i z hz
    have ez:=(I4 hT hI).ze;rw[hz]at ez;simp only[Cs]at ez
    split at h
    ·rename_i hA hn
     split at h
     ·split at h
      ·rename_i J _
       have e2:z= .sl [] .nil:=by
        grind[Mr]
       rw[e2]at ez
       exact .inr ⟨ez,J.sz,fun q id hq hid=>⟨.v (.ref id 0),rfl,h q id hq hid⟩⟩
      grind
     grind
    split at h
    ·rename_i h1;refine .inl ⟨z,ez,h1,fun id hid=>?_⟩;have h:=h id hid
     split at h
     ·obtain⟨cs,ds,q1,q2,q3⟩:=h
      rw[G2]at q1;grind[Dm,Sl.V]
     exact⟨_,.refl _,.v (.ref id 0),rfl,h⟩
    grind
   grind
  grind
 ·rename_i t x ho;simp only[Im,ho]
  split at h
  ·rw[E]at h
   obtain⟨⟨h1,h2⟩,h⟩:=h;refine⟨h1,?_⟩;rw[h2]
   split at h
   ·rename_i hA;rw[A2 hA];exact fun id hid=>⟨.v (.ref id 0),rfl,h id hid⟩
   grind[Sl.V]
  split at h
  ·rename_i h1
   rw[E]at h1
   refine⟨h1,?_⟩
   split at h
   ·rename_i hA;rw[A2 hA];intro id hid;have:=h id hid
    rw[E]at this
    exact⟨.v (.ref id 0),rfl,this⟩
   rename_i hA;rw[A0 (by rw[hA];simp)]
   rw[E]at h
   grind[Sl.V]
  grind
 ·rename_i t x y ho;simp only[Im,ho]
  split at h
  ·rename_i I hI
   split at h
   ·rename_i id off hx
    split at h
    ·rename_i h1
     split at h
     ·rename_i h2;obtain⟨cs,vs',hle,hk,h3,h⟩:=h
      rw[E]at hx h1 h2 hle
      obtain⟨z,hz,hzc⟩:=hle.whole h1;subst hzc;refine .inl ⟨z,_,hz,?_,.v .bad,rfl,h⟩;simp only[Ob,(I4 hT hI).sz,hx,hk];rw[A2 ⟨hz.one h1,by rw[←hz.cells.length];simp_all,LH h3⟩]
     grind
    grind
   ·rename_i id i esz off hx;obtain⟨xs,y',q1,q2,q3,q4,q5,q6,h⟩:=h
    rw[E]at hx q1
    refine .inr ⟨y',_,q1,?_,.v .bad,rfl,h⟩;simp only[VU,(I4 hT hI).sz,hx,Ig,q5];rw[A2 ⟨q6,trivial,q2,q3,q4⟩]
   grind
  grind
 ·rename_i op t x y ty ho
  have old:xq (I5 P nt rd) T G o l H (fun s=>k s H)→Im P A o (ev (I9 ⟨l,df⟩)) H fun v H'=>∃s:Sl,v=s.V∧k s H':=fun h=>by
   grind[Im]
  split at h
  ·rename_i q hq hn
   split at h
   ·rename_i I hI
    split at h
    ·rename_i e he;obtain⟨p,h1,h2,h3⟩:=h
     rw[E]at h1 hn
     simp only[Im,ho];refine .inr ⟨q,e,p,hq,(I4 hT hI).sl.trans he,h1,?_,fun hx=>⟨.b q,rfl,h2 hx⟩,⟨.b (!q),rfl,h3⟩⟩
     grind[Mr]
    grind
   grind
  grind
 ·rename_i t x y ho;simp only[Im,ho]
  rw[E,E]at h
  refine .inr ?_
  unfold AU5 at h
  unfold Rg
  split at h
  ·rename_i k1 n k2 m e1 e2;rw[e1,e2]
   simp only
   split at h
   ·rename_i I hI
    split at h
    ·rename_i e he
     split at h
     ·rename_i J hJ
      split at h
      ·rename_i z hz
       have ez:=(I4 hT hJ).ze;rw[hz]at ez;simp only[Cs]at ez
       split at h
       ·rename_i hc;obtain⟨c1,c2,c3,c4⟩:=hc;obtain⟨⟨q1,q2,q3⟩,ys,hle,h⟩:=h;exact⟨e,J.sz,J.by_,z,(I4 hT hI).sl.trans he,(I4 hT hJ).sz,c1,(I4 hT hJ).by_,c2,ez,c3,c4,q1,q2,q3,fun id hid=>⟨id,J.sz,_,ys,G2 _ _ _,hle,.v _,rfl,by rw[Dm];grind⟩⟩
       grind
      grind
     grind
    grind
   grind
  grind
 ·rename_i x ho;simp only[Im,ho]
  split at h
  ·split at h
   ·rename_i hn
    rw[E]at hn
    unfold AL1 at h
    split at h
    ·split at h
     ·split at h
      ·rename_i J _;refine .inr ⟨?_,J.sz,fun q hq=>⟨.v _,rfl,h q hq⟩⟩
       unfold Mr at hn
       split at hn
       ·assumption
       cases hn
      exact h.elim
     exact h.elim
    exact h.elim
   exact .inl ⟨_,(E x).symm,h⟩
  exact .inl ⟨_,(E x).symm,h⟩
 ·rename_i x ho;simp only[Im,ho]
  split at h
  ·split at h
   ·rename_i hn
    rw[E]at hn
    unfold AL1 at h
    split at h
    ·split at h
     ·split at h
      ·rename_i J _;refine .inr ⟨?_,J.sz,fun q hq=>⟨.v _,rfl,h q hq⟩⟩
       unfold Mr at hn
       split at hn
       ·assumption
       cases hn
      exact h.elim
     exact h.elim
    exact h.elim
   exact .inl ⟨_,(E x).symm,h⟩
  exact .inl ⟨_,(E x).symm,h⟩
 ·rename_i t n ps ho
  have Ep:∀ps:List (Nat×Operand),(ps.map fun p=>(p.1,(V5 G l p.2).V))=ps.map fun p=>(p.1,ev (I9 ⟨l,df⟩) p.2):=fun ps=>V6 fun p _=>by rw[E]
  split at h
  ·simp only[Im,ho];refine .inr ?_
   rw[Ep]at h
   unfold xlit at h
   split at h
   ·exact h.elim
   rename_i I hI
   split at h
   ·exact h.elim
   rename_i e he
   split at h
   ·exact h.elim
   rename_i J hJ
   split at h
   ·exact h.elim
   rename_i z hz
   have ez:=(I4 hT hJ).ze;rw[hz]at ez;simp only[Cs]at ez
   split at h
   ·rename_i hc;obtain⟨ys,hle,h⟩:=h;refine⟨e,J.sz,_,ys,?_,(I4 hT hI).sl.trans he,(I4 hT hJ).sz,hle,fun q hq=>⟨.v _,rfl,h q hq⟩⟩;simp only[Bc,(I4 hT hI).sl,he,(I4 hT hJ).sz,ez];rw[A2 hc]
   grind
  obtain⟨v,h1,h2⟩:=IR hT h
  rw[Ep]at h1
  simp only[Im,ho];exact .inl ⟨v,by simp_all[OP],.v v,rfl,h2⟩
 ·rename_i t r ho;simp only[Im,ho]
  split at h
  ·exact⟨rfl,At6 (K:=fun v H'=>k (.v v) H') h fun v H' hk=>⟨.v v,rfl,hk⟩⟩
  grind
 ·rename_i t x y z ho;simp only[Im,ho]
  rw[E,E,E]at h
  exact Hf (K:=fun _ H'=>k (.v .bad) H') h fun H' hk=>⟨.v .bad,rfl,hk⟩
 ·rename_i t x y z ho;simp only[Im,ho]
  rw[E,E,E]at h
  exact Hf (K:=fun _ H'=>k (.v .bad) H') h fun H' hk=>⟨.v .bad,rfl,hk⟩
 ·rename_i t x ho;simp only[Im,ho]
  rw[E]at h
  exact Yd (K:=fun v H'=>k (.v v) H') h fun v H' hk=>⟨.v v,rfl,hk⟩
 ·rename_i x s ho;simp only[Im,ho]
  cases s with
  |true=>exact h.elim
  |false=>
   rw[E]at h
   exact⟨rfl,Ad3 (K:=fun v H'=>k (.v v) H') h fun v H' hk=>⟨.v v,rfl,hk⟩⟩
 ·rename_i x ho;simp only[Im,ho]
  rw[E]at h
  exact YY (K:=fun v H'=>k (.v v) H') h fun v H' hk=>⟨.v v,rfl,hk⟩
 ·rename_i c ho
  split at h
  ·rename_i x hc;simp only[Im,ho,hc]
   rw[E,Em]at h
   exact Cw.mono h fun v H' hk=>⟨.v v,rfl,hk⟩
  ·rename_i hc;simp only[Im,ho,hc]
   rw[Em]at h
   split at h
   ·refine .inr (.inl ?_)
    unfold Xf at h
    unfold PO
    split at h
    ·rename_i sT yT x y hts hvs;rw[hts,hvs]
     simp only
     split at h
     ·rename_i I I2 hI hI2
      split at h
      ·rename_i e he
       split at h
       ·rename_i J hJ
        split at h
        ·rename_i z hz
         have ez:=(I4 hT hJ).ze;rw[hz]at ez;simp only[Cs]at ez
         split at h
         ·rename_i hc;obtain⟨c1,c2,c3,c4⟩:=hc;refine⟨e,J.sz,J.by_,z,(I4 hT hI).sl.trans he,(I4 hT hJ).sz,c1,(I4 hT hJ).by_,c2,ez,c3,c4,?_⟩
          split at h
          ·rename_i he2;obtain⟨ys',q1,h⟩:=h;exact .inl ⟨by rw[(I4 hT hI2).sl,he2];rfl,ys',q1,KM h fun v H' hk=>⟨.v _,rfl,hk⟩⟩
          ·rename_i k0 he2 hik;have eik:=(I4 hT hI2).ik
           rw[hik]at eik
           obtain⟨q1,h⟩:=h;exact .inr (.inl ⟨⟨_,eik⟩,_,_,rfl,q1.1,q1.2,KM h fun v H' hk=>⟨.v _,rfl,hk⟩⟩)
          ·split at h
           ·rename_i hst hj1;have est:=(I4 hT hI2).st
            rw[hst]at est
            have h:GX H (fun v H'=>k (.v v) H') 1 J.by_ z x (GL _):=h
            rw[←hj1]at h
            exact .inr (.inr ⟨MR est,_,rfl,hj1,KM h fun v H' hk=>⟨.v _,rfl,hk⟩⟩)
           grind
          grind
         grind
        grind
       grind
      grind
     grind
    grind
   split at h
   ·refine .inr (.inr ?_)
    unfold Xe at h
    unfold Hm
    split at h
    ·rename_i sT yT xs tl ys tl' hts hvs;rw[hts,hvs]
     simp only
     split at h
     ·rename_i I I2 hI hI2
      split at h
      ·rename_i e e2 he he2
       split at h
       ·rename_i J hJ
        split at h
        ·rename_i z hz
         have ez:=(I4 hT hJ).ze;rw[hz]at ez;simp only[Cs]at ez
         split at h
         ·rename_i hc;obtain⟨c1,c2,c3,c4⟩:=hc;obtain⟨xs',ys',l1,l2,k1,k2,k3,k4,k5⟩:=h;exact⟨e,J.sz,J.by_,z,(I4 hT hI).sl.trans he,by rw[(I4 hT hI2).sl,he2];rfl,(I4 hT hJ).sz,c1,(I4 hT hJ).by_,c2,ez,c3,c4,xs',ys',l1,l2,k1,k2,k3,k4,fun e=>⟨_,_,by subst e;rw[H6];exact .ro _ _,fun _ _ hx=>PF hx,⟨.v _,rfl,k5⟩⟩,fun t h1 h2=>⟨_,_,.ro _ _,fun id b hx=>by rw[C9 _ _ fun e=>by simp_all];exact hx,⟨.v _,rfl,k5⟩⟩⟩
         grind
        grind
       grind
      grind
     grind
    grind
   refine .inl ?_
   unfold Ah8 at h
   unfold Hm
   split at h
   ·rename_i sT yT xs tl ys tl' hts hvs;rw[hts,hvs]
    simp only
    split at h
    ·rename_i I I2 hI hI2
     split at h
     ·rename_i e e2 he he2
      split at h
      ·rename_i J hJ
       split at h
       ·rename_i z hz
        have ez:=(I4 hT hJ).ze;rw[hz]at ez;simp only[Cs]at ez
        split at h
        ·rename_i hc;obtain⟨c1,c2,c3,c4⟩:=hc;obtain⟨xs',ys',l1,l2,k1,k2,k3,k4,k5,k6⟩:=h;exact⟨e,J.sz,J.by_,z,(I4 hT hI).sl.trans he,by rw[(I4 hT hI2).sl,he2];rfl,(I4 hT hJ).sz,c1,(I4 hT hJ).by_,c2,ez,c3,c4,xs',ys',l1,l2,k1,k2,k3,k4,fun e=>⟨.v _,rfl,k5 e⟩,fun t h1 h2=>⟨.v _,rfl,k6 t h1 h2⟩⟩
        grind
       grind
      grind
     grind
    grind
   grind
  ·rename_i hc;simp only[Im,ho,hc]
   rw[Em]at h
   unfold AU7 at h
   unfold Zr
   split at h
   ·rename_i sT yT id lo n y hts hvs;rw[hts,hvs]
    simp only
    split at h
    ·rename_i I hI
     split at h
     ·rename_i e he
      split at h
      ·rename_i J hJ
       split at h
       ·rename_i c1;obtain⟨xs,ys',q1,q2,h⟩:=h;exact⟨e,J.sz,xs,ys',(I4 hT hI).sl.trans he,(I4 hT hJ).sz,c1,q1,q2,.v _,rfl,h⟩
       grind
      grind
     grind
    grind
   grind
  ·rename_i hc;simp only[Im,ho,hc]
   rw[Em]at h
   unfold Ay2 at h
   unfold TP
   split at h
   ·rename_i sT id lo n hts hvs;rw[hts,hvs]
    simp only
    split at h
    ·rename_i I hI
     split at h
     ·rename_i e he
      split at h
      ·rename_i J hJ
       split at h
       ·rename_i z hz
        have ez:=(I4 hT hJ).ze;rw[hz]at ez;simp only[Cs]at ez
        split at h
        ·rename_i c1;obtain⟨xs,q1,h⟩:=h;exact⟨e,J.sz,z,xs,(I4 hT hI).sl.trans he,(I4 hT hJ).sz,c1.1,ez,c1.2.1,c1.2.2,q1,.v _,rfl,h⟩
        grind
       grind
      grind
     grind
    grind
   grind
  ·rename_i b hb _ _ hc;obtain⟨v,h1,h2⟩:=quiet h
   simp only[OP,ho,hc]at h1
   simp only[Im,ho,hc];exact⟨v,h1,h2⟩
  exact h.elim
 rename_i n1 n2 n3 n4 n5 n6 n7 n8 n9 n10 n11 n12 n13 n14 n15;obtain⟨v,h1,h2⟩:=quiet h;unfold Im
 split<;>rename_i ho<;>first|exact⟨v,h1,h2⟩|exact(n1 _ ho).elim|exact(n1 _ _ ho).elim|exact(n1 _ _ _ ho).elim|exact(n1 _ _ _ _ ho).elim|exact(n1 _ _ _ _ _ ho).elim|exact(n2 _ ho).elim|exact(n2 _ _ ho).elim|exact(n2 _ _ _ ho).elim|exact(n2 _ _ _ _ ho).elim|exact(n2 _ _ _ _ _ ho).elim|exact(n3 _ ho).elim|exact(n3 _ _ ho).elim|exact(n3 _ _ _ ho).elim|exact(n3 _ _ _ _ ho).elim|exact(n3 _ _ _ _ _ ho).elim|exact(n4 _ ho).elim|exact(n4 _ _ ho).elim|exact(n4 _ _ _ ho).elim|exact(n4 _ _ _ _ ho).elim|exact(n4 _ _ _ _ _ ho).elim|exact(n5 _ ho).elim|exact(n5 _ _ ho).elim|exact(n5 _ _ _ ho).elim|exact(n5 _ _ _ _ ho).elim|exact(n5 _ _ _ _ _ ho).elim|exact(n6 _ ho).elim|exact(n6 _ _ ho).elim|exact(n6 _ _ _ ho).elim|exact(n6 _ _ _ _ ho).elim|exact(n6 _ _ _ _ _ ho).elim|exact(n7 _ ho).elim|exact(n7 _ _ ho).elim|exact(n7 _ _ _ ho).elim|exact(n7 _ _ _ _ ho).elim|exact(n7 _ _ _ _ _ ho).elim|exact(n8 _ ho).elim|exact(n8 _ _ ho).elim|exact(n8 _ _ _ ho).elim|exact(n8 _ _ _ _ ho).elim|exact(n8 _ _ _ _ _ ho).elim|exact(n9 _ ho).elim|exact(n9 _ _ ho).elim|exact(n9 _ _ _ ho).elim|exact(n9 _ _ _ _ ho).elim|exact(n9 _ _ _ _ _ ho).elim|exact(n10 _ ho).elim|exact(n10 _ _ ho).elim|exact(n10 _ _ _ ho).elim|exact(n10 _ _ _ _ ho).elim|exact(n10 _ _ _ _ _ ho).elim|exact(n11 _ ho).elim|exact(n11 _ _ ho).elim|exact(n11 _ _ _ ho).elim|exact(n11 _ _ _ _ ho).elim|exact(n11 _ _ _ _ _ ho).elim|exact(n12 _ ho).elim|exact(n12 _ _ ho).elim|exact(n12 _ _ _ ho).elim|exact(n12 _ _ _ _ ho).elim|exact(n12 _ _ _ _ _ ho).elim|exact(n13 _ ho).elim|exact(n13 _ _ ho).elim|exact(n13 _ _ _ ho).elim|exact(n13 _ _ _ _ ho).elim|exact(n13 _ _ _ _ _ ho).elim|exact(n14 _ ho).elim|exact(n14 _ _ ho).elim|exact(n14 _ _ _ ho).elim|exact(n14 _ _ _ _ ho).elim|exact(n14 _ _ _ _ _ ho).elim|exact(n15 _ ho).elim|exact(n15 _ _ ho).elim|exact(n15 _ _ _ ho).elim|exact(n15 _ _ _ _ ho).elim|exact(n15 _ _ _ _ _ ho).elim
theorem VR.nil_inv {g:Gh}{w:World}{u:Value}(h:VR g w u (.sl [] .nil)):u= .slice none 0 0:=by
 cases h with
 |sl0 _=>rfl
 |sle ht=>rcases ht with h|⟨h,_⟩<;>cases h
 |sl _ _ _ _ _ _ _ _ ht=>exact ht.elim
theorem EF {cs:List V}{i j:Nat}{x:V}(hi:i<cs.length):(cs.set i x).getD j .bad=if j=i then x else cs.getD j .bad:=by
 grind
theorem VR.erefLe {g:Gh} {w:World} {v:Value} {cs ds:List V} {off:Nat} (h:VR g w v (.eref cs off)) (hl:M1 cs ds):VR g w v (.eref ds off):=by
 have e:=hl.length
 cases h with
 |eref vs hf hw h1 hv=>
  exact .eref vs (fun j hj=>hf j (by omega)) (fun j hj=>hw j (by omega)) (fun j hj=>h1 j (by omega)) fun j hj=>(hv j (by omega)).le (hl.at j)
theorem BM {w:World} {a:Act}:∀(q:Option (Nat×Int×Int×List V)) (ds:List Nat) (l:Fl) (H:A5) (g:Gh) (k:Fl→A5→Prop),(∀id lo n xs,q=some (id,lo,n,xs)→∀v,VR g w v (.own id lo n)→VR g w v (.sl xs .ro))→Rl g H w→FR nt g w a (I9 ⟨l,df⟩)→OT (I5 P nt rd) q ds l H k→∃g' l' H',Y7 g w g' w∧Rl g' H' w∧FR nt g' w a (I9 ⟨l',df⟩)∧k l' H'
 |q,[],l,H,g,k,_,hR,hF,h=>⟨g,l,H,Y7.refl _ _,hR,hF,by simp_all[OT]⟩
 | some (id,lo,n,xs),d::ds,l,H,g,k,hq,hR,hF,h=>by
  unfold OT at h
  split at h
  ·rename_i id' lo' n' hl;obtain⟨⟨e,e2,e3⟩,h⟩:=h;subst e;subst e2;subst e3
   have hF1:FR nt g w a (I9 ⟨(d,.v (.sl xs .ro))::l,df⟩):=by
    have e:=Q1 (df:=df) l (some d) (.v (.sl xs .ro))
    rw[show DZ (some d) (.v (.sl xs .ro)) l=(d,Sl.v (.sl xs .ro))::l from rfl]at e
    rw[e];refine⟨hF.size,fun t=>?_,hF.df⟩;simp only[Fr.put]
    split
    ·rename_i ht;subst ht;have h0:=hF.s t;have e0:(I9 ⟨l,df⟩).s t= .own id' lo' n':=Ou l t _ hl (fun _ _ _ h=>by cases h)
     rw[e0]at h0
     simp_all[slV]
    exact hF.s t
   exact BM _ ds _ _ g k hq hR hF1 h
  exact BM none ds _ _ g k (fun _ _ _ _ h=>by cases h) hR hF h
 | none,d::ds,l,H,g,k,_,hR,hF,h=>by
  unfold OT at h
  split at h
  ·split at h
   ·rename_i id hl
    split at h
    ·obtain⟨cs,sz,hk,hj,h⟩:=h;obtain⟨jl,_⟩:=List.getElem?_eq_some_iff.1 hj;obtain⟨g1,s1,hR1,hn,hv⟩:=Fz hR sz (.inl rfl) (.sl0 rfl:VR g w (.slice none 0 0) (.sl [] .nil))
     have hk1:upd H g.nx (some (.arr sz [])) id=some (.cells cs):=by
      rw[C9 _ _ (fun e=>by rw[e]at hk;rw[hn]at hk;cases hk)];exact hk
     have hR2:=hR1.chgCells hk1 (ds:=cs.set ((d-100000000) / 1000000) (.own g.nx 0 0)) (by simp) fun j' u hj' hu=>by
      rw[EF jl]
      grind[VR.nil_inv]
     obtain⟨g2,l2,H2,s2,r⟩:=BM none ds _ _ g1 k (fun _ _ _ _ h=>by cases h) hR2 (hF.mono s1) (h _ hn);exact⟨g2,l2,H2,s1.trans s2,r⟩
    obtain⟨cs,q,lo,n,sz,xs,ys,hk,hj,hq,hle,h⟩:=h;obtain⟨jl,_⟩:=List.getElem?_eq_some_iff.1 hj;obtain⟨g1,s1,hR1,hv⟩:=hR.freezeArr hq
    have hk1:upd H q none id=some (.cells cs):=by
     rw[C9 _ _ (fun e=>by simp_all)];exact hk
    have hR2:=hR1.chgCells hk1 (ds:=cs.set (d / 1000000-1) (.sl ys .ro)) (by simp) fun j' u hj' hu=>by
     rw[EF jl]
     split
     ·rename_i e;subst e
      rw[X3,hj]at hu
      exact(hv _ _ _ hu).le (.sl _ hle)
     exact hu
    obtain⟨g2,l2,H2,s2,r⟩:=BM none ds _ _ g1 k (fun _ _ _ _ h=>by cases h) hR2 (hF.mono s1) h;exact⟨g2,l2,H2,s1.trans s2,r⟩
   grind
  split at h
  ·rename_i id hl;obtain⟨cs0,cs,hk,hle,h⟩:=h;obtain⟨g1,s1,hR1,hv⟩:=hR.freeze hk
   have hF1:FR nt g1 w a (I9 ⟨(d,.v (.eref cs 0))::l,df⟩):=by
    have e:=Q1 (df:=df) l (some d) (.v (.eref cs 0))
    rw[show DZ (some d) (.v (.eref cs 0)) l=(d,Sl.v (.eref cs 0))::l from rfl]at e
    rw[e];have hm:=hF.mono s1;refine⟨hm.size,fun t=>?_,hm.df⟩;simp only[Fr.put]
    split
    ·rename_i ht;subst ht;have h0:=hF.s t;have e0:(I9 ⟨l,df⟩).s t= .ref id 0:=Ou l t _ hl (fun _ _ _ h=>by cases h)
     rw[e0]at h0
     exact(hv _ _ h0).erefLe hle
    exact hm.s t
   obtain⟨g2,l2,H2,s2,r⟩:=BM none ds _ _ g1 k (fun _ _ _ _ h=>by cases h) hR1 hF1 h;exact⟨g2,l2,H2,s1.trans s2,r⟩
  ·rename_i id lo n hl;obtain⟨sz,xs,ys,hk,hle,h⟩:=h;obtain⟨g1,s1,hR1,hv0⟩:=hR.freezeArr hk;have hv:∀v,VR g1 w v (.own id lo n)→VR g1 w v (.sl ys .ro):=fun v hv1=>(hv0 v lo n hv1).le (.sl _ hle)
   have hF1:FR nt g1 w a (I9 ⟨(d,.v (.sl ys .ro))::l,df⟩):=by
    have e:=Q1 (df:=df) l (some d) (.v (.sl ys .ro))
    rw[show DZ (some d) (.v (.sl ys .ro)) l=(d,Sl.v (.sl ys .ro))::l from rfl]at e
    rw[e];have hm:=hF.mono s1;refine⟨hm.size,fun t=>?_,hm.df⟩;simp only[Fr.put]
    split
    ·rename_i ht;subst ht;have h0:=hm.s t;have e0:(I9 ⟨l,df⟩).s t= .own id lo n:=Ou l t _ hl (fun _ _ _ h=>by cases h)
     rw[e0]at h0
     exact hv _ h0
    exact hm.s t
   obtain⟨g2,l2,H2,s2,r⟩:=BM (some (id,lo,n,ys)) ds _ _ g1 k (fun _ _ _ _ h=>by simp_all) hR1 hF1 h;exact⟨g2,l2,H2,s1.trans s2,r⟩
  ·exact BM none ds _ _ g k (fun _ _ _ _ h=>by cases h) hR hF h
  grind
theorem ZQ (hT:Lc P T){G:List (Nat×Bool)}{o:Oper}{l:Fl}{H:A5}{k:Sl→Prop}(ht:Mq G o l=true)(h:xq (I5 P nt rd) T G o l H k):∃s,k s:=by
 unfold Mq at ht
 unfold xq at h
 split at ht<;>rename_i ho<;>try simp only[ho]at h
 ·grind
 ·grind
 ·grind[QX]
 ·grind[LP]
 ·grind[JE]
 ·grind[OU]
 ·grind[OV]
 ·grind[So]
 ·grind[UE]
 ·grind[LO]
 ·grind[QY,KP]
 cases ht
theorem VJ (hT:Lc P T) {G:List (Nat×Bool)} {o:Oper} {l:Fl} {H:A5} {k:Sl→A5→Prop} (ht:Mq G o l=true) (h:xop (I5 P nt rd) T A G o l H k):∃s,k s H:=by
 have key:xq (I5 P nt rd) T G o l H (fun s=>k s H)→∃s,k s H:=fun h=>ZQ hT ht h
 unfold Mq at ht
 unfold xop at h
 split at ht<;>rename_i ho<;>try simp only[ho]at h
 all_goals try exact key h
 ·grind
 ·grind
 ·split at h
  ·split at h
   ·split at h
    ·obtain⟨_,_,_,h⟩:=h;grind
    grind
   grind
  grind
 ·grind
 cases ht
end
section
variable {P:Program}{nt:Nat}{rd:Option Nat}{T:Ih}{A:Nat→Bool}{Z:Nat→List Nat}{df:List Nat}
theorem Ae5 {o o2:Oper}{d:Nat}{t t2:TypeId}{x:Operand}(h:Ae6 A o o2=some (d,t,t2,x)):
 o.op= .alloc t∧o.dst=some d∧o.guard=none∧o2.op= .store t2 (.tmp d) x∧o2.dst=none∧o2.guard=none∧x≠ .tmp d:=by
 unfold Ae6 at h
 grind[Nat.eq_of_beq_eq_true]
theorem ZR (hT:Lc P T) {ops:Array Oper} {r:Option Nat} {K:Fl→A5→Prop} {Q:Exit→Act→World→Prop} {g0:Gh} {w0:World}
 (hQ:∀g w a l H,Y7 g0 w0 g w→Rl g H w→FR nt g w a (I9 ⟨l,df⟩)→K l H→Q .normal a w):
 ∀(m i:Nat) (l:Fl) (H:A5),i+m=ops.size→OR (I5 P nt rd) T nt A Z ops (ops.toList.drop i) l H K→∀g w a,Y7 g0 w0 g w→Rl g H w→FR nt g w a (I9 ⟨l,df⟩)→wpOpsIn (Fw r) 0 P ops Q (List.range' i m) a w:=by
 intro m
 induction m using Nat.strongRecOn with
 |_ m ih=>
 intro i l H hi h g w a s hR hF
 cases m with
 |zero=>
  have:ops.toList.drop i=[]:=by simp;omega
  rw[this]at h
  unfold OR at h
  exact hQ g w a l H s hR hF h
 | succ m=>
  have hlt:i<ops.toList.length:=by simp;omega
  have hlt':i<ops.size:=by omega
  have hdrop:=R7 hlt
  rw[hdrop]at h
  simp only[LE]at h
  generalize ho:ops[i]=o at h
  simp only[DO,wpOpsIn,CQ hlt',ho]
  unfold OR at h
  split at h
  ·exact h.elim
  rename_i hd;obtain⟨g1,l1,H1,s1,hR1,hF1,h⟩:=BM (df:=df) none _ _ _ _ _ (fun _ _ _ _ h=>by cases h) hR hF h;replace s:=s.trans s1;clear s1 hR hF
  revert h hF1 hR1 s
  generalize l1=l,H1=H,g1=g;intro hR hF h s
  have guarded:∀{rest:List Oper},GV nt o.dst=true→rest=ops.toList.drop (i+1)→
   HB (I5 P nt rd) ops o 4 l (fun G l' wr=>xop (I5 P nt rd) T A G o l' H fun s H'=>OR (I5 P nt rd) T nt A Z ops rest (DZ o.dst (wr s) l') H' K) (fun l'=>OR (I5 P nt rd) T nt A Z ops rest (DZ o.dst (.v (.tup [])) l') H K)→
   if Region.wanted o (yielded ops a.tmps)then o.wpIn (Fw r) 0 P a w (wpOpsIn (Fw r) 0 P ops Q (List.range' (i+1) m)) Q else(∀f,o.about P w a.eval=some f→(Fw r).fn f)∧wpOpsIn (Fw r) 0 P ops Q (List.range' (i+1) m) (a.put o.dst undef) w:=by
   intro rest hd hrest h;subst hrest;obtain⟨l',e,h⟩:=EH (df:=df) 4 l h
   have ef:I9 ⟨l',df⟩=I9 ⟨l,df⟩:=by simp_all[I9]
   have hF':FR nt g w a (I9 ⟨l',df⟩):=ef▸hF
   rcases h with⟨hgv,G,wr,hG,hwr,h⟩|⟨hgv,h⟩
   ·have hw:Region.wanted o (yielded ops a.tmps)=true:=Y3 hF.s hgv;rw[A2 hw];refine UG (A:=A) hR hF' hd (PZ (df:=df) hT hG h) fun g' w' a' v H' s' hR' hF2 ⟨sl,hv,hK⟩=>?_;subst hv
    rw[←hwr sl,←Q1]at hF2
    exact ih m (by omega) (i+1) _ _ (by omega) hK g' w' a' (s.trans s') hR' hF2
   have hw:Region.wanted o (yielded ops a.tmps)=false:=Y3 hF.s hgv;rw[A0 (by rw[hw];simp)];refine⟨fun _ _=>trivial,?_⟩;have hput:FR nt g w (a.put o.dst undef) ((I9 ⟨l',df⟩).put o.dst (.tup [])):=hF'.put (Fb hd) (VR.und _ _)
   rcases h with h|⟨G,d,want,ht,hb,h⟩
   ·refine ih m (by omega) (i+1) _ _ (by omega) h g w _ s hR ?_;rw[Q1];exact hput
   obtain⟨sl,h⟩:=VJ hT ht h;refine ih m (by omega) (i+1) _ _ (by omega) h g w _ s hR ?_;rw[Q1]
   simp_all[slV]
  split at h
  ·rename_i hrest;refine guarded hd hrest.symm ?_
   have e:(fun(G:List (Nat×Bool)) (l':Fl) (wr:Sl→Sl)=>xop (I5 P nt rd) T A G o l' H fun s H'=>OR (I5 P nt rd) T nt A Z ops [] (DZ o.dst (wr s) l') H' K)=fun G l' wr=>xop (I5 P nt rd) T A G o l' H fun s H'=>K (DZ o.dst (wr s) l') H':=by
    funext G l' wr
    have:(fun s H'=>OR (I5 P nt rd) T nt A Z ops [] (DZ o.dst (wr s) l') H' K)=fun s H'=>K (DZ o.dst (wr s) l') H':=by
     funext s H';unfold OR;rfl
    rw[this]
   have e2:(fun l'=>OR (I5 P nt rd) T nt A Z ops [] (DZ o.dst (.v (.tup [])) l') H K)=fun l'=>K (DZ o.dst (.v (.tup [])) l') H:=by
    funext l';unfold OR;rfl
   rw[e,e2];exact h
  rename_i o2 rest' hrest
  split at h
  ·rename_i d t t2 x hp;obtain⟨p1,p2,p3,p4,p5,p6,p7⟩:=Ae5 hp
   have hw:∀y,Region.wanted o y=true:=fun y=>by simp[Region.wanted,p3]
   rw[A2 (hw _)]
   split at h
   ·rename_i cs hcs
    unfold AV4 at hcs
    split at hcs
    ·rename_i I I2 hI hI2
     split at hcs
     ·rename_i z hz
      have ez:=(I4 hT hI).ze;rw[hz]at ez;simp only[Cs]at ez
      split at hcs
      ·rename_i hc;obtain⟨c1,c2,c3,c4⟩:=hc;cases hcs
       have hlen:i+1<ops.toList.length:=by
        grind
       have hlen':i+1<ops.size:=by omega
       have hdrop2:=R7 hlen
       rw[hrest,LE]at hdrop2
       have ho2:ops[i+1]=o2:=by simp_all
       have hr2:rest'=ops.toList.drop (i+2):=by simp_all
       rw[hr2]at h
       obtain⟨m',rfl⟩:∃m',m=m'+1:=⟨m-1,by omega⟩
       refine UG (A:=A) (K:=fun v H'=>∃id,v= .ref id 0∧H id=none∧H'=upd H id (some (.cells z.cells))) hR hF hd (by
        simp only[Im,p1]
        exact .inl ⟨z,ez,c1,fun id hid=>⟨_,.refl _,id,rfl,hid,rfl⟩⟩) fun g1 w1 a1 v H1 s1 hR1 hF1 hK1=>?_
       obtain⟨id,rfl,hid,rfl⟩:=hK1;simp only[DO,wpOpsIn,CQ hlen',ho2];rw[A2 (by simp[Region.wanted,p6])]
       have hev:ev ((I9 ⟨l,df⟩).put o.dst (.ref id 0)) x=(V5 [] l x).V:=by
        rw[FF (df:=df) MI.nil,p2]
        cases x with
        |tmp t=>
         have:t≠d:=fun e=>p7 (by rw[e])
         grind[ev,Fr.put]
        |const _=>rfl
        |global _=>rfl
        |func _=>rfl
       have hev2:ev ((I9 ⟨l,df⟩).put o.dst (.ref id 0)) (.tmp d)= .ref id 0:=by rw[p2];simp[ev,Fr.put]
       refine UG (A:=A) (K:=fun v H'=>H'=upd (upd H id (some (.cells z.cells))) id (some (.cells (Z0 z.cells 0 (V5 [] l x).V.cells)))) hR1 hF1 (by rw[p5];rfl) (by
        simp only[Im,p4];refine .inl ⟨_,_,.refl _,?_,rfl⟩;simp only[Ob,(I4 hT hI2).sz,hev,hev2,G2]
        rw[A2 ⟨c2,c3,by omega⟩]) fun g2 w2 a2 v2 H2 s2 hR2 hF2 hK2=>?_
       subst hK2;obtain⟨g3,s3,hR3,hv3⟩:=hR2.freeze (G2 _ _ _)
       rw[Dm,Xp _ _ _ hid]at hR3
       refine ih m' (by omega) (i+2) _ H (by omega) h g3 w2 a2 (((s.trans s1).trans s2).trans s3) hR3 ?_
       rw[p5,p2]at hF2
       have hF3:=hF2.mono s3;have e1:=Q1 (df:=df) l (some d) (.v (.eref (Z0 z.cells 0 (V5 [] l x).V.cells) 0))
       rw[show DZ (some d) (.v (.eref (Z0 z.cells 0 (V5 [] l x).V.cells) 0)) l=(d,.v (.eref (Z0 z.cells 0 (V5 [] l x).V.cells) 0))::l from rfl]at e1
       rw[e1];refine⟨hF3.size,fun q=>?_,hF3.df⟩;have hq:=hF2.s q;have hq3:=hF3.s q
       simp only[Fr.put]at hq hq3 ⊢
       split
       ·rename_i e;rw[A2 e]at hq;exact hv3 _ _ hq
       simp_all
      cases hcs
     cases hcs
    cases hcs
   grind
  simp_all
end
section
variable {P:Program}{nt:Nat}{ops:Array Oper}{H0:A5}
def JO (A:Nat→Bool):List Nat→Pv→Fr→A5→(Fr→A5→Prop)→Prop
 |[],_,fr,H,K=>K fr H
 |d::ds,pv,fr,H,K=>
  match pv (.inl d)with
  |some cs=>if A d then∀id,H id=none→JO A ds pv (fr.put (some d) (.ref id 0)) (upd H id (some (.cells cs))) K else JO A ds pv (fr.put (some d) (.eref cs 0)) H K
  |none=>False
theorem Tb {A:Nat→Bool} {w:World} {a:Act} {ids:Pk→Nat} {pv:Pv} {K:Fr→A5→Prop} (hinj:∀d d' cs cs',pv d=some cs→pv d'=some cs'→d.var=true→d'.var=true→ids d=ids d'→d=d'):
 ∀(ds:List Nat) (fr:Fr) (g:Gh) (H H1:A5),Rl g H w→ds.Nodup→(∀d∈ds,∀cs,pv (.inl d)=some cs→H (ids (.inl d))=some (.cells cs)∧∃b,g.mu (ids (.inl d))=some b∧a.tmps.getD d undef= .pointer (some ⟨b,0,none⟩))→
  (∀id b,H1 id=some b→H id=some b)→(∀d∈ds,∀cs,pv (.inl d)=some cs→H1 (ids (.inl d))=none)→FR nt g w a fr→JO A ds pv fr H1 K→∃g' fr' H',Y7 g w g' w∧Rl g' H' w∧FR nt g' w a fr'∧K fr' H'
 |[],fr,g,H,H1,hR,_,_,hl,_,hF,h=>⟨g,fr,H1,Y7.refl _ _,hR.less hl,hF,h⟩
 | d::ds,fr,g,H,H1,hR,hnd,hpv,hl,hfr,hF,h=>by
  simp only[JO]at h
  have hnd':=List.nodup_cons.1 hnd
  split at h
  ·rename_i cs hcs;obtain⟨k1,b,k2,k3⟩:=hpv d (by simp) cs hcs
   split at h
   ·refine Tb hinj ds _ g H _ hR hnd'.2 (fun d' hd'=>hpv d' (by simp[hd'])) (fun id bk hb=>?_) (fun d' hd' cs' hp=>?_) ?_ (h (ids (.inl d)) (hfr d (by simp) cs hcs))
    ·grind[upd]
    ·grind[upd,Pk.var]
    refine⟨hF.size,fun t=>?_,hF.df⟩;simp only[Fr.put]
    split
    ·rename_i e;subst e;rw[k3];exact .ref k2
    exact hF.s t
   obtain⟨g',s,hR',hv⟩:=hR.freeze k1;have hF':=hF.mono s
   have e1:∀d'∈ds,∀cs',pv (.inl d')=some cs'→(upd H (ids (.inl d)) none) (ids (.inl d'))=some (.cells cs')∧∃b,g'.mu (ids (.inl d'))=some b∧a.tmps.getD d' undef= .pointer (some ⟨b,0,none⟩):=fun d' hd' cs' hp=>by
    obtain⟨q1,b',q2,q3⟩:=hpv d' (by simp[hd']) cs' hp;have hne:ids (.inl d')≠ids (.inl d):=fun e=>absurd (hinj _ _ _ _ hp hcs rfl rfl e) fun x=>hnd'.1 (by simp_all);exact⟨by rw[C9 _ _ hne];exact q1,b',s.mu _ _ q2,q3⟩
   have e2:∀id bk,H1 id=some bk→(upd H (ids (.inl d)) none) id=some bk:=fun id bk hb=>by
    have hne:id≠ids (.inl d):=fun e=>by simp_all
    rw[C9 _ _ hne];grind
   have e3:FR nt g' w a (fr.put (some d) (.eref cs 0)):=by
    refine⟨hF'.size,fun t=>?_,hF'.df⟩;simp only[Fr.put]
    split
    ·rename_i e;subst e;rw[k3];exact hv _ _ (.ref k2)
    exact hF'.s t
   obtain⟨g2,fr2,H2,s2,r⟩:=Tb hinj ds _ g' _ H1 hR' hnd'.2 e1 e2 (fun d' hd'=>hfr d' (by simp[hd'])) e3 h;exact⟨g2,fr2,H2,s.trans s2,r⟩
  grind
abbrev Tk:=List (Nat×List V)
def pvW (W:Tk)(ex:Option G6):Pv
 | .inl _=>none
 | .inr id=>(W.find? fun p=>p.1==id).map (·.2)
 | .tk _=>none
 | .ex=>ex.map fun τ=>[.sl [] τ]
def JC (H:A5):Option G6→A5
 |some τ=>M0 H τ
 |none=>H
def Kv (dx:Option Nat)(pv:Pv)(fr:Fr)(H:A5)(K:Fr→A5→Prop):Prop:=
 match dx with
 |none=>K fr H
 |some d=>∃xs,(pv (.tk d)).isSome=true∧fr.s d= .sl xs .ro∧(∀tl,tl= .nil∨tl= .full→K (fr.put (some d) (.sl xs tl)) H)∧∀t,H t=none→K (fr.put (some d) (.sl xs (.tok t))) (upd H t (some .spare))
theorem OH {H:A5} {ex:Option G6} {id:Nat} {b:Il} (h:JC H ex id=some b):H id=some b∧∀t,ex=some (.tok t)→id≠t:=by
 cases ex with
 |none=>simp_all[JC]
 | some τ=>
  cases τ with
  |tok t=>
   simp_all[JC,M0,upd]
  |_=>exact⟨h,fun t ht=>by cases ht⟩
def FT (H:A5):Tk→A5
 |[]=>H
 |(id,_)::W=>upd (FT H W) id none
def Vn:Tk→Pv→A5→(A5→Prop)→Prop
 |[],_,H,K=>K H
 |(id,_)::W,pv,H,K=>Vn W pv H fun H'=>match pv (.inr id)with|some cs=>K (upd H' id (some (.cells cs)))|none=>False
theorem LQ {H:A5}:∀{W:Tk} {id:Nat} {b:Il},FT H W id=some b→H id=some b∧∀p∈W,p.1≠id
 |[],id,b,h=>⟨h,fun p hp=>by simp at hp⟩
 |(i,c)::W,id,b,h=>by
  simp only[FT]at h
  by_cases e:id=i
  ·simp_all[upd]
  rw[C9 _ _ e]at h
  obtain⟨h1,h2⟩:=LQ h
  grind
theorem OW {H:A5}:∀{W:Tk} {p:Nat×List V},p∈W→FT H W p.1=none
 |(i,c)::W,p,h=>by
  simp only[FT]
  by_cases e:p.1=i
  ·rw[e,G2]
  rw[C9 _ _ e]
  rcases List.mem_cons.1 h with rfl|h
  ·omega
  exact OW h
theorem YP {Hw:A5} {pv:Pv} (hpv:∀id cs,pv (.inr id)=some cs→Hw id=some (.cells cs)):∀(W:Tk) (H:A5) (K:A5→Prop),(∀id b,H id=some b→Hw id=some b)→Vn W pv H K→∃H',(∀id b,H' id=some b→Hw id=some b)∧(∀id,H' id≠none→H id≠none∨∃cs,pv (.inr id)=some cs)∧K H'
 |[],H,K,hl,h=>⟨H,hl,fun id hn=>.inl hn,h⟩
 |(i,c)::W,H,K,hl,h=>by
  simp only[Vn]at h
  obtain⟨H',h1,h2,h3⟩:=YP hpv W H _ hl h
  grind[upd]
end
def KN (P:Program)(nt:Nat)(rd:Option Nat)(ops:Array Oper)(fr:Fr)(H:A5)(Q:Exit→Fr→A5→Prop):Prop:=
 ∀r g w a,Aw7 g rd r→Rl g H w→FR nt g w a fr→wpAnyIn (Fw r) 0 P .any ops (WV nt g w Q) ops.size (Array.replicate ops.size false) a w.drew
theorem Aa.of_any {P:Program}{nt id:Nat}{rd:Option Nat}{ops:Array Oper}{fr:Fr}{H:A5}{Q:Exit→Fr→A5→Prop}(hm:P.follows .mixedOrders=true)(h:KN P nt rd ops fr H Q):Aa P nt rd (.region id ops true) fr H Q:=
 fun r g w a hr hR hF=>wpIn_region_any hm (h r g w a hr hR hF)
section
variable {P:Program}{nt:Nat}{ops:Array Oper}{H0:A5}
theorem KN.drawF {A:WY} {rd:Option Nat} {k:Nat} {al:List Nat} {W:Tk} {ex:Option G6} {dx:Option Nat} {fr:Fr} {Q:Exit→Fr→A5→Prop} (hok:TJ ops k=true) (hnd:al.Nodup)
 (hX:∀τ,ex=some τ→Kd H0 τ) (hW:∀p∈W,JC H0 ex p.1=some (.cells p.2))
 (h:KU P nt ops (FT (JC H0 ex) W) (ops.toList.take k) fr (pvW W ex) fun fr' pv=>Vn W pv (FT (JC H0 ex) W) fun H1=>Kv dx pv fr' H1 fun fr1 H2=>JO A al pv fr1 H2 fun fr'' H=>Nu P A nt ops (ops.toList.drop k) fr'' H (Q .normal)):KN P nt rd ops fr H0 Q:=by
 intro r g w a _ hR hF;obtain⟨hk,hat⟩:=Av7 hok;have sd:Y7 g w g w.drew:=⟨fun _ _ e=>e,fun _ _ e=>e,fun _ _ e=>e,rfl,fun _ _ _=>rfl,(Y8 _ _).drew,fun _ _ _=>rfl,Gc _⟩
 have hRd:Rl g H0 w.drew:=by
  refine⟨fun id b hb=>(hR.blk id b hb).mono hb sd fun _ _=>⟨rfl,fun _ ho=>ho⟩,hR.inj,hR.frz,hR.nxt,hR.bnd,fun n=>(hR.glb n).mono sd⟩
 have hI:Ax1 nt (FT (JC H0 ex) W) g w.drew fr (pvW W ex) g w.drew a:=by
  refine⟨H0,fun k=>match k with| .inl _=>0| .inr n=>n| .tk _=>0| .ex=>0,Y7.refl _ _,hRd,hF.mono sd,fun id b hb=>(OH (LQ hb).1).1,fun d cs h hv=>?_,fun d d' cs cs' h h' hv hv' e=>?_,fun _=>none,fun d cs h=>(by cases h),fun d d' cs cs' t h=>(by cases h),fun cs h=>?_⟩
  ·cases d with
   |inl d=>cases h
   | inr n=>
    simp only[pvW]at h
    cases hf:W.find? fun p=>p.1==n with
    |none=>rw[hf]at h;cases h
    |some p=>
     rw[hf]at h
     simp only[I6,F3]at h
     have hp:=QT hf
     have hn:p.1=n:=by have:=List.find?_some hf;simp_all
     subst h;subst hn;exact⟨(OH (hW p hp)).1,OW hp,rfl⟩
   |tk d=>cases h
   |ex=>cases hv
  ·cases d with
   |inl d=>cases h
   |tk d=>cases h
   |ex=>cases hv
   |inr n=>
    cases d' with
    |inl d'=>cases h'
    |tk d'=>cases h'
    |ex=>cases hv'
    |inr n'=>simp_all
  cases hx:ex with
  |none=>rw[hx]at h;cases h
  | some τ=>
   rw[hx]at h
   cases h;refine⟨τ,rfl,?_⟩;have hA:=hX τ hx
   cases τ with
   |nil=>simp_all
   |full=>simp_all
   |ro=>exact hA.elim
   |tok t=>
    refine .inr ⟨t,rfl,hA,?_,fun d cs' h=>by cases h⟩
    cases hn:FT (JC H0 (some (.tok t))) W t with
    |none=>rfl
    |some b=>grind[OH,LQ]
 have hmap:(List.range k).map (fun i=>ops.getD i default)=ops.toList.take k:=by
  apply Gl
  ·simp;omega
  intro i h1 h2
  simp at h1
  simp[Array.getD,show i<ops.size by omega]
 have hb:=ZB (r:=r) (Q:=WV nt g w Q) hk (fun i hi=>⟨(hat i hi).1,fun j hj=>((hat i hi).2 j hj).imp (fun h=>h) .inl⟩) (K:=fun fr' pv=>Vn W pv (FT (JC H0 ex) W) fun H1=>Kv dx pv fr' H1 fun fr1 H2=>JO A al pv fr1 H2 fun fr'' H=>Nu P A nt ops (ops.toList.drop k) fr'' H (Q .normal)) (g0:=g) (w0:=w.drew)
  (fun g' w' a' fr' pv listed hsz hl hI' hK=>?_) k (List.range k) (Array.replicate ops.size false) fr (pvW W ex) (by simp) (QO) (fun i hi=>by grind) (by simp) (fun i b hi=>by simp_all) (fun m j hm _=>by simp[Array.getD]at hm) (by rw[hmap];exact h) g w.drew a hI
 ·rw[show k+(ops.size-k)=ops.size by omega]at hb
  exact hb
 obtain⟨H,ids,s,hR',hF',hext,hpv,hinj,tks,htk,_⟩:=hI'
 have hex:∀n cs,pv (.inr n)=some cs→H n=some (.cells cs):=fun n cs hn=>by
  obtain⟨k1,_,k3⟩:=hpv _ cs hn rfl;have k3:ids (.inr n)=n:=k3
  rwa[k3]at k1
 obtain⟨H1,g1,g2,hK⟩:=YP hex W _ _ hext hK
 have hfree:∀d cs,pv (.inl d)=some cs→H1 (ids (.inl d))=none:=fun d cs hd=>by
  obtain⟨k1,k2,_⟩:=hpv _ cs hd rfl
  cases hn:H1 (ids (.inl d))with
  |none=>rfl
  |some b=>
   exfalso
   rcases g2 _ (by rw[hn];simp)with h|⟨cs',hp⟩
   ·exact h k2
   have k3:ids (.inr (ids (.inl d)))=ids (.inl d):=(hpv _ cs' hp rfl).2.2;cases hinj _ _ _ _ hp hd rfl rfl k3
 have hmid:∃fr1 H1',FR nt g' w' a' fr1∧(∀id b,H1' id=some b→H id=some b)∧(∀d cs,pv (.inl d)=some cs→H1' (ids (.inl d))=none)∧JO A al pv fr1 H1' fun fr'' H=>Nu P A nt ops (ops.toList.drop k) fr'' H (Q .normal):=by
  rcases dx with _|d
  ·exact⟨fr',H1,hF',g1,hfree,hK⟩
  simp only[Kv]at hK
  obtain⟨xs,e1,e2,e3,e4⟩:=hK;obtain⟨c,hc⟩:=Option.isSome_iff_exists.1 e1;obtain⟨xs',tl,q1,q2,q3⟩:=htk d c hc
  rw[e2]at q1
  cases q1
  have hFR:FR nt g' w' a' (fr'.put (some d) (.sl xs tl)):=by
   refine⟨hF'.size,fun t=>?_,hF'.df⟩;simp only[Fr.put]
   split
   ·simp_all
   exact hF'.s t
  rcases q3 with⟨_,q⟩|⟨t,_,q,q4,q5⟩
  ·grind
  subst q
  have ht:H1 t=none:=by
   grind
  refine⟨_,_,hFR,fun id b hb=>?_,fun d' cs hd'=>?_,e4 t ht⟩
  ·grind[G2,C9]
  have hne:ids (.inl d')≠t:=fun e=>by
   have:=(hpv _ cs hd' rfl).1
   rw[e,q4]at this;cases this
  rw[C9 _ _ hne];simp_all
 obtain⟨fr1,H1',hF1,g1',hfree',hK⟩:=hmid
 obtain⟨g3,fr2,H2,s2,hR2,hF2,hK2⟩:=Tb hinj al fr1 g' H H1' hR' hnd (fun d _ cs hd=>by
  obtain⟨k1,_,_,b,k4,k5⟩:=hpv _ cs hd rfl
  simp_all) g1' (fun d _ cs hd=>hfree' d cs hd) hF1 hK
 exact Xu (A:=A) (r:=r) (K:=Q .normal) (k:=k) (fun i hi=>⟨(hat i hi).1,fun j hj hkj=>((hat i hi).2 j hj).elim (fun h=>h) fun h=>absurd h.1 (by omega)⟩) (g0:=g) (w0:=w) (fun g3 w3 a3 fr3 H3 s3 hR3 hF3 hK3=>⟨g3,fr3,H3,s3,hR3,hF3,hK3⟩) (ops.size-k) k listed fr2 H2 (by omega) (by omega) hsz hl hK2 g3 w' a' ((sd.trans s).trans s2) hR2 hF2
end
end Go.Ab
