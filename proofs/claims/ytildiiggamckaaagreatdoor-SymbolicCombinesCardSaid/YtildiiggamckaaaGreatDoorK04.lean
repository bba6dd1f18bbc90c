/- . -/
import Derived.Test.YtildiiggamckaaaGreatDoorK03
import Derived.RangeFuncNested
set_option linter.all false
namespace Go.Ab
open Go.RowKit
variable [L6]
inductive Pk where
 |inl (d:Nat)
 |inr (n:Nat)
 |tk (d:Nat)
 |ex
deriving DecidableEq
def Pk.var:Pk→Bool
 | .tk _=>false
 | .ex=>false
 |_=>true
abbrev Pv:=Pk→Option (List V)
def O8 (pv:Pv)(d:Pk)(cs:List V):Pv:=fun x=>if x=d then some cs else pv x
def R3 (pv:Pv):Option Tmp→Prop
 |some d=>pv (.inl d)=none∧pv (.tk d)=none
 |none=>True
def U7 (pv:Pv):Option Pk→Pv
 |some d=>fun x=>if x=d then none else pv x
 |none=>pv
def PB {pv:Pv}{s:Option Pk}{x:Pk}(h:pv x=none):U7 pv s x=none:=by
 cases s with
 |none=>exact h
 |some d=>simp_all[U7]
theorem CF {pv:Pv} {s:Option Pk} {x:Pk} {c:List V} (h:U7 pv s x=some c):pv x=some c∧∀d,s=some d→x≠d:=by
 cases s with
 |none=>simp_all[U7]
 |some d=>
  simp_all[U7]
theorem Q5 {pv:Pv}{s:Option Pk}{x:Pk}(h:∀d,s=some d→x≠d):U7 pv s x=pv x:=by
 cases s with
 |none=>rfl
 |some d=>simp_all[U7]
def Aa {pv:Pv} {d:Pk} {cs:List V} {D:Option Tmp} (h:R3 (O8 pv d cs) D):R3 pv D:=by
 cases D with
 |none=>trivial
 |some e=>
  grind[R3,O8]
theorem X5 {pv:Pv} {d:Pk} {cs:List V} {D:Option Tmp} (h:R3 pv D) (hn:∀e,D=some e→d≠ .inl e∧d≠ .tk e):R3 (O8 pv d cs) D:=by
 cases D with
 |none=>trivial
 |some e=>
  have h1:(Pk.inl e:Pk)≠d:=fun x=>(hn e rfl).1 x.symm;have h2:(Pk.tk e:Pk)≠d:=fun x=>(hn e rfl).2 x.symm
  grind[R3,O8]
theorem HL {pv:Pv}{s:Option Pk}{D:Option Tmp}(h:R3 pv D):R3 (U7 pv s) D:=by
 cases D with
 |none=>trivial
 |some e=>exact⟨PB h.1,PB h.2⟩
def QW {pv:Pv} {s:Option Pk} {D:Option Tmp} (h:R3 (U7 pv s) D) (hn:∀e k,D=some e→s=some k→k≠ .inl e∧k≠ .tk e):R3 pv D:=by
 cases D with
 |none=>trivial
 |some e=>
  refine⟨?_,?_⟩
  ·have:=h.1;rwa[Q5 fun k hk x=>(hn e k rfl hk).1 x.symm]at this
  have:=h.2;rwa[Q5 fun k hk x=>(hn e k rfl hk).2 x.symm]at this
def MV (fr:Fr)(pv:Pv)(d:Nat)(k:Pk)(off:Nat)(cs:List V):Prop:=
 (k= .inl d∧off=0∧pv (.inl d)=some cs)∨∃id,k= .inr id∧fr.s d= .ref id off∧pv (.inl d)=none∧pv (.inr id)=some cs
theorem MV.at {fr:Fr}{pv:Pv}{d off:Nat}{k:Pk}{cs:List V}(h:MV fr pv d k off cs):pv k=some cs:=by
 rcases h with⟨rfl,_,h⟩|⟨id,rfl,_,_,h⟩<;>exact h
theorem MV.put {fr:Fr} {pv:Pv} {d off:Nat} {k:Pk} {cs:List V} {D:Option Tmp} {v:V} (hn:∀e,D=some e→d≠e):MV (fr.put D v) pv d k off cs↔MV fr pv d k off cs:=by
 have:(fr.put D v).s d=fr.s d:=by
  cases D with
  |none=>rfl
  |some e=>simp_all[Fr.put]
 simp_all[MV]
def MV.set {fr:Fr}{pv:Pv}{d off:Nat}{k:Pk}{cs:List V}{e:Nat}{c:List V}(hn:d≠e):MV fr (O8 pv (.inl e) c) d k off cs↔MV fr pv d k off cs:=by
 grind[MV,O8]
section
variable {P:Program}{nt:Nat}{ops:Array Oper}{H0:A4}
def Oz (P:Program)(ops:Array Oper)(H0:A4)(o:Oper)(fr:Fr)(v:V):Prop:=
 match Bh ops fr o with
 |some true=>Md P o (ev fr) H0 v
 |some false=>v= .tup []
 |none=>False
def AppC (P:Program)(sT yT:TypeId)(xs ys xs' ys':List V):Prop:=∃e sz by_ z,EO P sT=some e∧(EO P yT).isSome=true∧Eh P e=some sz∧0<sz∧Ny P e=some by_∧0<by_∧HA P e=some z∧z.one=true∧z.cells.length=sz∧
 L5 xs xs'∧L5 ys ys'∧xs'.all (fun x=>x.cells.length==sz)=true∧ys'.all (fun x=>x.cells.length==sz)=true∧(xs'.length+ys'.length)*by_≤140737488355328
def IU (pv:Pv)(sx:Operand)(tlx:D2):Option Pk→Prop
 |none=>tlx= .nil∨tlx= .full
 |some (.tk d)=>sx= .tmp d∧tlx= .ro∧(pv (.tk d)).isSome=true
 |some .ex=>pv .ex=some [.sl [] tlx]
 |some _=>False
def IU.key {pv:Pv}{sx:Operand}{tlx:D2}{src:Option Pk}(h:IU pv sx tlx src):∀k,src=some k→(∃d,k= .tk d)∨k= .ex:=by
 intro k hk;subst hk
 cases k with
 |inl d=>exact h.elim
 |inr d=>exact h.elim
 |tk d=>simp_all
 |ex=>grind
def IU.ninl {pv:Pv}{sx:Operand}{tlx:D2}{src:Option Pk}(h:IU pv sx tlx src)(e:Nat):∀k,src=some k→Pk.inl e≠k:=by
 grind[IU]
def PApp (P:Program)(o:Oper)(fr:Fr)(pv:Pv)(src:Option Pk)(u:V):Prop:=
 o.guard=none∧∃sx sy sT yT xs tlx ys tly xs' ys',o.op= .call {callee:=.builtin .append,args:= #[sx,sy],argTypes:= #[sT,yT]}∧ev fr sx= .sl xs tlx∧ev fr sy= .sl ys tly∧IU pv sx tlx src∧AppC P sT yT xs ys xs' ys'∧u= .sl (xs'++ys') .ro
def Eff (P:Program)(ops:Array Oper)(H0:A4)(o:Oper)(fr:Fr)(pv:Pv)(u:V)(pv':Pv):Prop:=
 (Ap6 o.op=false∧Mz o.op=false∧Oz P ops H0 o fr u∧pv'=pv)∨
 (∃t z d,o.op= .alloc t∧o.guard=none∧o.dst=some d∧HA P t=some z∧z.one=true∧u= .bad∧pv'=O8 pv (.inl d) z.cells)∨
 (∃t d y k off cs,o.op= .store t (.tmp d) y∧o.guard=none∧MV fr pv d k off cs∧(ev fr y).one=true∧Eh P t=some (ev fr y).cells.length∧off+(ev fr y).cells.length≤cs.length∧u= .bad∧pv'=O8 pv k (T5 cs off (ev fr y).cells))∨
 (∃d src,o.dst=some d∧PApp P o fr pv src u∧pv'=O8 (U7 pv src) (.tk d) [])
def KF (P:Program)(nt:Nat)(ops:Array Oper)(H0:A4)(o:Oper)(fr:Fr)(pv:Pv)(K:Fr→Pv→Prop):Prop:=
 (Gs nt o.dst=true∧R3 pv o.dst)∧∃u pv',Eff P ops H0 o fr pv u pv'∧K (fr.put o.dst u) pv'
def Iq (P:Program)(nt:Nat)(ops:Array Oper)(H0:A4):List Oper→Fr→Pv→(Fr→Pv→Prop)→Prop
 |[],fr,pv,K=>K fr pv
 |o::rest,fr,pv,K=>KF P nt ops H0 o fr pv fun fr' pv'=>Iq P nt ops H0 rest fr' pv' K
def Ql {o:Oper}{fr:Fr}{pv:Pv}{K K':Fr→Pv→Prop}(h:KF P nt ops H0 o fr pv K)(hk:∀fr pv,K fr pv→K' fr pv):KF P nt ops H0 o fr pv K':=
 let⟨h1,u,pv',h2,h3⟩:=h;⟨h1,u,pv',h2,hk _ _ h3⟩
def RU {o:Oper}{fr:Fr}{d:Option Tmp}{u v:V}(hl:∀t,d=some t→t∉o.looksAt ops):Oz P ops H0 o (fr.put d u) v↔Oz P ops H0 o fr v:=by
 unfold Oz;rw[Oi hl];have he:=Kr (fr:=fr) (v:=u) hl
 grind[Nk]
def CE (pv:Pv){a b:Pk}(x y:List V)(h:a≠b):O8 (O8 pv a x) b y=O8 (O8 pv b y) a x:=by
 funext t
 grind[O8]
def GF (pv:Pv) {a:Pk} (x:List V) {s:Option Pk} (h:∀d,s=some d→a≠d):U7 (O8 pv a x) s=O8 (U7 pv s) a x:=by
 cases s with
 |none=>rfl
 |some d=>
  funext t
  grind[U7,O8]
def VW (pv:Pv) (s s':Option Pk):U7 (U7 pv s) s'=U7 (U7 pv s') s:=by
 cases s with
 |none=>rfl
 | some d=>
  cases s' with
  |none=>rfl
  |some d'=>
   funext t
   grind[U7]
def Iz {o:Oper}{t:TypeId}{e:Nat}{q:Operand}(ho:o.op= .store t (.tmp e) q):e∈o.looksAt ops:=
 R6 _ (List.mem_filterMap.2 ⟨.tmp e,by simp[ho,Op.operands],rfl⟩)
theorem Vm {o:Oper}{e:Nat}{sy:Operand}{ts:Array TypeId}(ho:o.op= .call {callee:=.builtin .append,args:= #[.tmp e,sy],argTypes:=ts}):e∈o.looksAt ops:=
 R6 _ (List.mem_filterMap.2 ⟨.tmp e,by simp[ho,Op.operands,Call.operands],rfl⟩)
def As5 {o:Oper}{fr:Fr}{pv pv':Pv}{d:Option Tmp}{w u:V}(hl:∀t,d=some t→t∉o.looksAt ops)(h:Eff P ops H0 o fr pv u pv'):Eff P ops H0 o (fr.put d w) pv u pv':=by
 have he:=Kr (fr:=fr) (v:=w) hl
 rcases h with⟨h1,h2,h3,h4⟩|h|⟨t,e,y,k,off,cs,ho,hg,e1,e2,e3,e4,e5,e6⟩|⟨e,src,hd,⟨hg,sx,sy,sT,yT,xs,tlx,ys,tly,xs',ys',ho,q1,q2,q3,q4,q5⟩,hp⟩
 ·exact .inl ⟨h1,h2,(RU hl).2 h3,h4⟩
 ·grind[Eff]
 ·have hy:ev (fr.put d w) y=ev fr y:=he y (by simp[ho,Op.operands]);refine .inr (.inr (.inl ⟨t,e,y,k,off,cs,ho,hg,(MV.put fun e' he' eq=>hl e' he' (eq▸Iz ho)).2 e1,?_,?_,?_,e5,?_⟩))<;>rw[hy]<;>assumption
 refine .inr (.inr (.inr ⟨e,src,hd,⟨hg,sx,sy,sT,yT,xs,tlx,ys,tly,xs',ys',ho,?_,?_,q3,q4,q5⟩,hp⟩))
 ·rw[he sx (by simp[ho,Op.operands,Call.operands])];exact q1
 rw[he sy (by simp[ho,Op.operands,Call.operands])];exact q2
def Zn {o:Oper} {fr:Fr} {pv pv':Pv} {d:Option Tmp} {w u:V} (hl:∀t,d=some t→t∉o.looksAt ops) (h:Eff P ops H0 o (fr.put d w) pv u pv'):Eff P ops H0 o fr pv u pv':=by
 have he:=Kr (fr:=fr) (v:=w) hl
 rcases h with⟨h1,h2,h3,h4⟩|h|⟨t,e,y,k,off,cs,ho,hg,e1,e2,e3,e4,e5,e6⟩|⟨e,src,hd,⟨hg,sx,sy,sT,yT,xs,tlx,ys,tly,xs',ys',ho,q1,q2,q3,q4,q5⟩,hp⟩
 ·exact .inl ⟨h1,h2,(RU hl).1 h3,h4⟩
 ·simp_all[Eff]
 ·have hy:ev (fr.put d w) y=ev fr y:=he y (by simp[ho,Op.operands])
  rw[hy]at e2 e3 e4 e6
  exact .inr (.inr (.inl ⟨t,e,y,k,off,cs,ho,hg,(MV.put fun e' he' eq=>hl e' he' (eq▸Iz ho)).1 e1,e2,e3,e4,e5,e6⟩))
 refine .inr (.inr (.inr ⟨e,src,hd,⟨hg,sx,sy,sT,yT,xs,tlx,ys,tly,xs',ys',ho,?_,?_,q3,q4,q5⟩,hp⟩))
 ·rw[he sx (by simp[ho,Op.operands,Call.operands])]at q1;exact q1
 rw[he sy (by simp[ho,Op.operands,Call.operands])]at q2;exact q2
def UP {pv:Pv}{D:Option Tmp}{d:Nat}(h:R3 pv D)(e:D=some d):pv (.inl d)=none:=by grind[R3]
def MV.key {fr:Fr}{pv:Pv}{d off:Nat}{k:Pk}{cs:List V}(h:MV fr pv d k off cs)(e:Nat):k≠ .tk e:=by
 rcases h with⟨rfl,_,_⟩|⟨id,rfl,_⟩<;>simp
def MV.keyx {fr:Fr}{pv:Pv}{d off:Nat}{k:Pk}{cs:List V}(h:MV fr pv d k off cs):k≠ .ex:=by
 rcases h with⟨rfl,_,_⟩|⟨id,rfl,_⟩<;>simp
def MV.nsrc {fr:Fr}{pv pv':Pv}{d off:Nat}{k:Pk}{cs:List V}{sx:Operand}{tlx:D2}{src:Option Pk}(h:MV fr pv d k off cs)(h':IU pv' sx tlx src):∀e,src=some e→k≠e:=by
 grind[MV,IU]
def MV.congr {fr:Fr}{pv pv':Pv}{d off:Nat}{k:Pk}{cs:List V}(h:MV fr pv d k off cs)(h1:pv' (.inl d)=pv (.inl d))(h2:pv' k=pv k):MV fr pv' d k off cs:=by
 grind[MV]
def IU.congr {pv pv':Pv} {sx:Operand} {tlx:D2} {src:Option Pk} (h:IU pv sx tlx src) (h1:∀d,src=some d→pv' d=pv d):IU pv' sx tlx src:=by
 cases src with
 |none=>exact h
 |some d=>
  cases d with
  |inl d=>exact h
  |inr d=>exact h
  |tk d=>simp_all[IU]
  |ex=>simp_all[IU]
theorem J0 {pv:Pv}{a b:Pk}{x:List V}(h:b≠a):O8 pv a x b=pv b:=by simp[O8,h]
def Aj0 {x y:Oper} {fr:Fr} {pv pv1 pv2:Pv} {u v:V} (hi:Kz ops x y=true) (hx:Eff P ops H0 x fr pv u pv1) (hy:Eff P ops H0 y fr pv1 v pv2) (fx:R3 pv x.dst) (fy:R3 pv1 y.dst):
 ∃pv3,Eff P ops H0 y fr pv v pv3∧Eff P ops H0 x fr pv3 u pv2∧R3 pv y.dst∧R3 pv3 x.dst:=by
 simp only[Kz,H7,V7]at hi
 obtain⟨hap,hss⟩:=hi;obtain⟨a1,a2,a3⟩:=Oper.apart_spec hap
 rcases hx with⟨x1,x2,x3,rfl⟩|⟨t,z,d,ho,hg,hd,e1,e2,e3,rfl⟩|⟨t,d,p,k,off,cs,ho,hg,e1,e2,e3,e4,e5,rfl⟩|⟨d,src,hd,hP,rfl⟩
 ·
  refine⟨pv2,hy,.inl ⟨x1,x2,x3,rfl⟩,fy,?_⟩
  rcases hy with⟨_,_,_,rfl⟩|⟨t,z,d,ho,hg,hd,e1,e2,e3,rfl⟩|⟨t,d,p,k,off,cs,ho,hg,e1,e2,e3,e4,e5,rfl⟩|⟨d,src,hd,hP,rfl⟩
  ·exact fx
  ·grind[X5]
  ·refine X5 fx fun e he=>⟨fun x=>?_,e1.key e⟩
   have:=e1.at;rw[x,UP fx he]at this;cases this
  grind[X5,HL]
 ·
  rcases hy with⟨y1,y2,y3,rfl⟩|⟨t',z',d',ho',hg',hd',e1',e2',e3',rfl⟩|⟨t',d',p',k',off',cs',ho',hg',e1',e2',e3',e4',e5',rfl⟩|⟨d',src',hd',hP',rfl⟩
  ·exact⟨pv,.inl ⟨y1,y2,y3,rfl⟩,.inr (.inl ⟨t,z,d,ho,hg,hd,e1,e2,e3,rfl⟩),Aa fy,fx⟩
  ·have hne:(Pk.inl d':Pk)≠ .inl d:=fun e=>a2 d hd (by rw[hd'];cases e;rfl)
   exact⟨_,.inr (.inl ⟨t',z',d',ho',hg',hd',e1',e2',e3',rfl⟩),.inr (.inl ⟨t,z,d,ho,hg,hd,e1,e2,e3,CE _ _ _ (Ne.symm hne)⟩),Aa fy,
    X5 fx fun e he=>⟨fun x=>by rw[hd]at he;simp_all,by simp⟩⟩
  ·have hne:d'≠d:=fun e=>a1 d hd (e▸Iz ho')
   have hk:k'≠ .inl d:=fun e=>by
    rcases e1' with⟨q,_⟩|⟨id,q,_⟩
    ·rw[q]at e;simp_all
    simp_all
   have hT:MV fr pv d' k' off' cs':=e1'.congr (by rw[J0 fun e=>by simp_all]) (by rw[J0 hk])
   exact⟨_,.inr (.inr (.inl ⟨t',d',p',k',off',cs',ho',hg',hT,e2',e3',e4',e5',rfl⟩)),.inr (.inl ⟨t,z,d,ho,hg,hd,e1,e2,e3,CE _ _ _ (Ne.symm hk)⟩),Aa fy,
    X5 fx fun e he=>⟨fun x=>by rw[hd]at he;simp_all,hT.key e⟩⟩
  obtain⟨hg',sx,sy,sT,yT,xs,tlx,ys,tly,xs',ys',ho',q1,q2,q3,q4,q5⟩:=hP';refine⟨_,.inr (.inr (.inr ⟨d',src',hd',⟨hg',sx,sy,sT,yT,xs,tlx,ys,tly,xs',ys',ho',q1,q2,q3.congr fun e he=>(by rw[J0 fun x=>q3.ninl d e he x.symm]),q4,q5⟩,rfl⟩)),.inr (.inl ⟨t,z,d,ho,hg,hd,e1,e2,e3,?_⟩),Aa fy,?_⟩
  ·rw[GF _ _ (q3.ninl d),CE _ _ _ (by simp)]
  grind[X5,HL]
 ·
  rcases hy with⟨y1,y2,y3,rfl⟩|⟨t',z',d',ho',hg',hd',e1',e2',e3',rfl⟩|⟨t',d',p',k',off',cs',ho',_⟩|⟨d',src',hd',hP',rfl⟩
  ·exact⟨pv,.inl ⟨y1,y2,y3,rfl⟩,.inr (.inr (.inl ⟨t,d,p,k,off,cs,ho,hg,e1,e2,e3,e4,e5,rfl⟩)),Aa fy,fx⟩
  ·have hne:d≠d':=fun e=>a3 d' hd' (e▸Iz ho)
   have hk:k≠ .inl d':=fun e=>by
    rcases e1 with⟨q,_⟩|⟨id,q,_⟩
    ·rw[q]at e;simp_all
    simp_all
   have hT:MV fr (O8 pv (.inl d') z'.cells) d k off cs:=e1.congr (by rw[J0 fun e=>by simp_all]) (by rw[J0 hk])
   exact⟨_,.inr (.inl ⟨t',z',d',ho',hg',hd',e1',e2',e3',rfl⟩),.inr (.inr (.inl ⟨t,d,p,k,off,cs,ho,hg,hT,e2,e3,e4,e5,CE _ _ _ hk⟩)),Aa fy,
    X5 fx fun e he=>⟨fun x=>by simp_all,by simp⟩⟩
  ·grind[Mz]
  obtain⟨hg',sx,sy,sT,yT,xs,tlx,ys,tly,xs',ys',ho',q1,q2,q3,q4,q5⟩:=hP';have hk:∀e,k≠ .tk e:=e1.key;have hn:=e1.nsrc q3;have hT:MV fr (O8 (U7 pv src') (.tk d') []) d k off cs:=e1.congr (by rw[J0 (by simp),Q5 (q3.ninl d)]) (by rw[J0 (hk _),Q5 hn]);refine⟨_,.inr (.inr (.inr ⟨d',src',hd',⟨hg',sx,sy,sT,yT,xs,tlx,ys,tly,xs',ys',ho',q1,q2,q3.congr fun e he=>(by rw[J0 fun x=>hn e he x.symm]),q4,q5⟩,rfl⟩)),.inr (.inr (.inl ⟨t,d,p,k,off,cs,ho,hg,hT,e2,e3,e4,e5,?_⟩)),Aa fy,?_⟩
  ·rw[GF _ _ hn,CE _ _ _ (hk _)]
  grind[X5,HL]
 have hkey:∀k,src=some k→(∃e,k= .tk e)∨k= .ex:=by
  obtain⟨_,sx,sy,sT,yT,xs,tlx,ys,tly,xs',ys',ho,_,_,q3,_⟩:=hP;exact q3.key
 have hsrc:∀e,src=some (.tk e)→e∈x.looksAt ops:=fun e he=>by
  subst he;obtain⟨_,sx,sy,sT,yT,xs,tlx,ys,tly,xs',ys',ho,_,_,q3,_⟩:=hP;obtain⟨rfl,_⟩:=q3;exact Vm ho
 have fy0:R3 pv y.dst:=QW (Aa fy) fun e k he hk=>by
  grind
 rcases hy with⟨y1,y2,y3,rfl⟩|⟨t',z',d',ho',hg',hd',e1',e2',e3',rfl⟩|⟨t',d',p',k',off',cs',ho',hg',e1',e2',e3',e4',e5',rfl⟩|⟨d',src',hd',hP',rfl⟩
 ·exact⟨pv,.inl ⟨y1,y2,y3,rfl⟩,.inr (.inr (.inr ⟨d,src,hd,hP,rfl⟩)),fy0,fx⟩
 ·obtain⟨hg,sx,sy,sT,yT,xs,tlx,ys,tly,xs',ys',ho,q1,q2,q3,q4,q5⟩:=hP;refine⟨_,.inr (.inl ⟨t',z',d',ho',hg',hd',e1',e2',e3',rfl⟩),.inr (.inr (.inr ⟨d,src,hd,⟨hg,sx,sy,sT,yT,xs,tlx,ys,tly,xs',ys',ho,q1,q2,q3.congr fun e he=>(by rw[J0 fun x=>q3.ninl d' e he x.symm]),q4,q5⟩,?_⟩)),fy0,X5 fx fun e he=>⟨fun x=>by simp_all,by simp⟩⟩;rw[GF _ _ (q3.ninl d'),CE _ _ _ (by simp)]
 ·obtain⟨hg,sx,sy,sT,yT,xs,tlx,ys,tly,xs',ys',ho,q1,q2,q3,q4,q5⟩:=hP;have hk:∀e,k'≠ .tk e:=e1'.key;have hn:=e1'.nsrc q3;have hT:MV fr pv d' k' off' cs':=e1'.congr (by rw[J0 (by simp),Q5 (q3.ninl d')]) (by rw[J0 (hk _),Q5 hn]);refine⟨_,.inr (.inr (.inl ⟨t',d',p',k',off',cs',ho',hg',hT,e2',e3',e4',e5',rfl⟩)),.inr (.inr (.inr ⟨d,src,hd,⟨hg,sx,sy,sT,yT,xs,tlx,ys,tly,xs',ys',ho,q1,q2,q3.congr fun e he=>(by rw[J0 fun x=>hn e he x.symm]),q4,q5⟩,?_⟩)),fy0,X5 fx fun e he=>⟨fun x=>?_,hk e⟩⟩
  ·rw[GF _ _ hn,CE _ _ _ (hk _)]
  have:=hT.at;rw[x,UP fx he]at this;cases this
 obtain⟨hg,sx,sy,sT,yT,xs,tlx,ys,tly,xs',ys',ho,q1,q2,q3,q4,q5⟩:=hP;obtain⟨hg',sx',sy',sT',yT',xs2,tlx',ys2,tly',xs2',ys2',ho',r1,r2,r3,r4,r5⟩:=hP';have hdd:d≠d':=fun e=>a2 d hd (by rw[hd',e])
 have n1:∀k,src'=some k→k≠ .tk d:=fun k he eq=>by
  subst he;subst eq;obtain⟨rfl,_⟩:=r3
  grind[Vm]
 have n2:∀k,src=some k→k≠ .tk d':=fun k he eq=>by simp_all
 have n3:∀k,src'=some k→src≠some k:=fun k he he2=>by
  subst he;subst he2
  have hnone:O8 (U7 pv (some k)) (.tk d) [] k=none:=by
   rw[J0 (n1 k rfl)];simp[U7]
  rcases r3.key k rfl with⟨e,rfl⟩|rfl
  ·have:=r3.2.2;rw[hnone]at this;cases this
  have:O8 (U7 pv (some .ex)) (.tk d) [] .ex=some [.sl [] tlx']:=r3
  rw[hnone]at this;cases this
 have hs':IU pv sx' tlx' src':=r3.congr fun k he=>by
  rw[J0 (n1 k he),Q5 fun c hc x=>by simp_all]
 refine⟨_,.inr (.inr (.inr ⟨d',src',hd',⟨hg',sx',sy',sT',yT',xs2,tlx',ys2,tly',xs2',ys2',ho',r1,r2,hs',r4,r5⟩,rfl⟩)),.inr (.inr (.inr ⟨d,src,hd,⟨hg,sx,sy,sT,yT,xs,tlx,ys,tly,xs',ys',ho,q1,q2,q3.congr fun k he=>?_,q4,q5⟩,?_⟩)),fy0,?_⟩
 ·rw[J0 (n2 k he),Q5 fun c hc x=>by simp_all]
 ·rw[GF _ _ fun k he x=>n1 k he x.symm,GF _ _ fun k he x=>n2 k he x.symm,VW pv src src',CE _ _ _ (fun x=>by simp_all)]
 grind[X5,HL]
def Wz {x y:Oper}{fr:Fr}{pv:Pv}{K:Fr→Pv→Prop}(hi:Kz ops x y=true)(h:KF P nt ops H0 x fr pv fun fr1 pv1=>KF P nt ops H0 y fr1 pv1 K):
 KF P nt ops H0 y fr pv fun fr1 pv1=>KF P nt ops H0 x fr1 pv1 K:=by
 have hi0:=hi
 simp only[Kz,H7,V7]at hi0
 obtain⟨a1,a2,a3⟩:=Oper.apart_spec hi0.1;obtain⟨⟨hd,hf⟩,u,pv1,h1,⟨hd',hf'⟩,v,pv2,h2,hK⟩:=h;obtain⟨pv3,k1,k2,k3,k4⟩:=Aj0 hi h1 (Zn a1 h2) hf hf';refine⟨⟨hd',k3⟩,v,pv3,k1,⟨hd,k4⟩,u,pv2,As5 a3 k2,?_⟩
 rw[put_comm a2]at hK
 exact hK
def UZ {pre post:List Oper} {o:Oper} {K:Fr→Pv→Prop} (hi:∀x∈pre,Kz ops x o=true):∀{fr:Fr} {pv:Pv},Iq P nt ops H0 (pre++o::post) fr pv K→Iq P nt ops H0 (o::(pre++post)) fr pv K:=by
 induction pre with
 |nil=>simp_all
 |cons x pre ih=>
  intro fr pv h;have h1:KF P nt ops H0 x fr pv fun fr1 pv1=>Iq P nt ops H0 (o::(pre++post)) fr1 pv1 K:=Ql h fun _ _ h=>ih (fun y hy=>hi y (by simp[hy])) h;exact Wz (hi x (by simp)) h1
end
section
variable {P:Program}{nt:Nat}{ops:Array Oper}{H0:A4}
def VR.ref_inv {g:Gh}{w:World}{v:Value}{id off:Nat}(h:VR g w v (.ref id off)):∃b,v= .pointer (some ⟨b,off,none⟩)∧g.mu id=some b:=by
 cases h with
 |ref hm=>simp_all
def XP (fr:Fr)(g:Gh)(a:Act)(id:Nat):Pk→Prop
 | .inl d=>fr.s d= .bad∧∃b,g.mu id=some b∧a.tmps.getD d undef= .pointer (some ⟨b,0,none⟩)
 | .inr n=>id=n
 | .tk _=>True
 | .ex=>True
def Ar9 (fr:Fr)(g:Gh)(w:World)(a:Act)(H H0:A4)(tt:Option Nat)(d:Nat):Prop:=
 ∃xs tl,fr.s d= .sl xs .ro∧VR g w (a.tmps.getD d undef) (.sl xs tl)∧((tt=none∧(tl= .nil∨tl= .full))∨∃t,tt=some t∧tl= .tok t∧H t=some .spare∧H0 t=none)
def WI (nt:Nat) (H0:A4) (g0:Gh) (w0:World) (fr:Fr) (pv:Pv) (g:Gh) (w:World) (a:Act):Prop:=
 ∃ (H:A4) (ids:Pk→Nat),U3 g0 w0 g w∧Rl g H w∧FR nt g w a fr∧(∀id b,H0 id=some b→H id=some b)∧
  (∀d cs,pv d=some cs→d.var=true→H (ids d)=some (.cells cs)∧H0 (ids d)=none∧XP fr g a (ids d) d)∧
  (∀d d' cs cs',pv d=some cs→pv d'=some cs'→d.var=true→d'.var=true→ids d=ids d'→d=d')∧
  ∃tks:Nat→Option Nat,(∀d cs,pv (.tk d)=some cs→Ar9 fr g w a H H0 (tks d) d)∧
   (∀d d' cs cs' t,pv (.tk d)=some cs→pv (.tk d')=some cs'→tks d=some t→tks d'=some t→d=d')∧
   ∀cs,pv .ex=some cs→∃τ,cs=[.sl [] τ]∧((τ= .nil∨τ= .full)∨∃t,τ= .tok t∧H t=some .spare∧H0 t=none∧∀d cs',pv (.tk d)=some cs'→tks d≠some t)
def Tz {a:Act} {D:Option Tmp} {v:Value} {d:Nat} (h:D≠some d):(a.put D v).tmps.getD d undef=a.tmps.getD d undef:=by
 cases D with
 |none=>rfl
 |some e=>
  have hne:e≠d:=fun x=>h (by rw[x]);simp only[Act.put,M7,EV];rw[A3 hne]
def Lk {a:Act}{d:Nat}{v:Value}(h:d<a.tmps.size):(a.put (some d) v).tmps.getD d undef=v:=by
 simp[Act.put,Array.getD,h]
def Oe {fr:Fr} {D:Option Tmp} {v:V} {d:Nat} (h:D≠some d):(fr.put D v).s d=fr.s d:=by
 cases D with
 |none=>rfl
 |some e=>
  have hne:d≠e:=fun x=>h (by rw[x])
  grind[Fr.put]
def AB1 {pv:Pv}{D:Option Tmp}{d:Nat}{cs:List V}(hf:R3 pv D)(h:pv (.inl d)=some cs):D≠some d:=by
 grind[R3]
def Sy {pv:Pv}{D:Option Tmp}{d:Nat}{cs:List V}(hf:R3 pv D)(h:pv (.tk d)=some cs):D≠some d:=by
 grind[R3]
def Ar9.keep {D:Option Tmp}{fr:Fr}{g g':Gh}{w w':World}{a:Act}{H H' H0:A4}{tt:Option Nat}{d:Nat}{x:V}{u:Value}(hk:Ar9 fr g w a H H0 tt d)(hne:D≠some d)(s:U3 g w g' w')(hH:∀t,tt=some t→H t=some .spare→H' t=some .spare):Ar9 (fr.put D x) g' w' (a.put D u) H' H0 tt d:=by
 obtain⟨xs,tl,h1,h2,h3⟩:=hk;refine⟨xs,tl,(Oe hne).trans h1,by rw[Tz hne];exact h2.mono s,h3.imp (fun h=>h) fun⟨t,e1,e2,e3,e4⟩=>⟨t,e1,e2,hH t e1 e3,e4⟩⟩
def XP.keep {pv:Pv} {D:Option Tmp} {fr:Fr} {g g':Gh} {w w':World} {a:Act} {id:Nat} {k:Pk} {cs:List V} {x:V} {u:Value} (hk:XP fr g a id k) (hf:R3 pv D) (h:pv k=some cs) (s:U3 g w g' w'):XP (fr.put D x) g' (a.put D u) id k:=by
 cases k with
 |inl d=>
  obtain⟨k3,b,k4,k5⟩:=hk;have hne:=AB1 hf h;exact⟨(Oe hne).trans k3,b,s.mu _ _ k4,(Tz hne).trans k5⟩
 |inr n=>exact hk
 |tk n=>trivial
 |ex=>trivial
def EH {D:Option Tmp}(h:Gs nt D=true):∀t,D=some t→t<nt:=by
 grind[Gs]
def Zd {r:Option Nat} {g0 g:Gh} {w0 w:World} {a:Act} {o:Oper} {fr:Fr} {pv:Pv} {K:Fr→Pv→Prop} {next:Act→World→Prop} {Q:Exit→Act→World→Prop} (hI:WI nt H0 g0 w0 fr pv g w a)
 (h:KF P nt ops H0 o fr pv K) (hn:∀g' w' a' fr' pv',WI nt H0 g0 w0 fr' pv' g' w' a'→K fr' pv'→next a' w'):
 if Region.wanted o (yielded ops a.tmps)then o.wpIn (Fw r) 0 P a w next Q else(∀f,o.about P w a.eval=some f→(Fw r).fn f)∧next (a.put o.dst undef) w:=by
 obtain⟨H,ids,s,hR,hF,hext,hpv,hinj,tks,htk,htj,hexx⟩:=hI;obtain⟨⟨hd,hfree⟩,u0,pv1,h,hK⟩:=h
 rcases h with⟨o1,o2,hq,rfl⟩|⟨t,z,d,ho,hg,e1,e2,e3,rfl,rfl⟩|⟨t,d,y,key,off,cs,ho,hg,e1,e2,e3,e4,rfl,rfl⟩|⟨dd,src,hdd,⟨hg,sx,sy,sT,yT,xs,tlx,ys,tly,xs',ys',ho,q1,q2,q3,q4,rfl⟩,rfl⟩
 ·
  have keep:∀{g':Gh} {w':World} {u:Value} {x:V},U3 g w g' w'→Rl g' H w'→VR g' w' u x→WI nt H0 g0 w0 (fr.put o.dst x) pv1 g' w' (a.put o.dst u):=by
   intro g' w' u x s' hR' hv;refine⟨H,ids,s.trans s',hR',(hF.mono s').put (EH hd) hv,hext,fun d cs hdc hvar=>?_,hinj,tks,fun d cs hdc=>(htk d cs hdc).keep (Sy hfree hdc) s' fun _ _ h=>h,htj,hexx⟩;obtain⟨k1,k2,k3⟩:=hpv d cs hdc hvar;exact⟨k1,k2,k3.keep hfree hdc s'⟩
  unfold Oz at hq
  split at hq
  ·rename_i hgd;rw[A1 (W9 hF.s hgd)];refine⟨fun _ _=>trivial,?_⟩
   have hnd:∀c,o.op≠ .defer c:=by
    grind[Md]
   rw[AI _ _ _ hnd];refine GV (KT (Ac6 hext hq) (K:=fun x H'=>x=u0∧H'=H) ⟨rfl,rfl⟩ g w a hR hF.s) fun u w' ⟨g',x,H',s',hR',hv,hx,hH⟩=>?_;subst hx;subst hH;exact hn _ _ _ _ _ (keep s' hR' hv) hK
  ·rename_i hgd;rw[A3 (by rw[W9 hF.s hgd];simp)];subst hq;exact⟨fun _ _=>trivial,hn _ _ _ _ _ (keep (U3.refl _ _) hR (VR.und _ _)) hK⟩
  grind
 ·
  have hw:Region.wanted o (yielded ops a.tmps)=true:=by simp[Region.wanted,hg]
  rw[A1 hw];refine⟨fun _ _=>trivial,?_⟩;rw[AI _ _ _ (by intro c hc;rw[ho]at hc;cases hc)];obtain⟨zv,ez,hzv⟩:=CS e2
  have hr:VR g w zv z:=by rw[ez];grind[DJ]
  obtain⟨g',id,hid,s',hR',hv'⟩:=HN hR t hr e3
  have hid0:H0 id=none:=by
   cases hx:H0 id with
   |none=>rfl
   |some b=>rw[hext _ _ hx]at hid;cases hid
  have hmu:g'.mu id=some w.heap.size:=by
   obtain⟨b,e,hm⟩:=hv'.ref_inv;cases e;exact hm
  have hrun:(execOp a.eval o).run P w= .ok (.value (.pointer (some ⟨w.heap.size,0,none⟩))) (w.alloc (.cells zv.cells t)):=by
   unfold execOp;rw[ho];simp only[Instr.alloc,B9,hzv,B7];rfl
  rw[hrun];refine hn g' _ _ (fr.put o.dst .bad) _ ⟨_,fun x=>if x= .inl d then id else ids x,s.trans s',hR',(hF.mono s').put (EH hd) (.bad _),fun x b hx=>?_,fun x cs hx hvar=>?_,fun x x' cs cs' hx hx' v1 v2 hxx=>?_,tks,fun x cs hx=>?_,fun x x' cs cs' t hx hx'=>?_,fun cs hx=>?_⟩ hK
  ·have hne:x≠id:=fun e=>by subst e;rw[hid0]at hx;cases hx
   rw[C3 _ _ hne];exact hext _ _ hx
  ·by_cases hxd:x= .inl d
   ·subst hxd
    simp only[O8,D1,E8]at hx
    subst hx;simp only[D1];refine⟨D6 _ _ _,hid0,by rw[e1];simp[Fr.put],w.heap.size,hmu,?_⟩;rw[e1];exact Lk (by rw[hF.size];exact EH hd _ e1)
   simp only[O8,A3 hxd]at hx
   obtain⟨k1,k2,k3⟩:=hpv x cs hx hvar;simp only[A3 hxd]
   have hne:ids x≠id:=fun e=>by rw[e,hid]at k1;cases k1
   exact⟨(C3 _ _ hne).trans k1,k2,k3.keep hfree hx s'⟩
  ·by_cases h1:x= .inl d<;>by_cases h2:x'= .inl d
   ·rw[h1,h2]
   ·simp_all[O8]
   ·simp only[A3 h1,A1 h2]at hxx
    simp only[O8,A3 h1]at hx
    have:=(hpv x cs hx v1).1
    rw[hxx,hid]at this;cases this
   simp only[A3 h1,A3 h2]at hxx
   simp only[O8,A3 h1]at hx
   simp only[O8,A3 h2]at hx'
   exact hinj _ _ _ _ hx hx' v1 v2 hxx
  ·rw[J0 (by simp)]at hx
   refine(htk x cs hx).keep (Sy hfree hx) s' fun t _ h=>?_;rw[C3 _ _ fun e=>by subst e;rw[hid]at h;cases h];exact h
  ·rw[J0 (by simp)]at hx hx'
   exact htj x x' cs cs' t hx hx'
  grind[upd,O8]
 ·
  have hw:Region.wanted o (yielded ops a.tmps)=true:=by simp[Region.wanted,hg]
  rw[A1 hw];refine⟨fun _ _=>trivial,?_⟩;rw[AI _ _ _ (by intro c hc;rw[ho]at hc;cases hc)]
  have hpk:=e1.at
  have hkv:key.var=true:=by rcases e1 with⟨rfl,_⟩|⟨id,rfl,_⟩<;>rfl
  obtain⟨k1,k2,k3⟩:=hpv key cs hpk hkv
  obtain⟨fr2,hE',hevd,hevy⟩:∃fr2,ER g w a fr2∧ev fr2 (.tmp d)= .ref (ids key) off∧ev fr2 y=ev fr y:=by
   rcases e1 with⟨rfl,rfl,hp⟩|⟨id,rfl,hs,_,hp⟩
   ·obtain⟨k3,b,k4,k5⟩:=k3
    have hyd:y≠ .tmp d:=by
     grind[ev,V.one]
    refine⟨fr.put (some d) (.ref (ids (.inl d)) 0),fun x=>?_,by simp[ev,Fr.put],Wv fun t ht e=>hyd (by rw[e];cases ht;rfl)⟩;simp only[Fr.put]
    split
    ·rename_i e;subst e;rw[k5];exact .ref k4
    exact hF.s x
   have k3:ids (.inr id)=id:=k3;exact⟨fr,hF.s,by simp_all[ev],rfl⟩
  have hst:LA P H t (ev fr2 (.tmp d)) (ev fr2 y)=some (upd H (ids key) (some (.cells (T5 cs off (ev fr y).cells)))):=by
   rw[hevy,hevd]
   simp_all[LA]
  refine GV (Rg ho (fun _ _ _ h=>h) hst (K:=fun x H'=>H'=upd H (ids key) (some (.cells (T5 cs off (ev fr y).cells)))) rfl g w a hR hE') fun u w' ⟨g',x,H',s',hR',hv,hH⟩=>?_;subst hH;refine hn g' w' _ (fr.put o.dst .bad) _ ⟨_,ids,s.trans s',hR',(hF.mono s').put (EH hd) (.bad _),fun x b hx=>?_,fun x cs' hx hvar=>?_,fun x x' cs1 cs2 hx hx' v1 v2 hxx=>?_,tks,fun x cs hx=>?_,fun x x' cs cs' t hx hx'=>?_,fun cs hx=>?_⟩ hK
  ·have hne:x≠ids key:=fun e=>by rw[e,k2]at hx;cases hx
   rw[C3 _ _ hne];exact hext _ _ hx
  ·by_cases hxd:x=key
   ·subst hxd
    simp only[O8,D1,E8]at hx
    subst hx;exact⟨D6 _ _ _,k2,k3.keep hfree hpk s'⟩
   simp only[O8,A3 hxd]at hx
   obtain⟨j1,j2,j3⟩:=hpv x cs' hx hvar;have hne:ids x≠ids key:=fun e=>hxd (hinj _ _ _ _ hx hpk hvar hkv e);exact⟨(C3 _ _ hne).trans j1,j2,j3.keep hfree hx s'⟩
  ·have back:∀{x:Pk} {c:List V},O8 pv key (T5 cs off (ev fr y).cells) x=some c→∃c',pv x=some c':=by
    grind[O8]
   obtain⟨_,hx⟩:=back hx;obtain⟨_,hx'⟩:=back hx';exact hinj _ _ _ _ hx hx' v1 v2 hxx
  ·rw[J0 fun e=>e1.key x e.symm]at hx
   refine(htk x _ hx).keep (Sy hfree hx) s' fun t _ h=>?_;rw[C3 _ _ fun e=>by subst e;rw[k1]at h;cases h];exact h
  ·rw[J0 fun e=>e1.key x e.symm]at hx
   rw[J0 fun e=>e1.key x' e.symm]at hx'
   exact htj x x' _ _ t hx hx'
  rw[J0 fun e=>e1.keyx e.symm]at hx
  grind[C3,J0]
 have hw:Region.wanted o (yielded ops a.tmps)=true:=by simp[Region.wanted,hg]
 rw[A1 hw];refine⟨fun _ _=>trivial,?_⟩;rw[AI _ _ _ (by intro c hc;rw[ho]at hc;cases hc)];obtain⟨e,sz,by_,z,c1,c2,c3,c4,c5,c6,c7,c8,c9,l1,l2,c10,c11,c12⟩:=q4
 obtain⟨fr2,tl,tly2,hE',h1,h2,hA,hsrc⟩:∃fr2 tl tly2,ER g w a fr2∧ev fr2 sx= .sl xs tl∧ev fr2 sy= .sl ys tly2∧EN H tl∧
  ∀t,tl= .tok t→H t=some .spare∧H0 t=none∧(∀d cs,U7 pv src (.tk d)=some cs→tks d≠some t)∧∀τ,U7 pv src .ex=some [.sl [] τ]→τ≠ .tok t:=by
  rcases src with _|⟨d⟩|⟨d⟩|⟨d⟩|_
  ·exact⟨fr,tlx,tly,hF.s,q1,q2,(by rcases q3 with rfl|rfl<;>trivial),fun t ht=>by rcases q3 with h|h<;>rw[h]at ht<;>cases ht⟩
  ·exact q3.elim
  ·exact q3.elim
  rotate_left
  ·have q3:pv .ex=some [.sl [] tlx]:=q3;obtain⟨τ,e1,e2⟩:=hexx _ q3
   have e1:tlx=τ:=by cases e1;rfl
   subst e1;refine⟨fr,tlx,tly,hF.s,q1,q2,?_,fun t ht=>?_⟩
   ·grind[EN]
   grind[U7]
  obtain⟨rfl,rfl,q5⟩:=q3;obtain⟨cs0,hcs⟩:=Option.isSome_iff_exists.1 q5;obtain⟨xs2,tl,t1,t2,t3⟩:=htk d cs0 hcs
  have ex:xs2=xs:=by
   have:fr.s d= .sl xs .ro:=q1
   rw[t1]at this;cases this;rfl
  subst ex
  have hA:EN H tl:=by
   grind[EN]
  have hs2:∀t,tl= .tok t→H t=some .spare∧H0 t=none∧(∀d' cs,U7 pv (some (.tk d)) (.tk d')=some cs→tks d'≠some t)∧∀τ,U7 pv (some (.tk d)) .ex=some [.sl [] τ]→τ≠ .tok t:=by
   grind[U7]
  by_cases hyd:sy= .tmp d
  ·subst hyd
   have:ys=xs2:=by
    have e1:fr.s d= .sl ys tly:=q2
    rw[t1]at e1;cases e1;rfl
   subst this
   exact⟨fr.put (some d) (.sl ys tl),tl,tl,fun x=>(by
    simp only[Fr.put];split
    ·rename_i e;subst e;exact t2
    exact hF.s x),by simp[ev,Fr.put],by simp[ev,Fr.put],hA,hs2⟩
  exact⟨fr.put (some d) (.sl xs2 tl),tl,tly,fun x=>(by
   simp only[Fr.put];split
   ·rename_i e;subst e;exact t2
   exact hF.s x),by simp[ev,Fr.put],by rw[Wv fun t ht e=>hyd (by rw[e];cases ht;rfl)];exact q2,hA,hs2⟩
 have hsim:=LD (P:=P) (K:=fun x H'=>∃zs tl',BV x (.sl (xs'++ys') tl')∧zs=xs'++ys'∧((ys=[]∧tl'=tl∧H'=H)∨∃t,tl'= .tok t∧G0 H tl t=none∧H'=upd (G0 H tl) t (some .spare))) ho h1 h2 c1 c2 c3 c4 c5 c6 c7 c8 c9 hA (l1.sz c10) (l2.sz c11) (by rw[l1.length,l2.length];exact c12)
  (fun e=>⟨_,tl,by subst e;cases l2;rw[G9];exact .slt _ l1,rfl,.inl ⟨e,rfl,rfl⟩⟩) (fun t _ ht=>⟨_,.tok t,.slt _ (l1.append l2),rfl,.inr ⟨t,rfl,ht,rfl⟩⟩)
 refine GV (hsim g w a hR hE') fun u w' ⟨g',x,H',s',hR',hv,zs,tl',hle,_,hcase⟩=>?_;have hv:=hv.le hle;have hvro:VR g' w' u (.sl (xs'++ys') .ro):=Wk.ro _ _ _ _ _ hv
 have keepB:∀id b,H id=some b→b≠ .spare→H' id=some b:=fun id b hb hne=>by
  rcases hcase with⟨_,_,rfl⟩|⟨t,_,ht,rfl⟩
  ·exact hb
  have hdr:G0 H tl id=some b:=by
   cases tl with
   |tok t0=>
    have:id≠t0:=fun e=>by subst e;rw[show H id=some .spare from hA]at hb;cases hb;exact hne rfl
    simp only[G0];rw[C3 _ _ this];exact hb
   |_=>exact hb
  rw[C3 _ _ fun e=>by subst e;rw[ht]at hdr;cases hdr];exact hdr
 have keepS:∀t,H t=some .spare→tl≠ .tok t→H' t=some .spare:=fun t hb hne=>by
  rcases hcase with⟨_,_,rfl⟩|⟨t1,_,ht,rfl⟩
  ·exact hb
  have hdr:G0 H tl t=some .spare:=by
   cases tl with
   |tok t0=>
    simp only[G0];rw[C3 _ _ fun e=>by subst e;exact hne rfl];exact hb
   |_=>exact hb
  rw[C3 _ _ fun e=>by subst e;rw[ht]at hdr;cases hdr];exact hdr
 have hH0:∀id b,H0 id=some b→H' id=some b:=fun id b hb=>by
  by_cases hsp:b= .spare
  ·subst hsp;refine keepS id (hext _ _ hb) fun e=>?_;have:=(hsrc id e).2.1
   rw[this]at hb;cases hb
  exact keepB id b (hext _ _ hb) hsp
 let tks':Nat→Option Nat:=fun x=>if x=dd then(match tl' with| .tok t=>some t|_=>none)else tks x
 have hddl:dd<nt:=EH hd dd hdd
 have hnew:∀t,tl'= .tok t→H' t=some .spare∧H0 t=none∧(∀d cs,U7 pv src (.tk d)=some cs→tks d=some t→False)∧∀τ,U7 pv src .ex=some [.sl [] τ]→τ≠ .tok t:=fun t ht=>by
  rcases hcase with⟨e0,e1,rfl⟩|⟨t1,e1,htn,rfl⟩
  ·rw[e1]at ht
   obtain⟨h3,h4,h5,h6⟩:=hsrc t ht
   grind
  rw[e1]at ht;cases ht
  have drop:∀x b,H x=some b→(∀t0,tl= .tok t0→x≠t0)→G0 H tl x=some b:=fun x b hx hne=>by
   cases tl with
   |tok t0=>simp only[G0];rw[C3 _ _ (hne t0 rfl)];exact hx
   |_=>exact hx
  refine⟨D6 _ _ _,?_,fun d cs hdc htd=>?_,fun τ hx he=>?_⟩
  ·cases h0:H0 t with
   |none=>rfl
   |some b=>
    exfalso
    have:=drop t b (hext _ _ h0) fun t0 e x=>by subst x;rw[(hsrc t e).2.1]at h0;cases h0
    rw[htn]at this;cases this
  ·obtain⟨hp1,hp2⟩:=CF hdc;obtain⟨xs3,tl3,t1,t2,t3⟩:=htk d cs hp1
   rcases t3 with⟨e,_⟩|⟨t4,e,_,hsp,_⟩
   ·rw[e]at htd;cases htd
   rw[e]at htd;cases htd
   have:=drop t _ hsp fun t0 e' x=>by subst x;exact(hsrc t e').2.2.1 d cs hdc e
   rw[htn]at this;cases this
  grind[CF]
 refine hn g' w' _ (fr.put o.dst (.sl (xs'++ys') .ro)) _ ⟨H',ids,s.trans s',hR',(hF.mono s').put (EH hd) hvro,hH0,fun k cs hk hvar=>?_,fun k k' cs cs' hk hk' v1 v2=>?_,tks',fun d cs hdc=>?_,fun d d' cs cs' t hx hx' e1 e2=>?_,fun cs hx=>?_⟩ hK
 ·have hk1:pv k=some cs:=by
   rw[J0 fun e=>by subst e;cases hvar]at hk
   grind[CF]
  obtain⟨k1,k2,k3⟩:=hpv k cs hk1 hvar;exact⟨keepB _ _ k1 (by simp),k2,k3.keep hfree hk1 s'⟩
 ·rw[J0 fun e=>by subst e;cases v1]at hk
  rw[J0 fun e=>by subst e;cases v2]at hk'
  grind[CF]
 ·by_cases e:d=dd
  ·subst e;refine⟨xs'++ys',tl',by rw[hdd];simp[Fr.put],by rw[hdd,Lk (by rw[hF.size];exact hddl)];exact hv,?_⟩;simp only[tks',D1]
   cases tl' with
   |tok t=>exact .inr ⟨t,rfl,rfl,(hnew t rfl).1,(hnew t rfl).2.1⟩
   |nil=>simp
   |full=>simp
   |ro=>
    exfalso
    rcases hcase with⟨_,e1,_⟩|⟨t1,e1,_⟩
    ·rw[←e1]at hA;exact hA
    cases e1
  rw[J0 fun x=>by cases x;exact e rfl]at hdc
  obtain⟨hp1,hp2⟩:=CF hdc;simp only[tks',A3 e];exact(htk d cs hp1).keep (Sy hfree hp1) s' fun t htd hsp=>keepS t hsp fun he=>(hsrc t he).2.2.1 d cs hdc htd
 ·by_cases h1:d=dd<;>by_cases h2:d'=dd
  ·rw[h1,h2]
  ·exfalso
   rw[J0 fun x=>by cases x;exact h2 rfl]at hx'
   simp only[tks',A1 h1]at e1
   simp only[tks',A3 h2]at e2
   cases tl' with
   |tok t1=>cases e1;exact(hnew t rfl).2.2.1 d' cs' hx' e2
   |_=>cases e1
  ·exfalso
   rw[J0 fun x=>by cases x;exact h1 rfl]at hx
   simp only[tks',A3 h1]at e1
   simp only[tks',A1 h2]at e2
   cases tl' with
   |tok t1=>cases e2;exact(hnew t rfl).2.2.1 d cs hx e1
   |_=>cases e2
  rw[J0 fun x=>by cases x;exact h1 rfl]at hx
  rw[J0 fun x=>by cases x;exact h2 rfl]at hx'
  simp only[tks',A3 h1]at e1
  simp only[tks',A3 h2]at e2
  grind[CF]
 rw[J0 (by simp)]at hx
 obtain⟨τ,e1,e2⟩:=hexx _ (CF hx).1;subst e1;refine⟨τ,rfl,e2.imp (fun h=>h) fun⟨t,j1,j2,j3,j4⟩=>⟨t,j1,keepS t j2 fun he=>(hsrc t he).2.2.2 τ hx j1,j3,fun d cs' hd'=>?_⟩⟩
 by_cases e:d=dd
 ·simp only[tks',A1 e]
  cases tl' with
  |tok t1=>exact fun he=>by cases he;exact(hnew t rfl).2.2.2 τ hx j1
  |_=>exact fun he=>by cases he
 rw[J0 fun x=>by cases x;exact e rfl]at hd'
 simp only[tks',A3 e]
 grind[CF]
def Ze {k:Nat}(h:Qn ops k=true):k≤ops.size∧∀i,i<ops.size→Bj (ops.getD i default) i=true∧
 ∀j,j<i→IZ ops Nf i j=true∨(i<k∧Kz ops (ops.getD j default) (ops.getD i default)=true):=by
 simp only[Qn,H7,B2,DS,DM,Y2]at h
 grind
theorem OQ {i:Nat}(h:i<ops.size):ops.getD i default=ops[i]:=by simp_all
def mem_ready {listed:Array Bool}{i:Nat}(h:i∈Region.ready .any ops listed):i<ops.size∧listed.getD i true=false∧∀j,Dd (ops.getD i default) j=true→listed.getD j false=true:=by
 simp only[Region.ready,List.mem_filter,DM,H7,V7]at h
 grind[OQ,Dd]
def Es {listed:Array Bool} (hcl:∀m j,listed.getD m false=true→Dd (ops.getD m default) j=true→listed.getD j false=true):∀(n i j:Nat),(∀j,Dd (ops.getD i default) j=true→listed.getD j false=true)→IZ ops n i j=true→listed.getD j false=true
 |0,i,j,hi,h=>hi j h
 | n+1,i,j,hi,h=>by
  simp only[IZ,Y2,Ht,H7]at h
  rcases h with h|⟨x,hx,hb,_,h⟩
  ·exact hi j h
  have hm:Dd (ops.getD i default) ((ops.getD i default).after[x]).on=true:=by
   grind[Dd]
  exact Es hcl n _ j (fun j' h'=>hcl _ j' (hi _ hm) h') h
def Pw {listed:Array Bool}{i:Nat}(h1:i<ops.size)(h2:listed.getD i true=false)(hb:Bj (ops.getD i default) i=true)(h3:∀j,j<i→listed.getD j false=true):i∈Region.ready .any ops listed:=by
 simp only[Region.ready,List.mem_filter,DM,H7,V7]
 grind[OQ,Bj]
def KC {listed:Array Bool}{i j:Nat}{d:Bool}(hi:i<listed.size):(listed.setIfInBounds i true).getD j d=if j=i then true else listed.getD j d:=by
 simp only[M7,EV]
 grind
def Pb {A:QG} {r:Option Nat} {k:Nat} {K:Fr→A4→Prop} {Q:Exit→Act→World→Prop} {g0:Gh} {w0:World} (hat:∀i,i<ops.size→Bj (ops.getD i default) i=true∧∀j,j<i→k≤j→IZ ops Nf i j=true) (hQ:∀g w a fr H,U3 g0 w0 g w→Rl g H w→FR nt g w a fr→K fr H→Q .normal a w):
 ∀(d m:Nat) (listed:Array Bool) (fr:Fr) (H:A4),m+d=ops.size→k≤m→listed.size=ops.size→(∀i b,i<ops.size→listed.getD i b=decide (i<m))→HV P A nt ops (ops.toList.drop m) fr H K→
  ∀g w a,U3 g0 w0 g w→Rl g H w→FR nt g w a fr→wpAnyIn (Fw r) 0 P .any ops Q d listed a w
 |0,m,listed,fr,H,hm,hk,hsz,hl,h,g,w,a,s,hR,hF=>by
  have:ops.toList.drop m=[]:=by simp;omega
  rw[this]at h
  refine⟨?_,hQ g w a fr H s hR hF h⟩;rw[JN];intro i hi;obtain⟨h1,h2,_⟩:=mem_ready hi
  rw[hl i true h1]at h2
  simp_all
 | d + 1,m,listed,fr,H,hm,hk,hsz,hl,h,g,w,a,s,hR,hF=>by
  have hlt:m<ops.size:=by omega
  have hready:m∈Region.ready .any ops listed:=Pw hlt (by rw[hl m true hlt];simp) (hat m hlt).1 fun j hj=>by rw[hl j false (by omega)];grind
  refine⟨fun e=>(by rw[e]at hready;cases hready),fun i hi=>?_⟩;obtain⟨h1,h2,h3⟩:=mem_ready hi
  have him:i=m:=by
   rw[hl i true h1]at h2
   simp only[Cs,Nat.not_lt]at h2
   rcases G6 m i with hlt'|hge
   ·have he:=(hat i h1).2 m hlt' hk
    ·have:=Es (fun m' j hm' hj=>by
      have hms:m'<ops.size:=by
       grind
      rw[hl m' false hms]at hm'
      simp only[B2]at hm'
      have hb:=(hat m' hms).1
      simp only[Bj,Array.all_eq_true]at hb
      simp only[Dd,Ht,H7,Cu]at hj
      obtain⟨x,hx,rfl,hbx⟩:=hj;have:=hb x hx
      simp only[hbx,M5,Hm,B2]at this
      rw[hl _ false (by omega)]
      grind) Nf i m h3 he
     rw[hl m false hlt]at this
     simp at this
   omega
  subst him
  have hdl:ops.toList.drop i=ops[i]::ops.toList.drop (i+1):=by
   rw[Aj (by omega)];simp
  rw[hdl]at h
  simp only[HV]at h
  obtain⟨hd,h⟩:=h;have ih:=Pb (A:=A) (r:=r) (K:=K) hat hQ d (i+1) (listed.setIfInBounds i true)
  have hl':∀j b,j<ops.size→(listed.setIfInBounds i true).getD j b=decide (j<i+1):=by
   intro j b hj;rw[KC (by omega),hl j b hj]
   grind
  simp only[wpOpIn,Ak hlt]
  split at h
  ·rename_i hg;rw[A1 (W9 hF.s hg)];exact Re hR hF hd h fun g' w' a' v H' s' hR' hF' hK=>ih _ _ (by omega) (by omega) (by grind) hl' hK g' w' a' (s.trans s') hR' hF'
  ·rename_i hg;rw[A3 (by rw[W9 hF.s hg];simp)];exact⟨fun _ _=>trivial,ih _ _ (by omega) (by omega) (by grind) hl' h g w _ s hR (hF.put (EH hd) (VR.und _ _))⟩
  grind
def Qy {r:Option Nat} {k:Nat} {K:Fr→Pv→Prop} {Q:Exit→Act→World→Prop} {g0:Gh} {w0:World} (hk:k≤ops.size) (hat:∀i,i<ops.size→Bj (ops.getD i default) i=true∧∀j,j<i→IZ ops Nf i j=true∨(i<k∧Kz ops (ops.getD j default) (ops.getD i default)=true)∨k≤j)
 (hdone:∀g w a fr pv listed,listed.size=ops.size→(∀i b,i<ops.size→listed.getD i b=decide (i<k))→WI nt H0 g0 w0 fr pv g w a→K fr pv→wpAnyIn (Fw r) 0 P .any ops Q (ops.size-k) listed a w):
 ∀(n:Nat) (L:List Nat) (listed:Array Bool) (fr:Fr) (pv:Pv),L.length=n→L.Pairwise (· < ·)→(∀i∈L,i<k)→listed.size=ops.size→(∀i b,i<ops.size→listed.getD i b=decide (i<k∧i∉L))→(∀m j,listed.getD m false=true→Dd (ops.getD m default) j=true→listed.getD j false=true)→
  Iq P nt ops H0 (L.map fun i=>ops.getD i default) fr pv K→∀g w a,WI nt H0 g0 w0 fr pv g w a→wpAnyIn (Fw r) 0 P .any ops Q (n+(ops.size-k)) listed a w
 |0,L,listed,fr,pv,hn,_,_,hsz,hl,_,h,g,w,a,hI=>by
  have:L=[]:=List.length_eq_zero_iff.1 hn;subst this;rw[V1];exact hdone g w a fr pv listed hsz (fun i b hi=>by rw[hl i b hi];simp) hI h
 | n+1,L,listed,fr,pv,hn,hsort,hlt,hsz,hl,hcl,h,g,w,a,hI=>by
  have hL:L≠[]:=by intro e;rw[e]at hn;simp at hn
  obtain⟨i0,L0,hL0⟩:∃i0 L0,L=i0::L0:=by cases L with
   |nil=>exact absurd rfl hL
   |cons x y=>exact⟨x,y,rfl⟩
  have hi0:i0<k:=hlt i0 (by rw[hL0];simp);rw[show n+1+(ops.size-k)=(n+(ops.size-k))+1 by omega]
  have hready:i0∈Region.ready .any ops listed:=by
   refine Pw (by omega) (by rw[hl i0 true (by omega),hL0];simp) (hat i0 (by omega)).1 fun j hj=>?_;rw[hl j false (by omega)]
   have:j∉L:=by
    rw[hL0]at hsort ⊢
    grind[List.pairwise_cons]
   simp only[B2];exact⟨by omega,this⟩
  refine⟨fun e=>(by rw[e]at hready;cases hready),fun i hi=>?_⟩;obtain⟨h1,h2,h3⟩:=mem_ready hi
  rw[hl i true h1]at h2
  simp only[Cs,not_and,Classical.not_not]at h2
  have hik:i<k:=by
   rcases G6 i k with hh|hh
   ·exact hh
   exfalso
   rcases(hat i h1).2 i0 (by omega)with he|⟨hc,_⟩|hc
   ·have:=Es hcl Nf i i0 h3 he
    rw[hl i0 false (by omega),hL0]at this
    simp at this
   ·omega
   omega
  have hiL:=h2 hik;obtain⟨pre,post,hsplit⟩:=JE hiL
  have hind:∀x∈pre.map (fun i=>ops.getD i default),Kz ops x (ops.getD i default)=true:=by
   intro x hx;obtain⟨j,hj,rfl⟩:=List.mem_map.1 hx
   have hjL:j∈L:=by rw[hsplit];simp[hj]
   have hji:j<i:=by
    rw[hsplit]at hsort
    grind
   rcases(hat i h1).2 j hji with he|⟨_,hc⟩|hc
   ·have:=Es hcl Nf i j h3 he
    rw[hl j false (by omega)]at this
    simp_all
   ·exact hc
   grind
  rw[hsplit,AL,G2]at h
  have hf:=UZ hind h
  have hstep:KF P nt ops H0 (ops.getD i default) fr pv fun fr' pv'=>Iq P nt ops H0 ((pre++post).map fun i=>ops.getD i default) fr' pv' K:=by
   rw[AL];exact hf
  simp only[wpOpIn,Ak h1]
  rw[OQ h1]at hstep
  have hnd:i∉pre++post:=by
   rw[hsplit]at hsort
   grind[List.pairwise_cons]
  refine Zd (r:=r) hI hstep fun g' w' a' fr' pv' hI' hK=>?_;refine Qy hk hat hdone n (pre++post) _ fr' pv' ?_ ?_ ?_ (by simpa using hsz) ?_ ?_ hK g' w' a' hI'
  ·rw[hsplit]at hn;simp at hn ⊢;omega
  ·rw[hsplit]at hsort
   grind
  ·grind
  ·intro j b hj;rw[KC (by omega),hl j b hj]
   by_cases e:j=i
   ·subst e;simp[hik,hnd]
   rw[A3 e]
   congr 1
   rw[hsplit];simp[e]
  intro m j hm hj
  rw[KC (by omega)]at hm ⊢
  by_cases ej:j=i
  ·rw[A1 ej]
  rw[A3 ej]
  by_cases em:m=i
  ·subst em;exact h3 j hj
  rw[A3 em]at hm;exact hcl m j hm hj
end
def Gc (s:Nat→V):List Tmp→List V→Nat→V
 |p::ps,x::xs=>Gc (fun t=>if t=p then x else s t) ps xs
 |_,_=>s
def PC {g:Gh} {w:World} {nt:Nat}:∀(ps:List Tmp) (vals:List Value) (xs:List V) (tmps:Array Value) (s:Nat→V),tmps.size=nt→(∀p∈ps,p<nt)→vals.length=xs.length→(∀i,i<xs.length→VR g w (vals.getD i undef) (xs.getD i .bad))→xs.length=ps.length→
 (∀t,VR g w (tmps.getD t undef) (s t))→((ps.zip vals).foldl (fun t (p,v)=>t.setIfInBounds p v) tmps).size=nt∧∀t,VR g w (((ps.zip vals).foldl (fun t (p,v)=>t.setIfInBounds p v) tmps).getD t undef) (Gc s ps xs t)
 |[],[],[],tmps,s,hn,_,_,_,_,h=>⟨hn,h⟩
 | p::ps,v::vals,x::xs,tmps,s,hn,hp,hl,hv,hx,h=>by
  simp only[List.zip_cons_cons,List.foldl_cons,Gc];refine PC ps vals xs _ _ (by grind) (fun q hq=>hp q (by simp[hq])) (by grind) (fun i hi=>by simpa using hv (i+1) (by grind)) (by grind) fun t=>?_;have hpn:=hp p (by simp)
  by_cases e:t=p
  ·subst e
   have:(tmps.setIfInBounds t v).getD t undef=v:=by simp_all
   rw[this];simpa using hv 0 (by simp)
  have:(tmps.setIfInBounds p v).getD t undef=tmps.getD t undef:=by
   simp only[M7,EV];rw[A3 (fun h=>e h.symm)]
  rw[this];simp_all
 |[],[],_::_,_,_,_,_,hl,_,_,_=>by simp at hl
 |[],_::_,[],_,_,_,_,hl,_,_,_=>by simp at hl
 |[],_::_,_::_,_,_,_,_,_,_,hx,_=>by simp at hx
 |_::_,[],[],_,_,_,_,_,_,hx,_=>by simp at hx
 |_::_,[],_::_,_,_,_,_,hl,_,_,_=>by simp at hl
 |_::_,_::_,[],_,_,_,_,hl,_,_,_=>by simp at hl
def LO:Exit→Option (Option Code)
 | .normal=>some none
 | .ret=>some (some .ret)
 | .exit id=>some (some (.exit id))
 | .goto t=>some (some (.goto t))
 |_=>none
def Ay5 (id:Nat)(L:LpI)(K:V→A4→Prop)(e:Exit)(H2:A4):Prop:=
 ∃jump,LO e=some jump∧H2 id=some (.loop {L with st:=.busy})∧K (.bool jump.isNone) (upd H2 id (some (.loop {L with st:=if jump.isNone then .ready else .done,pe:=jump})))
def Vi {P:Program} {id:Nat} {L:LpI} {x:List V} {H:A4} {K:V→A4→Prop} (hk:H id=some (.loop L)) (hst:L.st= .ready) (hx:x.length=L.ps.size) (hps:∀p∈L.ps,p<L.nt)
 (h:T4 P L.nt (some id) L.asg ⟨Gc L.s L.ps.toList x,[]⟩ H fun e fr' H1=>e= .normal∧H1 id=some (.loop L)∧
  T4 P L.nt (some id) L.body fr' (upd H1 id (some (.loop {L with st:=.busy}))) fun e _ H2=>Ay5 id L K e H2):CR P (.yield id) x H K:=by
 intro g w v vals hR hv hA
 cases hv with
 | yield hmu=>
  rename_i b;obtain⟨b',r,h1,h2,h3,h4,h5,h6,h7,h8,h9,h10⟩:=hR.blk id _ hk
  rw[hmu]at h1;cases h1
  have hrun:(do let d ←Deferred.ofValue (.func (.yield b) #[] #[]) vals;invoke d.target d.args:Sem Next).run P w=
   .ok (.round b r.fn ((r.params.zip vals).foldl (fun tmps (t,a)=>tmps.setIfInBounds t a) r.tmps) r.assign r.body) w:=by
   have hy:=run_yield (P:=P) (args:=vals) h3 (by rw[hA.1,hx,h6])
   simpa[Deferred.ofValue,B9,C4,B7,invoke]using hy
  rw[hrun]
  show RoundIn Fence.wide 0 P b r.fn _ r.assign r.body w _
  have hpa:=PC (g:=g) (w:=w) (nt:=L.nt) L.ps.toList vals.toList x r.tmps L.s h9 (fun p hp=>hps p (by grind)) (by simpa using hA.1) (fun i hi=>by
   have:=hA.2 i hi
   simp_all) (by omega) h10
  have hfold:(r.params.zip vals).foldl (fun tmps (t,a)=>tmps.setIfInBounds t a) r.tmps=(L.ps.toList.zip vals.toList).foldl (fun t (p,v)=>t.setIfInBounds p v) r.tmps:=by
   rw[h6,←Array.foldl_toList];simp
  rw[hfold];refine roundIn_of_wpIn trivial ?_
  show r.assign.wpIn (Fw (some b)) 0 P _ _ w
  rw[h7];refine wpIn_mono (h (some b) g w _ ⟨b,hmu,rfl⟩ hR ⟨hpa.1,hpa.2,[],rfl,fun i hi=>by simp at hi,rfl⟩) fun e a1 w1 ⟨g1,fr1,H1,s1,hR1,hF1,he,hk1,hbody⟩=>?_;subst he;obtain⟨b1,r1,i1,i2,i3,i4,i5,i6,i7,i8,i9,i10⟩:=hR1.blk id _ hk1;have hmu1:=s1.mu _ _ hmu
  rw[hmu1]at i1;cases i1
  refine⟨_,run_beginRound i3 (i4.trans hst),?_⟩
  obtain⟨s2,hR2⟩:=hR1.putGen (k':=.loop {L with st:=.busy}) (o':=.loop {r1 with state:=.busy}) rfl rfl hk1 hmu1 rfl fun s hh hb=>
   ⟨b,_,hmu1,hb,hh,rfl,i5,i6,i7,i8,i9,fun t=>(i10 t).mono s⟩
  show r.body.wpIn (Fw (some b)) 0 P _ _ _
  rw[h8];refine wpIn_mono (hbody (some b) g1 _ a1 ⟨b,hmu1,rfl⟩ hR2 (hF1.mono s2)) fun e a3 w3 ⟨g3,fr3,H3,s3,hR3,hF3,jump,hj,hk3,hK⟩=>?_;obtain⟨b3,r3,j1,j2,j3,j4,j5,j6,j7,j8,j9,j10⟩:=hR3.blk id _ hk3;have hmu3:=s3.mu _ _ hmu1
  rw[hmu3]at j1;cases j1
  obtain⟨s4,hR4⟩:=hR3.putGen (k':=.loop {L with st:=if jump.isNone then .ready else .done,pe:=jump}) (o':=.loop {r3 with state:=if jump.isNone then .ready else .done,pending:=jump}) rfl rfl hk3 hmu3 rfl fun s hh hb=>
   ⟨b,_,hmu3,hb,hh,rfl,rfl,j6,j7,j8,j9,fun t=>(j10 t).mono s⟩
  have hend:=run_endRound (P:=P) jump j3
  have fin:∃v w',(Instr.endRound b jump).run P w3= .ok v w'∧∃u,Ending.returned v= .returned u∧L4 g w K u w':=
   ⟨_,_,hend,_,rfl,g3,_,_,((s1.trans s2).trans s3).trans s4,hR4,.bool _,hK⟩
  cases e<;>simp only[LO,E8,reduceCtorEq]at hj<;>subst hj<;>exact fin
structure D9 (I:A4→A4→Prop):Prop where
 le:∀{F H},I F H→∀id b,F id=some b→H id=some b
 chg:∀{F H} (id:Nat) (b:Option Dh),I F H→H id=F id→I (upd F id b) (upd H id b)
def D9.fresh {I:A4→A4→Prop}(h:D9 I){F H:A4}(i:I F H){id:Nat}(hn:H id=none):F id=none:=by
 cases hf:F id with
 |none=>rfl
 |some b=>rw[h.le i id b hf]at hn;cases hn
def Gu (P:Program) (it:V) (xs:List (List V)):Prop:=
 ∃ f C,it= .func (.func f) [] C∧(∀vals w,(callFunc f vals).run P w= .ok (.enter f vals) w)∧
  ∀(yv:V) (I:List (List V)→A4→A4→Prop) (D:A4→A4→Prop),(∀l,D9 (I l))→D9 D→
   ((yv.one=true∧yv.cells=[yv])∧∀x l F H,I (x::l) F H→CR P yv x H fun r H'=>(r= .bool true∧I l F H')∨(r= .bool false∧D F H'))→
   ∀F H,I xs F H→J1 P f (yv::C) H fun _ H'=>I [] F H'∨D F H'
def RH (I:A4→A4→Prop)(D:Code→A4→A4→Prop)(F:A4)(e:Exit)(H:A4):Prop:=
 match e with
 | .normal=>I F H
 | .ret=>D .ret F H
 | .exit k=>D (.exit k) F H
 |_=>False
def Wx {I:A4→A4→Prop}{D:Code→A4→A4→Prop}{F:A4}{e:Exit}{H:A4}(h:RH I D F e H):(LO e=some none∧I F H)∨∃c,LO e=some (some c)∧D c F H:=by
 cases e<;>simp only[RH]at h
 ·simp_all[LO]
 ·simp_all[LO]
 simp_all[LO]
section
variable {P:Program}{nt:Nat}
def PA {fr:Fr} {ps:Array Tmp} {asg body:Code} {xs:List (List V)} {f:FuncId} {C:List V} {id:Nat} (hnt:∀p∈ps,p<nt) (hps:∀x∈xs,x.length=ps.size)
 (hit:∀(yv:V) (I:List (List V)→A4→A4→Prop) (D:A4→A4→Prop),(∀l,D9 (I l))→D9 D→
  ((yv.one=true∧yv.cells=[yv])∧∀x l F H,I (x::l) F H→CR P yv x H fun r H'=>(r= .bool true∧I l F H')∨(r= .bool false∧D F H'))→
  ∀F H,I xs F H→J1 P f (yv::C) H fun _ H'=>I [] F H'∨D F H')
 (I:List (List V)→A4→A4→Prop) (D:Code→A4→A4→Prop) (hI:∀l,D9 (I l)) (hD:∀c,D9 (D c)) (J:List V→List (List V)→Fr→A4→A4→Prop) (hJ:∀x l fr,D9 (J x l fr))
 (assign:∀id L x l F H,I (x::l) F H→F id=some (.loop L)→x.length=ps.size→T4 P nt (some id) asg ⟨Gc fr.s ps.toList x,[]⟩ H fun e fr' H1=>e= .normal∧J x l fr' F H1)
 (round:∀id L x l fr' F H,J x l fr' F H→F id=some (.loop L)→T4 P nt (some id) body fr' H fun e _ H'=>RH (I l) D F e H')
 {F0 H2:A4} {L:LpI} (hL:L={nt:=nt,s:=fr.s,st:=.ready,pe:=none,ps:=ps,asg:=asg,body:=body}) (hF0:F0 id=none) (h0:I xs (upd F0 id (some (.loop L))) H2)
 {g2:Gh} {w2:World} {b:Nat} {vals:Array Value} (hR:Rl g2 H2 w2) (hmu:g2.mu id=some b) (hA:Args g2 w2 vals (.yield id::C)) (hcf:(callFunc f vals).run P w2= .ok (.enter f vals) w2):
 CallsIn Fence.wide 0 P f vals w2 fun e w3=>∃v,e= .returned v∧∃g3 H3 jump w4,U3 g2 w2 g3 w4∧Rl g3 H3 w4∧(Instr.endLoop b).run P w3= .ok jump w4∧((jump=none∧I [] F0 H3)∨∃c,jump=some c∧D c F0 H3):=by
 have hc:=hit (.yield id) (fun l F H=>(∀x∈l,x.length=ps.size)∧F id=none∧I l (upd F id (some (.loop L))) H)
  (fun F H=>F id=none∧∃c,D c (upd F id (some (.loop {L with st:=.done,pe:=some c}))) H) ?_ ?_ ⟨⟨rfl,rfl⟩,?_⟩ F0 H2 ⟨hps,hF0,h0⟩ g2 w2 vals hR hA
 ·rw[hcf]at hc
  have hc':CallsIn Fence.wide 0 P f vals w2 _:=hc;refine hc'.mono fun e w3 ⟨v,he,g3,u,H3,s,hR3,_,hK⟩=>⟨v,he,?_⟩;have hmu3:=s.mu _ _ hmu
  have fin:∀(L':LpI) (X:A4→A4→Prop),D9 X→X (upd F0 id (some (.loop L'))) H3→L'.st≠ .busy→∃g4 H4 w4,U3 g2 w2 g4 w4∧Rl g4 H4 w4∧(Instr.endLoop b).run P w3= .ok L'.pe w4∧X F0 H4:=by
   intro L' X hX hx hst;have hk3:=hX.le hx id _ (D6 _ _ _);obtain⟨b3,r3,j1,j2,j3,j4,j5,j6,j7,j8,j9,j10⟩:=hR3.blk id _ hk3
   rw[hmu3]at j1;cases j1
   have hend:=run_endLoop (P:=P) j3 (by rw[j4];exact hst)
   rw[j5]at hend
   obtain⟨s4,hR4⟩:=hR3.putGen (k':=.loop {L' with st:=.exhausted}) (o':=.loop {r3 with state:=.exhausted,pending:=L'.pe}) rfl rfl hk3 hmu3 rfl fun s hh hb=>
    ⟨b,_,hmu3,hb,hh,rfl,rfl,j6,j7,j8,j9,fun t=>(j10 t).mono s⟩
   refine⟨g3,upd H3 id none,_,s.trans s4,hR4.less fun x bb hx=>?_,hend,?_⟩
   ·simp_all[upd]
   have:=hX.chg id none hx (by rw[hk3,D6])
   rwa[Tx _ _ _ hF0]at this
  grind
 ·intro l;refine⟨fun{F H} ⟨_,hn,hi⟩ x bb hx=>(hI l).le hi x bb ?_,fun{F H} x bb ⟨hs,hn,hi⟩ hx=>?_⟩
  ·rw[C3 _ _ (Ap hn hx)];exact hx
  have hne:x≠id:=fun e=>by subst e;rw[hn]at hx;rw[(hI l).le hi x _ (D6 _ _ _)]at hx;cases hx
  refine⟨hs,by rw[C3 _ _ (fun e=>hne e.symm)];exact hn,?_⟩;have:=(hI l).chg x bb hi (by rw[C3 _ _ hne];exact hx)
  rwa[OZ _ _ _ (Ne.symm hne)]at this
 ·refine⟨fun{F H} ⟨hn,c,hi⟩ x bb hx=>(hD c).le hi x bb ?_,fun{F H} x bb ⟨hn,c,hi⟩ hx=>?_⟩
  ·rw[C3 _ _ (Ap hn hx)];exact hx
  have hne:x≠id:=fun e=>by subst e;rw[hn]at hx;rw[(hD c).le hi x _ (D6 _ _ _)]at hx;cases hx
  refine⟨by rw[C3 _ _ (fun e=>hne e.symm)];exact hn,c,?_⟩;have:=(hD c).chg x bb hi (by rw[C3 _ _ hne];exact hx)
  rwa[OZ _ _ _ (Ne.symm hne)]at this
 rintro x l F H ⟨hs,hn,hi⟩;have hk:=(hI _).le hi id _ (D6 _ _ _);have hxs:=hs x (by simp);have ha:=assign id L x l _ H hi (D6 _ _ _) hxs;subst hL;refine Vi hk rfl hxs hnt (ha.mono fun e fr' H1 ⟨he,hj⟩=>?_);have hk1:=(hJ x l fr').le hj id _ (D6 _ _ _);refine⟨he,hk1,?_⟩;have hj2:=(hJ x l fr').chg id (some (.loop {({nt:=nt,s:=fr.s,st:=.ready,pe:=none,ps:=ps,asg:=asg,body:=body}:LpI)with st:=.busy})) hj (by rw[hk1,D6])
 rw[Z1]at hj2
 refine(round id _ x l fr' _ _ hj2 (D6 _ _ _)).mono fun e fr'' H2 hq=>?_
 rcases Wx hq with⟨hjmp,hi2⟩|⟨c,hjmp,hd2⟩
 ·have hk2:=(hI l).le hi2 id _ (D6 _ _ _);refine⟨none,hjmp,hk2,.inl ⟨rfl,fun y hy=>hs y (by simp[hy]),hn,?_⟩⟩;have:=(hI l).chg id (some (.loop {nt:=nt,s:=fr.s,st:=.ready,pe:=none,ps:=ps,asg:=asg,body:=body})) hi2 (by rw[hk2,D6])
  rwa[Z1]at this
 have hk2:=(hD c).le hd2 id _ (D6 _ _ _);refine⟨some c,hjmp,hk2,.inr ⟨rfl,hn,c,?_⟩⟩;have:=(hD c).chg id (some (.loop {nt:=nt,s:=fr.s,st:=.done,pe:=some c,ps:=ps,asg:=asg,body:=body})) hd2 (by rw[hk2,D6])
 rwa[Z1]at this
def QB {g:Gh}{w:World}{id b:Nat}{cs:Array Value}{C:List V}(hmu:g.mu id=some b)(h1:cs.size=C.length)(h2:∀i,i<C.length→VR g w (cs.getD i undef) (C.getD i .bad)):
 Args g w (#[.func (.yield b) #[] #[]]++cs) (.yield id::C):=
 Args.append (x:=[.yield id]) (a:= #[.func (.yield b) #[] #[]]) ⟨rfl,fun i hi=>match i,hi with|0,_=>.yield hmu⟩ ⟨h1,h2⟩
def T4.rangeOuter {fr:Fr} {H F:A4} {g:Operand} {ps:Array Tmp} {asg body:Code} {xs:List (List V)} {Q:Exit→Fr→A4→Prop} (hnt:∀p∈ps,p<nt) (hps:∀x∈xs,x.length=ps.size) (hit:Gu P (ev fr g) xs)
 (I:List (List V)→A4→A4→Prop) (D:Code→A4→A4→Prop) (hI:∀l,D9 (I l)) (hD:∀c,D9 (D c)) (J:List V→List (List V)→Fr→A4→A4→Prop) (hJ:∀x l fr,D9 (J x l fr)) (h0:I xs F H)
 (assign:∀id L x l F H,I (x::l) F H→F id=some (.loop L)→x.length=ps.size→T4 P nt (some id) asg ⟨Gc fr.s ps.toList x,[]⟩ H fun e fr' H1=>e= .normal∧J x l fr' F H1)
 (round:∀id L x l fr' F H,J x l fr' F H→F id=some (.loop L)→T4 P nt (some id) body fr' H fun e _ H'=>RH (I l) D F e H')
 (done:∀d H',F d=none→I [] (upd F d (some (.obj (.deferred (some []))))) H'→Q .normal {fr with df:=d::fr.df} H')
 (stop:∀c d H',F d=none→D c (upd F d (some (.obj (.deferred (some []))))) H'→T4 P nt none c {fr with df:=d::fr.df} H' Q):T4 P nt none (.rangeFunc g ps asg body) fr H Q:=by
 intro r g0 w a hr hR hF;have hr:r=none:=hr;subst hr;obtain⟨f,C,hev,hcf,hit⟩:=hit;refine wpIn_rangeFunc fun fn _=>?_;have hv:=E6 hR hF.s g
 rw[hev]at hv
 generalize hag:a.eval g=gv at hv
 cases hv with
 | func hl hv hl' hv'=>
  rename_i fs cs;have hfs:fs= #[]:=NT (by omega);subst hfs;obtain⟨dB,hdB⟩:∃dB:Dh,dB= .obj (.deferred (some [])):=⟨_,rfl⟩;have hd0:H g0.nx=none:=(hR.nxt _ (D3 _)).2.2;have s1:=U3.new hR (.deferred (some [])) False 0;have hR1:=hR.newNamed (.deferred (some [])) dB (by rw[hdB];simp) (by rw[hdB];exact⟨w.heap.size,by simp[Gh.new],hR.bnd,AE,rfl⟩) (by rw[hdB];simp_all);obtain⟨w1,hw1⟩:∃w1,w.alloc (.deferred (some []))=w1:=⟨_,rfl⟩;obtain⟨g1,hg1⟩:∃g1,g0.new w False 0=g1:=⟨_,rfl⟩;obtain⟨L,hL⟩:∃L:LpI,L={nt:=nt,s:=fr.s,st:=.ready,pe:=none,ps:=ps,asg:=asg,body:=body}:=⟨_,rfl⟩;obtain⟨rec,hrec⟩:∃rec:Loop,rec={state:=.ready,pending:=none,fn,tmps:=a.tmps,params:=ps,assign:=asg,body,defers:=w.heap.size}:=⟨_,rfl⟩
  rw[hw1,hg1]at hR1 s1
  have hd:g1.mu g0.nx=some w.heap.size:=by rw[←hg1];simp[Gh.new]
  have hnx:g1.nx=g0.nx+1:=by rw[←hg1];rfl
  have hF1:=hF.mono s1;have s2:=U3.new hR1 (.loop rec) False 0;have hF2:=hF1.mono s2
  have hR2:=hR1.newNamed (.loop rec) (.loop L) (by simp) (by
   rw[hL,hrec]
   exact⟨w1.heap.size,_,by simp[Gh.new],hR1.bnd,AE,rfl,rfl,rfl,rfl,rfl,hF.size,fun t=>by have:=hF2.s t;rw[hrec]at this;exact this⟩)
  obtain⟨w2,hw2⟩:∃w2,w1.alloc (.loop rec)=w2:=⟨_,rfl⟩;obtain⟨g2,hg2⟩:∃g2,g1.new w1 False 0=g2:=⟨_,rfl⟩
  rw[hw2,hg2]at hR2 s2 hF2
  have hmu:g2.mu g1.nx=some w1.heap.size:=by rw[←hg2];simp[Gh.new]
  have hi0:(upd H g0.nx (some dB)) g1.nx=none:=(hR1.nxt _ (D3 _)).2.2
  have hsz:w1.heap.size=w.heap.size+1:=by rw[←hw1];simp
  have i1:=(hI xs).chg g0.nx (some dB) h0 (by rw[hd0,(hI xs).fresh h0 hd0]);have hFi:=(hI xs).fresh i1 hi0;have i2:=(hI xs).chg g1.nx (some (.loop L)) i1 (by rw[hi0,hFi]);have hcall:=PA (fr:=fr) (nt:=nt) hnt hps hit I D hI hD J hJ assign round hL hFi i2 (vals:= #[.func (.yield w1.heap.size) #[] #[]]++cs) hR2 hmu (QB hmu hl' fun i hi=>(hv' i hi).mono (s1.trans s2)) (hcf _ _);refine⟨w1.heap.size,[{target:=.collected w.heap.size,args:= #[]}],w2,{target:=.fn (.func f) cs,args:= #[.func (.yield w1.heap.size) #[] #[]]},w2,f, #[.func (.yield w1.heap.size) #[] #[]]++cs,w2,?_,?_,fun _ _=>trivial,?_,fun h=>by simp[Fw]at h,?_⟩
  ·rw[←hw2,hrec,←hw1,show(w.alloc (.deferred (some []))).heap.size=w.heap.size+1 by simp];exact run_enterLoop_outer _ _ _ _ _
  ·simp only[resolve,hag];simp[go_sem]
  ·simp only[invoke];grind
  refine LX (hcall.mono fun e w3 ⟨v,he,g3,H3,jump,w4,s3,hR3,hend,hj⟩=>?_);subst he;refine⟨jump,w4,hend,?_⟩;have s:=(s1.trans s2).trans s3
  have hF4:FR nt g3 w4 {a with defers:=[{target:=.collected w.heap.size,args:= #[]}]++a.defers} {fr with df:=g0.nx::fr.df}:=by
   have hF3:=hF.mono s;refine⟨hF3.size,hF3.s,?_⟩;obtain⟨bs,k1,k2,k3⟩:=hF3.df;refine⟨w.heap.size::bs,by grind,fun i hi=>?_,by simp[k3]⟩
   cases i with
   |zero=>exact(s2.trans s3).mu _ _ hd
   |succ i=>simp_all
  have hFd:F g0.nx=none:=(hI xs).fresh h0 hd0
  rw[hdB]at hj
  rcases hj with⟨rfl,hi⟩|⟨c,rfl,hd⟩
  ·grind[QF]
  exact wpIn_mono (stop c _ _ hFd hd none g3 w4 _ rfl hR3 hF4) fun _ _ _=>QF.later s
def T4.rangeInner {fr:Fr} {H F:A4} {id0:Nat} {L0:LpI} {g:Operand} {ps:Array Tmp} {asg body:Code} {xs:List (List V)} {Q:Exit→Fr→A4→Prop} (hL0:H id0=some (.loop L0)) (hnt:∀p∈ps,p<nt) (hps:∀x∈xs,x.length=ps.size) (hit:Gu P (ev fr g) xs)
 (I:List (List V)→A4→A4→Prop) (D:Code→A4→A4→Prop) (hI:∀l,D9 (I l)) (hD:∀c,D9 (D c)) (J:List V→List (List V)→Fr→A4→A4→Prop) (hJ:∀x l fr,D9 (J x l fr)) (h0:I xs F H)
 (assign:∀id L x l F H,I (x::l) F H→F id=some (.loop L)→x.length=ps.size→T4 P nt (some id) asg ⟨Gc fr.s ps.toList x,[]⟩ H fun e fr' H1=>e= .normal∧J x l fr' F H1)
 (round:∀id L x l fr' F H,J x l fr' F H→F id=some (.loop L)→T4 P nt (some id) body fr' H fun e _ H'=>RH (I l) D F e H')
 (done:∀H',I [] F H'→Q .normal fr H')
 (stop:∀c H',D c F H'→T4 P nt (some id0) c fr H' Q):T4 P nt (some id0) (.rangeFunc g ps asg body) fr H Q:=by
 intro r g1 w1 a hr hR1 hF1;obtain⟨b0,hb0,hr'⟩:=hr;subst hr';obtain⟨f,C,hev,hcf,hit⟩:=hit;refine wpIn_rangeFunc fun fn _=>?_;have hv:=E6 hR1 hF1.s g
 rw[hev]at hv
 generalize hag:a.eval g=gv at hv
 cases hv with
 | func hl hv hl' hv'=>
  rename_i fs cs;have hfs:fs= #[]:=NT (by omega);subst hfs;obtain⟨b0',r0,q1,q2,q3,_⟩:=hR1.blk id0 _ hL0
  rw[hb0]at q1;cases q1
  obtain⟨L,hL⟩:∃L:LpI,L={nt:=nt,s:=fr.s,st:=.ready,pe:=none,ps:=ps,asg:=asg,body:=body}:=⟨_,rfl⟩;obtain⟨rec,hrec⟩:∃rec:Loop,rec={state:=.ready,pending:=none,fn,tmps:=a.tmps,params:=ps,assign:=asg,body,defers:=r0.defers}:=⟨_,rfl⟩;have s2:=U3.new hR1 (.loop rec) False 0;have hF2:=hF1.mono s2
  have hR2:=hR1.newNamed (.loop rec) (.loop L) (by simp) (by
   rw[hL,hrec]
   exact⟨w1.heap.size,_,by simp[Gh.new],hR1.bnd,AE,rfl,rfl,rfl,rfl,rfl,hF1.size,fun t=>by have:=hF2.s t;rw[hrec]at this;exact this⟩)
  obtain⟨w2,hw2⟩:∃w2,w1.alloc (.loop rec)=w2:=⟨_,rfl⟩;obtain⟨g2,hg2⟩:∃g2,g1.new w1 False 0=g2:=⟨_,rfl⟩
  rw[hw2,hg2]at hR2 s2 hF2
  have hmu:g2.mu g1.nx=some w1.heap.size:=by rw[←hg2];simp[Gh.new]
  have hi0:H g1.nx=none:=(hR1.nxt _ (D3 _)).2.2;have hFi:=(hI xs).fresh h0 hi0;have i2:=(hI xs).chg g1.nx (some (.loop L)) h0 (by rw[hi0,hFi]);have hcall:=PA (fr:=fr) (nt:=nt) hnt hps hit I D hI hD J hJ assign round hL hFi i2 (vals:= #[.func (.yield w1.heap.size) #[] #[]]++cs) hR2 hmu (QB hmu hl' fun i hi=>(hv' i hi).mono s2) (hcf _ _);refine⟨w1.heap.size,[],w2,{target:=.fn (.func f) cs,args:= #[.func (.yield w1.heap.size) #[] #[]]},w2,f, #[.func (.yield w1.heap.size) #[] #[]]++cs,w2,?_,?_,fun _ _=>trivial,?_,fun h=>by simp[Fw]at h,?_⟩
  ·rw[←hw2,hrec];exact run_enterLoop_inner q3 _ _ _ _ _
  ·simp only[resolve,hag];simp[go_sem]
  ·simp only[invoke];grind
  refine LX (hcall.mono fun e w3 ⟨v,he,g3,H3,jump,w4,s3,hR3,hend,hj⟩=>?_);subst he;refine⟨jump,w4,hend,?_⟩;have s:=s2.trans s3;have hF4:FR nt g3 w4 {a with defers:=[]++a.defers} fr:=hF1.mono s
  rcases hj with⟨rfl,hi⟩|⟨c,rfl,hd⟩
  ·grind[QF]
  exact wpIn_mono (stop c _ hd (some b0) g3 w4 _ ⟨b0,s.mu _ _ hb0,rfl⟩ hR3 hF4) fun _ _ _=>QF.later s
end
def Uo (P:Program) (A:QG) (nt:Nat) (ops:Array Oper):List Oper→Fr→A4→(Fr→A4→Prop)→Prop
 |[],fr,H,K=>K fr H
 | o ::rest,fr,H,K=>
  Gs nt o.dst=true∧
   match o.guard with
   |none=>Hi P A o (ev fr) H fun v H'=>Uo P A nt ops rest (fr.put o.dst v) H' K
   | some (j,want)=>
    match(ops[j]?).bind (·.dst)with
    | some d=>
     match fr.s d with
     | .bool c=>
      (c=want→Hi P A o (ev (fr.put (some d) (.bool want))) H fun v H'=>Uo P A nt ops rest ((fr.put (some d) (.bool want)).put o.dst v) H' K)∧
       (c= !want→Uo P A nt ops rest ((fr.put (some d) (.bool !want)).put o.dst (.tup [])) H K)
     |_=>False
    |none=>False
theorem MT {P:Program}{H:A4}{K K':V→A4→Prop}{ts:List TypeId}{vs:List V}(h:GD P H K ts vs)(hk:∀v H',K v H'→K' v H'):GD P H K' ts vs:=by
 unfold GD at h ⊢
 split at h
 ·obtain⟨e,sz,by_,z,k1,k2,k3,k4,k5,k6,k7,k8,k9,xs',ys',l1,l2,k10,k11,k12,k13,k14,k15⟩:=h;exact⟨e,sz,by_,z,k1,k2,k3,k4,k5,k6,k7,k8,k9,xs',ys',l1,l2,k10,k11,k12,k13,fun e=>hk _ _ (k14 e),fun t e1 e2=>hk _ _ (k15 t e1 e2)⟩
 omega
def Kj {P:Program} {A:QG} {o:Oper} {ρ:Operand→V} {H:A4} {K K':V→A4→Prop} (h:Hi P A o ρ H K) (hk:∀v H',K v H'→K' v H'):Hi P A o ρ H K':=by
 unfold Hi at h ⊢
 split at h
 ·rcases h with⟨z,h1,h2,h3⟩|⟨h1,sz,h2⟩
  ·grind
  exact .inr ⟨h1,sz,fun q id hq hid=>hk _ _ (h2 q id hq hid)⟩
 ·grind
 ·grind
 ·have key:∀{K K':V→A4→Prop} {t:TypeId} {l c:V},(∀v H',K v H'→K' v H')→Oh P H K t l c→Oh P H K' t l c:=by
   intro K K' t l c hk h
   unfold Oh at h ⊢
   split at h
   ·obtain⟨e,sz,by_,z,q1,q2,q3,q4,q5,q6,q7,q8,q9,q10,q11,q12⟩:=h
    simp_all
   omega
  grind[UD]
 ·exact h.imp (hk _ _) fun⟨h1,sz,h2⟩=>⟨h1,sz,fun q hq=>hk _ _ (h2 q hq)⟩
 ·exact h.imp (hk _ _) fun⟨h1,sz,h2⟩=>⟨h1,sz,fun q hq=>hk _ _ (h2 q hq)⟩
 ·grind[litO]
 ·grind[Ae3]
 ·grind[Gw]
 ·grind[Gw]
 ·grind[LJ]
 ·grind[PK]
 ·grind[LT]
 ·grind
 ·split at h
  ·exact h.mono hk
  ·rcases h with h|h|h
   rotate_left
   ·refine .inr (.inl ?_)
    unfold MS at h ⊢
    split at h
    ·obtain⟨e,sz,by_,z,k1,k3,k4,k5,k6,k7,k8,k9,h⟩:=h;refine⟨e,sz,by_,z,k1,k3,k4,k5,k6,k7,k8,k9,?_⟩
     grind[IT]
    omega
   ·exact .inr (.inr (MT h fun v H' ⟨y,H2,h1,h2,h3⟩=>⟨y,H2,h1,h2,hk _ _ h3⟩))
   grind[MT]
  ·unfold Vc at h ⊢
   grind
  ·unfold Qo at h ⊢
   split at h
   ·obtain⟨e,sz,z,xs,k1,k2,k3,k4,k5,k6,k7,k8⟩:=h;exact⟨e,sz,z,xs,k1,k2,k3,k4,k5,k6,k7,hk _ _ k8⟩
   exact h.elim
  ·obtain⟨v,h1,h2⟩:=h;exact⟨v,h1,hk _ _ h2⟩
  exact h.elim
 obtain⟨v,h1,h2⟩:=h;exact⟨v,h1,hk _ _ h2⟩
def Uj {fr:Fr}{d:Nat}{v:V}(h:fr.s d=v):fr.put (some d) v=fr:=by
 obtain⟨s,df⟩:=fr;simp only[Fr.put,Fr.mk.injEq,J6]
 funext t
 simp_all
def KS {P:Program} {A:QG} {nt:Nat} {ops:Array Oper} {K:Fr→A4→Prop}:∀(l:List Oper) (fr:Fr) (H:A4),Uo P A nt ops l fr H K→HV P A nt ops l fr H K
 |[],_,_,h=>h
 | o ::rest,fr,H,h=>by
  simp only[Uo]at h
  simp only[HV];refine⟨h.1,?_⟩;obtain⟨_,h⟩:=h
  have mono:∀fr,Hi P A o (ev fr) H (fun v H'=>Uo P A nt ops rest (fr.put o.dst v) H' K)→Hi P A o (ev fr) H fun v H'=>HV P A nt ops rest (fr.put o.dst v) H' K:=by
   intro fr hh;refine Kj hh fun v H' hk=>KS rest _ _ hk
  unfold Bh
  split at h
  ·simp_all
  rename_i j want hg
  try simp only[hg]
  split at h
  ·rename_i d hd
   try simp only[hd]
   split at h
   ·rename_i c hc
    try simp only[hc]
    obtain⟨h1,h2⟩:=h
    cases c<;>cases want<;>simp only[beq_self_eq_true,M5,V4,reduceCtorEq,false_implies,true_implies,forall_const]at h1 h2 ⊢
    all_goals first
     |(rw[Uj hc]at h1;exact mono _ h1)
     |(rw[Uj hc]at h2;exact KS rest _ _ h2)
   grind
  grind
section
variable {P:Program}{nt:Nat}{rd:Option Nat}{fr:Fr}{H:A4}{Q:Exit→Fr→A4→Prop}
def T4.step (A:QG){id:Nat}{ops:Array Oper}{rest:Code}(h:∀K:Fr→A4→Prop,(∀fr' H',T4 P nt rd rest fr' H' Q→K fr' H')→Uo P A nt ops ops.toList fr H K):
 T4 P nt rd (.seq (.region id ops false) rest) fr H Q:=
 T4.seq (T4.region (A:=A) (KS _ _ _ (h _ fun _ _ x=>x)))
def T4.last (A:QG){id:Nat}{ops:Array Oper}(h:∀K:Fr→A4→Prop,(∀fr' H',Q .normal fr' H'→K fr' H')→Uo P A nt ops ops.toList fr H K):
 T4 P nt rd (.region id ops false) fr H Q:=T4.region (A:=A) (KS _ _ _ (h _ fun _ _ x=>x))
def Lh:List (Nat×V)→Nat→V
 |[],_=>.bad
 |(k,v)::l,t=>if t=k then v else Lh l t
def mk (l:List (Nat×V))(df:List Nat):Fr:=⟨Lh l,df⟩
end
structure Zl where
 sz:Nat
 by_:Nat
 ag:Bool
 sl:Option Nat
 ar:Option (Nat×Nat)
 fs:List (Option (Nat×Nat))
 pl:Option (List (Nat×Nat))
 ze:Option V
 ek:Option (List Nat)
 st:Bool
 bo:Bool
 ik:Option IntKind
 nif:Bool
def YT (P:Program)(t:TypeId):Nat→List (Option (Nat×Nat))→Prop
 |_,[]=>True
 |i,some p::l=>fdO P t i=some p∧YT P t (i+1) l
 |i,none::l=>YT P t (i+1) l
def BO {α:Type}(o:Option α)(p:α→Prop):Prop:=
 match o with
 |some x=>p x
 |none=>True
structure Ay3 (P:Program) (t:TypeId) (I:Zl):Prop where
 sz:Eh P t=some I.sz
 by_:Ny P t=some I.by_
 ag:Vq P t=some I.ag
 sl:EO P t=I.sl
 ar:arO P t=I.ar
 fs:YT P t 0 I.fs
 pl:BO I.pl fun l=>Mq P t=some l
 ze:BO I.ze fun z=>HA P t=some z
 ek:BO I.ek fun k=>Gi P 9 t=some k
 st:Sg P t=I.st
 bo:I.bo=true→XL (P.underlying t)=true
 ik:BO I.ik fun k=>P.underlying t=some (.int k)
 nif:I.nif=true→ifO P t=false
abbrev FY:=List (Nat×Zl)
def Jb (P:Program):FY→Prop
 |[]=>True
 |(t,I)::l=>Ay3 P t I∧Jb P l
def tg:FY→Nat→Option Zl
 |[],_=>none
 |(k,I)::l,t=>match Nat.beq t k with|true=>some I|false=>tg l t
def G8 {P:Program} {T:FY} (h:Jb P T) {t:Nat} {I:Zl} (hg:tg T t=some I):Ay3 P t I:=by
 induction T with
 |nil=>cases hg
 |cons p l ih=>
  obtain⟨k,J⟩:=p
  simp only[tg]at hg
  split at hg
  ·simp_all[Jb]
  exact ih h.2 hg
def SS {P:Program}{t:TypeId}:∀(l:List (Option (Nat×Nat))) (i j:Nat) (p:Nat×Nat),YT P t i l→l[j]? =some (some p)→fdO P t (i+j)=some p
 |[],_,_,_,_,h=>by simp at h
 |some q::l,i,0,p,ho,h=>by simp_all[YT]
 |none::l,i,0,p,ho,h=>by simp at h
 |some q::l,i,j+1,p,ho,h=>by have:=SS l (i+1) j p ho.2 (by grind);rwa[show i+(j+1)=i+1+j by omega]
 |none::l,i,j+1,p,ho,h=>by have:=SS l (i+1) j p ho (by grind);rwa[show i+(j+1)=i+1+j by omega]
inductive Sl where
 |v (x:V)
 |b (c:Bool)
 |g (j:Nat) (w:Bool) (x:V)
def Sl.V:Sl→V
 | .v x=>x
 | .b c=>.bool c
 | .g _ _ x=>x
def Sl.n:Sl→Sl
 | .g _ _ x=>.v x
 |s=>s
abbrev Fl:=List (Nat×Sl)
def lk:Fl→Nat→Sl
 |[],_=>.v .bad
 |(k,x)::l,t=>match Nat.beq t k with|true=>x|false=>lk l t
def Xz (v:V)(w:Bool):Bool:=
 match v with
 | .bool c=>c==w
 |_=>false
def Cj:Fl→Nat→V
 |[],_=>.bad
 |(k,s)::l,t=>
  match Nat.beq t k with
  |true=>(match s with| .v x=>x| .b c=>.bool c| .g j w x=>bif Xz (Cj l j) w then x else .tup [])
  |false=>Cj l t
def Ya (l:Fl):Sl→V
 | .v x=>x
 | .b c=>.bool c
 | .g j w x=>bif Xz (Cj l j) w then x else .tup []
def YU:Fl→Nat→Nat→Bool
 |[],_,_=>false
 |(k,_)::l,t,j=>match Nat.beq k j with|true=>false|false=>(match Nat.beq k t with|true=>true|false=>YU l t j)
def Ag2:List (Nat×Bool)→Nat→Bool→Bool
 |[],_,_=>false
 |(j,w)::G,j',w'=>match Nat.beq j j'&&(w==w')with|true=>true|false=>Ag2 G j' w'
def Uq (G:List (Nat×Bool)) (l:Fl) (t:Nat):Option Sl:=
 match lk l t with
 | .g j w x=>
  (match YU l t j with
   | true=>
    (match Ag2 G j w with
     |true=>some (.v x)
     |false=>(match lk l j with| .b c=>(match c==w with|true=>some (.v x)|false=>some (.v (.tup [])))|_=>none))
   |false=>none)
 |s=>some s
def An5 (G:List (Nat×Bool))(l:Fl)(t:Nat):Sl:=
 match Uq G l t with
 |some s=>s
 |none=>.v (Cj l t)
def LE:Fl→Nat→Bool→Fl
 |[],_,_=>[]
 |(k,s)::l,d,c=>match Nat.beq d k with|true=>(k,.b c)::l|false=>(k,s)::LE l d c
structure St where
 l:Fl
 df:List Nat
def Fg (op:BinOp)(a b:Int):Bool:=
 match op with
 | .eql=>a==b
 | .neq=>a !=b
 | .lss=>decide (a<b)
 | .leq=>decide (a≤b)
 | .gtr=>decide (a>b)
 | .geq=>decide (a≥b)
 |_=>false
def arI (op:BinOp)(k:IntKind)(a b:Int):Int:=
 match op with
 | .add=>k.wrap (a+b)
 | .sub=>k.wrap (a-b)
 | .mul=>k.wrap (a*b)
 | .quo=>k.wrap (a.tdiv b)
 | .rem=>a.tmod b
 | .and=>k.wrap (BitVec.ofInt k.bits a&&&BitVec.ofInt k.bits b).toNat
 | .or=>k.wrap (BitVec.ofInt k.bits a|||BitVec.ofInt k.bits b).toNat
 | .xor=>k.wrap (BitVec.ofInt k.bits a ^^^ BitVec.ofInt k.bits b).toNat
 | .andNot=>k.wrap (BitVec.ofInt k.bits a&&& ~~~(BitVec.ofInt k.bits b)).toNat
 |_=>0
def shI (op:BinOp)(k:IntKind)(a b:Int):Int:=
 match op with
 | .shl=>k.wrap (a*2 ^ (min b.toNat k.bits))
 |_=>a.fdiv (2 ^ (min b.toNat k.bits))
def Ay0 (op:BinOp)(x y:ByteArray):Bool:=
 match op with
 | .eql=>x.toList==y.toList
 | .neq=> !(x.toList==y.toList)
 | .lss=>Op.bytesLess x.toList y.toList
 | .leq=>Op.bytesLess x.toList y.toList||x.toList==y.toList
 | .gtr=> !(Op.bytesLess x.toList y.toList||x.toList==y.toList)
 | .geq=> !Op.bytesLess x.toList y.toList
 |_=>false
class Ar where
 cmp:BinOp→Int→Int→Bool
 cmp_eq:∀op a b,cmp op a b=Fg op a b
 ar:BinOp→IntKind→Int→Int→Int
 ar_eq:∀op k a b,ar op k a b=arI op k a b
 sh:BinOp→IntKind→Int→Int→Int
 sh_eq:∀op k a b,sh op k a b=shI op k a b
 neg:IntKind→Int→Int
 neg_eq:∀k n,neg k n=k.wrap (0-n)
 wr:IntKind→Int→Int
 wr_eq:∀k n,wr k n=k.wrap n
 scmp:BinOp→ByteArray→ByteArray→Bool
 scmp_eq:∀op a b,scmp op a b=Ay0 op a b
 cat:ByteArray→ByteArray→ByteArray
 cat_eq:∀a b,cat a b=a++b
 slen:ByteArray→Int
 slen_eq:∀s,slen s=s.size
 sat:ByteArray→Int→Int
 sat_eq:∀s i,sat s i=match s[i.toNat]? with|some b=>(b.toNat:Int)|none=>0
 beq:Bool→Bool→Bool
 beq_eq:∀a b,beq a b=(a==b)
 nt:Bool→Bool
 nt_eq:∀a,nt a= !a
 an:Bool→Bool→Bool
 an_eq:∀a b,an a b=(a&&b)
 or:Bool→Bool→Bool
 or_eq:∀a b,or a b=(a||b)
 pk:Bool→Bool→Bool→Bool
 pk_eq:∀c a b,pk c a b=if c then a else b
 mx:Int→Int→Int
 mx_eq:∀a b,mx a b=if a<b then b else a
 mn:Int→Int→Int
 mn_eq:∀a b,mn a b=if b<a then b else a
 ofs:Int→Int→Int
 ofs_eq:∀a b,ofs a b=a+b
 ofN:Nat→Int
 ofN_eq:∀n,ofN n=n
 len:{α:Type}→List α→Int
 len_eq:∀{α:Type} (l:List α),len l=l.length
 lst:{α:Type}→(α→V)→List α→List V
 lst_eq:∀{α:Type} (f:α→V) (l:List α),lst f l=l.map f
variable [Ar]
structure Eg where
 ln:List V→(Int→Prop)→Prop
 br:Bool→(Unit→Prop)→(Unit→Prop)→Prop
 need:Prop→(Unit→Prop)→Prop
 needB:Bool→(Unit→Prop)→Prop
 idx:List V→Int→(V→Prop)→Prop
 aidx:Int→Nat→(Nat→Prop)→Prop
 elem:List V→Nat→Nat→Nat→Int→(V→Prop)→Prop
 slice:Nat→List V→D2→Option Int→Option Int→Option Int→(V→Prop)→Prop
 call:V→List V→A4→(V→A4→Prop)→Prop
 pcall:A4→V→List V→(V→Prop)→Prop
 load:A4→Nat→(List V→Prop)→Prop
 store:A4→Nat→Nat→Nat→List V→(A4→Prop)→Prop
 storeP:A4→Nat→Nat→Nat→List V→(A4→Prop)→Prop
 alloc:A4→List V→(Nat→A4→Prop)→Prop
 oalloc:Nat→A4→(Nat→A4→Prop)→Prop
 frz:A4→Nat→(List V→A4→Prop)→Prop
 frzL:A4→Nat→(List V→A4→Prop)→Prop
 frzIn:A4→Nat→Nat→(A4→Prop)→Prop
 adoptIn:A4→Nat→Nat→(A4→Prop)→Prop
 wkB:A4→Nat→(A4→Prop)→Prop
 give:A4→Nat→List V→(A4→Prop)→Prop
 olen:Int→(Int→Prop)→Prop
 ocap:A4→Nat→Int→(Int→Prop)→Prop
 oidx:A4→Nat→Nat→Int→Int→Int→(Int→Prop)→Prop
 oload:A4→Nat→Int→(V→Prop)→Prop
 ostore:A4→Nat→Int→Nat→Nat→Nat→V→(A4→Prop)→Prop
 omk:Nat→Nat→V→Int→Int→A4→(V→A4→Prop)→Prop
 oapp:Nat→Nat→V→A4→V→V→(V→A4→Prop)→Prop
 oappz:Nat→Nat→V→A4→V→Int→(V→A4→Prop)→Prop
 oapps:Nat→V→A4→V→ByteArray→(V→A4→Prop)→Prop
 onil:Nat→A4→(V→A4→Prop)→Prop
 olit:Nat→A4→List V→(V→A4→Prop)→Prop
 ostr:Nat→Nat→A4→V→(V→Prop)→Prop
 mmk:A4→(V→A4→Prop)→Prop
 mget:Nat→A4→V→V→Bool→(V→Prop)→Prop
 mset:Nat→A4→V→V→V→(A4→Prop)→Prop
 mrg:Nat→A4→V→(V→A4→Prop)→Prop
 mnx:A4→V→(V→A4→Prop)→Prop
 men:A4→V→(V→A4→Prop)→Prop
 mdel:List Nat→A4→List V→(V→A4→Prop)→Prop
 oslice:Nat→A4→Nat→Int→Int→Option Int→Option Int→Option Int→(V→Prop)→Prop
 ocopy:Nat→A4→V→V→(V→A4→Prop)→Prop
 oclear:Nat→V→A4→V→(A4→Prop)→Prop
 ofrz:A4→Nat→Int→Int→(List V→A4→Prop)→Prop
 nilc:V→(Unit→Prop)→(Unit→Prop)→Prop
 appn:Nat→Nat→A4→D2→List V→List V→(V→A4→Prop)→Prop
 takeT:A4→(D2→A4→Prop)→Prop
 nameT:A4→(D2→A4→Prop)→Prop
 appq:Nat→Nat→List V→List V→(V→Prop)→Prop
 appw:Nat→Nat→A4→D2→List V→List V→(V→A4→Prop)→Prop
 sim:Code→St→A4→(Exit→St→A4→Prop)→Prop
 fin:List Nat→A4→(A4→Prop)→Prop
def I0 (st:St):Fr:=⟨fun t=>Cj st.l t,st.df⟩
structure Dn (fr:Fr) (st:St):Prop where
 s:∀t,Wk (fr.s t) (Cj st.l t)
 df:fr.df=st.df
def H5 (P:Program) (nt:Nat) (rd:Option Nat):Eg where
 ln:=fun l k=>k l.length
 br:=fun c x y=>(c=true→x ())∧(c=false→y ())
 need:=fun p k=>p∧k ()
 needB:=fun b k=>b=true∧k ()
 idx:=fun xs i k=>(0≤i∧i<xs.length)∧k (xs.getD i.toNat .bad)
 aidx:=fun i n k=>(0≤i∧i<n)∧k i.toNat
 elem:=fun cs off sz n i k=>(0≤i∧i<n∧off+n*sz≤cs.length)∧k (.eref ((cs.drop (off+i.toNat*sz)).take sz) 0)
 slice:=fun sz xs tl lo hi mx k=>
  (0≤lo.getD 0∧lo.getD 0≤hi.getD xs.length∧hi.getD xs.length≤mx.getD xs.length∧mx.getD xs.length≤xs.length∧(mx.isSome=true→hi.isSome=true)∧
   (lo.getD 0≤0∨xs.all (fun x=>x.cells.length==sz)=true))∧
  k (.sl ((xs.drop (lo.getD 0).toNat).take ((hi.getD xs.length).toNat-(lo.getD 0).toNat)) (Fy (lo.getD 0).toNat (hi.getD xs.length).toNat xs.length mx tl))
 call:=CR P
 pcall:=fun H fv args k=>∃v,ND P fv args H v∧k v
 load:=fun H id k=>∃cs,H id=some (.cells cs)∧k cs
 store:=fun H id off sz vs k=>∃cs vs',L5 vs vs'∧H id=some (.cells cs)∧Nat.ble (off+sz) cs.length=true∧k (upd H id (some (.cells (T5 cs off vs'))))
 storeP:=fun H id off sz vs k=>∃cs,H id=some (.cells cs)∧Nat.ble (off+sz) cs.length=true∧k (upd H id (some (.cells (T5 cs off vs))))
 give:=fun H id cs k=>k (upd H id (some (.cells cs)))
 frz:=fun H id k=>∃cs,H id=some (.cells cs)∧k cs (upd H id none)
 frzL:=fun H id k=>∃cs ds,H id=some (.cells cs)∧L5 cs ds∧k ds (upd H id none)
 frzIn:=fun H id j k=>∃cs q lo n sz xs ys,H id=some (.cells cs)∧cs[j]? =some (.own q lo n)∧H q=some (.arr sz xs)∧L5 (L9 xs lo n) ys∧k (upd (upd H q none) id (some (.cells (cs.set j (.sl ys .ro)))))
 adoptIn:=fun H id j k=>∃cs sz,H id=some (.cells cs)∧cs[j]? =some (.sl [] .nil)∧∀q,H q=none→k (upd (upd H q (some (.arr sz []))) id (some (.cells (cs.set j (.own q 0 0)))))
 wkB:=fun H id k=>∃cs ds,H id=some (.cells cs)∧L5 cs ds∧k (upd H id (some (.cells ds)))
 alloc:=fun H cs k=>∀id,H id=none→k id (upd H id (some (.cells cs)))
 oalloc:=fun sz H k=>∀q id,H q=none→upd H q (some (.arr sz [])) id=none→k id (upd (upd H q (some (.arr sz []))) id (some (.cells [.own q 0 0])))
 olen:=fun n k=>k n
 ocap:=fun H id lo k=>∃sz xs,H id=some (.arr sz xs)∧k ((xs.length:Nat)-lo)
 oidx:=fun H id sz lo n i k=>(∃xs,H id=some (.arr sz xs))∧(0≤i∧i<n)∧k (Ar.ofs lo i)
 oload:=fun H id i k=>∃sz xs,H id=some (.arr sz xs)∧(0≤i∧i<(xs.length:Nat))∧k (xs.getD i.toNat .bad)
 ostore:=fun H id i esz sz off y k=>∃xs y',BV y y'∧y'.one=true∧y'.cells.length=sz∧off+sz≤esz∧H id=some (.arr esz xs)∧(0≤i∧i<(xs.length:Nat))∧k (upd H id (some (.arr esz (xs.set i.toNat (Sz (xs.getD i.toNat .bad) esz sz off y')))))
 omk:=fun sz by_ z n m H k=>(0≤n∧n≤m∧m*(by_:Nat)≤281474976710656)∧∃ys,L5 (List.replicate m.toNat z) ys∧∀id,H id=none→k (.own id 0 n) (upd H id (some (.arr sz ys)))
 onil:=fun sz H k=>∀q,H q=none→k (.own q 0 0) (upd H q (some (.arr sz [])))
 olit:=fun sz H xs k=>∃ys,L5 xs ys∧∀q,H q=none→k (.own q 0 (xs.length:Nat)) (upd H q (some (.arr sz ys)))
 ostr:=fun s d H x k=>∃v,RR P H s d x v∧k v
 mmk:=fun H k=>Ae3 H k
 mget:=fun t H x key ok k=>∃v,La P H t x key ok v∧k v
 mset:=fun t H x key v k=>KL P H (fun _ H'=>k H') t x key v
 mrg:=fun t H x k=>LJ P H k t x
 mnx:=fun H x k=>PK H k x
 men:=fun H x k=>LT H k x
 mdel:=fun ts H vs k=>Aq6 P H k ts vs
 oapp:=fun sz by_ z H x y k=>∃ys',OC sz H y ys'∧Gt H k sz by_ z x ys'
 oappz:=fun sz by_ z H x m k=>(0≤m∧(ownN x+m.toNat)*by_≤140737488355328)∧Gt H k sz by_ z x (List.replicate m.toNat z)
 oapps:=fun by_ z H x s k=>Gt H k 1 by_ z x (Ga s)
 oslice:=fun sz H id l n lo hi mx k=>∃xs,H id=some (.arr sz xs)∧
  (0≤lo.getD 0∧lo.getD 0≤hi.getD n∧hi.getD n≤mx.getD ((xs.length:Nat)-l)∧mx.getD ((xs.length:Nat)-l)≤(xs.length:Nat)-l∧(mx.isSome=true→hi.isSome=true))∧
  k (match mx with|none=>.own id (l+lo.getD 0) (hi.getD n-lo.getD 0)|some _=>.bad)
 ocopy:=fun sz H x y k=>
  match x with
  | .own id lo n=>∃xs ys',H id=some (.arr sz xs)∧OC sz H y ys'∧
   k (.int .i64 (if n<(ys'.length:Nat)then n else(ys'.length:Nat))) (upd H id (some (.arr sz (Ax xs lo.toNat (ys'.take n.toNat)))))
  |_=>False
 oclear:=fun sz z H x k=>
  match x with
  | .own id lo n=>∃xs,H id=some (.arr sz xs)∧k (upd H id (some (.arr sz (Ax xs lo.toNat (List.replicate n.toNat z)))))
  |_=>False
 nilc:=fun x a b=>∃p,YF x=some p∧(p→a ())∧b ()
 ofrz:=fun H id lo n k=>∃sz xs ys,H id=some (.arr sz xs)∧L5 (L9 xs lo n) ys∧k ys (upd H id none)
 takeT:=fun H k=>∃τ,EN H τ∧k τ (G0 H τ)
 nameT:=fun H k=>(∀tl,tl= .nil∨tl= .full→k tl H)∧∀t,H t=none→k (.tok t) (upd H t (some .spare))
 appn:=fun sz by_ H tl xs ys k=>∃xs' ys',L5 xs xs'∧L5 ys ys'∧EN H tl∧xs'.all (fun x=>x.cells.length==sz)=true∧ys'.all (fun x=>x.cells.length==sz)=true∧(xs'.length+ys'.length)*by_≤140737488355328∧(ys'=[]→k (.sl xs' tl) H)∧
  ∀t,ys'≠[]→G0 H tl t=none→k (.sl (xs'++ys') (.tok t)) (upd (G0 H tl) t (some .spare))
 appq:=fun sz by_ xs ys k=>∃xs' ys',L5 xs xs'∧L5 ys ys'∧xs'.all (fun x=>x.cells.length==sz)=true∧ys'.all (fun x=>x.cells.length==sz)=true∧(xs'.length+ys'.length)*by_≤140737488355328∧k (.sl (xs'++ys') .ro)
 appw:=fun sz by_ H tl xs ys k=>∃xs' ys',L5 xs xs'∧L5 ys ys'∧EN H tl∧xs'.all (fun x=>x.cells.length==sz)=true∧ys'.all (fun x=>x.cells.length==sz)=true∧(xs'.length+ys'.length)*by_≤140737488355328∧k (.sl (xs'++ys') .ro) (G0 H tl)
 sim:=fun c st H K=>T4 P nt rd c (I0 st) H fun e fr' H'=>∃st',Dn fr' st'∧K e st' H'
 fin:=fun df H k=>Aq5 H df∧k (clear H df)
section
variable (E:Eg)(T:FY)
def R0 (G:List (Nat×Bool))(l:Fl):Operand→Sl
 | .tmp t=>An5 G l t
 | .const (.bool b)=>.b b
 | .const v=>.v (cv v)
 | .global n=>.v (L6.gl n)
 | .func f=>.v (.func (.func f) [] [])
def WL (t:Nat) (v:V) (H:A4) (k:V→Prop):Prop:=
 match tg T t with
 |none=>False
 |some I=>
  match v with
  | .eref cs off=>(match Gr I.ag I.sz cs off with|some y=>k y|none=>False)
  | .ref id off=>E.load H id fun cs=>(match Gr I.ag I.sz cs off with|some y=>k y|none=>False)
  | .elem id i _ off=>E.oload H id i fun x=>(match Gr I.ag I.sz x.cells off with|some y=>k y|none=>False)
  |_=>False
def JO (o:Option V)(k:V→Prop):Prop:=
 match o with
 |some y=>k y
 |none=>False
def Lz (t:Nat)(v:V)(f:Nat)(k:V→Prop):Prop:=
 match tg T t with
 |none=>False
 |some I=>(match I.fs[f]? with|some (some p)=>JO (Zj v p.1) k|_=>False)
def VA (t:Nat) (v:V) (f:Nat) (k:V→Prop):Prop:=
 match tg T t with
 |none=>False
 | some I=>
  match I.fs[f]? with
  | some (some p)=>
   (match tg T p.2 with
    |none=>False
    |some J=>(match v with| .agg cs=>JO (Gr J.ag J.sz cs p.1) k|_=>False))
  |_=>False
def Lx (t:Nat) (v:V) (i:V) (k:V→Prop):Prop:=
 match i with
 | .int _ i=>
  (match tg T t with
   |none=>False
   | some I=>
    match I.sl with
    | some e=>
     (match tg T e with
      |none=>False
      |some J=>
       match v with
       | .sl xs _=>E.idx xs i fun x=>(match Nat.beq x.cells.length J.sz with|true=>k (.eref x.cells 0)|false=>False)
       |_=>False)
    |none=>
     match I.ar with
     |some (n,e)=>(match tg T e with|none=>False|some J=>(match v with| .eref cs off=>E.elem cs off J.sz n i k|v=>E.aidx i n fun m=>JO (Zj v (m*J.sz)) k))
     |none=>False)
 |_=>False
def Vz (t:Nat) (v:V) (i:V) (k:V→Prop):Prop:=
 match i with
 | .int _ i=>
  (match tg T t with
   |none=>False
   |some I=>
    match I.ar with
    |some (n,e)=>(match tg T e with|none=>False|some J=>(match v with| .agg cs=>E.aidx i n fun m=>JO (Gr J.ag J.sz cs (m*J.sz)) k|_=>False))
    |none=>(match v with| .str s=>(match I.st with|true=>E.needB (Ar.an (Ar.cmp .geq i 0) (Ar.cmp .lss i (Ar.slen s))) fun _=>k (.int .u8 (Ar.sat s i))|false=>False)|_=>False))
 |_=>False
def xeq:List V→List V→Option Bool
 |[],[]=>some true
 |x::xs,y::ys=>
  match x,y with
  | .int k a,.int k' b=>if k=k' then(xeq xs ys).map (Ar.an (Ar.cmp .eql a b))else none
  | .str a,.str b=>(xeq xs ys).map (Ar.an (Ar.scmp .eql a b))
  | .bool a,.bool b=>(xeq xs ys).map (Ar.an (Ar.beq a b))
  |_,_=>none
 |_,_=>none
def PX:BinOp→Bool
 | .eql| .neq| .lss| .leq| .gtr| .geq=>true
 |_=>false
def Af4:BinOp→Bool
 | .quo| .rem=>true
 |_=>false
def Ap5:BinOp→Bool
 | .add| .sub| .mul| .and| .or| .xor| .andNot=>true
 |_=>false
def Av1 (op:BinOp) (t:Nat) (x y:V) (k:V→Prop):Prop:=
 match x,y with
 | .int ka a,.int kb b=>
  (match HJ op with
   |true=>E.needB (Ar.cmp .geq b 0) fun _=>k (.int ka (Ar.sh op ka a b))
   | false=>
    if ka=kb then
     (match PX op with
      |true=>k (.bool (Ar.cmp op a b))
      |false=>
       match Ap5 op with
       |true=>k (.int ka (Ar.ar op ka a b))
       |false=>(match Af4 op with|true=>E.needB (Ar.cmp .neq b 0) fun _=>k (.int ka (Ar.ar op ka a b))|false=>False))
    else False)
 | .str a,.str b=>
  (match PX op with
   |true=>k (.bool (Ar.scmp op a b))
   |false=>(match op with| .add=>E.needB (Ar.cmp .leq (Ar.slen (Ar.cat a b)) 9223372036854775807) fun _=>k (.str (Ar.cat a b))|_=>False))
 | .bool a,.bool b=>
  (match tg T t with
   |none=>False
   |some I=>
    match I.bo with
    |true=>(match op with| .eql=>k (.bool (Ar.beq a b))| .neq=>k (.bool (Ar.nt (Ar.beq a b)))|_=>False)
    |false=>False)
 | .agg xs,.agg ys=>
  (match tg T t with
   |none=>False
   | some I=>
    if I.ag=true∧I.ek=some (xs.map kd)∧ys.map kd=xs.map kd then
     (match op with
      | .eql=>(match xeq xs ys with|some b=>k (.bool b)|none=>False)
      | .neq=>(match xeq xs ys with|some b=>k (.bool (Ar.nt b))|none=>False)
      |_=>False)
    else False)
 |_,_=>False
def xun (op:UnOp)(x:Sl)(k:Sl→Prop):Prop:=
 match op with
 | .not=>(match x with| .b c=>k (.b (!c))| .v (.bool c)=>k (.v (.bool (Ar.nt c)))|_=>False)
 | .neg=>(match x with| .v (.int ki n)=>k (.v (.int ki (Ar.neg ki n)))|_=>False)
 |_=>False
def ZB (s d:Nat) (x:V) (H:A4) (k:V→Prop):Prop:=
 match tg T s,tg T d with
 | some I,some J=>
  (match I.ik,J.ik,x with
   |some _,some ki,.int _ n=>k (.int ki (Ar.wr ki n))
   |_,_,.str b=>(match I.st,J.st with|true,true=>k (.str b)|_,_=>False)
   |_,_,.own id lo n=>E.ostr s d H (.own id lo n) k
   |_,_,.sl xs tl=>E.ostr s d H (.sl xs tl) k
   |_,_,_=>False)
 |_,_=>False
def VC (t:Nat) (parts:List (Nat×V)) (k:V→Prop):Prop:=
 match tg T t with
 |none=>False
 | some I=>
  match I.ze with
  | some (.agg cs)=>
   (match I.ar with
    |some (_,e)=>(match tg T e with|none=>False|some J=>(match KD (fun i=>some (i*J.sz,J.sz)) cs parts with|some c=>k (.agg c)|none=>False))
    |none=>(match I.pl with|some pl=>(match KD (fun i=>pl[i]?) cs parts with|some c=>k (.agg c)|none=>False)|none=>False))
  |_=>False
def HC (t n:Nat) (parts:List (Nat×V)) (k:V→Prop):Prop:=
 match tg T t with
 |none=>False
 | some I=>
  match I.sl with
  |none=>False
  | some e=>
   match tg T e with
   |none=>False
   |some J=>
    match J.ze with
    |none=>False
    |some _=>if n*J.sz≤16777216∧parts.length=n∧CC J.sz 0 parts=true then k (.sl (parts.map fun q=>q.2) .full)else False
def Vy (t:Nat) (l c:V) (k:V→Prop):Prop:=
 match l,c with
 | .int _ n,.int _ m=>
  (match tg T t with
   |none=>False
   | some I=>
    match I.sl with
    |none=>False
    | some e=>
     match tg T e with
     |none=>False
     |some J=>
      match J.ze with
      |none=>False
      |some z=>if 0<J.sz∧0<J.by_∧z.one=true∧z.cells.length=J.sz∧n=m∧0≤n∧n*(J.by_:Nat)≤281474976710656 then k (.sl (List.replicate n.toNat z) .ro)else False)
 |_,_=>False
def Vv (t:Nat) (v:V) (lo hi mx:Option (Option Int)) (k:V→Prop):Prop:=
 match lo,hi,mx with
 | some l,some h,some m=>
  (match tg T t with
   |none=>False
   |some I=>
    match I.sl with
    |some e=>(match tg T e with|none=>False|some J=>(match v with| .sl xs tl=>E.slice J.sz xs tl l h m k|_=>False))
    |none=>False)
 |_,_,_=>False
def noPl:D2→Bool
 | .nil=>true
 | .full=>true
 |_=>false
def MY (b:Builtin) (ts:List TypeId) (vs:List V) (k:V→Prop):Prop:=
 match b,ts,vs with
 | .len,[t],[x]=>
  (match tg T t with
   |none=>False
   | some I=>
    match I.sl with
    |some _=>(match x with| .sl xs _=>E.ln xs fun n=>k (.int .i64 n)|_=>False)
    |none=>
     match I.ar with
     |some (n,_)=>k (.int .i64 (Ar.ofN n))
     |none=>(match x with| .str s=>(match I.st with|true=>k (.int .i64 (Ar.slen s))|false=>False)|_=>False))
 | .max,_,[.int ka a,.int kb b]=>if ka=kb then k (.int ka (Ar.mx a b))else False
 | .min,_,[.int ka a,.int kb b]=>if ka=kb then k (.int ka (Ar.mn a b))else False
 | .append,[sT,yT],[.sl xs tl,.sl ys _]=>
  (match tg T sT,tg T yT with
   | some I,some I2=>
    (match I.sl,I2.sl with
     | some e,some _=>
      (match tg T e with
       | some J=>
        (match J.ze with
         |some z=>if 0<J.sz∧0<J.by_∧z.one=true∧z.cells.length=J.sz∧noPl tl=true then E.appq J.sz J.by_ xs ys k else False
         |none=>False)
       |none=>False)
     |_,_=>False)
   |_,_=>False)
 |_,_,_=>False
def Ay2 (c:Operand)(w:Bool)(G:List (Nat×Bool)):List (Nat×Bool):=
 match c with
 | .tmp d=>(d,w)::G
 |_=>G
def Zv (t:Bool)(x y:Sl)(k:Sl→Prop):Prop:=
 match x,y with
 | .b true,.b true=>k (.b true)
 | .b true,.b false=>k (.v (.bool t))
 | .b true,.v (.bool b)=>k (.v (.bool (Ar.or t b)))
 | .b false,.b true=>k (.v (.bool (Ar.nt t)))
 | .b false,.b false=>k (.b false)
 | .b false,.v (.bool b)=>k (.v (.bool (Ar.an (Ar.nt t) b)))
 | .v (.bool a),.b true=>k (.v (.bool (Ar.or (Ar.nt t) a)))
 | .v (.bool a),.b false=>k (.v (.bool (Ar.an t a)))
 | .v (.bool a),.v (.bool b)=>k (.v (.bool (Ar.pk t a b)))
 |x,y=>E.br t (fun _=>k x) (fun _=>k y)
def Au1:V→Bool
 | .eref _ _=>true
 | .ref _ _=>true
 |_=>false
def Ku (v:V):Bool:=
 match v with
 | .sl [] .nil=>true
 |_=>false
def Ap4 (x:Operand):Bool:=
 match x with
 | .const (.slice _ _ _)=>true
 |_=>false
def Kt (G:List (Nat×Bool))(o:Oper)(l:Fl):Bool:=
 match o.op with
 | .move x=> !(Ap4 x)
 | .assign x=> !(Ap4 x)
 | .pick _ _ _=>true
 | .load _ x=>Au1 (R0 G l x).V
 | .fieldAddr _ x _=>Au1 (R0 G l x).V
 | .field _ _ _=>true
 | .build _ _=>true
 | .binOp op _ _ _ _=>PX op||Ap5 op
 | .unOp _ _ _=>true
 | .extract _ _=>true
 | .call c=>(match c.callee with| .builtin .len=>true|_=>false)
 |_=>false
def As8 (t:Nat) (H:A4) (id:Nat) (lo n:Int) (i:V) (k:V→Prop):Prop:=
 match i with
 | .int _ i=>
  (match tg T t with
   |none=>False
   |some I=>
    match I.sl with
    |some e=>(match tg T e with|none=>False|some J=>E.oidx H id J.sz lo n i fun j=>k (.elem id j J.sz 0))
    |none=>False)
 |_=>False
def Zy (b:Builtin) (ts:List TypeId) (H:A4) (v:V) (k:V→Prop):Prop:=
 match ts with
 | [t] =>
  (match tg T t with
   |none=>False
   | some I=>
    (match I.sl with
     | some _=>
      (match b,v with
       | .len,.own _ _ n=>E.olen n fun n=>k (.int .i64 n)
       | .cap,.own id lo _=>E.ocap H id lo fun n=>k (.int .i64 n)
       | .cap,.sl [] .nil=>k (.int .i64 0)
       | .cap,.sl [] .full=>k (.int .i64 0)
       |_,_=>False)
     |none=>False))
 |_=>False
def Wa (b:Builtin)(vs:List V):Option V:=
 match b,vs with
 | .len,[.own id lo n]=>some (.own id lo n)
 | .cap,[v]=>some v
 |_,_=>none
def RX (t:Nat) (H:A4) (id:Nat) (l n:Int) (lo hi mx:Option (Option Int)) (k:V→Prop):Prop:=
 match lo,hi,mx with
 | some a,some b,some c=>
  (match tg T t with
   |none=>False
   |some I=>(match I.sl with|some e=>(match tg T e with|none=>False|some J=>E.oslice J.sz H id l n a b c k)|none=>False))
 |_,_,_=>False
def xq (G:List (Nat×Bool)) (o:Oper) (l:Fl) (H:A4) (k:Sl→Prop):Prop:=
 match o.op with
 | .move x=>k (R0 G l x)
 | .assign x=>k (R0 G l x)
 | .pick c x y=>
  (match R0 G l c with
   | .b true=>k (R0 G l x)
   | .b false=>k (R0 G l y)
   | .v (.bool t)=>Zv E t (R0 (Ay2 c true G) l x) (R0 (Ay2 c false G) l y) k
   |_=>False)
 | .box _ x=>(match(R0 G l x).V.one with|true=>k (.v (.eref (R0 G l x).V.cells 0))|false=>False)
 | .build t ps=>VC T t (ps.toList.map fun p=>(p.1,(R0 G l p.2).V)) fun v=>k (.v v)
 | .buildSlice t n ps=>HC T t n (ps.toList.map fun p=>(p.1,(R0 G l p.2).V)) fun v=>k (.v v)
 | .makeSlice t x y=>Vy T t (R0 G l x).V (R0 G l y).V fun v=>k (.v v)
 | .load t x=>WL E T t (R0 G l x).V H fun v=>k (.v v)
 | .nilCheck x=>(match Xh (R0 G l x).V with|true=>k (R0 G l x)|false=>False)
 | .binOp op t x y _=>Av1 E T op t (R0 G l x).V (R0 G l y).V fun v=>k (.v v)
 | .unOp op _ x=>xun op (R0 G l x) k
 | .convert s d x=>ZB E T s d (R0 G l x).V H fun v=>k (.v v)
 | .lookup t x y ok=>E.mget t H (R0 G l x).V (R0 G l y).V ok fun v=>k (.v v)
 | .makeInterface t x=>(match tg T t with|some I=>(match I.nif with|true=>k (.v (.iface t (R0 G l x).V))|false=>False)|none=>False)
 | .makeFunc fn fs cs=>k (.v (.func fn (fs.toList.map fun x=>(R0 G l x).V) (cs.toList.map fun x=>(R0 G l x).V)))
 | .slice t x lo hi mx=>
  match(R0 G l x).V with
  | .own id l0 n=>RX E T t H id l0 n (BX (lo.map fun x=>(R0 G l x).V)) (BX (hi.map fun x=>(R0 G l x).V)) (BX (mx.map fun x=>(R0 G l x).V)) fun v=>k (.v v)
  |v=>Vv E T t v (BX (lo.map fun x=>(R0 G l x).V)) (BX (hi.map fun x=>(R0 G l x).V)) (BX (mx.map fun x=>(R0 G l x).V)) fun v=>k (.v v)
 | .fieldAddr t x f=>Lz T t (R0 G l x).V f fun v=>k (.v v)
 | .field t x f=>VA T t (R0 G l x).V f fun v=>k (.v v)
 | .indexAddr t x y=>(match(R0 G l x).V with| .own id lo n=>As8 E T t H id lo n (R0 G l y).V fun v=>k (.v v)|v=>Lx E T t v (R0 G l y).V fun v=>k (.v v))
 | .index t x y=>Vz E T t (R0 G l x).V (R0 G l y).V fun v=>k (.v v)
 | .extract x n=>(match(R0 G l x).V with| .tup cs=>JO cs[n]? fun v=>k (.v v)|_=>False)
 | .call c=>
  (match c.callee with
   | .builtin b=>
    (match Wa b (c.args.toList.map fun x=>(R0 G l x).V)with
     |some w=>Zy E T b c.argTypes.toList H w fun v=>k (.v v)
     |none=>MY E T b c.argTypes.toList (c.args.toList.map fun x=>(R0 G l x).V) fun v=>k (.v v))
   |_=>False)
 |_=>False
end
end Go.Ab
