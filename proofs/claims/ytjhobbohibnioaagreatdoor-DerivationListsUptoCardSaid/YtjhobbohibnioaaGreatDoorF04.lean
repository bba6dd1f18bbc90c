/- . -/
import Derived.Test.YtjhobbohibnioaaGreatDoorF03
import Derived.RangeFuncRecord
import Derived.OrdersIn
import Derived.RangeFuncNested
set_option linter.all false
namespace Go.Ab
open Go.RowKit
variable [O5]
def Co (P:Program) (fr:Fr) (H:A5):List ResultVar→Option (List V)
 |[]=>some []
 | .tmp t::r=>(Co P fr H r).map (fr.s t:: ·)
 | .cell a t::r=>
  match Jj P H t (fr.s a),Co P fr H r with
  |some v,some l=>some (v::l)
  |_,_=>none
def Rf:List V→V
 |[x]=>x
 |l=>.tup l
def AS5 (H:A5)(df:List Nat):Prop:=df.Nodup∧∀id∈df,H id=some (.obj (.deferred (some [])))
def clear (H:A5)(df:List Nat):A5:=fun x=>if x∈df then none else H x
section
variable {P:Program}
theorem AF1 {g:Gh} {w:World} {H:A5} (hR:Rl g H w) {t:TypeId} {v:Value} {X x:V} (hv:VR g w v X) (hl:Jj P H t X=some x):
 ∃b q u,v= .pointer (some ⟨b,q,none⟩)∧(loadVar t ⟨b,q,none⟩).run P w= .ok u w∧VR g w u x:=by
 unfold Jj at hl
 split at hl
 ·rename_i ag sz cs off ha hs
  cases hv with
  |eref vs hf hw h1 hvv=>
   rename_i b q;obtain⟨u,hu,hr⟩:=HQ (P:=P) (g:=g) (w:=w) (b:=b) (q:=q) (cs:=cs) (fun j hj=>⟨vs j,hw j hj,h1 j hj,hvv j hj⟩) ha hs hl
   grind
 ·rename_i ag sz id off ha hs
  cases hv with
  | ref hm=>
   rename_i b
   split at hl
   ·rename_i cs hk;obtain⟨u,hu,hr⟩:=HQ (P:=P) (Rv hR hk hm) ha hs hl
    rw[K1]at hu
    grind
   cases hl
 cases hl
theorem Ma {nt:Nat} {g:Gh} {w:World} {H:A5} {a:Act} {fr:Fr} (hR:Rl g H w) (hE:ER g w a fr):∀(rs:List ResultVar) (l:List V),Co P fr H rs=some l→
 ∃vs:List Value,(rs.mapM (m:=Sem) fun| .tmp t=>pure (a.tmps.getD t undef)| .cell x t=>do loadVar t (←asAddr (a.tmps.getD x undef))).run P w= .ok vs w∧vs.length=l.length∧
  ∀i,i<l.length→VR g w (vs.getD i undef) (l.getD i .bad)
 |[],l,h=>by simp_all[Co]
 | .tmp t::r,l,h=>by
  simp only[Co]at h
  cases hr:Co P fr H r with
  |none=>grind
  |some l'=>
   simp only[hr,I6,F3]at h
   subst h;obtain⟨vs,h1,h2,h3⟩:=Ma (nt:=nt) hR hE r l' hr;refine⟨a.tmps.getD t undef::vs,?_,by simp[h2],fun i hi=>?_⟩
   ·simp_all
   cases i with
   |zero=>exact hE t
   |succ i=>simp_all
 | .cell x t::r,l,h=>by
  simp only[Co]at h
  split at h
  ·rename_i v l' hv hr;cases h;obtain⟨vs,h1,h2,h3⟩:=Ma (nt:=nt) hR hE r l' hr;obtain⟨b,q,u,e1,e2,e3⟩:=AF1 hR (hE x) hv;refine⟨u::vs,?_,by simp[h2],fun i hi=>?_⟩
   ·have ea:(asAddr (.pointer (some ⟨b,q,none⟩))).run P w= .ok ⟨b,q,none⟩ w:=rfl
    simp_all
   grind
  cases h
theorem XV {nt:Nat} {g:Gh} {w:World} {H:A5} {a:Act} {fr:Fr} {fn:Func} (hR:Rl g H w) (hE:ER g w a fr) {l:List V} (h:Co P fr H fn.results.toList=some l):
 ∃v,(results fn a.tmps).run P w= .ok v w∧VR g w v (Rf l):=by
 obtain⟨vs,h1,h2,h3⟩:=Ma (nt:=nt) hR hE _ _ h
 have hm:(results fn a.tmps).run P w= .ok (if h:vs.toArray.size=1 then vs.toArray[0]else .tuple vs.toArray) w:=by
  unfold results;rw[Array.mapM_eq_mapM_toList];simp only[B8,Sem.run_map]
  erw [h1]
  rfl
 refine⟨_,hm,?_⟩
 match l,vs,h2,h3 with
 |[x],[v],_,h3=>simp_all[Rf]
 |[],[],_,_=>exact .tup rfl fun i hi=>by simp at hi
 |x::y::l,u::v::vs,h2,h3=>
  simp only[Lx,H7,Rf];rw[dif_neg (by omega)];refine .tup (by omega) fun i hi=>?_;have:=h3 i hi
  simp_all
theorem Vg {nt:Nat} {fn:Func} {a:Act} {R:Ending→World→Prop} {g:Gh} {fr:Fr} {l:List V}:∀(df:List Nat) (bs:List Nat) (H:A5) (w:World),Rl g H w→ER g w a fr→bs.length=df.length→
 (∀i,i<bs.length→g.mu (df.getD i 0)=some (bs.getD i 0))→AS5 H df→Co P fr (clear H df) fn.results.toList=some l→
 (∀w' v,Y7 g w g w'→Rl g (clear H df) w'→VR g w' v (Rf l)→R (.returned v) w')→
 LeavesInM Fence.wide 0 P fn a.tmps R (bs.map fun b=>{target:=.collected b,args:= #[]}) .returning w
 |[],[],H,w,hR,hE,_,_,_,hl,hr=>by
  have hcl:clear H []=H:=by funext x;simp[clear]
  rw[hcl]at hl hr
  obtain⟨v,h1,h2⟩:=XV (nt:=nt) hR hE hl;exact⟨v,h1,hr w v (Y7.refl _ _) hR h2⟩
 | id::df,b::bs,H,w,hR,hE,hlen,hmu,hdf,hl,hr=>by
  have hb:g.mu id=some b:=hmu 0 (by simp);have hk:=hdf.2 id (by simp);have hnd:=List.nodup_cons.1 hdf.1;obtain⟨s,hR'⟩:=hR.putObj (o':=.deferred none) hk hb rfl;obtain⟨b',h1,h2,h3,h4⟩:=hR.blk id _ hk
  rw[hb]at h1;cases h1
  refine⟨by simp,.inl ⟨b,w.putObj b (.deferred none),rfl,run_takeDeferred h3,?_⟩⟩
  have hlt:∀id' b',(upd H id none) id'=some b'→(upd H id (some (.obj (.deferred none)))) id'=some b':=by
   simp_all[upd]
  have hcl:clear (upd H id none) df=clear H (id::df):=by
   funext x
   grind[clear,upd]
  refine Vg (nt:=nt) df bs (upd H id none) (w.putObj b (.deferred none)) (hR'.less hlt) (hE.mono s) (by simp_all) (fun i hi=>?_) ⟨hnd.2,fun id' hi'=>?_⟩ (by rw[hcl];exact hl) fun w' v s' hR2 hv=>?_
  ·have:=hmu (i+1) (by grind)
   simp_all
  ·have hne:id'≠id:=fun e=>by simp_all
   rw[C9 _ _ hne];exact hdf.2 id' (by simp[hi'])
  rw[hcl]at hR2
  exact hr w' v (s.trans s') hR2 hv
 |[],_::_,_,_,_,_,h,_,_,_,_=>by simp at h
 |_::_,[],_,_,_,_,h,_,_,_,_=>by simp at h
def Ret (P:Program)(fn:Func)(K:V→A5→Prop)(e:Exit)(fr:Fr)(H:A5):Prop:=
 (e= .normal∨e= .ret)∧AS5 H fr.df∧∃l,Co P fr (clear H fr.df) fn.results.toList=some l∧K (Rf l) (clear H fr.df)
def entry (args:List V):Fr:=⟨fun t=>args.getD t .bad,[]⟩
theorem UA {f:FuncId} {fn:Func} {c:Code} {args:List V} {H:A5} {K:V→A5→Prop} (hf:P.funcs[f]? =some fn) (hb:fn.body=some c) (hcall:∀vals w,(callFunc f vals).run P w= .ok (.enter f vals) w)
 (hn:args.length≤fn.ntmps) (h:Aa P fn.ntmps none c (entry args) H (Ret P fn K)):M8 P f args H K:=by
 intro g w vals hR hA;rw[hcall]
 show CallsIn Fence.wide 0 P f vals w _
 refine callsIn_of_wp_marks hf hb trivial ?_
 have hF:FR fn.ntmps g w {tmps:=vals++Array.replicate (fn.ntmps-vals.size) undef,defers:=[]} (entry args):=by
  refine⟨by have:=hA.1;simp;omega,fun t=>?_,⟨[],rfl,fun i hi=>by simp at hi,rfl⟩⟩
  by_cases ht:t<args.length
  ·have e:(vals++Array.replicate (fn.ntmps-vals.size) undef).getD t undef=vals.getD t undef:=by
    simp only[P4,IM,hA.1,A2 ht]
   grind[entry,Args]
  have:(entry args).s t= .bad:=by simp_all[entry]
  rw[this];exact .bad _
 refine wpIn_mono (h none g w _ rfl hR hF) fun e a' w' ⟨g',fr',H',s,hR',hF',he,hdf,l,hl,hK⟩=>?_;obtain⟨bs,k1,k2,k3⟩:=hF'.df;have key:=Vg (P:=P) (nt:=fn.ntmps) (fn:=fn) (a:=a') (R:=fun e w'=>∃v,e= .returned v∧N3 g w K v w') fr'.df bs H' w' hR' hF'.s k1 k2 hdf hl fun w2 v s2 hR2 hv=>⟨v,rfl,g',_,_,s.trans s2,hR2,hv,hK⟩
 rw[←k3]at key
 rcases he with rfl|rfl
 ·exact key
 exact key
end
def AQ8:Op→Bool
 | .alloc _=>true
 |_=>false
def Py:Op→Bool
 | .store _ _ _=>true
 |_=>false
def GO (o:Oper)(j:Nat):Bool:=o.after.any fun e=>e.on==j&&Region.binds .any e
def Id (o:Oper)(i:Nat):Bool:=o.after.all fun e=> !Region.binds .any e||e.on<i
def Pz (ops:Array Oper)(x y:Oper):Bool:=x.apart ops y&& !(Py x.op&&Py y.op)
def SL (ops:Array Oper):Nat→Nat→Nat→Bool
 |0,i,j=>GO (ops.getD i default) j
 |n+1,i,j=>GO (ops.getD i default) j||(ops.getD i default).after.any fun e=>Region.binds .any e&&(Nat.blt j e.on&&SL ops n e.on j)
def Ac4:Nat:=20
def TJ (ops:Array Oper) (k:Nat):Bool:=
 k ≤ops.size&&(List.range ops.size).all fun i=>
  Id (ops.getD i default) i&&
   (List.range i).all fun j=>(i<k&&Pz ops (ops.getD j default) (ops.getD i default))||SL ops Ac4 i j
section
variable {P:Program}{nt:Nat}{ops:Array Oper}{H0:A5}
theorem Z2 {α β:Type}{f g:α→β}:∀{l:List α},(∀x∈l,f x=g x)→l.map f=l.map g
 |[],_=>rfl
 |x::l,h=>by rw[D5,D5,h x (by simp),Z2 fun y hy=>h y (by simp[hy])]
theorem Jx {α β:Type}{f g:α→β}:∀{l:Option α},(∀x∈l,f x=g x)→l.map f=l.map g
 |none,_=>rfl
 |some x,h=>by rw[I6,I6,h x rfl]
theorem Qn {o:Oper} {ρ ρ':Operand→V} {H:A5} {v:V} (hρ:∀x∈o.op.operands,ρ x=ρ' x) (h:OP P o ρ H v):OP P o ρ' H v:=by
 unfold OP at h ⊢
 cases ho:o.op<;>simp only[ho]at h ⊢ hρ<;>first
  |exact h.elim
  | (simp only[Op.operands,Gm,Gg,CF,or_false,forall_eq_or_imp,forall_eq]at hρ
     first
      |(rw[←hρ];exact h)
      |(rw[←hρ.1,←hρ.2];exact h)
      |(rw[←hρ.1,←hρ.2.1,←hρ.2.2];exact h))
  |skip
 ·
  rename_i t ps;rw[←Z2 (l:=ps.toList) (f:=fun p=>(p.1,ρ p.2)) (g:=fun p=>(p.1,ρ' p.2)) fun p hp=>by rw[hρ p.2 (by simp only[Op.operands,Gm,Ge];grind)]];exact h
 ·rename_i t n ps;rw[←Z2 (l:=ps.toList) (f:=fun p=>(p.1,ρ p.2)) (g:=fun p=>(p.1,ρ' p.2)) fun p hp=>by rw[hρ p.2 (by simp only[Op.operands,Gm,Ge];grind)]];exact h
 ·rename_i fn fs cs
  rw[←Z2 (l:=fs.toList) (f:=ρ) (g:=ρ') fun p hp=>hρ p (by simp only[Op.operands,Iw];simp_all),
   ←Z2 (l:=cs.toList) (f:=ρ) (g:=ρ') fun p hp=>hρ p (by simp only[Op.operands,Iw];simp_all)]
  exact h
 ·rename_i t x lo hi mx
  rw[←hρ x (by simp[Op.operands]),←Jx (l:=lo) (f:=ρ) (g:=ρ') fun p hp=>hρ p (by simp[Op.operands,Option.mem_def.1 hp]),
   ←Jx (l:=hi) (f:=ρ) (g:=ρ') fun p hp=>hρ p (by simp[Op.operands,Option.mem_def.1 hp]),←Jx (l:=mx) (f:=ρ) (g:=ρ') fun p hp=>hρ p (by simp[Op.operands,Option.mem_def.1 hp])]
  exact h
 rename_i c;have hargs:c.args.toList.map ρ=c.args.toList.map ρ':=Z2 fun p hp=>hρ p (by simp only[Op.operands,Call.operands,Iw];simp_all);rw[←hargs]
 cases hc:c.callee<;>simp only[hc]at h ⊢
 ·rename_i f;rw[←hρ f (by simp[Op.operands,Call.operands,hc])];exact h
 exact h
theorem Af4 {fr:Fr} {d:Option Tmp} {v:V} {x:Operand} (h:∀t,d=some t→x≠ .tmp t):ev (fr.put d v) x=ev fr x:=by
 cases d with
 |none=>rfl
 | some d=>
  cases x with
  |tmp t=>
   have hne:t≠d:=fun e=>h d rfl (by rw[e])
   grind[ev,Fr.put]
  |_=>rfl
theorem Mp {fr:Fr}{d:Option Tmp}{v:V}{y:Oper}(h:∀t,d=some t→t∉y.looksAt ops):∀x∈y.op.operands,ev (fr.put d v) x=ev fr x:=by
 intro x hx;refine Af4 fun t ht e=>h t ht ?_;subst e;exact Gq _ (List.mem_filterMap.2 ⟨.tmp t,by grind,rfl⟩)
theorem Rh {fr:Fr} {d:Option Tmp} {v:V} {y:Oper} (h:∀t,d=some t→t∉y.looksAt ops):BA ops (fr.put d v) y=BA ops fr y:=by
 unfold BA
 cases hg:y.guard with
 |none=>rfl
 | some p=>
  obtain⟨j,want⟩:=p
  dsimp only
  cases hd:(ops[j]?).bind (·.dst)with
  |none=>rfl
  | some t=>
   have hne:∀d',d=some d'→t≠d':=by
    intro d' e1 e2;subst e2;refine h t e1 (IL _ ?_)
    grind
   cases d with
   |none=>rfl
   |some d=>
    have:=hne d rfl
    grind[Fr.put]
theorem Yf {fr:Fr} {d e:Option Tmp} {v u:V} (h:∀t,d=some t→e≠some t):(fr.put d v).put e u=(fr.put e u).put d v:=by
 cases d with
 |none=>rfl
 | some d=>
  cases e with
  |none=>rfl
  |some e=>
   have hne:d≠e:=fun x=>h d rfl (by rw[x]);simp only[Fr.put,Fr.mk.injEq,O9]
   funext t
   grind
theorem Sq (H:A5){a b:Nat}(x y:Option Il)(h:a≠b):upd (upd H a x) b y=upd (upd H b y) a x:=by
 funext t
 grind[upd]
end
inductive Pk where
 |inl (d:Nat)
 |inr (n:Nat)
 |tk (d:Nat)
 |ex
deriving DecidableEq
def Pk.var:Pk→Bool
 | .tk _=>false
 | .ex=>false
 |_=>true
abbrev Pv:=Pk→Option (List V)
def Q5 (pv:Pv)(d:Pk)(cs:List V):Pv:=fun x=>if x=d then some cs else pv x
def U5 (pv:Pv):Option Tmp→Prop
 |some d=>pv (.inl d)=none∧pv (.tk d)=none
 |none=>True
def W6 (pv:Pv):Option Pk→Pv
 |some d=>fun x=>if x=d then none else pv x
 |none=>pv
theorem SU {pv:Pv}{s:Option Pk}{x:Pk}(h:pv x=none):W6 pv s x=none:=by
 cases s with
 |none=>exact h
 |some d=>simp_all[W6]
theorem Dc {pv:Pv} {s:Option Pk} {x:Pk} {c:List V} (h:W6 pv s x=some c):pv x=some c∧∀d,s=some d→x≠d:=by
 cases s with
 |none=>simp_all[W6]
 |some d=>
  simp_all[W6]
theorem T5 {pv:Pv}{s:Option Pk}{x:Pk}(h:∀d,s=some d→x≠d):W6 pv s x=pv x:=by
 cases s with
 |none=>rfl
 |some d=>simp_all[W6]
theorem Ay {pv:Pv} {d:Pk} {cs:List V} {D:Option Tmp} (h:U5 (Q5 pv d cs) D):U5 pv D:=by
 cases D with
 |none=>trivial
 |some e=>
  grind[U5,Q5]
theorem Z4 {pv:Pv} {d:Pk} {cs:List V} {D:Option Tmp} (h:U5 pv D) (hn:∀e,D=some e→d≠ .inl e∧d≠ .tk e):U5 (Q5 pv d cs) D:=by
 cases D with
 |none=>trivial
 |some e=>
  have h1:(Pk.inl e:Pk)≠d:=fun x=>(hn e rfl).1 x.symm;have h2:(Pk.tk e:Pk)≠d:=fun x=>(hn e rfl).2 x.symm
  grind[U5,Q5]
theorem Jo {pv:Pv}{s:Option Pk}{D:Option Tmp}(h:U5 pv D):U5 (W6 pv s) D:=by
 cases D with
 |none=>trivial
 |some e=>exact⟨SU h.1,SU h.2⟩
theorem Ux {pv:Pv} {s:Option Pk} {D:Option Tmp} (h:U5 (W6 pv s) D) (hn:∀e k,D=some e→s=some k→k≠ .inl e∧k≠ .tk e):U5 pv D:=by
 cases D with
 |none=>trivial
 |some e=>
  refine⟨?_,?_⟩
  ·have:=h.1;rwa[T5 fun k hk x=>(hn e k rfl hk).1 x.symm]at this
  have:=h.2;rwa[T5 fun k hk x=>(hn e k rfl hk).2 x.symm]at this
def PY (fr:Fr)(pv:Pv)(d:Nat)(k:Pk)(off:Nat)(cs:List V):Prop:=
 (k= .inl d∧off=0∧pv (.inl d)=some cs)∨∃id,k= .inr id∧fr.s d= .ref id off∧pv (.inl d)=none∧pv (.inr id)=some cs
theorem PY.at {fr:Fr}{pv:Pv}{d off:Nat}{k:Pk}{cs:List V}(h:PY fr pv d k off cs):pv k=some cs:=by
 rcases h with⟨rfl,_,h⟩|⟨id,rfl,_,_,h⟩<;>exact h
theorem PY.put {fr:Fr} {pv:Pv} {d off:Nat} {k:Pk} {cs:List V} {D:Option Tmp} {v:V} (hn:∀e,D=some e→d≠e):PY (fr.put D v) pv d k off cs↔PY fr pv d k off cs:=by
 have:(fr.put D v).s d=fr.s d:=by
  cases D with
  |none=>rfl
  |some e=>simp_all[Fr.put]
 simp_all[PY]
theorem PY.set {fr:Fr}{pv:Pv}{d off:Nat}{k:Pk}{cs:List V}{e:Nat}{c:List V}(hn:d≠e):PY fr (Q5 pv (.inl e) c) d k off cs↔PY fr pv d k off cs:=by
 grind[PY,Q5]
section
variable {P:Program}{nt:Nat}{ops:Array Oper}{H0:A5}
def RC (P:Program)(ops:Array Oper)(H0:A5)(o:Oper)(fr:Fr)(v:V):Prop:=
 match BA ops fr o with
 |some true=>OP P o (ev fr) H0 v
 |some false=>v= .tup []
 |none=>False
def AppC (P:Program)(sT yT:TypeId)(xs ys xs' ys':List V):Prop:=∃e sz by_ z,HG P sT=some e∧(HG P yT).isSome=true∧GS P e=some sz∧0<sz∧TZ P e=some by_∧0<by_∧JD P e=some z∧z.one=true∧z.cells.length=sz∧
 M1 xs xs'∧M1 ys ys'∧xs'.all (fun x=>x.cells.length==sz)=true∧ys'.all (fun x=>x.cells.length==sz)=true∧(xs'.length+ys'.length)*by_≤140737488355328
def KO (pv:Pv)(sx:Operand)(tlx:G6):Option Pk→Prop
 |none=>tlx= .nil∨tlx= .full
 |some (.tk d)=>sx= .tmp d∧tlx= .ro∧(pv (.tk d)).isSome=true
 |some .ex=>pv .ex=some [.sl [] tlx]
 |some _=>False
theorem KO.key {pv:Pv}{sx:Operand}{tlx:G6}{src:Option Pk}(h:KO pv sx tlx src):∀k,src=some k→(∃d,k= .tk d)∨k= .ex:=by
 intro k hk;subst hk
 cases k with
 |inl d=>exact h.elim
 |inr d=>exact h.elim
 |tk d=>simp_all
 |ex=>grind
theorem KO.ninl {pv:Pv}{sx:Operand}{tlx:G6}{src:Option Pk}(h:KO pv sx tlx src)(e:Nat):∀k,src=some k→Pk.inl e≠k:=by
 grind[KO]
def PApp (P:Program)(o:Oper)(fr:Fr)(pv:Pv)(src:Option Pk)(u:V):Prop:=
 o.guard=none∧∃sx sy sT yT xs tlx ys tly xs' ys',o.op= .call {callee:=.builtin .append,args:= #[sx,sy],argTypes:= #[sT,yT]}∧ev fr sx= .sl xs tlx∧ev fr sy= .sl ys tly∧KO pv sx tlx src∧AppC P sT yT xs ys xs' ys'∧u= .sl (xs'++ys') .ro
def Eff (P:Program)(ops:Array Oper)(H0:A5)(o:Oper)(fr:Fr)(pv:Pv)(u:V)(pv':Pv):Prop:=
 (AQ8 o.op=false∧Py o.op=false∧RC P ops H0 o fr u∧pv'=pv)∨
 (∃t z d,o.op= .alloc t∧o.guard=none∧o.dst=some d∧JD P t=some z∧z.one=true∧u= .bad∧pv'=Q5 pv (.inl d) z.cells)∨
 (∃t d y k off cs,o.op= .store t (.tmp d) y∧o.guard=none∧PY fr pv d k off cs∧(ev fr y).one=true∧GS P t=some (ev fr y).cells.length∧off+(ev fr y).cells.length≤cs.length∧u= .bad∧pv'=Q5 pv k (Z0 cs off (ev fr y).cells))∨
 (∃d src,o.dst=some d∧PApp P o fr pv src u∧pv'=Q5 (W6 pv src) (.tk d) [])
def MD (P:Program)(nt:Nat)(ops:Array Oper)(H0:A5)(o:Oper)(fr:Fr)(pv:Pv)(K:Fr→Pv→Prop):Prop:=
 (GV nt o.dst=true∧U5 pv o.dst)∧∃u pv',Eff P ops H0 o fr pv u pv'∧K (fr.put o.dst u) pv'
def KU (P:Program)(nt:Nat)(ops:Array Oper)(H0:A5):List Oper→Fr→Pv→(Fr→Pv→Prop)→Prop
 |[],fr,pv,K=>K fr pv
 |o::rest,fr,pv,K=>MD P nt ops H0 o fr pv fun fr' pv'=>KU P nt ops H0 rest fr' pv' K
theorem TI {o:Oper}{fr:Fr}{pv:Pv}{K K':Fr→Pv→Prop}(h:MD P nt ops H0 o fr pv K)(hk:∀fr pv,K fr pv→K' fr pv):MD P nt ops H0 o fr pv K':=
 let⟨h1,u,pv',h2,h3⟩:=h;⟨h1,u,pv',h2,hk _ _ h3⟩
theorem VD {o:Oper}{fr:Fr}{d:Option Tmp}{u v:V}(hl:∀t,d=some t→t∉o.looksAt ops):RC P ops H0 o (fr.put d u) v↔RC P ops H0 o fr v:=by
 unfold RC;rw[Rh hl];have he:=Mp (fr:=fr) (v:=u) hl
 grind[Qn]
theorem Db (pv:Pv){a b:Pk}(x y:List V)(h:a≠b):Q5 (Q5 pv a x) b y=Q5 (Q5 pv b y) a x:=by
 funext t
 grind[Q5]
theorem Hs (pv:Pv) {a:Pk} (x:List V) {s:Option Pk} (h:∀d,s=some d→a≠d):W6 (Q5 pv a x) s=Q5 (W6 pv s) a x:=by
 cases s with
 |none=>rfl
 |some d=>
  funext t
  grind[W6,Q5]
theorem Ac7 (pv:Pv) (s s':Option Pk):W6 (W6 pv s) s'=W6 (W6 pv s') s:=by
 cases s with
 |none=>rfl
 | some d=>
  cases s' with
  |none=>rfl
  |some d'=>
   funext t
   grind[W6]
theorem Ki {o:Oper}{t:TypeId}{e:Nat}{q:Operand}(ho:o.op= .store t (.tmp e) q):e∈o.looksAt ops:=
 Gq _ (List.mem_filterMap.2 ⟨.tmp e,by simp[ho,Op.operands],rfl⟩)
theorem ZD {o:Oper}{e:Nat}{sy:Operand}{ts:Array TypeId}(ho:o.op= .call {callee:=.builtin .append,args:= #[.tmp e,sy],argTypes:=ts}):e∈o.looksAt ops:=
 Gq _ (List.mem_filterMap.2 ⟨.tmp e,by simp[ho,Op.operands,Call.operands],rfl⟩)
theorem AU2 {o:Oper}{fr:Fr}{pv pv':Pv}{d:Option Tmp}{w u:V}(hl:∀t,d=some t→t∉o.looksAt ops)(h:Eff P ops H0 o fr pv u pv'):Eff P ops H0 o (fr.put d w) pv u pv':=by
 have he:=Mp (fr:=fr) (v:=w) hl
 rcases h with⟨h1,h2,h3,h4⟩|h|⟨t,e,y,k,off,cs,ho,hg,e1,e2,e3,e4,e5,e6⟩|⟨e,src,hd,⟨hg,sx,sy,sT,yT,xs,tlx,ys,tly,xs',ys',ho,q1,q2,q3,q4,q5⟩,hp⟩
 ·exact .inl ⟨h1,h2,(VD hl).2 h3,h4⟩
 ·grind[Eff]
 ·have hy:ev (fr.put d w) y=ev fr y:=he y (by simp[ho,Op.operands]);refine .inr (.inr (.inl ⟨t,e,y,k,off,cs,ho,hg,(PY.put fun e' he' eq=>hl e' he' (eq▸Ki ho)).2 e1,?_,?_,?_,e5,?_⟩))<;>rw[hy]<;>assumption
 refine .inr (.inr (.inr ⟨e,src,hd,⟨hg,sx,sy,sT,yT,xs,tlx,ys,tly,xs',ys',ho,?_,?_,q3,q4,q5⟩,hp⟩))
 ·rw[he sx (by simp[ho,Op.operands,Call.operands])];exact q1
 rw[he sy (by simp[ho,Op.operands,Call.operands])];exact q2
theorem Ax0 {o:Oper} {fr:Fr} {pv pv':Pv} {d:Option Tmp} {w u:V} (hl:∀t,d=some t→t∉o.looksAt ops) (h:Eff P ops H0 o (fr.put d w) pv u pv'):Eff P ops H0 o fr pv u pv':=by
 have he:=Mp (fr:=fr) (v:=w) hl
 rcases h with⟨h1,h2,h3,h4⟩|h|⟨t,e,y,k,off,cs,ho,hg,e1,e2,e3,e4,e5,e6⟩|⟨e,src,hd,⟨hg,sx,sy,sT,yT,xs,tlx,ys,tly,xs',ys',ho,q1,q2,q3,q4,q5⟩,hp⟩
 ·exact .inl ⟨h1,h2,(VD hl).1 h3,h4⟩
 ·simp_all[Eff]
 ·have hy:ev (fr.put d w) y=ev fr y:=he y (by simp[ho,Op.operands])
  rw[hy]at e2 e3 e4 e6
  exact .inr (.inr (.inl ⟨t,e,y,k,off,cs,ho,hg,(PY.put fun e' he' eq=>hl e' he' (eq▸Ki ho)).1 e1,e2,e3,e4,e5,e6⟩))
 refine .inr (.inr (.inr ⟨e,src,hd,⟨hg,sx,sy,sT,yT,xs,tlx,ys,tly,xs',ys',ho,?_,?_,q3,q4,q5⟩,hp⟩))
 ·rw[he sx (by simp[ho,Op.operands,Call.operands])]at q1;exact q1
 rw[he sy (by simp[ho,Op.operands,Call.operands])]at q2;exact q2
theorem YS {pv:Pv}{D:Option Tmp}{d:Nat}(h:U5 pv D)(e:D=some d):pv (.inl d)=none:=by grind[U5]
theorem PY.key {fr:Fr}{pv:Pv}{d off:Nat}{k:Pk}{cs:List V}(h:PY fr pv d k off cs)(e:Nat):k≠ .tk e:=by
 rcases h with⟨rfl,_,_⟩|⟨id,rfl,_⟩<;>simp
theorem PY.keyx {fr:Fr}{pv:Pv}{d off:Nat}{k:Pk}{cs:List V}(h:PY fr pv d k off cs):k≠ .ex:=by
 rcases h with⟨rfl,_,_⟩|⟨id,rfl,_⟩<;>simp
theorem PY.nsrc {fr:Fr}{pv pv':Pv}{d off:Nat}{k:Pk}{cs:List V}{sx:Operand}{tlx:G6}{src:Option Pk}(h:PY fr pv d k off cs)(h':KO pv' sx tlx src):∀e,src=some e→k≠e:=by
 grind[PY,KO]
theorem PY.congr {fr:Fr}{pv pv':Pv}{d off:Nat}{k:Pk}{cs:List V}(h:PY fr pv d k off cs)(h1:pv' (.inl d)=pv (.inl d))(h2:pv' k=pv k):PY fr pv' d k off cs:=by
 grind[PY]
theorem KO.congr {pv pv':Pv} {sx:Operand} {tlx:G6} {src:Option Pk} (h:KO pv sx tlx src) (h1:∀d,src=some d→pv' d=pv d):KO pv' sx tlx src:=by
 cases src with
 |none=>exact h
 |some d=>
  cases d with
  |inl d=>exact h
  |inr d=>exact h
  |tk d=>simp_all[KO]
  |ex=>simp_all[KO]
theorem J9 {pv:Pv}{a b:Pk}{x:List V}(h:b≠a):Q5 pv a x b=pv b:=by simp[Q5,h]
theorem AK0 {x y:Oper} {fr:Fr} {pv pv1 pv2:Pv} {u v:V} (hi:Pz ops x y=true) (hx:Eff P ops H0 x fr pv u pv1) (hy:Eff P ops H0 y fr pv1 v pv2) (fx:U5 pv x.dst) (fy:U5 pv1 y.dst):
 ∃pv3,Eff P ops H0 y fr pv v pv3∧Eff P ops H0 x fr pv3 u pv2∧U5 pv y.dst∧U5 pv3 x.dst:=by
 simp only[Pz,L9,DR]at hi
 obtain⟨hap,hss⟩:=hi;obtain⟨a1,a2,a3⟩:=Oper.apart_spec hap
 rcases hx with⟨x1,x2,x3,rfl⟩|⟨t,z,d,ho,hg,hd,e1,e2,e3,rfl⟩|⟨t,d,p,k,off,cs,ho,hg,e1,e2,e3,e4,e5,rfl⟩|⟨d,src,hd,hP,rfl⟩
 ·
  refine⟨pv2,hy,.inl ⟨x1,x2,x3,rfl⟩,fy,?_⟩
  rcases hy with⟨_,_,_,rfl⟩|⟨t,z,d,ho,hg,hd,e1,e2,e3,rfl⟩|⟨t,d,p,k,off,cs,ho,hg,e1,e2,e3,e4,e5,rfl⟩|⟨d,src,hd,hP,rfl⟩
  ·exact fx
  ·grind[Z4]
  ·refine Z4 fx fun e he=>⟨fun x=>?_,e1.key e⟩
   have:=e1.at;rw[x,YS fx he]at this;cases this
  grind[Z4,Jo]
 ·
  rcases hy with⟨y1,y2,y3,rfl⟩|⟨t',z',d',ho',hg',hd',e1',e2',e3',rfl⟩|⟨t',d',p',k',off',cs',ho',hg',e1',e2',e3',e4',e5',rfl⟩|⟨d',src',hd',hP',rfl⟩
  ·exact⟨pv,.inl ⟨y1,y2,y3,rfl⟩,.inr (.inl ⟨t,z,d,ho,hg,hd,e1,e2,e3,rfl⟩),Ay fy,fx⟩
  ·have hne:(Pk.inl d':Pk)≠ .inl d:=fun e=>a2 d hd (by rw[hd'];cases e;rfl)
   exact⟨_,.inr (.inl ⟨t',z',d',ho',hg',hd',e1',e2',e3',rfl⟩),.inr (.inl ⟨t,z,d,ho,hg,hd,e1,e2,e3,Db _ _ _ (Ne.symm hne)⟩),Ay fy,
    Z4 fx fun e he=>⟨fun x=>by rw[hd]at he;simp_all,by simp⟩⟩
  ·have hne:d'≠d:=fun e=>a1 d hd (e▸Ki ho')
   have hk:k'≠ .inl d:=fun e=>by
    rcases e1' with⟨q,_⟩|⟨id,q,_⟩
    ·rw[q]at e;simp_all
    simp_all
   have hT:PY fr pv d' k' off' cs':=e1'.congr (by rw[J9 fun e=>by simp_all]) (by rw[J9 hk])
   exact⟨_,.inr (.inr (.inl ⟨t',d',p',k',off',cs',ho',hg',hT,e2',e3',e4',e5',rfl⟩)),.inr (.inl ⟨t,z,d,ho,hg,hd,e1,e2,e3,Db _ _ _ (Ne.symm hk)⟩),Ay fy,
    Z4 fx fun e he=>⟨fun x=>by rw[hd]at he;simp_all,hT.key e⟩⟩
  obtain⟨hg',sx,sy,sT,yT,xs,tlx,ys,tly,xs',ys',ho',q1,q2,q3,q4,q5⟩:=hP';refine⟨_,.inr (.inr (.inr ⟨d',src',hd',⟨hg',sx,sy,sT,yT,xs,tlx,ys,tly,xs',ys',ho',q1,q2,q3.congr fun e he=>(by rw[J9 fun x=>q3.ninl d e he x.symm]),q4,q5⟩,rfl⟩)),.inr (.inl ⟨t,z,d,ho,hg,hd,e1,e2,e3,?_⟩),Ay fy,?_⟩
  ·rw[Hs _ _ (q3.ninl d),Db _ _ _ (by simp)]
  grind[Z4,Jo]
 ·
  rcases hy with⟨y1,y2,y3,rfl⟩|⟨t',z',d',ho',hg',hd',e1',e2',e3',rfl⟩|⟨t',d',p',k',off',cs',ho',_⟩|⟨d',src',hd',hP',rfl⟩
  ·exact⟨pv,.inl ⟨y1,y2,y3,rfl⟩,.inr (.inr (.inl ⟨t,d,p,k,off,cs,ho,hg,e1,e2,e3,e4,e5,rfl⟩)),Ay fy,fx⟩
  ·have hne:d≠d':=fun e=>a3 d' hd' (e▸Ki ho)
   have hk:k≠ .inl d':=fun e=>by
    rcases e1 with⟨q,_⟩|⟨id,q,_⟩
    ·rw[q]at e;simp_all
    simp_all
   have hT:PY fr (Q5 pv (.inl d') z'.cells) d k off cs:=e1.congr (by rw[J9 fun e=>by simp_all]) (by rw[J9 hk])
   exact⟨_,.inr (.inl ⟨t',z',d',ho',hg',hd',e1',e2',e3',rfl⟩),.inr (.inr (.inl ⟨t,d,p,k,off,cs,ho,hg,hT,e2,e3,e4,e5,Db _ _ _ hk⟩)),Ay fy,
    Z4 fx fun e he=>⟨fun x=>by simp_all,by simp⟩⟩
  ·grind[Py]
  obtain⟨hg',sx,sy,sT,yT,xs,tlx,ys,tly,xs',ys',ho',q1,q2,q3,q4,q5⟩:=hP';have hk:∀e,k≠ .tk e:=e1.key;have hn:=e1.nsrc q3;have hT:PY fr (Q5 (W6 pv src') (.tk d') []) d k off cs:=e1.congr (by rw[J9 (by simp),T5 (q3.ninl d)]) (by rw[J9 (hk _),T5 hn]);refine⟨_,.inr (.inr (.inr ⟨d',src',hd',⟨hg',sx,sy,sT,yT,xs,tlx,ys,tly,xs',ys',ho',q1,q2,q3.congr fun e he=>(by rw[J9 fun x=>hn e he x.symm]),q4,q5⟩,rfl⟩)),.inr (.inr (.inl ⟨t,d,p,k,off,cs,ho,hg,hT,e2,e3,e4,e5,?_⟩)),Ay fy,?_⟩
  ·rw[Hs _ _ hn,Db _ _ _ (hk _)]
  grind[Z4,Jo]
 have hkey:∀k,src=some k→(∃e,k= .tk e)∨k= .ex:=by
  obtain⟨_,sx,sy,sT,yT,xs,tlx,ys,tly,xs',ys',ho,_,_,q3,_⟩:=hP;exact q3.key
 have hsrc:∀e,src=some (.tk e)→e∈x.looksAt ops:=fun e he=>by
  subst he;obtain⟨_,sx,sy,sT,yT,xs,tlx,ys,tly,xs',ys',ho,_,_,q3,_⟩:=hP;obtain⟨rfl,_⟩:=q3;exact ZD ho
 have fy0:U5 pv y.dst:=Ux (Ay fy) fun e k he hk=>by
  grind
 rcases hy with⟨y1,y2,y3,rfl⟩|⟨t',z',d',ho',hg',hd',e1',e2',e3',rfl⟩|⟨t',d',p',k',off',cs',ho',hg',e1',e2',e3',e4',e5',rfl⟩|⟨d',src',hd',hP',rfl⟩
 ·exact⟨pv,.inl ⟨y1,y2,y3,rfl⟩,.inr (.inr (.inr ⟨d,src,hd,hP,rfl⟩)),fy0,fx⟩
 ·obtain⟨hg,sx,sy,sT,yT,xs,tlx,ys,tly,xs',ys',ho,q1,q2,q3,q4,q5⟩:=hP;refine⟨_,.inr (.inl ⟨t',z',d',ho',hg',hd',e1',e2',e3',rfl⟩),.inr (.inr (.inr ⟨d,src,hd,⟨hg,sx,sy,sT,yT,xs,tlx,ys,tly,xs',ys',ho,q1,q2,q3.congr fun e he=>(by rw[J9 fun x=>q3.ninl d' e he x.symm]),q4,q5⟩,?_⟩)),fy0,Z4 fx fun e he=>⟨fun x=>by simp_all,by simp⟩⟩;rw[Hs _ _ (q3.ninl d'),Db _ _ _ (by simp)]
 ·obtain⟨hg,sx,sy,sT,yT,xs,tlx,ys,tly,xs',ys',ho,q1,q2,q3,q4,q5⟩:=hP;have hk:∀e,k'≠ .tk e:=e1'.key;have hn:=e1'.nsrc q3;have hT:PY fr pv d' k' off' cs':=e1'.congr (by rw[J9 (by simp),T5 (q3.ninl d')]) (by rw[J9 (hk _),T5 hn]);refine⟨_,.inr (.inr (.inl ⟨t',d',p',k',off',cs',ho',hg',hT,e2',e3',e4',e5',rfl⟩)),.inr (.inr (.inr ⟨d,src,hd,⟨hg,sx,sy,sT,yT,xs,tlx,ys,tly,xs',ys',ho,q1,q2,q3.congr fun e he=>(by rw[J9 fun x=>hn e he x.symm]),q4,q5⟩,?_⟩)),fy0,Z4 fx fun e he=>⟨fun x=>?_,hk e⟩⟩
  ·rw[Hs _ _ hn,Db _ _ _ (hk _)]
  have:=hT.at;rw[x,YS fx he]at this;cases this
 obtain⟨hg,sx,sy,sT,yT,xs,tlx,ys,tly,xs',ys',ho,q1,q2,q3,q4,q5⟩:=hP;obtain⟨hg',sx',sy',sT',yT',xs2,tlx',ys2,tly',xs2',ys2',ho',r1,r2,r3,r4,r5⟩:=hP';have hdd:d≠d':=fun e=>a2 d hd (by rw[hd',e])
 have n1:∀k,src'=some k→k≠ .tk d:=fun k he eq=>by
  subst he;subst eq;obtain⟨rfl,_⟩:=r3
  grind[ZD]
 have n2:∀k,src=some k→k≠ .tk d':=fun k he eq=>by simp_all
 have n3:∀k,src'=some k→src≠some k:=fun k he he2=>by
  subst he;subst he2
  have hnone:Q5 (W6 pv (some k)) (.tk d) [] k=none:=by
   rw[J9 (n1 k rfl)];simp[W6]
  rcases r3.key k rfl with⟨e,rfl⟩|rfl
  ·have:=r3.2.2;rw[hnone]at this;cases this
  have:Q5 (W6 pv (some .ex)) (.tk d) [] .ex=some [.sl [] tlx']:=r3
  rw[hnone]at this;cases this
 have hs':KO pv sx' tlx' src':=r3.congr fun k he=>by
  rw[J9 (n1 k he),T5 fun c hc x=>by simp_all]
 refine⟨_,.inr (.inr (.inr ⟨d',src',hd',⟨hg',sx',sy',sT',yT',xs2,tlx',ys2,tly',xs2',ys2',ho',r1,r2,hs',r4,r5⟩,rfl⟩)),.inr (.inr (.inr ⟨d,src,hd,⟨hg,sx,sy,sT,yT,xs,tlx,ys,tly,xs',ys',ho,q1,q2,q3.congr fun k he=>?_,q4,q5⟩,?_⟩)),fy0,?_⟩
 ·rw[J9 (n2 k he),T5 fun c hc x=>by simp_all]
 ·rw[Hs _ _ fun k he x=>n1 k he x.symm,Hs _ _ fun k he x=>n2 k he x.symm,Ac7 pv src src',Db _ _ _ (fun x=>by simp_all)]
 grind[Z4,Jo]
theorem Af8 {x y:Oper}{fr:Fr}{pv:Pv}{K:Fr→Pv→Prop}(hi:Pz ops x y=true)(h:MD P nt ops H0 x fr pv fun fr1 pv1=>MD P nt ops H0 y fr1 pv1 K):
 MD P nt ops H0 y fr pv fun fr1 pv1=>MD P nt ops H0 x fr1 pv1 K:=by
 have hi0:=hi
 simp only[Pz,L9,DR]at hi0
 obtain⟨a1,a2,a3⟩:=Oper.apart_spec hi0.1;obtain⟨⟨hd,hf⟩,u,pv1,h1,⟨hd',hf'⟩,v,pv2,h2,hK⟩:=h;obtain⟨pv3,k1,k2,k3,k4⟩:=AK0 hi h1 (Ax0 a1 h2) hf hf';refine⟨⟨hd',k3⟩,v,pv3,k1,⟨hd,k4⟩,u,pv2,AU2 a3 k2,?_⟩
 rw[Yf a2]at hK
 exact hK
theorem Zi {pre post:List Oper} {o:Oper} {K:Fr→Pv→Prop} (hi:∀x∈pre,Pz ops x o=true):∀{fr:Fr} {pv:Pv},KU P nt ops H0 (pre++o::post) fr pv K→KU P nt ops H0 (o::(pre++post)) fr pv K:=by
 induction pre with
 |nil=>simp_all
 |cons x pre ih=>
  intro fr pv h;have h1:MD P nt ops H0 x fr pv fun fr1 pv1=>KU P nt ops H0 (o::(pre++post)) fr1 pv1 K:=TI h fun _ _ h=>ih (fun y hy=>hi y (by simp[hy])) h;exact Af8 (hi x (by simp)) h1
end
section
variable {P:Program}{nt:Nat}{ops:Array Oper}{H0:A5}
theorem VR.ref_inv {g:Gh}{w:World}{v:Value}{id off:Nat}(h:VR g w v (.ref id off)):∃b,v= .pointer (some ⟨b,off,none⟩)∧g.mu id=some b:=by
 cases h with
 |ref hm=>simp_all
def Ap0 (fr:Fr)(g:Gh)(a:Act)(id:Nat):Pk→Prop
 | .inl d=>fr.s d= .bad∧∃b,g.mu id=some b∧a.tmps.getD d undef= .pointer (some ⟨b,0,none⟩)
 | .inr n=>id=n
 | .tk _=>True
 | .ex=>True
def AT4 (fr:Fr)(g:Gh)(w:World)(a:Act)(H H0:A5)(tt:Option Nat)(d:Nat):Prop:=
 ∃xs tl,fr.s d= .sl xs .ro∧VR g w (a.tmps.getD d undef) (.sl xs tl)∧((tt=none∧(tl= .nil∨tl= .full))∨∃t,tt=some t∧tl= .tok t∧H t=some .spare∧H0 t=none)
def Ax1 (nt:Nat) (H0:A5) (g0:Gh) (w0:World) (fr:Fr) (pv:Pv) (g:Gh) (w:World) (a:Act):Prop:=
 ∃ (H:A5) (ids:Pk→Nat),Y7 g0 w0 g w∧Rl g H w∧FR nt g w a fr∧(∀id b,H0 id=some b→H id=some b)∧
  (∀d cs,pv d=some cs→d.var=true→H (ids d)=some (.cells cs)∧H0 (ids d)=none∧Ap0 fr g a (ids d) d)∧
  (∀d d' cs cs',pv d=some cs→pv d'=some cs'→d.var=true→d'.var=true→ids d=ids d'→d=d')∧
  ∃tks:Nat→Option Nat,(∀d cs,pv (.tk d)=some cs→AT4 fr g w a H H0 (tks d) d)∧
   (∀d d' cs cs' t,pv (.tk d)=some cs→pv (.tk d')=some cs'→tks d=some t→tks d'=some t→d=d')∧
   ∀cs,pv .ex=some cs→∃τ,cs=[.sl [] τ]∧((τ= .nil∨τ= .full)∨∃t,τ= .tok t∧H t=some .spare∧H0 t=none∧∀d cs',pv (.tk d)=some cs'→tks d≠some t)
theorem Xt {a:Act} {D:Option Tmp} {v:Value} {d:Nat} (h:D≠some d):(a.put D v).tmps.getD d undef=a.tmps.getD d undef:=by
 cases D with
 |none=>rfl
 |some e=>
  have hne:e≠d:=fun x=>h (by rw[x]);simp only[Act.put,P4,Hz];rw[A0 hne]
theorem ND {a:Act}{d:Nat}{v:Value}(h:d<a.tmps.size):(a.put (some d) v).tmps.getD d undef=v:=by
 simp[Act.put,Array.getD,h]
theorem Re {fr:Fr} {D:Option Tmp} {v:V} {d:Nat} (h:D≠some d):(fr.put D v).s d=fr.s d:=by
 cases D with
 |none=>rfl
 |some e=>
  have hne:d≠e:=fun x=>h (by rw[x])
  grind[Fr.put]
theorem Bd4 {pv:Pv}{D:Option Tmp}{d:Nat}{cs:List V}(hf:U5 pv D)(h:pv (.inl d)=some cs):D≠some d:=by
 grind[U5]
theorem Wh {pv:Pv}{D:Option Tmp}{d:Nat}{cs:List V}(hf:U5 pv D)(h:pv (.tk d)=some cs):D≠some d:=by
 grind[U5]
theorem AT4.keep {D:Option Tmp}{fr:Fr}{g g':Gh}{w w':World}{a:Act}{H H' H0:A5}{tt:Option Nat}{d:Nat}{x:V}{u:Value}(hk:AT4 fr g w a H H0 tt d)(hne:D≠some d)(s:Y7 g w g' w')(hH:∀t,tt=some t→H t=some .spare→H' t=some .spare):AT4 (fr.put D x) g' w' (a.put D u) H' H0 tt d:=by
 obtain⟨xs,tl,h1,h2,h3⟩:=hk;refine⟨xs,tl,(Re hne).trans h1,by rw[Xt hne];exact h2.mono s,h3.imp (fun h=>h) fun⟨t,e1,e2,e3,e4⟩=>⟨t,e1,e2,hH t e1 e3,e4⟩⟩
theorem Ap0.keep {pv:Pv} {D:Option Tmp} {fr:Fr} {g g':Gh} {w w':World} {a:Act} {id:Nat} {k:Pk} {cs:List V} {x:V} {u:Value} (hk:Ap0 fr g a id k) (hf:U5 pv D) (h:pv k=some cs) (s:Y7 g w g' w'):Ap0 (fr.put D x) g' (a.put D u) id k:=by
 cases k with
 |inl d=>
  obtain⟨k3,b,k4,k5⟩:=hk;have hne:=Bd4 hf h;exact⟨(Re hne).trans k3,b,s.mu _ _ k4,(Xt hne).trans k5⟩
 |inr n=>exact hk
 |tk n=>trivial
 |ex=>trivial
theorem Fb {D:Option Tmp}(h:GV nt D=true):∀t,D=some t→t<nt:=by
 grind[GV]
theorem Av6 {r:Option Nat} {g0 g:Gh} {w0 w:World} {a:Act} {o:Oper} {fr:Fr} {pv:Pv} {K:Fr→Pv→Prop} {next:Act→World→Prop} {Q:Exit→Act→World→Prop} (hI:Ax1 nt H0 g0 w0 fr pv g w a)
 (h:MD P nt ops H0 o fr pv K) (hn:∀g' w' a' fr' pv',Ax1 nt H0 g0 w0 fr' pv' g' w' a'→K fr' pv'→next a' w'):
 if Region.wanted o (yielded ops a.tmps)then o.wpIn (Fw r) 0 P a w next Q else(∀f,o.about P w a.eval=some f→(Fw r).fn f)∧next (a.put o.dst undef) w:=by
 obtain⟨H,ids,s,hR,hF,hext,hpv,hinj,tks,htk,htj,hexx⟩:=hI;obtain⟨⟨hd,hfree⟩,u0,pv1,h,hK⟩:=h
 rcases h with⟨o1,o2,hq,rfl⟩|⟨t,z,d,ho,hg,e1,e2,e3,rfl,rfl⟩|⟨t,d,y,key,off,cs,ho,hg,e1,e2,e3,e4,rfl,rfl⟩|⟨dd,src,hdd,⟨hg,sx,sy,sT,yT,xs,tlx,ys,tly,xs',ys',ho,q1,q2,q3,q4,rfl⟩,rfl⟩
 ·
  have keep:∀{g':Gh} {w':World} {u:Value} {x:V},Y7 g w g' w'→Rl g' H w'→VR g' w' u x→Ax1 nt H0 g0 w0 (fr.put o.dst x) pv1 g' w' (a.put o.dst u):=by
   intro g' w' u x s' hR' hv;refine⟨H,ids,s.trans s',hR',(hF.mono s').put (Fb hd) hv,hext,fun d cs hdc hvar=>?_,hinj,tks,fun d cs hdc=>(htk d cs hdc).keep (Wh hfree hdc) s' fun _ _ h=>h,htj,hexx⟩;obtain⟨k1,k2,k3⟩:=hpv d cs hdc hvar;exact⟨k1,k2,k3.keep hfree hdc s'⟩
  unfold RC at hq
  split at hq
  ·rename_i hgd;rw[A2 (Y3 hF.s hgd)];refine⟨fun _ _=>trivial,?_⟩
   have hnd:∀c,o.op≠ .defer c:=by
    grind[OP]
   rw[Gf _ _ _ hnd];refine Ku (MZ (AC4 hext hq) (K:=fun x H'=>x=u0∧H'=H) ⟨rfl,rfl⟩ g w a hR hF.s) fun u w' ⟨g',x,H',s',hR',hv,hx,hH⟩=>?_;subst hx;subst hH;exact hn _ _ _ _ _ (keep s' hR' hv) hK
  ·rename_i hgd;rw[A0 (by rw[Y3 hF.s hgd];simp)];subst hq;exact⟨fun _ _=>trivial,hn _ _ _ _ _ (keep (Y7.refl _ _) hR (VR.und _ _)) hK⟩
  grind
 ·
  have hw:Region.wanted o (yielded ops a.tmps)=true:=by simp[Region.wanted,hg]
  rw[A2 hw];refine⟨fun _ _=>trivial,?_⟩;rw[Gf _ _ _ (by intro c hc;rw[ho]at hc;cases hc)];obtain⟨zv,ez,hzv⟩:=DJ e2
  have hr:VR g w zv z:=by rw[ez];grind[Fc]
  obtain⟨g',id,hid,s',hR',hv'⟩:=Jt hR t hr e3
  have hid0:H0 id=none:=by
   cases hx:H0 id with
   |none=>rfl
   |some b=>rw[hext _ _ hx]at hid;cases hid
  have hmu:g'.mu id=some w.heap.size:=by
   obtain⟨b,e,hm⟩:=hv'.ref_inv;cases e;exact hm
  have hrun:(execOp a.eval o).run P w= .ok (.value (.pointer (some ⟨w.heap.size,0,none⟩))) (w.alloc (.cells zv.cells t)):=by
   unfold execOp;rw[ho];simp only[Instr.alloc,B8,hzv,B7];rfl
  rw[hrun];refine hn g' _ _ (fr.put o.dst .bad) _ ⟨_,fun x=>if x= .inl d then id else ids x,s.trans s',hR',(hF.mono s').put (Fb hd) (.bad _),fun x b hx=>?_,fun x cs hx hvar=>?_,fun x x' cs cs' hx hx' v1 v2 hxx=>?_,tks,fun x cs hx=>?_,fun x x' cs cs' t hx hx'=>?_,fun cs hx=>?_⟩ hK
  ·have hne:x≠id:=fun e=>by subst e;rw[hid0]at hx;cases hx
   rw[C9 _ _ hne];exact hext _ _ hx
  ·by_cases hxd:x= .inl d
   ·subst hxd
    simp only[Q5,D1,F3]at hx
    subst hx;simp only[D1];refine⟨G2 _ _ _,hid0,by rw[e1];simp[Fr.put],w.heap.size,hmu,?_⟩;rw[e1];exact ND (by rw[hF.size];exact Fb hd _ e1)
   simp only[Q5,A0 hxd]at hx
   obtain⟨k1,k2,k3⟩:=hpv x cs hx hvar;simp only[A0 hxd]
   have hne:ids x≠id:=fun e=>by rw[e,hid]at k1;cases k1
   exact⟨(C9 _ _ hne).trans k1,k2,k3.keep hfree hx s'⟩
  ·by_cases h1:x= .inl d<;>by_cases h2:x'= .inl d
   ·rw[h1,h2]
   ·simp_all[Q5]
   ·simp only[A0 h1,A2 h2]at hxx
    simp only[Q5,A0 h1]at hx
    have:=(hpv x cs hx v1).1
    rw[hxx,hid]at this;cases this
   simp only[A0 h1,A0 h2]at hxx
   simp only[Q5,A0 h1]at hx
   simp only[Q5,A0 h2]at hx'
   exact hinj _ _ _ _ hx hx' v1 v2 hxx
  ·rw[J9 (by simp)]at hx
   refine(htk x cs hx).keep (Wh hfree hx) s' fun t _ h=>?_;rw[C9 _ _ fun e=>by subst e;rw[hid]at h;cases h];exact h
  ·rw[J9 (by simp)]at hx hx'
   exact htj x x' cs cs' t hx hx'
  grind[upd,Q5]
 ·
  have hw:Region.wanted o (yielded ops a.tmps)=true:=by simp[Region.wanted,hg]
  rw[A2 hw];refine⟨fun _ _=>trivial,?_⟩;rw[Gf _ _ _ (by intro c hc;rw[ho]at hc;cases hc)]
  have hpk:=e1.at
  have hkv:key.var=true:=by rcases e1 with⟨rfl,_⟩|⟨id,rfl,_⟩<;>rfl
  obtain⟨k1,k2,k3⟩:=hpv key cs hpk hkv
  obtain⟨fr2,hE',hevd,hevy⟩:∃fr2,ER g w a fr2∧ev fr2 (.tmp d)= .ref (ids key) off∧ev fr2 y=ev fr y:=by
   rcases e1 with⟨rfl,rfl,hp⟩|⟨id,rfl,hs,_,hp⟩
   ·obtain⟨k3,b,k4,k5⟩:=k3
    have hyd:y≠ .tmp d:=by
     grind[ev,V.one]
    refine⟨fr.put (some d) (.ref (ids (.inl d)) 0),fun x=>?_,by simp[ev,Fr.put],Af4 fun t ht e=>hyd (by rw[e];cases ht;rfl)⟩;simp only[Fr.put]
    split
    ·rename_i e;subst e;rw[k5];exact .ref k4
    exact hF.s x
   have k3:ids (.inr id)=id:=k3;exact⟨fr,hF.s,by simp_all[ev],rfl⟩
  have hst:Ob P H t (ev fr2 (.tmp d)) (ev fr2 y)=some (upd H (ids key) (some (.cells (Z0 cs off (ev fr y).cells)))):=by
   rw[hevy,hevd]
   simp_all[Ob]
  refine Ku (UL ho (fun _ _ _ h=>h) hst (K:=fun x H'=>H'=upd H (ids key) (some (.cells (Z0 cs off (ev fr y).cells)))) rfl g w a hR hE') fun u w' ⟨g',x,H',s',hR',hv,hH⟩=>?_;subst hH;refine hn g' w' _ (fr.put o.dst .bad) _ ⟨_,ids,s.trans s',hR',(hF.mono s').put (Fb hd) (.bad _),fun x b hx=>?_,fun x cs' hx hvar=>?_,fun x x' cs1 cs2 hx hx' v1 v2 hxx=>?_,tks,fun x cs hx=>?_,fun x x' cs cs' t hx hx'=>?_,fun cs hx=>?_⟩ hK
  ·have hne:x≠ids key:=fun e=>by rw[e,k2]at hx;cases hx
   rw[C9 _ _ hne];exact hext _ _ hx
  ·by_cases hxd:x=key
   ·subst hxd
    simp only[Q5,D1,F3]at hx
    subst hx;exact⟨G2 _ _ _,k2,k3.keep hfree hpk s'⟩
   simp only[Q5,A0 hxd]at hx
   obtain⟨j1,j2,j3⟩:=hpv x cs' hx hvar;have hne:ids x≠ids key:=fun e=>hxd (hinj _ _ _ _ hx hpk hvar hkv e);exact⟨(C9 _ _ hne).trans j1,j2,j3.keep hfree hx s'⟩
  ·have back:∀{x:Pk} {c:List V},Q5 pv key (Z0 cs off (ev fr y).cells) x=some c→∃c',pv x=some c':=by
    grind[Q5]
   obtain⟨_,hx⟩:=back hx;obtain⟨_,hx'⟩:=back hx';exact hinj _ _ _ _ hx hx' v1 v2 hxx
  ·rw[J9 fun e=>e1.key x e.symm]at hx
   refine(htk x _ hx).keep (Wh hfree hx) s' fun t _ h=>?_;rw[C9 _ _ fun e=>by subst e;rw[k1]at h;cases h];exact h
  ·rw[J9 fun e=>e1.key x e.symm]at hx
   rw[J9 fun e=>e1.key x' e.symm]at hx'
   exact htj x x' _ _ t hx hx'
  rw[J9 fun e=>e1.keyx e.symm]at hx
  grind[C9,J9]
 have hw:Region.wanted o (yielded ops a.tmps)=true:=by simp[Region.wanted,hg]
 rw[A2 hw];refine⟨fun _ _=>trivial,?_⟩;rw[Gf _ _ _ (by intro c hc;rw[ho]at hc;cases hc)];obtain⟨e,sz,by_,z,c1,c2,c3,c4,c5,c6,c7,c8,c9,l1,l2,c10,c11,c12⟩:=q4
 obtain⟨fr2,tl,tly2,hE',h1,h2,hA,hsrc⟩:∃fr2 tl tly2,ER g w a fr2∧ev fr2 sx= .sl xs tl∧ev fr2 sy= .sl ys tly2∧Kd H tl∧
  ∀t,tl= .tok t→H t=some .spare∧H0 t=none∧(∀d cs,W6 pv src (.tk d)=some cs→tks d≠some t)∧∀τ,W6 pv src .ex=some [.sl [] τ]→τ≠ .tok t:=by
  rcases src with _|⟨d⟩|⟨d⟩|⟨d⟩|_
  ·exact⟨fr,tlx,tly,hF.s,q1,q2,(by rcases q3 with rfl|rfl<;>trivial),fun t ht=>by rcases q3 with h|h<;>rw[h]at ht<;>cases ht⟩
  ·exact q3.elim
  ·exact q3.elim
  rotate_left
  ·have q3:pv .ex=some [.sl [] tlx]:=q3;obtain⟨τ,e1,e2⟩:=hexx _ q3
   have e1:tlx=τ:=by cases e1;rfl
   subst e1;refine⟨fr,tlx,tly,hF.s,q1,q2,?_,fun t ht=>?_⟩
   ·grind[Kd]
   grind[W6]
  obtain⟨rfl,rfl,q5⟩:=q3;obtain⟨cs0,hcs⟩:=Option.isSome_iff_exists.1 q5;obtain⟨xs2,tl,t1,t2,t3⟩:=htk d cs0 hcs
  have ex:xs2=xs:=by
   have:fr.s d= .sl xs .ro:=q1
   rw[t1]at this;cases this;rfl
  subst ex
  have hA:Kd H tl:=by
   grind[Kd]
  have hs2:∀t,tl= .tok t→H t=some .spare∧H0 t=none∧(∀d' cs,W6 pv (some (.tk d)) (.tk d')=some cs→tks d'≠some t)∧∀τ,W6 pv (some (.tk d)) .ex=some [.sl [] τ]→τ≠ .tok t:=by
   grind[W6]
  by_cases hyd:sy= .tmp d
  ·subst hyd
   have:ys=xs2:=by
    have e1:fr.s d= .sl ys tly:=q2
    rw[t1]at e1;cases e1;rfl
   subst this
   exact⟨fr.put (some d) (.sl ys tl),tl,tl,fun x=>(by
    simp only[Fr.put];split
    ·rename_i e;subst e;exact t2
    exact hF.s x),by simp[ev,Fr.put],by simp[ev,Fr.put],hA,hs2⟩
  exact⟨fr.put (some d) (.sl xs2 tl),tl,tly,fun x=>(by
   simp only[Fr.put];split
   ·rename_i e;subst e;exact t2
   exact hF.s x),by simp[ev,Fr.put],by rw[Af4 fun t ht e=>hyd (by rw[e];cases ht;rfl)];exact q2,hA,hs2⟩
 have hsim:=Od (P:=P) (K:=fun x H'=>∃zs tl',Dx x (.sl (xs'++ys') tl')∧zs=xs'++ys'∧((ys=[]∧tl'=tl∧H'=H)∨∃t,tl'= .tok t∧M0 H tl t=none∧H'=upd (M0 H tl) t (some .spare))) ho h1 h2 c1 c2 c3 c4 c5 c6 c7 c8 c9 hA (l1.sz c10) (l2.sz c11) (by rw[l1.length,l2.length];exact c12)
  (fun e=>⟨_,tl,by subst e;cases l2;rw[H6];exact .slt _ l1,rfl,.inl ⟨e,rfl,rfl⟩⟩) (fun t _ ht=>⟨_,.tok t,.slt _ (l1.append l2),rfl,.inr ⟨t,rfl,ht,rfl⟩⟩)
 refine Ku (hsim g w a hR hE') fun u w' ⟨g',x,H',s',hR',hv,zs,tl',hle,_,hcase⟩=>?_;have hv:=hv.le hle;have hvro:VR g' w' u (.sl (xs'++ys') .ro):=Wk.ro _ _ _ _ _ hv
 have keepB:∀id b,H id=some b→b≠ .spare→H' id=some b:=fun id b hb hne=>by
  rcases hcase with⟨_,_,rfl⟩|⟨t,_,ht,rfl⟩
  ·exact hb
  have hdr:M0 H tl id=some b:=by
   cases tl with
   |tok t0=>
    have:id≠t0:=fun e=>by subst e;rw[show H id=some .spare from hA]at hb;cases hb;exact hne rfl
    simp only[M0];rw[C9 _ _ this];exact hb
   |_=>exact hb
  rw[C9 _ _ fun e=>by subst e;rw[ht]at hdr;cases hdr];exact hdr
 have keepS:∀t,H t=some .spare→tl≠ .tok t→H' t=some .spare:=fun t hb hne=>by
  rcases hcase with⟨_,_,rfl⟩|⟨t1,_,ht,rfl⟩
  ·exact hb
  have hdr:M0 H tl t=some .spare:=by
   cases tl with
   |tok t0=>
    simp only[M0];rw[C9 _ _ fun e=>by subst e;exact hne rfl];exact hb
   |_=>exact hb
  rw[C9 _ _ fun e=>by subst e;rw[ht]at hdr;cases hdr];exact hdr
 have hH0:∀id b,H0 id=some b→H' id=some b:=fun id b hb=>by
  by_cases hsp:b= .spare
  ·subst hsp;refine keepS id (hext _ _ hb) fun e=>?_;have:=(hsrc id e).2.1
   rw[this]at hb;cases hb
  exact keepB id b (hext _ _ hb) hsp
 let tks':Nat→Option Nat:=fun x=>if x=dd then(match tl' with| .tok t=>some t|_=>none)else tks x
 have hddl:dd<nt:=Fb hd dd hdd
 have hnew:∀t,tl'= .tok t→H' t=some .spare∧H0 t=none∧(∀d cs,W6 pv src (.tk d)=some cs→tks d=some t→False)∧∀τ,W6 pv src .ex=some [.sl [] τ]→τ≠ .tok t:=fun t ht=>by
  rcases hcase with⟨e0,e1,rfl⟩|⟨t1,e1,htn,rfl⟩
  ·rw[e1]at ht
   obtain⟨h3,h4,h5,h6⟩:=hsrc t ht
   grind
  rw[e1]at ht;cases ht
  have drop:∀x b,H x=some b→(∀t0,tl= .tok t0→x≠t0)→M0 H tl x=some b:=fun x b hx hne=>by
   cases tl with
   |tok t0=>simp only[M0];rw[C9 _ _ (hne t0 rfl)];exact hx
   |_=>exact hx
  refine⟨G2 _ _ _,?_,fun d cs hdc htd=>?_,fun τ hx he=>?_⟩
  ·cases h0:H0 t with
   |none=>rfl
   |some b=>
    exfalso
    have:=drop t b (hext _ _ h0) fun t0 e x=>by subst x;rw[(hsrc t e).2.1]at h0;cases h0
    rw[htn]at this;cases this
  ·obtain⟨hp1,hp2⟩:=Dc hdc;obtain⟨xs3,tl3,t1,t2,t3⟩:=htk d cs hp1
   rcases t3 with⟨e,_⟩|⟨t4,e,_,hsp,_⟩
   ·rw[e]at htd;cases htd
   rw[e]at htd;cases htd
   have:=drop t _ hsp fun t0 e' x=>by subst x;exact(hsrc t e').2.2.1 d cs hdc e
   rw[htn]at this;cases this
  grind[Dc]
 refine hn g' w' _ (fr.put o.dst (.sl (xs'++ys') .ro)) _ ⟨H',ids,s.trans s',hR',(hF.mono s').put (Fb hd) hvro,hH0,fun k cs hk hvar=>?_,fun k k' cs cs' hk hk' v1 v2=>?_,tks',fun d cs hdc=>?_,fun d d' cs cs' t hx hx' e1 e2=>?_,fun cs hx=>?_⟩ hK
 ·have hk1:pv k=some cs:=by
   rw[J9 fun e=>by subst e;cases hvar]at hk
   grind[Dc]
  obtain⟨k1,k2,k3⟩:=hpv k cs hk1 hvar;exact⟨keepB _ _ k1 (by simp),k2,k3.keep hfree hk1 s'⟩
 ·rw[J9 fun e=>by subst e;cases v1]at hk
  rw[J9 fun e=>by subst e;cases v2]at hk'
  grind[Dc]
 ·by_cases e:d=dd
  ·subst e;refine⟨xs'++ys',tl',by rw[hdd];simp[Fr.put],by rw[hdd,ND (by rw[hF.size];exact hddl)];exact hv,?_⟩;simp only[tks',D1]
   cases tl' with
   |tok t=>exact .inr ⟨t,rfl,rfl,(hnew t rfl).1,(hnew t rfl).2.1⟩
   |nil=>simp
   |full=>simp
   |ro=>
    exfalso
    rcases hcase with⟨_,e1,_⟩|⟨t1,e1,_⟩
    ·rw[←e1]at hA;exact hA
    cases e1
  rw[J9 fun x=>by cases x;exact e rfl]at hdc
  obtain⟨hp1,hp2⟩:=Dc hdc;simp only[tks',A0 e];exact(htk d cs hp1).keep (Wh hfree hp1) s' fun t htd hsp=>keepS t hsp fun he=>(hsrc t he).2.2.1 d cs hdc htd
 ·by_cases h1:d=dd<;>by_cases h2:d'=dd
  ·rw[h1,h2]
  ·exfalso
   rw[J9 fun x=>by cases x;exact h2 rfl]at hx'
   simp only[tks',A2 h1]at e1
   simp only[tks',A0 h2]at e2
   cases tl' with
   |tok t1=>cases e1;exact(hnew t rfl).2.2.1 d' cs' hx' e2
   |_=>cases e1
  ·exfalso
   rw[J9 fun x=>by cases x;exact h1 rfl]at hx
   simp only[tks',A0 h1]at e1
   simp only[tks',A2 h2]at e2
   cases tl' with
   |tok t1=>cases e2;exact(hnew t rfl).2.2.1 d cs hx e1
   |_=>cases e2
  rw[J9 fun x=>by cases x;exact h1 rfl]at hx
  rw[J9 fun x=>by cases x;exact h2 rfl]at hx'
  simp only[tks',A0 h1]at e1
  simp only[tks',A0 h2]at e2
  grind[Dc]
 rw[J9 (by simp)]at hx
 obtain⟨τ,e1,e2⟩:=hexx _ (Dc hx).1;subst e1;refine⟨τ,rfl,e2.imp (fun h=>h) fun⟨t,j1,j2,j3,j4⟩=>⟨t,j1,keepS t j2 fun he=>(hsrc t he).2.2.2 τ hx j1,j3,fun d cs' hd'=>?_⟩⟩
 by_cases e:d=dd
 ·simp only[tks',A2 e]
  cases tl' with
  |tok t1=>exact fun he=>by cases he;exact(hnew t rfl).2.2.2 τ hx j1
  |_=>exact fun he=>by cases he
 rw[J9 fun x=>by cases x;exact e rfl]at hd'
 simp only[tks',A0 e]
 grind[Dc]
theorem Av7 {k:Nat}(h:TJ ops k=true):k≤ops.size∧∀i,i<ops.size→Id (ops.getD i default) i=true∧
 ∀j,j<i→SL ops Ac4 i j=true∨(i<k∧Pz ops (ops.getD j default) (ops.getD i default)=true):=by
 simp only[TJ,L9,H8,DQ,CB,AE]at h
 grind
theorem Wx {i:Nat}(h:i<ops.size):ops.getD i default=ops[i]:=by simp_all
theorem FB {listed:Array Bool}{i:Nat}(h:i∈Region.ready .any ops listed):i<ops.size∧listed.getD i true=false∧∀j,GO (ops.getD i default) j=true→listed.getD j false=true:=by
 simp only[Region.ready,List.mem_filter,CB,L9,DR]at h
 grind[Wx,GO]
theorem Hk {listed:Array Bool} (hcl:∀m j,listed.getD m false=true→GO (ops.getD m default) j=true→listed.getD j false=true):∀(n i j:Nat),(∀j,GO (ops.getD i default) j=true→listed.getD j false=true)→SL ops n i j=true→listed.getD j false=true
 |0,i,j,hi,h=>hi j h
 | n+1,i,j,hi,h=>by
  simp only[SL,AE,Array.any_eq_true,L9]at h
  rcases h with h|⟨x,hx,hb,_,h⟩
  ·exact hi j h
  have hm:GO (ops.getD i default) ((ops.getD i default).after[x]).on=true:=by
   grind[GO]
  exact Hk hcl n _ j (fun j' h'=>hcl _ j' (hi _ hm) h') h
theorem XW {listed:Array Bool}{i:Nat}(h1:i<ops.size)(h2:listed.getD i true=false)(hb:Id (ops.getD i default) i=true)(h3:∀j,j<i→listed.getD j false=true):i∈Region.ready .any ops listed:=by
 simp only[Region.ready,List.mem_filter,CB,L9,DR]
 grind[Wx,Id]
theorem TB {listed:Array Bool}{i j:Nat}{d:Bool}(hi:i<listed.size):(listed.setIfInBounds i true).getD j d=if j=i then true else listed.getD j d:=by
 simp only[P4,Hz]
 grind
theorem Xu {A:WY} {r:Option Nat} {k:Nat} {K:Fr→A5→Prop} {Q:Exit→Act→World→Prop} {g0:Gh} {w0:World} (hat:∀i,i<ops.size→Id (ops.getD i default) i=true∧∀j,j<i→k≤j→SL ops Ac4 i j=true) (hQ:∀g w a fr H,Y7 g0 w0 g w→Rl g H w→FR nt g w a fr→K fr H→Q .normal a w):
 ∀(d m:Nat) (listed:Array Bool) (fr:Fr) (H:A5),m+d=ops.size→k≤m→listed.size=ops.size→(∀i b,i<ops.size→listed.getD i b=decide (i<m))→Nu P A nt ops (ops.toList.drop m) fr H K→
  ∀g w a,Y7 g0 w0 g w→Rl g H w→FR nt g w a fr→wpAnyIn (Fw r) 0 P .any ops Q d listed a w
 |0,m,listed,fr,H,hm,hk,hsz,hl,h,g,w,a,s,hR,hF=>by
  have:ops.toList.drop m=[]:=by simp;omega
  rw[this]at h
  refine⟨?_,hQ g w a fr H s hR hF h⟩;rw[List.eq_nil_iff_forall_not_mem];intro i hi;obtain⟨h1,h2,_⟩:=FB hi
  rw[hl i true h1]at h2
  simp_all
 | d + 1,m,listed,fr,H,hm,hk,hsz,hl,h,g,w,a,s,hR,hF=>by
  have hlt:m<ops.size:=by omega
  have hready:m∈Region.ready .any ops listed:=XW hlt (by rw[hl m true hlt];simp) (hat m hlt).1 fun j hj=>by rw[hl j false (by omega)];grind
  refine⟨fun e=>(by rw[e]at hready;cases hready),fun i hi=>?_⟩;obtain⟨h1,h2,h3⟩:=FB hi
  have him:i=m:=by
   rw[hl i true h1]at h2
   simp only[Fu,Nat.not_lt]at h2
   rcases BG m i with hlt'|hge
   ·have he:=(hat i h1).2 m hlt' hk
    ·have:=Hk (fun m' j hm' hj=>by
      have hms:m'<ops.size:=by
       grind
      rw[hl m' false hms]at hm'
      simp only[H8]at hm'
      have hb:=(hat m' hms).1
      simp only[Id,Array.all_eq_true]at hb
      simp only[GO,Array.any_eq_true,L9,Gb]at hj
      obtain⟨x,hx,rfl,hbx⟩:=hj;have:=hb x hx
      simp only[hbx,AD,Et,H8]at this
      rw[hl _ false (by omega)]
      grind) Ac4 i m h3 he
     rw[hl m false hlt]at this
     simp at this
   omega
  subst him
  have hdl:ops.toList.drop i=ops[i]::ops.toList.drop (i+1):=by
   rw[R7 (by omega)];simp
  rw[hdl]at h
  simp only[Nu]at h
  obtain⟨hd,h⟩:=h;have ih:=Xu (A:=A) (r:=r) (K:=K) hat hQ d (i+1) (listed.setIfInBounds i true)
  have hl':∀j b,j<ops.size→(listed.setIfInBounds i true).getD j b=decide (j<i+1):=by
   intro j b hj;rw[TB (by omega),hl j b hj]
   grind
  simp only[wpOpIn,CQ hlt]
  split at h
  ·rename_i hg;rw[A2 (Y3 hF.s hg)];exact UG hR hF hd h fun g' w' a' v H' s' hR' hF' hK=>ih _ _ (by omega) (by omega) (by grind) hl' hK g' w' a' (s.trans s') hR' hF'
  ·rename_i hg;rw[A0 (by rw[Y3 hF.s hg];simp)];exact⟨fun _ _=>trivial,ih _ _ (by omega) (by omega) (by grind) hl' h g w _ s hR (hF.put (Fb hd) (VR.und _ _))⟩
  grind
theorem ZB {r:Option Nat} {k:Nat} {K:Fr→Pv→Prop} {Q:Exit→Act→World→Prop} {g0:Gh} {w0:World} (hk:k≤ops.size) (hat:∀i,i<ops.size→Id (ops.getD i default) i=true∧∀j,j<i→SL ops Ac4 i j=true∨(i<k∧Pz ops (ops.getD j default) (ops.getD i default)=true)∨k≤j)
 (hdone:∀g w a fr pv listed,listed.size=ops.size→(∀i b,i<ops.size→listed.getD i b=decide (i<k))→Ax1 nt H0 g0 w0 fr pv g w a→K fr pv→wpAnyIn (Fw r) 0 P .any ops Q (ops.size-k) listed a w):
 ∀(n:Nat) (L:List Nat) (listed:Array Bool) (fr:Fr) (pv:Pv),L.length=n→L.Pairwise (· < ·)→(∀i∈L,i<k)→listed.size=ops.size→(∀i b,i<ops.size→listed.getD i b=decide (i<k∧i∉L))→(∀m j,listed.getD m false=true→GO (ops.getD m default) j=true→listed.getD j false=true)→
  KU P nt ops H0 (L.map fun i=>ops.getD i default) fr pv K→∀g w a,Ax1 nt H0 g0 w0 fr pv g w a→wpAnyIn (Fw r) 0 P .any ops Q (n+(ops.size-k)) listed a w
 |0,L,listed,fr,pv,hn,_,_,hsz,hl,_,h,g,w,a,hI=>by
  have:L=[]:=List.length_eq_zero_iff.1 hn;subst this;rw[K1];exact hdone g w a fr pv listed hsz (fun i b hi=>by rw[hl i b hi];simp) hI h
 | n+1,L,listed,fr,pv,hn,hsort,hlt,hsz,hl,hcl,h,g,w,a,hI=>by
  have hL:L≠[]:=by intro e;rw[e]at hn;simp at hn
  obtain⟨i0,L0,hL0⟩:∃i0 L0,L=i0::L0:=by cases L with
   |nil=>exact absurd rfl hL
   |cons x y=>exact⟨x,y,rfl⟩
  have hi0:i0<k:=hlt i0 (by rw[hL0];simp);rw[show n+1+(ops.size-k)=(n+(ops.size-k))+1 by omega]
  have hready:i0∈Region.ready .any ops listed:=by
   refine XW (by omega) (by rw[hl i0 true (by omega),hL0];simp) (hat i0 (by omega)).1 fun j hj=>?_;rw[hl j false (by omega)]
   have:j∉L:=by
    rw[hL0]at hsort ⊢
    grind[List.pairwise_cons]
   simp only[H8];exact⟨by omega,this⟩
  refine⟨fun e=>(by rw[e]at hready;cases hready),fun i hi=>?_⟩;obtain⟨h1,h2,h3⟩:=FB hi
  rw[hl i true h1]at h2
  simp only[Fu,not_and,Classical.not_not]at h2
  have hik:i<k:=by
   rcases BG i k with hh|hh
   ·exact hh
   exfalso
   rcases(hat i h1).2 i0 (by omega)with he|⟨hc,_⟩|hc
   ·have:=Hk hcl Ac4 i i0 h3 he
    rw[hl i0 false (by omega),hL0]at this
    simp at this
   ·omega
   omega
  have hiL:=h2 hik;obtain⟨pre,post,hsplit⟩:=List.append_of_mem hiL
  have hind:∀x∈pre.map (fun i=>ops.getD i default),Pz ops x (ops.getD i default)=true:=by
   intro x hx;obtain⟨j,hj,rfl⟩:=List.mem_map.1 hx
   have hjL:j∈L:=by rw[hsplit];simp[hj]
   have hji:j<i:=by
    rw[hsplit]at hsort
    grind
   rcases(hat i h1).2 j hji with he|⟨_,hc⟩|hc
   ·have:=Hk hcl Ac4 i j h3 he
    rw[hl j false (by omega)]at this
    simp_all
   ·exact hc
   grind
  rw[hsplit,O3,D5]at h
  have hf:=Zi hind h
  have hstep:MD P nt ops H0 (ops.getD i default) fr pv fun fr' pv'=>KU P nt ops H0 ((pre++post).map fun i=>ops.getD i default) fr' pv' K:=by
   rw[O3];exact hf
  simp only[wpOpIn,CQ h1]
  rw[Wx h1]at hstep
  have hnd:i∉pre++post:=by
   rw[hsplit]at hsort
   grind[List.pairwise_cons]
  refine Av6 (r:=r) hI hstep fun g' w' a' fr' pv' hI' hK=>?_;refine ZB hk hat hdone n (pre++post) _ fr' pv' ?_ ?_ ?_ (by simpa using hsz) ?_ ?_ hK g' w' a' hI'
  ·rw[hsplit]at hn;simp at hn ⊢;omega
  ·rw[hsplit]at hsort
   grind
  ·grind
  ·intro j b hj;rw[TB (by omega),hl j b hj]
   by_cases e:j=i
   ·subst e;simp[hik,hnd]
   rw[A0 e]
   congr 1
   rw[hsplit];simp[e]
  intro m j hm hj
  rw[TB (by omega)]at hm ⊢
  by_cases ej:j=i
  ·rw[A2 ej]
  rw[A0 ej]
  by_cases em:m=i
  ·subst em;exact h3 j hj
  rw[A0 em]at hm;exact hcl m j hm hj
end
def HM (s:Nat→V):List Tmp→List V→Nat→V
 |p::ps,x::xs=>HM (fun t=>if t=p then x else s t) ps xs
 |_,_=>s
theorem SV {g:Gh} {w:World} {nt:Nat}:∀(ps:List Tmp) (vals:List Value) (xs:List V) (tmps:Array Value) (s:Nat→V),tmps.size=nt→(∀p∈ps,p<nt)→vals.length=xs.length→(∀i,i<xs.length→VR g w (vals.getD i undef) (xs.getD i .bad))→xs.length=ps.length→
 (∀t,VR g w (tmps.getD t undef) (s t))→((ps.zip vals).foldl (fun t (p,v)=>t.setIfInBounds p v) tmps).size=nt∧∀t,VR g w (((ps.zip vals).foldl (fun t (p,v)=>t.setIfInBounds p v) tmps).getD t undef) (HM s ps xs t)
 |[],[],[],tmps,s,hn,_,_,_,_,h=>⟨hn,h⟩
 | p::ps,v::vals,x::xs,tmps,s,hn,hp,hl,hv,hx,h=>by
  simp only[List.zip_cons_cons,Lp,HM];refine SV ps vals xs _ _ (by grind) (fun q hq=>hp q (by simp[hq])) (by grind) (fun i hi=>by simpa using hv (i+1) (by grind)) (by grind) fun t=>?_;have hpn:=hp p (by simp)
  by_cases e:t=p
  ·subst e
   have:(tmps.setIfInBounds t v).getD t undef=v:=by simp_all
   rw[this];simpa using hv 0 (by simp)
  have:(tmps.setIfInBounds p v).getD t undef=tmps.getD t undef:=by
   simp only[P4,Hz];rw[A0 (fun h=>e h.symm)]
  rw[this];simp_all
 |[],[],_::_,_,_,_,_,hl,_,_,_=>by simp at hl
 |[],_::_,[],_,_,_,_,hl,_,_,_=>by simp at hl
 |[],_::_,_::_,_,_,_,_,_,_,hx,_=>by simp at hx
 |_::_,[],[],_,_,_,_,_,_,hx,_=>by simp at hx
 |_::_,[],_::_,_,_,_,_,hl,_,_,_=>by simp at hl
 |_::_,_::_,[],_,_,_,_,hl,_,_,_=>by simp at hl
def Oy:Exit→Option (Option Code)
 | .normal=>some none
 | .ret=>some (some .ret)
 | .exit id=>some (some (.exit id))
 | .goto t=>some (some (.goto t))
 |_=>none
def Bb2 (id:Nat)(L:LpI)(K:V→A5→Prop)(e:Exit)(H2:A5):Prop:=
 ∃jump,Oy e=some jump∧H2 id=some (.loop {L with st:=.busy})∧K (.bool jump.isNone) (upd H2 id (some (.loop {L with st:=if jump.isNone then .ready else .done,pe:=jump})))
theorem Zx {P:Program} {id:Nat} {L:LpI} {x:List V} {H:A5} {K:V→A5→Prop} (hk:H id=some (.loop L)) (hst:L.st= .ready) (hx:x.length=L.ps.size) (hps:∀p∈L.ps,p<L.nt)
 (h:Aa P L.nt (some id) L.asg ⟨HM L.s L.ps.toList x,[]⟩ H fun e fr' H1=>e= .normal∧H1 id=some (.loop L)∧
  Aa P L.nt (some id) L.body fr' (upd H1 id (some (.loop {L with st:=.busy}))) fun e _ H2=>Bb2 id L K e H2):Cw P (.yield id) x H K:=by
 intro g w v vals hR hv hA
 cases hv with
 | yield hmu=>
  rename_i b;obtain⟨b',r,h1,h2,h3,h4,h5,h6,h7,h8,h9,h10⟩:=hR.blk id _ hk
  rw[hmu]at h1;cases h1
  have hrun:(do let d ←Deferred.ofValue (.func (.yield b) #[] #[]) vals;invoke d.target d.args:Sem Next).run P w=
   .ok (.round b r.fn ((r.params.zip vals).foldl (fun tmps (t,a)=>tmps.setIfInBounds t a) r.tmps) r.assign r.body) w:=by
   have hy:=run_yield (P:=P) (args:=vals) h3 (by rw[hA.1,hx,h6])
   simpa[Deferred.ofValue,B8,C2,B7,invoke]using hy
  rw[hrun]
  show RoundIn Fence.wide 0 P b r.fn _ r.assign r.body w _
  have hpa:=SV (g:=g) (w:=w) (nt:=L.nt) L.ps.toList vals.toList x r.tmps L.s h9 (fun p hp=>hps p (by grind)) (by simpa using hA.1) (fun i hi=>by
   have:=hA.2 i hi
   simp_all) (by omega) h10
  have hfold:(r.params.zip vals).foldl (fun tmps (t,a)=>tmps.setIfInBounds t a) r.tmps=(L.ps.toList.zip vals.toList).foldl (fun t (p,v)=>t.setIfInBounds p v) r.tmps:=by
   rw[h6,←Array.foldl_toList];simp
  rw[hfold];refine roundIn_of_wpIn trivial ?_
  show r.assign.wpIn (Fw (some b)) 0 P _ _ w
  rw[h7];refine wpIn_mono (h (some b) g w _ ⟨b,hmu,rfl⟩ hR ⟨hpa.1,hpa.2,[],rfl,fun i hi=>by simp at hi,rfl⟩) fun e a1 w1 ⟨g1,fr1,H1,s1,hR1,hF1,he,hk1,hbody⟩=>?_;subst he;obtain⟨b1,r1,i1,i2,i3,i4,i5,i6,i7,i8,i9,i10⟩:=hR1.blk id _ hk1;have hmu1:=s1.mu _ _ hmu
  rw[hmu1]at i1;cases i1
  refine⟨_,run_beginRound i3 (i4.trans hst),?_⟩
  obtain⟨s2,hR2⟩:=hR1.putGen (k':=.loop {L with st:=.busy}) (o':=.loop {r1 with state:=.busy}) rfl rfl hk1 hmu1 rfl fun s hh hb=>
   ⟨b,_,hmu1,hb,hh,rfl,i5,i6,i7,i8,i9,fun t=>(i10 t).mono s⟩
  show r.body.wpIn (Fw (some b)) 0 P _ _ _
  rw[h8];refine wpIn_mono (hbody (some b) g1 _ a1 ⟨b,hmu1,rfl⟩ hR2 (hF1.mono s2)) fun e a3 w3 ⟨g3,fr3,H3,s3,hR3,hF3,jump,hj,hk3,hK⟩=>?_;obtain⟨b3,r3,j1,j2,j3,j4,j5,j6,j7,j8,j9,j10⟩:=hR3.blk id _ hk3;have hmu3:=s3.mu _ _ hmu1
  rw[hmu3]at j1;cases j1
  obtain⟨s4,hR4⟩:=hR3.putGen (k':=.loop {L with st:=if jump.isNone then .ready else .done,pe:=jump}) (o':=.loop {r3 with state:=if jump.isNone then .ready else .done,pending:=jump}) rfl rfl hk3 hmu3 rfl fun s hh hb=>
   ⟨b,_,hmu3,hb,hh,rfl,rfl,j6,j7,j8,j9,fun t=>(j10 t).mono s⟩
  have hend:=run_endRound (P:=P) jump j3
  have fin:∃v w',(Instr.endRound b jump).run P w3= .ok v w'∧∃u,Ending.returned v= .returned u∧N3 g w K u w':=
   ⟨_,_,hend,_,rfl,g3,_,_,((s1.trans s2).trans s3).trans s4,hR4,.bool _,hK⟩
  cases e<;>simp only[Oy,F3,reduceCtorEq]at hj<;>subst hj<;>exact fin
structure G7 (I:A5→A5→Prop):Prop where
 le:∀{F H},I F H→∀id b,F id=some b→H id=some b
 chg:∀{F H} (id:Nat) (b:Option Il),I F H→H id=F id→I (upd F id b) (upd H id b)
theorem G7.fresh {I:A5→A5→Prop}(h:G7 I){F H:A5}(i:I F H){id:Nat}(hn:H id=none):F id=none:=by
 cases hf:F id with
 |none=>rfl
 |some b=>rw[h.le i id b hf]at hn;cases hn
def Uh (P:Program) (it:V) (xs:List (List V)):Prop:=
 ∃ f C,it= .func (.func f) [] C∧(∀vals w,(callFunc f vals).run P w= .ok (.enter f vals) w)∧
  ∀(yv:V) (I:List (List V)→A5→A5→Prop) (D:A5→A5→Prop),(∀l,G7 (I l))→G7 D→
   ((yv.one=true∧yv.cells=[yv])∧∀x l F H,I (x::l) F H→Cw P yv x H fun r H'=>(r= .bool true∧I l F H')∨(r= .bool false∧D F H'))→
   ∀F H,I xs F H→M8 P f (yv::C) H fun _ H'=>I [] F H'∨D F H'
def YZ (I:A5→A5→Prop)(D:Code→A5→A5→Prop)(F:A5)(e:Exit)(H:A5):Prop:=
 match e with
 | .normal=>I F H
 | .ret=>D .ret F H
 | .exit k=>D (.exit k) F H
 |_=>False
theorem Af6 {I:A5→A5→Prop}{D:Code→A5→A5→Prop}{F:A5}{e:Exit}{H:A5}(h:YZ I D F e H):(Oy e=some none∧I F H)∨∃c,Oy e=some (some c)∧D c F H:=by
 cases e<;>simp only[YZ]at h
 ·simp_all[Oy]
 ·simp_all[Oy]
 simp_all[Oy]
section
variable {P:Program}{nt:Nat}
theorem Ac5 {fr:Fr} {ps:Array Tmp} {asg body:Code} {xs:List (List V)} {f:FuncId} {C:List V} {id:Nat} (hnt:∀p∈ps,p<nt) (hps:∀x∈xs,x.length=ps.size)
 (hit:∀(yv:V) (I:List (List V)→A5→A5→Prop) (D:A5→A5→Prop),(∀l,G7 (I l))→G7 D→
  ((yv.one=true∧yv.cells=[yv])∧∀x l F H,I (x::l) F H→Cw P yv x H fun r H'=>(r= .bool true∧I l F H')∨(r= .bool false∧D F H'))→
  ∀F H,I xs F H→M8 P f (yv::C) H fun _ H'=>I [] F H'∨D F H')
 (I:List (List V)→A5→A5→Prop) (D:Code→A5→A5→Prop) (hI:∀l,G7 (I l)) (hD:∀c,G7 (D c)) (J:List V→List (List V)→Fr→A5→A5→Prop) (hJ:∀x l fr,G7 (J x l fr))
 (assign:∀id L x l F H,I (x::l) F H→F id=some (.loop L)→x.length=ps.size→Aa P nt (some id) asg ⟨HM fr.s ps.toList x,[]⟩ H fun e fr' H1=>e= .normal∧J x l fr' F H1)
 (round:∀id L x l fr' F H,J x l fr' F H→F id=some (.loop L)→Aa P nt (some id) body fr' H fun e _ H'=>YZ (I l) D F e H')
 {F0 H2:A5} {L:LpI} (hL:L={nt:=nt,s:=fr.s,st:=.ready,pe:=none,ps:=ps,asg:=asg,body:=body}) (hF0:F0 id=none) (h0:I xs (upd F0 id (some (.loop L))) H2)
 {g2:Gh} {w2:World} {b:Nat} {vals:Array Value} (hR:Rl g2 H2 w2) (hmu:g2.mu id=some b) (hA:Args g2 w2 vals (.yield id::C)) (hcf:(callFunc f vals).run P w2= .ok (.enter f vals) w2):
 CallsIn Fence.wide 0 P f vals w2 fun e w3=>∃v,e= .returned v∧∃g3 H3 jump w4,Y7 g2 w2 g3 w4∧Rl g3 H3 w4∧(Instr.endLoop b).run P w3= .ok jump w4∧((jump=none∧I [] F0 H3)∨∃c,jump=some c∧D c F0 H3):=by
 have hc:=hit (.yield id) (fun l F H=>(∀x∈l,x.length=ps.size)∧F id=none∧I l (upd F id (some (.loop L))) H)
  (fun F H=>F id=none∧∃c,D c (upd F id (some (.loop {L with st:=.done,pe:=some c}))) H) ?_ ?_ ⟨⟨rfl,rfl⟩,?_⟩ F0 H2 ⟨hps,hF0,h0⟩ g2 w2 vals hR hA
 ·rw[hcf]at hc
  have hc':CallsIn Fence.wide 0 P f vals w2 _:=hc;refine hc'.mono fun e w3 ⟨v,he,g3,u,H3,s,hR3,_,hK⟩=>⟨v,he,?_⟩;have hmu3:=s.mu _ _ hmu
  have fin:∀(L':LpI) (X:A5→A5→Prop),G7 X→X (upd F0 id (some (.loop L'))) H3→L'.st≠ .busy→∃g4 H4 w4,Y7 g2 w2 g4 w4∧Rl g4 H4 w4∧(Instr.endLoop b).run P w3= .ok L'.pe w4∧X F0 H4:=by
   intro L' X hX hx hst;have hk3:=hX.le hx id _ (G2 _ _ _);obtain⟨b3,r3,j1,j2,j3,j4,j5,j6,j7,j8,j9,j10⟩:=hR3.blk id _ hk3
   rw[hmu3]at j1;cases j1
   have hend:=run_endLoop (P:=P) j3 (by rw[j4];exact hst)
   rw[j5]at hend
   obtain⟨s4,hR4⟩:=hR3.putGen (k':=.loop {L' with st:=.exhausted}) (o':=.loop {r3 with state:=.exhausted,pending:=L'.pe}) rfl rfl hk3 hmu3 rfl fun s hh hb=>
    ⟨b,_,hmu3,hb,hh,rfl,rfl,j6,j7,j8,j9,fun t=>(j10 t).mono s⟩
   refine⟨g3,upd H3 id none,_,s.trans s4,hR4.less fun x bb hx=>?_,hend,?_⟩
   ·simp_all[upd]
   have:=hX.chg id none hx (by rw[hk3,G2])
   rwa[Xp _ _ _ hF0]at this
  grind
 ·intro l;refine⟨fun{F H} ⟨_,hn,hi⟩ x bb hx=>(hI l).le hi x bb ?_,fun{F H} x bb ⟨hs,hn,hi⟩ hx=>?_⟩
  ·rw[C9 _ _ (AK hn hx)];exact hx
  have hne:x≠id:=fun e=>by subst e;rw[hn]at hx;rw[(hI l).le hi x _ (G2 _ _ _)]at hx;cases hx
  refine⟨hs,by rw[C9 _ _ (fun e=>hne e.symm)];exact hn,?_⟩;have:=(hI l).chg x bb hi (by rw[C9 _ _ hne];exact hx)
  rwa[Sq _ _ _ (Ne.symm hne)]at this
 ·refine⟨fun{F H} ⟨hn,c,hi⟩ x bb hx=>(hD c).le hi x bb ?_,fun{F H} x bb ⟨hn,c,hi⟩ hx=>?_⟩
  ·rw[C9 _ _ (AK hn hx)];exact hx
  have hne:x≠id:=fun e=>by subst e;rw[hn]at hx;rw[(hD c).le hi x _ (G2 _ _ _)]at hx;cases hx
  refine⟨by rw[C9 _ _ (fun e=>hne e.symm)];exact hn,c,?_⟩;have:=(hD c).chg x bb hi (by rw[C9 _ _ hne];exact hx)
  rwa[Sq _ _ _ (Ne.symm hne)]at this
 rintro x l F H ⟨hs,hn,hi⟩;have hk:=(hI _).le hi id _ (G2 _ _ _);have hxs:=hs x (by simp);have ha:=assign id L x l _ H hi (G2 _ _ _) hxs;subst hL;refine Zx hk rfl hxs hnt (ha.mono fun e fr' H1 ⟨he,hj⟩=>?_);have hk1:=(hJ x l fr').le hj id _ (G2 _ _ _);refine⟨he,hk1,?_⟩;have hj2:=(hJ x l fr').chg id (some (.loop {({nt:=nt,s:=fr.s,st:=.ready,pe:=none,ps:=ps,asg:=asg,body:=body}:LpI)with st:=.busy})) hj (by rw[hk1,G2])
 rw[Dm]at hj2
 refine(round id _ x l fr' _ _ hj2 (G2 _ _ _)).mono fun e fr'' H2 hq=>?_
 rcases Af6 hq with⟨hjmp,hi2⟩|⟨c,hjmp,hd2⟩
 ·have hk2:=(hI l).le hi2 id _ (G2 _ _ _);refine⟨none,hjmp,hk2,.inl ⟨rfl,fun y hy=>hs y (by simp[hy]),hn,?_⟩⟩;have:=(hI l).chg id (some (.loop {nt:=nt,s:=fr.s,st:=.ready,pe:=none,ps:=ps,asg:=asg,body:=body})) hi2 (by rw[hk2,G2])
  rwa[Dm]at this
 have hk2:=(hD c).le hd2 id _ (G2 _ _ _);refine⟨some c,hjmp,hk2,.inr ⟨rfl,hn,c,?_⟩⟩;have:=(hD c).chg id (some (.loop {nt:=nt,s:=fr.s,st:=.done,pe:=some c,ps:=ps,asg:=asg,body:=body})) hd2 (by rw[hk2,G2])
 rwa[Dm]at this
theorem Ah2 {g:Gh}{w:World}{id b:Nat}{cs:Array Value}{C:List V}(hmu:g.mu id=some b)(h1:cs.size=C.length)(h2:∀i,i<C.length→VR g w (cs.getD i undef) (C.getD i .bad)):
 Args g w (#[.func (.yield b) #[] #[]]++cs) (.yield id::C):=
 Args.append (x:=[.yield id]) (a:= #[.func (.yield b) #[] #[]]) ⟨rfl,fun i hi=>match i,hi with|0,_=>.yield hmu⟩ ⟨h1,h2⟩
theorem Aa.rangeOuter {fr:Fr} {H F:A5} {g:Operand} {ps:Array Tmp} {asg body:Code} {xs:List (List V)} {Q:Exit→Fr→A5→Prop} (hnt:∀p∈ps,p<nt) (hps:∀x∈xs,x.length=ps.size) (hit:Uh P (ev fr g) xs)
 (I:List (List V)→A5→A5→Prop) (D:Code→A5→A5→Prop) (hI:∀l,G7 (I l)) (hD:∀c,G7 (D c)) (J:List V→List (List V)→Fr→A5→A5→Prop) (hJ:∀x l fr,G7 (J x l fr)) (h0:I xs F H)
 (assign:∀id L x l F H,I (x::l) F H→F id=some (.loop L)→x.length=ps.size→Aa P nt (some id) asg ⟨HM fr.s ps.toList x,[]⟩ H fun e fr' H1=>e= .normal∧J x l fr' F H1)
 (round:∀id L x l fr' F H,J x l fr' F H→F id=some (.loop L)→Aa P nt (some id) body fr' H fun e _ H'=>YZ (I l) D F e H')
 (done:∀d H',F d=none→I [] (upd F d (some (.obj (.deferred (some []))))) H'→Q .normal {fr with df:=d::fr.df} H')
 (stop:∀c d H',F d=none→D c (upd F d (some (.obj (.deferred (some []))))) H'→Aa P nt none c {fr with df:=d::fr.df} H' Q):Aa P nt none (.rangeFunc g ps asg body) fr H Q:=by
 intro r g0 w a hr hR hF;have hr:r=none:=hr;subst hr;obtain⟨f,C,hev,hcf,hit⟩:=hit;refine wpIn_rangeFunc fun fn _=>?_;have hv:=F5 hR hF.s g
 rw[hev]at hv
 generalize hag:a.eval g=gv at hv
 cases hv with
 | func hl hv hl' hv'=>
  rename_i fs cs;have hfs:fs= #[]:=QW (by omega);subst hfs;obtain⟨dB,hdB⟩:∃dB:Il,dB= .obj (.deferred (some [])):=⟨_,rfl⟩;have hd0:H g0.nx=none:=(hR.nxt _ (B3 _)).2.2;have s1:=Y7.new hR (.deferred (some [])) False 0;have hR1:=hR.newNamed (.deferred (some [])) dB (by rw[hdB];simp) (by rw[hdB];exact⟨w.heap.size,by simp[Gh.new],hR.bnd,Dg,rfl⟩) (by rw[hdB];simp_all);obtain⟨w1,hw1⟩:∃w1,w.alloc (.deferred (some []))=w1:=⟨_,rfl⟩;obtain⟨g1,hg1⟩:∃g1,g0.new w False 0=g1:=⟨_,rfl⟩;obtain⟨L,hL⟩:∃L:LpI,L={nt:=nt,s:=fr.s,st:=.ready,pe:=none,ps:=ps,asg:=asg,body:=body}:=⟨_,rfl⟩;obtain⟨rec,hrec⟩:∃rec:Loop,rec={state:=.ready,pending:=none,fn,tmps:=a.tmps,params:=ps,assign:=asg,body,defers:=w.heap.size}:=⟨_,rfl⟩
  rw[hw1,hg1]at hR1 s1
  have hd:g1.mu g0.nx=some w.heap.size:=by rw[←hg1];simp[Gh.new]
  have hnx:g1.nx=g0.nx+1:=by rw[←hg1];rfl
  have hF1:=hF.mono s1;have s2:=Y7.new hR1 (.loop rec) False 0;have hF2:=hF1.mono s2
  have hR2:=hR1.newNamed (.loop rec) (.loop L) (by simp) (by
   rw[hL,hrec]
   exact⟨w1.heap.size,_,by simp[Gh.new],hR1.bnd,Dg,rfl,rfl,rfl,rfl,rfl,hF.size,fun t=>by have:=hF2.s t;rw[hrec]at this;exact this⟩)
  obtain⟨w2,hw2⟩:∃w2,w1.alloc (.loop rec)=w2:=⟨_,rfl⟩;obtain⟨g2,hg2⟩:∃g2,g1.new w1 False 0=g2:=⟨_,rfl⟩
  rw[hw2,hg2]at hR2 s2 hF2
  have hmu:g2.mu g1.nx=some w1.heap.size:=by rw[←hg2];simp[Gh.new]
  have hi0:(upd H g0.nx (some dB)) g1.nx=none:=(hR1.nxt _ (B3 _)).2.2
  have hsz:w1.heap.size=w.heap.size+1:=by rw[←hw1];simp
  have i1:=(hI xs).chg g0.nx (some dB) h0 (by rw[hd0,(hI xs).fresh h0 hd0]);have hFi:=(hI xs).fresh i1 hi0;have i2:=(hI xs).chg g1.nx (some (.loop L)) i1 (by rw[hi0,hFi]);have hcall:=Ac5 (fr:=fr) (nt:=nt) hnt hps hit I D hI hD J hJ assign round hL hFi i2 (vals:= #[.func (.yield w1.heap.size) #[] #[]]++cs) hR2 hmu (Ah2 hmu hl' fun i hi=>(hv' i hi).mono (s1.trans s2)) (hcf _ _);refine⟨w1.heap.size,[{target:=.collected w.heap.size,args:= #[]}],w2,{target:=.fn (.func f) cs,args:= #[.func (.yield w1.heap.size) #[] #[]]},w2,f, #[.func (.yield w1.heap.size) #[] #[]]++cs,w2,?_,?_,fun _ _=>trivial,?_,fun h=>by simp[Fw]at h,?_⟩
  ·rw[←hw2,hrec,←hw1,show(w.alloc (.deferred (some []))).heap.size=w.heap.size+1 by simp];exact run_enterLoop_outer _ _ _ _ _
  ·simp only[resolve,hag];simp[go_sem]
  ·simp only[invoke];grind
  refine TV (hcall.mono fun e w3 ⟨v,he,g3,H3,jump,w4,s3,hR3,hend,hj⟩=>?_);subst he;refine⟨jump,w4,hend,?_⟩;have s:=(s1.trans s2).trans s3
  have hF4:FR nt g3 w4 {a with defers:=[{target:=.collected w.heap.size,args:= #[]}]++a.defers} {fr with df:=g0.nx::fr.df}:=by
   have hF3:=hF.mono s;refine⟨hF3.size,hF3.s,?_⟩;obtain⟨bs,k1,k2,k3⟩:=hF3.df;refine⟨w.heap.size::bs,by grind,fun i hi=>?_,by simp[k3]⟩
   cases i with
   |zero=>exact(s2.trans s3).mu _ _ hd
   |succ i=>simp_all
  have hFd:F g0.nx=none:=(hI xs).fresh h0 hd0
  rw[hdB]at hj
  rcases hj with⟨rfl,hi⟩|⟨c,rfl,hd⟩
  ·grind[WV]
  exact wpIn_mono (stop c _ _ hFd hd none g3 w4 _ rfl hR3 hF4) fun _ _ _=>WV.later s
end
def Ym (P:Program) (A:WY) (nt:Nat) (ops:Array Oper):List Oper→Fr→A5→(Fr→A5→Prop)→Prop
 |[],fr,H,K=>K fr H
 | o ::rest,fr,H,K=>
  GV nt o.dst=true∧
   match o.guard with
   |none=>Im P A o (ev fr) H fun v H'=>Ym P A nt ops rest (fr.put o.dst v) H' K
   | some (j,want)=>
    match(ops[j]?).bind (·.dst)with
    | some d=>
     match fr.s d with
     | .bool c=>
      (c=want→Im P A o (ev (fr.put (some d) (.bool want))) H fun v H'=>Ym P A nt ops rest ((fr.put (some d) (.bool want)).put o.dst v) H' K)∧
       (c= !want→Ym P A nt ops rest ((fr.put (some d) (.bool !want)).put o.dst (.tup [])) H K)
     |_=>False
    |none=>False
theorem PQ {P:Program}{H:A5}{K K':V→A5→Prop}{ts:List TypeId}{vs:List V}(h:Hm P H K ts vs)(hk:∀v H',K v H'→K' v H'):Hm P H K' ts vs:=by
 unfold Hm at h ⊢
 split at h
 ·obtain⟨e,sz,by_,z,k1,k2,k3,k4,k5,k6,k7,k8,k9,xs',ys',l1,l2,k10,k11,k12,k13,k14,k15⟩:=h;exact⟨e,sz,by_,z,k1,k2,k3,k4,k5,k6,k7,k8,k9,xs',ys',l1,l2,k10,k11,k12,k13,fun e=>hk _ _ (k14 e),fun t e1 e2=>hk _ _ (k15 t e1 e2)⟩
 omega
theorem Po {P:Program} {A:WY} {o:Oper} {ρ:Operand→V} {H:A5} {K K':V→A5→Prop} (h:Im P A o ρ H K) (hk:∀v H',K v H'→K' v H'):Im P A o ρ H K':=by
 unfold Im at h ⊢
 split at h
 ·rcases h with⟨z,h1,h2,h3⟩|⟨h1,sz,h2⟩
  ·grind
  exact .inr ⟨h1,sz,fun q id hq hid=>hk _ _ (h2 q id hq hid)⟩
 ·grind
 ·grind
 ·have key:∀{K K':V→A5→Prop} {t:TypeId} {l c:V},(∀v H',K v H'→K' v H')→Rg P H K t l c→Rg P H K' t l c:=by
   intro K K' t l c hk h
   unfold Rg at h ⊢
   split at h
   ·obtain⟨e,sz,by_,z,q1,q2,q3,q4,q5,q6,q7,q8,q9,q10,q11,q12⟩:=h
    simp_all
   omega
  grind[YI]
 ·exact h.imp (hk _ _) fun⟨h1,sz,h2⟩=>⟨h1,sz,fun q hq=>hk _ _ (h2 q hq)⟩
 ·exact h.imp (hk _ _) fun⟨h1,sz,h2⟩=>⟨h1,sz,fun q hq=>hk _ _ (h2 q hq)⟩
 ·grind[litO]
 ·grind[AE6]
 ·grind[Hf]
 ·grind[Hf]
 ·grind[Ok]
 ·grind[Ta]
 ·grind[OD]
 ·grind
 ·split at h
  ·exact h.mono hk
  ·rcases h with h|h|h
   rotate_left
   ·refine .inr (.inl ?_)
    unfold PO at h ⊢
    split at h
    ·obtain⟨e,sz,by_,z,k1,k3,k4,k5,k6,k7,k8,k9,h⟩:=h;refine⟨e,sz,by_,z,k1,k3,k4,k5,k6,k7,k8,k9,?_⟩
     grind[KM]
    omega
   ·exact .inr (.inr (PQ h fun v H' ⟨y,H2,h1,h2,h3⟩=>⟨y,H2,h1,h2,hk _ _ h3⟩))
   grind[PQ]
  ·unfold Zr at h ⊢
   grind
  ·unfold TP at h ⊢
   split at h
   ·obtain⟨e,sz,z,xs,k1,k2,k3,k4,k5,k6,k7,k8⟩:=h;exact⟨e,sz,z,xs,k1,k2,k3,k4,k5,k6,k7,hk _ _ k8⟩
   exact h.elim
  ·obtain⟨v,h1,h2⟩:=h;exact⟨v,h1,hk _ _ h2⟩
  exact h.elim
 obtain⟨v,h1,h2⟩:=h;exact⟨v,h1,hk _ _ h2⟩
theorem Ye {fr:Fr}{d:Nat}{v:V}(h:fr.s d=v):fr.put (some d) v=fr:=by
 obtain⟨s,df⟩:=fr;simp only[Fr.put,Fr.mk.injEq,O9]
 funext t
 simp_all
theorem MY {P:Program} {A:WY} {nt:Nat} {ops:Array Oper} {K:Fr→A5→Prop}:∀(l:List Oper) (fr:Fr) (H:A5),Ym P A nt ops l fr H K→Nu P A nt ops l fr H K
 |[],_,_,h=>h
 | o ::rest,fr,H,h=>by
  simp only[Ym]at h
  simp only[Nu];refine⟨h.1,?_⟩;obtain⟨_,h⟩:=h
  have mono:∀fr,Im P A o (ev fr) H (fun v H'=>Ym P A nt ops rest (fr.put o.dst v) H' K)→Im P A o (ev fr) H fun v H'=>Nu P A nt ops rest (fr.put o.dst v) H' K:=by
   intro fr hh;refine Po hh fun v H' hk=>MY rest _ _ hk
  unfold BA
  split at h
  ·simp_all
  rename_i j want hg
  try simp only[hg]
  split at h
  ·rename_i d hd
   try simp only[hd]
   split at h
   ·rename_i c hc
    try simp only[hc]
    obtain⟨h1,h2⟩:=h
    cases c<;>cases want<;>simp only[beq_self_eq_true,AD,Eu,reduceCtorEq,false_implies,true_implies,forall_const]at h1 h2 ⊢
    all_goals first
     |(rw[Ye hc]at h1;exact mono _ h1)
     |(rw[Ye hc]at h2;exact MY rest _ _ h2)
   grind
  grind
section
variable {P:Program}{nt:Nat}{rd:Option Nat}{fr:Fr}{H:A5}{Q:Exit→Fr→A5→Prop}
theorem Aa.step (A:WY){id:Nat}{ops:Array Oper}{rest:Code}(h:∀K:Fr→A5→Prop,(∀fr' H',Aa P nt rd rest fr' H' Q→K fr' H')→Ym P A nt ops ops.toList fr H K):
 Aa P nt rd (.seq (.region id ops false) rest) fr H Q:=
 Aa.seq (Aa.region (A:=A) (MY _ _ _ (h _ fun _ _ x=>x)))
theorem Aa.last (A:WY){id:Nat}{ops:Array Oper}(h:∀K:Fr→A5→Prop,(∀fr' H',Q .normal fr' H'→K fr' H')→Ym P A nt ops ops.toList fr H K):
 Aa P nt rd (.region id ops false) fr H Q:=Aa.region (A:=A) (MY _ _ _ (h _ fun _ _ x=>x))
def Nw:List (Nat×V)→Nat→V
 |[],_=>.bad
 |(k,v)::l,t=>if t=k then v else Nw l t
def mk (l:List (Nat×V))(df:List Nat):Fr:=⟨Nw l,df⟩
end
end Go.Ab
