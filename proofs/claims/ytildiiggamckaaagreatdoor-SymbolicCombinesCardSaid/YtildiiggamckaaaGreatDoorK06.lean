/- . -/
import Derived.Test.YtildiiggamckaaaGreatDoorK05
set_option linter.all false
namespace Go.Ab
open Go.RowKit
variable [L6]
structure QE where
 sx:Operand
 sy:Operand
 nn:Operand
 zz:Operand
 sT:TypeId
 yT:TypeId
 t2:TypeId
 eT:TypeId
 t3:TypeId
 tA:Nat
 tI:Nat
 tp:Nat
structure Az5 (ops:Array Oper) (nt k:Nat) (p:QE):Prop where
 lt:k+3<ops.size
 a1:(ops.getD k default).op= .call {callee:=.builtin .append,args:= #[p.sx,p.sy],argTypes:= #[p.sT,p.yT]}
 a2:(ops.getD k default).dst=some p.tA
 a3:(ops.getD k default).guard=none
 i1:(ops.getD (k+1) default).op= .indexAddr p.t2 (.tmp p.tA) p.nn
 i2:(ops.getD (k+1) default).dst=some p.tI
 i3:(ops.getD (k+1) default).guard=none
 s1:(ops.getD (k+2) default).op= .store p.eT (.tmp p.tI) p.zz
 s2:(ops.getD (k+2) default).dst=none
 s3:(ops.getD (k+2) default).guard=none
 u1:(ops.getD (k+3) default).op= .store p.t3 (.tmp p.tp) (.tmp p.tA)
 u2:(ops.getD (k+3) default).dst=none
 u3:(ops.getD (k+3) default).guard=none
 n1:p.tA≠p.tI
 n2:p.tp≠p.tA
 n3:p.tp≠p.tI
 n4:p.nn≠ .tmp p.tA
 n5:p.zz≠ .tmp p.tA
 n6:p.zz≠ .tmp p.tI
 n7:p.tA<nt
 n8:p.tI<nt
section
variable {P:Program}{nt:Nat}{ops:Array Oper}
structure LC (ops:Array Oper) (listed:Array Bool) (S:Nat→Bool):Prop where
 size:listed.size=ops.size
 get:∀i b,i<ops.size→listed.getD i b=S i
 cl:∀m j,listed.getD m false=true→Dd (ops.getD m default) j=true→listed.getD j false=true
def LC.step {listed:Array Bool} {S:Nat→Bool} {i:Nat} (h:LC ops listed S) (hi:i∈Region.ready .any ops listed):LC ops (listed.setIfInBounds i true) fun j=>j==i||S j:=by
 obtain⟨h1,h2,h3⟩:=mem_ready hi;refine⟨by simpa using h.size,fun j b hj=>?_,fun m j hm hj=>?_⟩
 ·rw[KC (by rw[h.size];exact h1),h.get j b hj]
  by_cases e:j=i
  ·subst e;simp
  rw[A3 e];simp[e]
 rw[KC (by rw[h.size];exact h1)]at hm ⊢
 by_cases ej:j=i
 ·rw[A1 ej]
 rw[A3 ej]
 by_cases em:m=i
 ·subst em;exact h3 j hj
 rw[A3 em]at hm;exact h.cl m j hm hj
def LC.not {listed:Array Bool}{S:Nat→Bool}{i:Nat}(h:LC ops listed S)(hi:i∈Region.ready .any ops listed):i<ops.size∧S i=false∧∀j,j<ops.size→IZ ops Nf i j=true→S j=true:=by
 obtain⟨h1,h2,h3⟩:=mem_ready hi;refine⟨h1,by rw[←h.get i true h1];exact h2,fun j hj hr=>?_⟩;rw[←h.get j false hj];exact Es h.cl Nf i j h3 hr
def LC.ready {listed:Array Bool}{S:Nat→Bool}{i:Nat}(h:LC ops listed S)(h1:i<ops.size)(h2:S i=false)(hb:Bj (ops.getD i default) i=true)(h3:∀j,j<i→S j=true):i∈Region.ready .any ops listed:=
 Pw h1 (by rw[h.get i true h1];exact h2) hb fun j hj=>by rw[h.get j false (by omega)];exact h3 j hj
def LC.eq {listed:Array Bool}{S S':Nat→Bool}(h:LC ops listed S)(e:∀i,S i=S' i):LC ops listed S':=⟨h.size,fun i b hi=>(h.get i b hi).trans (e i),h.cl⟩
def Tu {o:Oper}{a:Act}{w:World}{r:Option Nat}{next:Act→World→Prop}{Q:Exit→Act→World→Prop}{Kx:Value→World→Prop}(hnd:∀c,o.op≠ .defer c)(h:H6 P Kx ((execOp a.eval o).run P w))(hk:∀v w',Kx v w'→next (a.put o.dst v) w'):o.wpIn (Fw r) 0 P a w next Q:=by
 refine⟨fun _ _=>trivial,?_⟩;rw[AI _ _ _ hnd];exact GV h hk
def HM {r:Option Nat}{Q:Exit→Act→World→Prop}{fuel i:Nat}{listed:Array Bool}{a:Act}{w:World}{Kx:Value→World→Prop}(h1:i<ops.size)(hg:(ops.getD i default).guard=none)(hnd:∀c,(ops.getD i default).op≠ .defer c)
 (h:H6 P Kx ((execOp a.eval (ops.getD i default)).run P w)) (hk:∀v w',Kx v w'→wpAnyIn (Fw r) 0 P .any ops Q fuel (listed.setIfInBounds i true) (a.put (ops.getD i default).dst v) w'):
 wpOpIn (Fw r) 0 P ops Q i (wpAnyIn (Fw r) 0 P .any ops Q fuel (listed.setIfInBounds i true)) a w:=by
 rw[OQ h1]at *
 simp only[wpOpIn,Ak h1];rw[A1 (by simp[Region.wanted,hg])];exact Tu hnd h hk
def Ef {a:Act} {d:Nat} {v:Value} {x:Operand} (h:x≠ .tmp d):(a.put (some d) v).eval x=a.eval x:=by
 cases x with
 |tmp t=>
  have:d≠t:=fun e=>h (by rw[e]);simp[Act.eval,Act.put,EV,this]
 |_=>rfl
def Oo {a:Act}{d:Nat}{v:Value}(h:d<a.tmps.size):(a.put (some d) v).eval (.tmp d)=v:=by
 simp[Act.eval,Act.put,h]
def Vh {v:Value}{n:Nat}(h:v.cells.size=n):(List.range n).map (fun j=>v.cells.getD j undef)=v.cells.toList:=by
 subst h;apply Jw
 ·simp
 intro i h1 h2
 have:i<v.cells.size:=by simpa using h2
 simp[Array.getD,this]
def Ob {W:World}{B q n:Nat}{c:Array Value}{T t:TypeId}{x y:Operand}{a:Act}{o:Oper}(ho:o.op= .store t x y)(hs:Eh P t=some n)(hx:a.eval x= .pointer (some ⟨B,q,none⟩))(hc:W.heap[B]? =some (.cells c T (0,0)))(hsz:(a.eval y).cells.size=n)(hfit:q+n≤c.size)
 (h1:∀j,j<n→((a.eval y).cells.getD j undef).oneCell'=true):H6 P (fun _ w'=>w'=W.setRow B (Oj c q n fun j=>(a.eval y).cells.getD j undef)) ((execOp a.eval o).run P W):=by
 have hst:=JV (P:=P) (f:=fun j=>(a.eval y).cells.getD j undef) hc hfit h1
 rw[Vh hsz]at hst
 unfold execOp;rw[ho];simp only[hx,Instr.storeAt,Instr.sureAddr,storeVar,B9,C4,B7,O4 hs W,hsz,ne_eq,Hu,D7,hst,H6]
def Ai4 {A:QG} {r:Option Nat} {k:Nat} {p:QE} {K:Fr→A4→Prop} {Q:Exit→Act→World→Prop} {g0:Gh} {w0:World} (hp:Az5 ops nt k p)
 (hat:∀i,i<ops.size→Bj (ops.getD i default) i=true∧∀j,j<i→IZ ops Nf i j=true∨i<k∨(i=k+3∧k<j))
 (hQ:∀g w a fr H,U3 g0 w0 g w→Rl g H w→FR nt g w a fr→K fr H→Q .normal a w)
 {listed:Array Bool} (hL:LC ops listed fun i=>decide (i<k)) {fr:Fr} {H:A4} {xs cs:List V} {tl tl':D2} {y0 vV z:V} {kk:IntKind} {e:TypeId} {sz by_ idp offp:Nat}
 (hx:BV (ev fr p.sx) (.sl xs tl)) (hy:ev fr p.sy= .sl [y0] tl') (hy0:y0.cells.length=sz) (hn:ev fr p.nn= .int kk (xs.length:Nat)) (hzz:BV (ev fr p.zz) vV) (hv1:vV.one=true) (hvl:vV.cells.length=sz)
 (he:EO P p.sT=some e) (hyT:(EO P p.yT).isSome=true) (he2:EO P p.t2=some e) (hsz:Eh P e=some sz) (hse:Eh P p.eT=some sz) (hpos:0<sz) (hby:Ny P e=some by_) (hbp:0<by_)
 (hz:HA P e=some z) (hz1:z.one=true) (hzl:z.cells.length=sz) (hA:EN H tl) (hax:xs.all (fun x=>x.cells.length==sz)=true) (hbound:(xs.length+1)*by_≤140737488355328)
 (hU:fr.s p.tp= .ref idp offp) (hUc:H idp=some (.cells cs)) (hUs:Eh P p.t3=some 1) (hUf:offp+1≤cs.length)
 (hK:∀t,G0 H tl t=none→HV P A nt ops (ops.toList.drop (k+4)) ((fr.put (some p.tA) (.sl (xs++[vV]) (.tok t))).put (some p.tI) .bad)
  (upd (upd (G0 H tl) t (some .spare)) idp (some (.cells (T5 cs offp [.sl (xs++[vV]) (.tok t)])))) K):
 ∀g w a,U3 g0 w0 g w→Rl g H w→FR nt g w a fr→wpAnyIn (Fw r) 0 P .any ops Q (ops.size-k) listed a w:=by
 intro g w a st hR hF;have hvs:=(E6 hR hF.s p.sx).le hx;have hvy:=E6 hR hF.s p.sy
 rw[hy]at hvy
 have hvn:=E6 hR hF.s p.nn
 rw[hn]at hvn
 have hvn:=hvn.int_inv;have hvz:=(E6 hR hF.s p.zz).le hzz;obtain⟨hzc1,hzc2⟩:=hvz.cells hv1
 have hzsz:(a.eval p.zz).cells.size=sz:=by rw[hzc1,hvl]
 have hpp:VR g w (a.eval (.tmp p.tp)) (.ref idp offp):=by have:=E6 hR hF.s (.tmp p.tp);rwa[show ev fr (.tmp p.tp)= .ref idp offp from hU]at this
 obtain⟨bp,hmp,hep⟩:∃bp,g.mu idp=some bp∧a.eval (.tmp p.tp)= .pointer (some ⟨bp,offp,none⟩):=by
  generalize a.eval (.tmp p.tp)=v at hpp
  cases hpp with
  |ref hm=>exact⟨_,hm,rfl⟩
 obtain⟨b,off,G,W,C,T,r1,r2,r3,r4,r5,r6,r7⟩:=WG (P:=P) (ty:=(ops.getD k default).type) hR hvs he hyT hsz hpos hby hbp hz hz1 hzl hA hax hbound;obtain⟨f0,hf0,hrA⟩:=r1 y0 tl' _ hvy hy0;obtain⟨bp',cp,Tp,q1,q2,q3,q4,q5,q6⟩:=hR.blk idp _ hUc
 rw[hmp]at q1;cases q1
 have hdt:G0 H tl idp=some (.cells cs):=by
  cases tl with
  |tok t=>
   have hA':H t=some .spare:=hA
   have:idp≠t:=fun e=>by subst e;rw[hUc]at hA';cases hA'
   simp only[G0,C3 _ _ this];exact hUc
  |_=>exact hUc
 have hatp:g.at (G0 H tl) idp=some bp:=by simp only[Gh.at,hdt,hmp]
 have hne:bp≠b:=r6 _ _ hatp;have hplt:bp<w.heap.size:=(Array.getElem?_eq_some_iff.1 q3).1
 have hpfit:offp+1≤cp.size:=by omega
 generalize hs':(Value.slice (some ⟨b,off,none⟩) (xs.length+1) G)=s' at *
 generalize hfv:(fun j=>(a.eval p.zz).cells.getD j undef)=fv
 have hfv1:∀j,j<sz→(fv j).oneCell'=true∧VR g w (fv j) (vV.cells.getD j .bad):=fun j hj=>by rw[←hfv];exact hzc2 j (by omega)
 have hs1:s'.cells= #[s']:=by rw[←hs'];rfl
 have hs2:∀j,j<1→(s'.cells.getD j undef).oneCell'=true:=fun j hj=>by
  rw[show j=0 by omega,hs1,←hs'];rfl
 have hsf:(fun j=>s'.cells.getD j undef)=fun j=>(#[s']:Array Value).getD j undef:=by rw[hs1]
 generalize ha1:a.put (some p.tA) s'=a1;generalize hA0:(Value.pointer (some ⟨b,off+xs.length*sz,none⟩))=pA;generalize ha2:a1.put (some p.tI) pA=a2
 have hsize1:a1.tmps.size=nt:=by rw[←ha1];simp[Act.put,hF.size]
 have e1A:a1.eval (.tmp p.tA)=s':=by rw[←ha1];exact Oo (by rw[hF.size];exact hp.n7)
 have e1n:a1.eval p.nn= .int kk (xs.length:Nat):=by rw[←ha1,Ef hp.n4];exact hvn
 have e1p:a1.eval (.tmp p.tp)= .pointer (some ⟨bp,offp,none⟩):=by rw[←ha1,Ef (fun h=>hp.n2 (Js h))];exact hep
 have e2A:a2.eval (.tmp p.tA)=s':=by rw[←ha2,Ef (fun h=>hp.n1 (Js h))];exact e1A
 have e2p:a2.eval (.tmp p.tp)= .pointer (some ⟨bp,offp,none⟩):=by rw[←ha2,Ef (fun h=>hp.n3 (Js h))];exact e1p
 have e2I:a2.eval (.tmp p.tI)=pA:=by rw[←ha2];exact Oo (by rw[hsize1];exact hp.n8)
 have e2z:a2.eval p.zz=a.eval p.zz:=by rw[←ha2,Ef hp.n6,←ha1,Ef hp.n5]
 have hndA:∀c,(ops.getD k default).op≠ .defer c:=fun c h=>by rw[hp.a1]at h;cases h
 have hndI:∀c,(ops.getD (k+1) default).op≠ .defer c:=fun c h=>by rw[hp.i1]at h;cases h
 have hndS:∀c,(ops.getD (k+2) default).op≠ .defer c:=fun c h=>by rw[hp.s1]at h;cases h
 have hndU:∀c,(ops.getD (k+3) default).op≠ .defer c:=fun c h=>by rw[hp.u1]at h;cases h
 have runA:H6 P (fun v w'=>v=s'∧w'=W f0) ((execOp a.eval (ops.getD k default)).run P w):=by
  rw[P5 hp.a1];simp only[builtin,Y3,G2,J3,B9,hrA,B7,C4,H6]
  trivial
 have runI:∀W':World,H6 P (fun v w'=>v=pA∧w'=W') ((execOp a1.eval (ops.getD (k+1) default)).run P W'):=fun W'=>by
  have hu:=P0 he2;unfold execOp;rw[hp.i1]
  have c1:(0:Int)≤(xs.length:Nat):=by omega
  have c2:((xs.length:Nat):Int)<((xs.length+1:Nat):Int):=by omega
  simp only[e1A,←hs',e1n,Instr.indexAt,asIntOf,B9,C4,B7,run_underlying hu,c1,c2,and_self,D1,O4 hsz,H6,J4,Y9,K0,hA0]
 have runS:∀(W':World) (c':Array Value),W'.heap[b]? =some (.cells c' T (0,0))→off+xs.length*sz+sz≤c'.size→H6 P (fun _ w'=>w'=W'.setRow b (Oj c' (off+xs.length*sz) sz fv)) ((execOp a2.eval (ops.getD (k+2) default)).run P W'):=fun W' c' h1 h2=>by
  have:=Ob (P:=P) (a:=a2) hp.s1 hse (by rw[e2I,←hA0]) h1 (by rw[e2z];exact hzsz) h2 (fun j hj=>by rw[e2z];exact(hzc2 j (by omega)).1)
  rw[e2z,hfv]at this
  exact this
 have runU:∀(a':Act) (W':World),a'.eval (.tmp p.tA)=s'→a'.eval (.tmp p.tp)= .pointer (some ⟨bp,offp,none⟩)→W'.heap[bp]? =some (.cells cp Tp (0,0))→H6 P (fun _ w'=>w'=W'.setRow bp (Oj cp offp 1 fun j=>s'.cells.getD j undef)) ((execOp a'.eval (ops.getD (k+3) default)).run P W'):=fun a' W' h1 h2 h3=>by
  have:=Ob (P:=P) (a:=a') hp.u1 hUs h2 h3 (by rw[h1,hs1];rfl) hpfit (fun j hj=>by rw[h1];exact hs2 j hj)
  rw[h1]at this
  exact this
 generalize hU':(Oj cp offp 1 fun j=>s'.cells.getD j undef)=U at runU
 have hWp:∀f,(W f).heap[bp]? =some (.cells cp Tp (0,0)):=fun f=>(r5 bp hne hplt f).trans q3
 have fin:∀{l:Array Bool},LC ops l (fun i=>decide (i<k+4))→wpAnyIn (Fw r) 0 P .any ops Q (ops.size-(k+4)) l a2 ((W fv).setRow bp U):=by
  intro l hl;obtain⟨g',t,s1,hnone,hR1,hvr⟩:=r7 vV fv hvl hfv1
  have hne2:idp≠t:=fun e=>by subst e;rw[hdt]at hnone;cases hnone
  have hk3:upd (G0 H tl) t (some .spare) idp=some (.cells cs):=by rw[C3 _ _ hne2];exact hdt
  have hmp':g'.mu idp=some bp:=s1.mu _ _ hmp;obtain⟨b2,c2,T2,z1,z2,z3,z4,z5,z6⟩:=hR1.blk idp _ hk3
  rw[hmp']at z1;cases z1
  rw[hWp fv]at z3
  have ec:c2=cp:=by cases z3;rfl
  subst ec
  have hset:=hR1.setNamed (cs':=T5 cs offp [.sl (xs++[vV]) (.tok t)]) (c':=U) hk3 hmp' (hWp fv) (by rw[←hU'];exact PR hpfit) (AT (by simpa using hUf)) (fun j hj=>by
   rw[AT (by simpa using hUf)]at hj
   have hj':j<c2.size:=by omega
   have hg:=Xx (c:=c2) (A:=offp) (sz:=1) (f:=fun j=>s'.cells.getD j undef) hpfit hj'
   rw[hU']at hg
   rw[HK (by simpa using hUf)];simp only[M7,hg,GJ]
   by_cases q:offp≤j∧j<offp+1
   ·rw[A1 q,A1 q];rw[show j-offp=0 by omega,hs1,←hs'];refine⟨rfl,?_⟩;rw[hs']
    simpa using hvr
   rw[A3 q,A3 q];have:=z5 j hj
   simpa only[M7]using this)
  have hF1:=(hF.mono s1).put (d:=some p.tA) (fun t ht=>by cases ht;exact hp.n7) hvr
  rw[ha1]at hF1
  have hF2:=hF1.put (d:=some p.tI) (v:=pA) (V:=.bad) (fun t ht=>by cases ht;exact hp.n8) (.bad _)
  rw[ha2]at hF2
  have hm:k+4≤ops.size:=hp.lt
  exact Pb (A:=A) (r:=r) (K:=K) (k:=k+4) (fun i hi=>⟨(hat i hi).1,fun j hj hkj=>((hat i hi).2 j hj).elim (fun h=>h) fun h=>absurd h (by omega)⟩) hQ (ops.size-(k+4)) (k+4) l _ _ (by omega) (D3 _) hl.size
   hl.get (hK t hnone) g' _ a2 (st.trans (s1.trans hset.1)) hset.2 (hF2.mono hset.1)
 have hlt:=hp.lt;rw[show ops.size-k=(ops.size-(k+4))+1+1+1+1 by omega];have bw:∀i,i<ops.size→Bj (ops.getD i default) i=true:=fun i hi=>(hat i hi).1;have rch:∀i j,i<ops.size→k≤i→j<i→¬(i=k+3∧k<j)→IZ ops Nf i j=true:=fun i j hi hki hj hn=>((hat i hi).2 j hj).elim (fun h=>h) fun h=>absurd h (by omega)
 have rdyA:k∈Region.ready .any ops listed:=hL.ready (by omega) (by simp) (bw _ (by omega)) fun j hj=>by simpa using hj
 refine⟨fun e=>(by rw[e]at rdyA;cases rdyA),fun i hi=>?_⟩;obtain⟨h1,h2,h3⟩:=hL.not hi
 have ik:i=k:=by
  have:k≤i:=by simpa using h2
  rcases G6 k i with h|h
  ·have:=h3 k (by omega) (rch i k h1 (by omega) h (by omega));exact absurd this (by simp)
  omega
 subst ik;refine HM h1 hp.a3 hndA runA fun v w1 ⟨ev1,ew1⟩=>?_;subst ev1;subst ew1;rw[hp.a2,ha1];have hL1:=hL.step hi
 have rdyI:i+1∈Region.ready .any ops (listed.setIfInBounds i true):=hL1.ready (by omega) (by simp) (bw _ (by omega)) fun j hj=>by simp;omega
 refine⟨fun e=>(by rw[e]at rdyI;cases rdyI),fun i2 hi2=>?_⟩;obtain⟨h1,h2,h3⟩:=hL1.not hi2
 have ik:i2=i+1∨i2=i+3:=by
  simp at h2
  rcases G6 (i+1) i2 with h|h
  ·rcases G6 i2 (i+3)with h'|h'
   ·have:=h3 (i+1) (by omega) (rch i2 (i+1) h1 (by omega) h (by omega));exact absurd this (by simp<;>omega)
   rcases G6 (i+3) i2 with h''|h''
   ·have:=h3 (i+1) (by omega) (rch i2 (i+1) h1 (by omega) h (by omega));exact absurd this (by simp<;>omega)
   omega
  omega
 have hWf0:((W f0).setRow b (Oj (C f0) (off+xs.length*sz) sz fv)).setRow bp U=(W fv).setRow bp U:=by rw[r4]
 have hcm:((W f0).setRow bp U).setRow b (Oj (C f0) (off+xs.length*sz) sz fv)=(W fv).setRow bp U:=by rw[TQ _ _ _ hne,r4]
 have hbU:((W f0).setRow bp U).heap[b]? =some (.cells (C f0) T (0,0)):=(P1 _ _ _ _ hne.symm).trans (r3 f0).1
 have lastS:∀{l:Array Bool},LC ops l (fun j=>decide (j<i+2)||j==i+3)→wpAnyIn (Fw r) 0 P .any ops Q (ops.size-(i+4)+1) l a2 ((W f0).setRow bp U):=fun{l} hl=>by
  have rdy:i+2∈Region.ready .any ops l:=hl.ready (by omega) (by simp) (bw _ (by omega)) fun j hj=>by simp;omega
  refine⟨fun e=>(by rw[e]at rdy;cases rdy),fun i3 hi3=>?_⟩;obtain⟨h1,h2,h3⟩:=hl.not hi3
  have ik:i3=i+2:=by
   simp at h2
   rcases G6 (i+2) i3 with h|h
   ·have:=h3 (i+2) (by omega) (rch i3 (i+2) h1 (by omega) h (by omega));exact absurd this (by simp<;>omega)
   omega
  subst ik;refine HM h1 hp.s3 hndS (runS _ _ hbU (r3 f0).2) fun v w1 ew=>?_;rw[ew,hcm,hp.s2];exact fin ((hl.step hi3).eq fun j=>by rw[Bs];simp;omega)
 rcases ik with rfl|rfl
 ·refine HM h1 hp.i3 hndI (runI _) fun v w1 ⟨ev1,ew1⟩=>?_;subst ev1;subst ew1;rw[hp.i2,ha2]
  have hL2:=(hL1.step hi2).eq (S':=fun j=>decide (j<i+2)) fun j=>by rw[Bs];simp;omega
  have rdyS:i+2∈Region.ready .any ops ((listed.setIfInBounds i true).setIfInBounds (i+1) true):=hL2.ready (by omega) (by simp) (bw _ (by omega)) fun j hj=>by simp;omega
  refine⟨fun e=>(by rw[e]at rdyS;cases rdyS),fun i3 hi3=>?_⟩;obtain⟨h1,h2,h3⟩:=hL2.not hi3
  have ik:i3=i+2∨i3=i+3:=by
   simp at h2
   rcases G6 (i+3) i3 with h|h
   ·have:=h3 (i+2) (by omega) (rch i3 (i+2) h1 (by omega) (by omega) (by omega));exact absurd this (by simp<;>omega)
   omega
  rcases ik with rfl|rfl
  ·refine HM h1 hp.s3 hndS (runS _ _ (r3 f0).1 (r3 f0).2) fun v w1 ew=>?_;rw[ew,r4,hp.s2]
   have hL3:=(hL2.step hi3).eq (S':=fun j=>decide (j<i+3)) fun j=>by rw[Bs];simp;omega
   have rdyU:i+3∈Region.ready .any ops (((listed.setIfInBounds i true).setIfInBounds (i+1) true).setIfInBounds (i+2) true):=hL3.ready (by omega) (by simp) (bw _ (by omega)) fun j hj=>by simp;omega
   refine⟨fun e=>(by rw[e]at rdyU;cases rdyU),fun i4 hi4=>?_⟩;obtain⟨h1,h2,h3⟩:=hL3.not hi4
   have ik:i4=i+3:=by
    simp at h2
    rcases G6 (i+3) i4 with h|h
    ·have:=h3 (i+3) (by omega) (rch i4 (i+3) h1 (by omega) h (by omega));exact absurd this (by simp<;>omega)
    omega
   subst ik;refine HM h1 hp.u3 hndU (runU a2 _ e2A e2p (hWp fv)) fun v w1 ew=>?_;rw[ew,hp.u2];exact fin ((hL3.step hi4).eq fun j=>by rw[Bs];simp;omega)
  refine HM h1 hp.u3 hndU (runU a2 _ e2A e2p (hWp f0)) fun v w1 ew=>?_;rw[ew,hp.u2];exact lastS ((hL2.step hi3).eq fun j=>by rw[Bs];simp;omega)
 refine HM h1 hp.u3 hndU (runU a1 _ e1A e1p (hWp f0)) fun v w1 ew=>?_;rw[ew,hp.u2]
 have hL2:=(hL1.step hi2).eq (S':=fun j=>decide (j<i+1)||j==i+3) fun j=>by rw[Bs];simp;omega
 have rdy:i+1∈Region.ready .any ops ((listed.setIfInBounds i true).setIfInBounds (i+3) true):=hL2.ready (by omega) (by simp) (bw _ (by omega)) fun j hj=>by simp;omega
 refine⟨fun e=>(by rw[e]at rdy;cases rdy),fun i3 hi3=>?_⟩;obtain⟨h1,h2,h3⟩:=hL2.not hi3
 have ik:i3=i+1:=by
  simp at h2
  rcases G6 (i+1) i3 with h|h
  ·have:=h3 (i+1) (by omega) (rch i3 (i+1) h1 (by omega) h (by omega));exact absurd this (by simp<;>omega)
  omega
 subst ik;refine HM h1 hp.i3 hndI (runI _) fun v w1 ⟨ev1,ew1⟩=>?_;subst ev1;subst ew1;rw[hp.i2];have:=lastS ((hL2.step hi3).eq fun j=>by rw[Bs];simp;omega)
 rw[←ha2]at this
 exact this
end
end Go.Ab
namespace Go.Ab
open Go.RowKit
variable [L6][Ar]
def Li:List Nat→Nat→Bool
 |[],_=>false
 |x::l,n=>match Nat.beq n x with|true=>true|false=>Li l n
abbrev RV:=List (Nat×List V)
def lkp:RV→Nat→Option (List V)
 |[],_=>none
 |(k,x)::l,t=>match Nat.beq t k with|true=>some x|false=>lkp l t
section
variable (E:Eg)(T:FY)(nt:Nat)(A:Nat→Bool)
def xqd (G:List (Nat×Bool)) (o:Oper) (l:Fl) (H:A4) (k:Sl→Prop):Prop:=
 match o.op with
 | .call c=>
  (match c.callee with
   | .value x=>E.pcall H (R0 G l x).V (c.args.toList.map fun x=>(R0 G l x).V) fun v=>k (.v v)
   |_=>xq E T G o l H k)
 |_=>xq E T G o l H k
def VV (pv:RV)(d:Option Tmp):Bool:=
 match d with
 |some d=>(match lkp pv d with|none=>true|some _=>false)
 |none=>true
abbrev Pe:=Option (Nat×Nat×List V)
def VG (tk:List Nat)(d:Option Tmp):Bool:=
 match d with
 |some d=> !Li tk d
 |none=>true
def RO:List Nat→Nat→List Nat
 |[],_=>[]
 |x::l,n=>match Nat.beq n x with|true=>RO l n|false=>x::RO l n
def Oq (s:Option Nat)(tk:List Nat):List Nat:=
 match s with
 |some d=>RO tk d
 |none=>tk
def Av0 (tk:List Nat)(sx:Operand)(tl:D2):Option (Option Nat):=
 match tl with
 | .nil=>some none
 | .full=>some none
 | .ro=>(match sx with| .tmp d=>(match Li tk d with|true=>some (some d)|false=>none)|_=>none)
 |_=>none
def Zu (x:Bool)(ex:Option D2)(tk:List Nat)(sx:Operand)(tl:D2)(k:Option Nat→Option D2→Prop):Prop:=
 match x with
 |true=>(match ex with|some τ=>E.need (tl=τ) fun _=>k none none|none=>False)
 |false=>(match Av0 tk sx tl with|some s=>k s ex|none=>False)
def IK (A:Nat→Bool)(n:Nat):List Oper→Option Nat
 |[]=>none
 |o::l=>match o.dst with|some d=>(match A (d+n)with|true=>some d|false=>IK A n l)|none=>IK A n l
def Zw (x : Bool) (ex:Option D2) (o:Oper) (l:Fl) (tk:List Nat) (k:Nat→Option Nat→Option D2→V→Prop):Prop:=
 match o.op,o.dst,o.guard with
 | .call { callee:=.builtin .append,args:=⟨[sx,sy]⟩,argTypes:=⟨[sT,yT]⟩},some dd,none=>
  (match (R0 [] l sx).V,(R0 [] l sy).V with
   | .sl xs tlx,.sl ys _=>
    Zu E x ex tk sx tlx fun src ex'=>
     (match tg T sT,tg T yT with
      | some I,some I2=>
       (match I.sl,I2.sl with
        | some e,some _=>
         (match tg T e with
          | some J=>
           (match J.ze with
            |some z=>if 0<J.sz∧0<J.by_∧z.one=true∧z.cells.length=J.sz then E.appq J.sz J.by_ xs ys fun v=>k dd src ex' v else False
            |none=>False)
          |none=>False)
        |_,_=>False)
      |_,_=>False)
   |_,_=>False)
 |_,_,_=>False
def ZA (ads :List Nat) (ops:Array Oper):List Oper→Fl→RV→Pe→List Nat→Option D2→A4→(Fl→RV→Pe→List Nat→Prop)→Prop
 |[],l,pv,pe,tk,_,_,K=>K l pv pe tk
 | o :: rest,l,pv,pe,tk,ex,H,K=>
  match Gs nt o.dst,VV pv o.dst,VG tk o.dst with
  | true, true,true=>
   (match A (o.dst.getD 0+3000000)with
    |true=>Zw E T (A (o.dst.getD 0+8000000)) ex o l tk fun dd src ex' v=>ZA ads ops rest ((dd,.v v)::l) pv pe (dd::Oq src tk) ex' H K
    | false =>
     (match o.op with
      | .alloc t=>
       (match o.guard,o.dst,tg T t with
        | none,some d,some I=>
         (match I.ze with
          |some z=>(match z.one with|true=>ZA ads ops rest ((d,.v .bad)::l) ((d,z.cells)::pv) pe tk ex H K|false=>False)
          |none=>False)
        |_,_,_=>False)
      | .store t (.tmp d) y=>
       (match o.guard,tg T t with
        | none,some I=>
         (match lkp pv d with
          |some cs=>if(R0 [] l y).V.one=true∧(R0 [] l y).V.cells.length=I.sz∧I.sz≤cs.length then ZA ads ops rest (Dj o.dst (.v .bad) l) ((d,T5 cs 0 (R0 [] l y).V.cells)::pv) pe tk ex H K else False
          | none=>
           (match Li ads d,Uq [] l d,pe with
            |true,some (.v (.ref id off)),some (ds,id',cs)=>
             if(R0 [] l y).V.one=true∧(R0 [] l y).V.cells.length=I.sz∧off+I.sz≤cs.length then E.need (id=id') fun _=>ZA ads ops rest (Dj o.dst (.v .bad) l) pv (some (ds,id',T5 cs off (R0 [] l y).V.cells)) tk ex H K else False
            |_,_,_=>False))
        |_,_=>False)
      | .store _ _ _=>False
      |_=>GN E ops o 4 l (fun G l' wr=>xqd E T G o l' H fun s=>ZA ads ops rest (Dj o.dst (wr s) l') pv pe tk ex H K) fun l'=>ZA ads ops rest (Dj o.dst (.v (.tup [])) l') pv pe tk ex H K))
  |_,_,_=>False
def Lw:List Nat→RV→Fl→A4→(Fl→A4→Prop)→Prop
 |[],_,l,H,K=>K l H
 |d::ds,pv,l,H,K=>
  match lkp pv d with
  |some cs=>(match A d with|true=>E.alloc H cs fun id H'=>Lw ds pv ((d,.v (.ref id 0))::l) H' K|false=>Lw ds pv ((d,.v (.eref cs 0))::l) H K)
  |none=>False
def OX (dx:Option Nat)(tk:List Nat)(l:Fl)(H:A4)(K:Fl→A4→Prop):Prop:=
 match dx with
 |none=>K l H
 |some d=>(match Li tk d,lk l d with|true,.v (.sl xs .ro)=>E.nameT H fun tl H'=>K ((d,.v (.sl xs tl))::l) H'|_,_=>False)
def NV (ops:Array Oper):List Oper→Fl→A4→(Fl→A4→Prop)→Prop
 |[],l,H,K=>K l H
 |o::rest,l,H,K=>
  match Gs nt o.dst with
  |true=>GN E ops o 4 l (fun G l' wr=>Zx E T A G o l' H fun s H'=>NV ops rest (Dj o.dst (wr s) l') H' K) fun l'=>NV ops rest (Dj o.dst (.v (.tup [])) l') H K
  |false=>False
def FX:List Oper→List Nat
 |[]=>[]
 |o::l=>match o.op,o.dst with| .alloc _,some d=>d::FX l|_,_=>FX l
def At0 (pe:Pe)(H:A4)(K:A4→Prop):Prop:=
 match pe with
 |some (_,id,cs)=>E.give H id cs K
 |none=>K H
def Zs (w:Option (Nat×List Nat))(l:Fl)(H:A4)(K:List Nat→Pe→A4→Prop):Prop:=
 match w with
 |none=>K [] none H
 |some (d,ads)=>(match lk l d with| .v (.ref id 0)=>E.frz H id fun cs H'=>K ads (some (d,id,cs)) H'|_=>False)
def Zr (x:Option Nat)(H:A4)(K:Option D2→A4→Prop):Prop:=
 match x with
 |none=>K none H
 |some _=>E.takeT H fun τ H'=>K (some τ) H'
def Zz (w:Option (Nat×List Nat))(k:Nat)(ops:Array Oper)(l:Fl)(H:A4)(K:Fl→A4→Prop):Prop:=
 Zr E (IK A 8000000 (ops.toList.take k)) H fun ex H0=>Zs E w l H0 fun ads pe H1=>ZA E T nt A ads ops (ops.toList.take k) l [] pe [] ex H1 fun l' pv pe' tk=>At0 E pe' H1 fun H2=>OX E (IK A 9000000 (ops.toList.take k)) tk l' H2 fun l1 H3=>Lw E A (FX (ops.toList.take k)) pv l1 H3 fun l'' H'=>NV E T nt A ops (ops.toList.drop k) l'' H' K
end
section
variable {P:Program}{nt:Nat}{rd:Option Nat}{T:FY}{A:Nat→Bool}{df:List Nat}
def XS (hT:Jb P T) {G:List (Nat×Bool)} {o:Oper} {l:Fl} (hG:Jd G l) {H:A4} {k:Sl→Prop} (h:xqd (H5 P nt rd) T G o l H k):∃s:Sl,Md P o (ev (I0 ⟨l,df⟩)) H s.V∧k s:=by
 unfold xqd at h
 split at h
 ·rename_i c ho
  split at h
  ·rename_i x hc;obtain⟨v,h1,h2⟩:=h
   rw[DH (df:=df) hG,show(c.args.toList.map fun x=>(R0 G l x).V)=c.args.toList.map (ev (I0 ⟨l,df⟩))from Cp fun p _=>DH hG p]at h1
   grind[Md,Sl.V]
  exact Me hT hG h
 exact Me hT hG h
def Ak5 (hT:Jb P T) {G:List (Nat×Bool)} {o:Oper} {l:Fl} {H:A4} {k:Sl→Prop} (ht:Kt G o l=true) (h:xqd (H5 P nt rd) T G o l H k):∃s,k s:=by
 unfold xqd at h
 split at h
 ·rename_i c ho
  split at h
  ·obtain⟨v,h1,h2⟩:=h
   grind
  exact Vw hT ht h
 exact Vw hT ht h
theorem FP (hT:Jb P T) {ops:Array Oper} {K:Fl→A4→Prop}:∀(rest:List Oper) (l:Fl) (H:A4),NV (H5 P nt rd) T nt A ops rest l H K→HV P A nt ops rest (I0 ⟨l,df⟩) H fun fr H'=>∃l',fr=I0 ⟨l',df⟩∧K l' H'
 |[],l,H,h=>⟨l,rfl,h⟩
 | o::rest,l,H,h=>by
  unfold NV at h
  split at h
  ·rename_i hd;simp only[HV];refine⟨hd,?_⟩;obtain⟨l',e,h⟩:=Ek (df:=df) 4 l h
   have e:I0 ⟨l',df⟩=I0 ⟨l,df⟩:=by simp_all[I0]
   rcases h with⟨hg,G,wr,hG,hwr,h⟩|⟨hg,h⟩
   ·rw[hg];rw[←e];refine Kj (MW (df:=df) hT hG h) fun v H' ⟨s,hv,hk⟩=>?_;subst hv;rw[←hwr s,←N6];exact FP hT rest _ _ hk
   rw[hg];rw[←e]
   rcases h with h|⟨G,d,want,ht,hb,h⟩
   ·have:=FP hT rest _ _ h
    rw[N6]at this
    exact this
   obtain⟨s,h⟩:=RY hT ht h;have:=FP hT rest _ _ h
   rw[N6]at this
   simp_all[Ya]
  grind
def Ad (pv:RV)(pe:Pe)(tk:List Nat)(ex:Option D2):Pv
 | .inl d=>lkp pv d
 | .inr x=>(match pe with|some (_,id,cs)=>if x=id then some cs else none|none=>none)
 | .tk d=>(match Li tk d with|true=>some []|false=>none)
 | .ex=>ex.map fun τ=>[.sl [] τ]
def Ai1 {a b:Nat}:Nat.beq a b=true↔a=b:=⟨Bw,fun h=>by simp_all⟩
theorem Ae6 {pv:RV} {d t:Nat} {cs:List V}:lkp ((d,cs)::pv) t=if t=d then some cs else lkp pv t:=by
 simp only[lkp]
 by_cases h:t=d
 ·simp_all
 have:Nat.beq t d=false:=by
  cases hb:Nat.beq t d with
  |false=>rfl
  |true=>simp_all
 grind
theorem GH {tk:List Nat} {d t:Nat}:Li (d::tk) t=(decide (t=d)||Li tk t):=by
 simp only[Li]
 by_cases h:t=d
 ·simp_all
 have:Nat.beq t d=false:=by
  cases hb:Nat.beq t d with
  |false=>rfl
  |true=>simp_all
 grind
def Np {d t:Nat}:∀{tk:List Nat},Li (RO tk d) t=(!decide (t=d)&&Li tk t)
 |[]=>by simp[Li,RO]
 | x::l=>by
  simp only[RO]
  split
  ·rename_i h;have:=Ai1.1 h;subst this;rw[Np (tk:=l),GH]
   by_cases e:t=d<;>simp[e]
  rename_i h
  have hne:d≠x:=fun e=>by rw[Ai1.2 e]at h;cases h
  rw[GH,GH,Np (tk:=l)]
  grind
def Rq {pv:RV} {pe:Pe} {tk:List Nat} {ex:Option D2} {d:Nat} {cs:List V}:Ad ((d,cs)::pv) pe tk ex=O8 (Ad pv pe tk ex) (.inl d) cs:=by
 funext t
 cases t with
 |inl t=>
  grind[Ad,O8,Ae6]
 |inr x=>simp[Ad,O8]
 |tk x=>simp[Ad,O8]
 |ex=>simp[Ad,O8]
def Am8 {pv:RV} {tk:List Nat} {ex:Option D2} {ds id:Nat} {cs cs':List V}:Ad pv (some (ds,id,cs')) tk ex=O8 (Ad pv (some (ds,id,cs)) tk ex) (.inr id) cs':=by
 funext t
 cases t with
 |inl t=>simp[Ad,O8]
 |inr x=>
  grind[Ad,O8]
 |tk x=>simp[Ad,O8]
 |ex=>simp[Ad,O8]
def Am9 {pv:RV} {pe:Pe} {tk:List Nat} {ex:Option D2} {d:Nat}:Ad pv pe (d::tk) none=O8 (U7 (Ad pv pe tk ex) (some .ex)) (.tk d) []:=by
 funext t
 cases t with
 |inl t=>rw[J0 (by simp),Q5 (by simp)];rfl
 |inr x=>rw[J0 (by simp),Q5 (by simp)];rfl
 |ex=>rw[J0 (by simp)];simp[Ad,U7]
 |tk x=>
  grind[GH,Ad,O8,Q5]
def Am7 {pv:RV} {pe:Pe} {tk:List Nat} {ex:Option D2} {d:Nat} {src:Option Nat}:Ad pv pe (d::Oq src tk) ex=O8 (U7 (Ad pv pe tk ex) (src.map .tk)) (.tk d) []:=by
 funext t
 cases t with
 |inl t=>rw[J0 (by simp),Q5 (by cases src<;>simp)];rfl
 |inr x=>rw[J0 (by simp),Q5 (by cases src<;>simp)];rfl
 |ex=>rw[J0 (by simp),Q5 (by cases src<;>simp)];rfl
 | tk x=>
  by_cases h:x=d
  ·grind[GH,Ad,O8]
  rw[J0 (fun e=>by simp_all)]
  have e1:Li (d::Oq src tk) x=Li (Oq src tk) x:=by rw[GH];simp[h]
  cases src with
  |none=>simp_all[Ad,Oq,U7]
  |some c=>
   have e2:Li (Oq (some c) tk) x=(!decide (x=c)&&Li tk x):=Np
   grind[Ad,U7]
def Yx {pv:RV} {pe:Pe} {tk:List Nat} {ex:Option D2} {d:Option Tmp} (h:VV pv d=true) (h2:VG tk d=true):R3 (Ad pv pe tk ex) d:=by
 cases d with
 |none=>trivial
 |some d=>
  grind[R3,Ad,VV,VG]
def Ak4 {l:Fl}{pv:RV}{pe:Pe}{tk:List Nat}{ex:Option D2}{sx:Operand}{tl:D2}{src:Option Nat}(h:Av0 tk sx tl=some src):IU (Ad pv pe tk ex) sx tl (src.map .tk):=by
 unfold Av0 at h
 split at h
 ·grind[IU]
 ·grind[IU]
 ·grind[IU,Ad]
 cases h
def Zt {l:Fl} {pv:RV} {pe:Pe} {tk:List Nat} {x:Bool} {ex:Option D2} {sx:Operand} {tl:D2} {k:Option Nat→Option D2→Prop} (h:Zu (H5 P nt rd) x ex tk sx tl k):
 ∃key,IU (Ad pv pe tk ex) sx tl key∧∃src ex',k src ex'∧(ex=none→ex'=none)∧∀d,Ad pv pe (d::Oq src tk) ex'=O8 (U7 (Ad pv pe tk ex) key) (.tk d) []:=by
 unfold Zu at h
 split at h
 ·split at h
  ·obtain⟨e,h⟩:=h;subst e;exact⟨some .ex,rfl,none,none,h,fun _=>rfl,fun d=>Am9⟩
  grind
 split at h
 ·rename_i s hs;exact⟨_,Ak4 (l:=l) hs,s,ex,h,id,fun d=>Am7⟩
 grind
def Tq (hT:Jb P T) {x:Bool} {ex:Option D2} {o:Oper} {l:Fl} {pv:RV} {pe:Pe} {tk:List Nat} {k:Nat→Option Nat→Option D2→V→Prop} (h:Zw (H5 P nt rd) T x ex o l tk k):∃dd key v,o.dst=some dd∧PApp P o (I0 ⟨l,df⟩) (Ad pv pe tk ex) key v∧∃src ex',k dd src ex' v∧(ex=none→ex'=none)∧Ad pv pe (dd::Oq src tk) ex'=O8 (U7 (Ad pv pe tk ex) key) (.tk dd) []:=by
 unfold Zw at h
 split at h
 ·rename_i sx sy sT yT dd ho hdst hg
  split at h
  ·rename_i xs tlx ys tly e1 e2
   rw[DH (l:=l) (df:=df) Jd.nil]at e1 e2
   obtain⟨key,hs,src,ex',h,hen,hpe⟩:=Zt (l:=l) (pv:=pv) (pe:=pe) h
   split at h
   ·rename_i I I2 hI hI2
    split at h
    ·rename_i e e2' he he2
     split at h
     ·rename_i J hJ
      split at h
      ·rename_i z hz
       have ez:=(G8 hT hJ).ze;rw[hz]at ez;simp only[BO]at ez
       split at h
       ·rename_i hc;obtain⟨c1,c2,c3,c4⟩:=hc;obtain⟨xs',ys',l1,l2,k1,k2,k3,k4⟩:=h;exact⟨dd,key,_,hdst,⟨hg,sx,sy,sT,yT,xs,tlx,ys,tly,xs',ys',ho,e1,e2,hs,⟨e,J.sz,J.by_,z,(G8 hT hI).sl.trans he,by rw[(G8 hT hI2).sl,he2];rfl,(G8 hT hJ).sz,c1,(G8 hT hJ).by_,c2,ez,c3,c4,l1,l2,k1,k2,k3⟩,rfl⟩,src,ex',k4,hen,hpe dd⟩
       grind
      grind
     grind
    grind
   grind
  grind
 grind
def Hc {ops:Array Oper}{H:A4}{K K':Fr→Pv→Prop}(hk:∀fr pv,K fr pv→K' fr pv):∀(l:List Oper) (fr:Fr) (pv:Pv),Iq P nt ops H l fr pv K→Iq P nt ops H l fr pv K'
 |[],_,_,h=>hk _ _ h
 |_::l,_,_,h=>Ql h fun fr pv h=>Hc hk l fr pv h
def BR (hT:Jb P T) {ads:List Nat} {ops:Array Oper} {H:A4} {K:Fl→RV→Pe→List Nat→Prop}:∀(rest:List Oper) (l:Fl) (pv:RV) (pe:Pe) (tk:List Nat) (ex:Option D2),ZA (H5 P nt rd) T nt A ads ops rest l pv pe tk ex H K→
 Iq P nt ops H rest (I0 ⟨l,df⟩) (Ad pv pe tk ex) fun fr pv'=>∃l' pl pe' tk' ex',fr=I0 ⟨l',df⟩∧pv'=Ad pl pe' tk' ex'∧(ex=none→ex'=none)∧pe'.map (fun p=>p.2.1)=pe.map (fun p=>p.2.1)∧K l' pl pe' tk'
 |[],l,pv,pe,tk,ex,h=>⟨l,pv,pe,tk,ex,rfl,rfl,id,rfl,h⟩
 | o ::rest,l,pv,pe,tk,ex,h=>by
  unfold ZA at h
  split at h
  ·rename_i hd hf hft;simp only[Iq];unfold KF;refine⟨⟨hd,Yx hf hft⟩,?_⟩
   split at h
   ·obtain⟨dd,key,v,hdst,hP,src,ex2,h,hen,hpe⟩:=Tq (df:=df) (pv:=pv) (pe:=pe) hT h;refine⟨v,_,.inr (.inr (.inr ⟨dd,key,hdst,hP,rfl⟩)),?_⟩;have:=BR hT rest _ _ _ _ _ h
    rw[hpe,show(dd,Sl.v v)::l=Dj (some dd) (.v v) l from rfl,N6]at this
    rw[hdst];exact Hc (fun fr pv ⟨l',pl,pe',tk',ex',e1,e2,e3,h⟩=>⟨l',pl,pe',tk',ex',e1,e2,fun he=>e3 (hen he),h⟩) _ _ _ this
   split at h
   ·rename_i t ho
    split at h
    ·rename_i d I hg hdst hI
     split at h
     ·rename_i z hz
      have ez:=(G8 hT hI).ze;rw[hz]at ez;simp only[BO]at ez
      split at h
      ·rename_i h1;refine⟨.bad,_,.inr (.inl ⟨t,z,d,ho,hg,hdst,ez,h1,rfl,rfl⟩),?_⟩;have:=BR hT rest _ _ _ _ _ h
       rw[Rq,show(d,Sl.v V.bad)::l=Dj (some d) (.v .bad) l from rfl,N6]at this
       rw[hdst];exact this
      grind
     grind
    grind
   ·rename_i t d y ho
    split at h
    ·rename_i I hg hI;have hev:=DH (l:=l) (df:=df) Jd.nil y
     split at h
     ·rename_i cs hcs
      split at h
      ·rename_i hc;obtain⟨c1,c2,c3⟩:=hc
       rw[hev]at c1 c2 h
       refine⟨.bad,_,.inr (.inr (.inl ⟨t,d,y,.inl d,0,cs,ho,hg,.inl ⟨rfl,rfl,hcs⟩,c1,by rw[c2];exact(G8 hT hI).sz,by rw[c2];omega,rfl,rfl⟩)),?_⟩;have:=BR hT rest _ _ _ _ _ h
       rw[Rq,N6]at this
       exact this
      grind
     rename_i hcs
     split at h
     ·rename_i id off ds id' cs _ hop
      split at h
      ·rename_i hc;obtain⟨c1,c2,c3⟩:=hc;obtain⟨he,h⟩:=h;subst he
       rw[hev]at c1 c2 h
       have hd:(I0 ⟨l,df⟩).s d= .ref id off:=(Ki Jd.nil hop).1.symm;refine⟨.bad,_,.inr (.inr (.inl ⟨t,d,y,.inr id,off,cs,ho,hg,.inr ⟨id,rfl,hd,hcs,by simp[Ad]⟩,c1,by rw[c2];exact(G8 hT hI).sz,by rw[c2];exact c3,rfl,rfl⟩)),?_⟩;have:=BR hT rest _ _ _ _ _ h
       rw[Am8 (cs:=cs),N6]at this
       exact this
      grind
     grind
    grind
   ·exact h.elim
   rename_i n1 n2 n3
   have key:∃v,Oz P ops H o (I0 ⟨l,df⟩) v∧Iq P nt ops H rest ((I0 ⟨l,df⟩).put o.dst v) (Ad pv pe tk ex) fun fr pv'=>∃l' pl pe' tk' ex',fr=I0 ⟨l',df⟩∧pv'=Ad pl pe' tk' ex'∧(ex=none→ex'=none)∧pe'.map (fun p=>p.2.1)=pe.map (fun p=>p.2.1)∧K l' pl pe' tk':=by
    obtain⟨l',e,h⟩:=Ek (df:=df) 4 l h
    have e:I0 ⟨l',df⟩=I0 ⟨l,df⟩:=by simp_all[I0]
    rcases h with⟨hg,G,wr,hG,hwr,h⟩|⟨hg,h⟩
    ·obtain⟨s,h1,h2⟩:=XS (df:=df) hT hG h;refine⟨s.V,by simp_all[Oz],?_⟩;have:=BR hT rest _ _ _ _ _ h2
     rw[N6,hwr s,e]at this
     exact this
    refine⟨.tup [],by grind[Oz],?_⟩
    rcases h with h|⟨G,d,want,ht,hb,h⟩
    ·have:=BR hT rest _ _ _ _ _ h
     rw[N6,e]at this
     exact this
    obtain⟨s,h⟩:=Ak5 hT ht h;have:=BR hT rest _ _ _ _ _ h
    rw[N6,e]at this
    simp_all[Ya]
   obtain⟨v,h1,h2⟩:=key;refine⟨v,_,.inl ⟨?_,?_,h1,rfl⟩,h2⟩
   ·cases hx:o.op<;>first|rfl|simp_all
   simp[Mz]
  grind
theorem Iw {pe:Pe} {tk:List Nat} {ex:Option D2} {K:Fl→A4→Prop}:∀(ds:List Nat) (pv:RV) (l:Fl) (H:A4),Lw (H5 P nt rd) A ds pv l H K→Im A ds (Ad pv pe tk ex) (I0 ⟨l,df⟩) H fun fr H'=>∃l',fr=I0 ⟨l',df⟩∧K l' H'
 |[],pv,l,H,h=>⟨l,rfl,h⟩
 | d::ds,pv,l,H,h=>by
  unfold Lw at h
  simp only[Im]
  split at h
  ·rename_i cs hcs;have hcs':Ad pv pe tk ex (.inl d)=some cs:=hcs;rw[hcs']
   simp only
   split at h
   ·rename_i hA;rw[A1 hA];intro id hid;have:=Iw (pe:=pe) (tk:=tk) (ex:=ex) ds pv _ _ (h id hid)
    rw[show(d,Sl.v (V.ref id 0))::l=Dj (some d) (.v (.ref id 0)) l from rfl,N6]at this
    exact this
   rename_i hA;rw[A3 (by rw[hA];simp)];have:=Iw (pe:=pe) (tk:=tk) (ex:=ex) ds pv _ _ h
   rw[show(d,Sl.v (V.eref cs 0))::l=Dj (some d) (.v (.eref cs 0)) l from rfl,N6]at this
   exact this
  grind
theorem LK {A:Nat→Bool} {K K':Fr→A4→Prop} (hk:∀fr H,K fr H→K' fr H):∀(ds:List Nat) (pv:Pv) (fr:Fr) (H:A4),Im A ds pv fr H K→Im A ds pv fr H K'
 |[],_,_,_,h=>hk _ _ h
 | d::ds,pv,fr,H,h=>by
  simp only[Im]at h ⊢
  split at h
  ·split at h
   ·rename_i hA;rw[A1 hA];exact fun id hid=>LK hk ds _ _ _ (h id hid)
   rename_i hA;rw[A3 hA];exact LK hk ds _ _ _ h
  omega
def Ni {ops:Array Oper} {K K':Fr→A4→Prop} (hk:∀fr H,K fr H→K' fr H):∀(l:List Oper) (fr:Fr) (H:A4),HV P A nt ops l fr H K→HV P A nt ops l fr H K'
 |[],_,_,h=>hk _ _ h
 |o::l,fr,H,h=>by
  simp only[HV]at h ⊢
  refine⟨h.1,?_⟩;obtain⟨_,h⟩:=h
  split at h
  ·rename_i hg;exact Kj h fun v H' h=>Ni hk l _ _ h
  ·rename_i hg;exact Ni hk l _ _ h
  omega
theorem Ut {dx:Option Nat}{pv:Pv}{fr:Fr}{H:A4}{K K':Fr→A4→Prop}(hk:∀fr H,K fr H→K' fr H)(h:IG dx pv fr H K):IG dx pv fr H K':=by
 unfold IG at h ⊢
 grind
def Ae7 {d:Nat} {x:V}:∀{l:Fl},lk l d= .v x→Cj l d=x
 |[],h=>by cases h;rfl
 |(k,s)::l,h=>by
  simp only[lk]at h
  simp only[Cj]
  cases hb:Nat.beq d k with
  |true=>rw[hb]at h;subst h;rfl
  |false=>rw[hb]at h;exact Ae7 h
theorem RZ {dx:Option Nat} {pl:RV} {pe:Pe} {tk:List Nat} {ex:Option D2} {l:Fl} {H:A4} {K:Fl→A4→Prop} (h:OX (H5 P nt rd) dx tk l H K):IG dx (Ad pl pe tk ex) (I0 ⟨l,df⟩) H fun fr H'=>∃l',fr=I0 ⟨l',df⟩∧K l' H':=by
 unfold OX at h
 unfold IG
 split at h
 ·grind
 rename_i d
 split at h
 ·rename_i xs h1 h2;obtain⟨h3,h4⟩:=h;refine⟨xs,by simp[Ad,h1],Ae7 h2,fun tl htl=>⟨_,?_,h3 tl htl⟩,fun t ht=>⟨_,?_,h4 t ht⟩⟩
  ·exact(N6 l (some d) (.v (.sl xs tl))).symm
  exact(N6 l (some d) (.v (.sl xs (.tok t)))).symm
 grind
def XT (hT:Jb P T) {w:Option (Nat×List Nat)} {k:Nat} {ops:Array Oper} {l:Fl} {H:A4} {K:Fl→A4→Prop} (hok:Qn ops k=true) (hnd:(FX (ops.toList.take k)).Nodup)
 (h:Zz (H5 P nt rd) T nt A w k ops l H K):BI P nt rd ops (I0 ⟨l,df⟩) H fun e fr H'=>e= .normal∧∃l',fr=I0 ⟨l',df⟩∧K l' H':=by
 have rest:∀(l':Fl) (pl:RV) (pe:Pe) (tk:List Nat) (ex:Option D2) (H2:A4),OX (H5 P nt rd) (IK A 9000000 (ops.toList.take k)) tk l' H2 (fun l1 H3=>Lw (H5 P nt rd) A (FX (ops.toList.take k)) pl l1 H3 fun l'' H'=>NV (H5 P nt rd) T nt A ops (ops.toList.drop k) l'' H' K)→
  IG (IK A 9000000 (ops.toList.take k)) (Ad pl pe tk ex) (I0 ⟨l',df⟩) H2 fun fr1 H3=>Im A (FX (ops.toList.take k)) (Ad pl pe tk ex) fr1 H3 fun fr H'=>HV P A nt ops (ops.toList.drop k) fr H' fun fr H'=>.normal=Exit.normal∧∃l',fr=I0 ⟨l',df⟩∧K l' H':=fun l' pl pe tk ex H2 h=>by
  grind[Ut,RZ,LK,Iw,FP]
 unfold Zz at h
 obtain⟨ex,hX,h⟩:∃ex,(∀τ,ex=some τ→EN H τ)∧Zs (H5 P nt rd) w l (Ia H ex) fun ads pe H1=>ZA (H5 P nt rd) T nt A ads ops (ops.toList.take k) l [] pe [] ex H1 fun l' pv pe' tk=>At0 (H5 P nt rd) pe' H1 fun H2=>OX (H5 P nt rd) (IK A 9000000 (ops.toList.take k)) tk l' H2 fun l1 H3=>Lw (H5 P nt rd) A (FX (ops.toList.take k)) pv l1 H3 fun l'' H'=>NV (H5 P nt rd) T nt A ops (ops.toList.drop k) l'' H' K:=by
  unfold Zr at h
  split at h
  ·exact⟨none,fun _ h=>(by cases h),h⟩
  obtain⟨τ,h1,h2⟩:=h;exact⟨some τ,fun _ h=>(by simp_all),h2⟩
 unfold Zs at h
 cases w with
 |none=>
  refine BI.drawF (A:=A) (W:=[]) (dx:=IK A 9000000 (ops.toList.take k)) hok hnd hX (fun p hp=>by simp at hp) ?_
  have e0:pvW [] ex=Ad [] none [] ex:=by funext x;cases x<;>rfl
  rw[e0];refine Hc (fun fr pv ⟨l',pl,pe',tk',ex',e1,e2,_,e3,h⟩=>?_) _ _ _ (BR (df:=df) hT _ _ _ _ _ _ h);subst e1;subst e2
  cases pe' with
  |some p=>cases e3
  |none=>exact rest _ _ _ _ _ _ h
 | some p=>
  obtain⟨d,ads⟩:=p
  simp only at h
  split at h
  ·rename_i bid hl;obtain⟨cs,hk,h⟩:=h;refine BI.drawF (A:=A) (W:=[(bid,cs)]) (dx:=IK A 9000000 (ops.toList.take k)) hok hnd hX (fun p hp=>by simp_all) ?_
   have e0:pvW [(bid,cs)] ex=Ad [] (some (d,bid,cs)) [] ex:=by
    funext x
    cases x with
    |inl x=>rfl
    |inr x=>
     grind[pvW,Ad]
    |tk x=>rfl
    |ex=>rfl
   rw[e0];refine Hc (fun fr pv ⟨l',pl,pe',tk',ex',e1,e2,_,e3,h⟩=>?_) _ _ _ (BR (df:=df) hT _ _ _ _ _ _ h);subst e1;subst e2
   cases pe' with
   |none=>cases e3
   |some q=>
    obtain⟨d',id',cs'⟩:=q
    simp only[J4,E8]at e3
    subst e3
    have hp:Ad pl (some (d',id',cs')) tk' ex' (.inr id')=some cs':=by simp[Ad]
    unfold RC;rw[hp];exact rest _ _ (some (d',id',cs')) _ _ _ h
  grind
end
noncomputable def Af0 (xs:List V):Int:=List.rec (motive:=fun _=>Int) 0 (fun _ _ n=>n+1) xs
def Xu (xs:List V):Af0 xs=(xs.length:Nat):=by
 induction xs with
 |nil=>rfl
 |cons x xs ih=>
  have e:Af0 (x::xs)=Af0 xs+1:=rfl;rw[e,ih];simp
def ML (ops:Array Oper) (k:Nat):Bool:=
 k +3<ops.size&&(List.range ops.size).all fun i=>
  Bj (ops.getD i default) i&&
   (List.range i).all fun j=>(i<k&&Kz ops (ops.getD j default) (ops.getD i default))||IZ ops Nf i j||(i==k+3&&decide (k<j))
def Qm {ops:Array Oper}{k:Nat}(h:ML ops k=true):k+3<ops.size∧∀i,i<ops.size→Bj (ops.getD i default) i=true∧
 ∀j,j<i→(IZ ops Nf i j=true∨(i<k∧Kz ops (ops.getD j default) (ops.getD i default)=true))∨(i=k+3∧k<j):=by
 simp only[ML,H7,B2,DS,DM,Y2,Cu]at h
 exact⟨h.1,fun i hi=>⟨(h.2 i hi).1,fun j hj=>((h.2 i hi).2 j hj).imp Or.symm id⟩⟩
def neT (x:Operand)(t:Nat):Bool:=
 match x with
 | .tmp u=> !Nat.beq u t
 |_=>true
def We {x:Operand}{t:Nat}(h:neT x t=true):x≠ .tmp t:=by
 intro e;subst e;simp[neT]at h
def isNone {α:Type}:Option α→Bool
 |none=>true
 |some _=>false
def GG {α:Type}{o:Option α}(h:isNone o=true):o=none:=by
 cases o<;>simp[isNone]at h;rfl
def Ai7 (nt k:Nat) (ops:Array Oper):Option QE:=
 match(ops.getD k default).op,(ops.getD k default).dst,(ops.getD (k+1) default).op,(ops.getD (k+1) default).dst,(ops.getD (k+2) default).op,(ops.getD (k+3) default).op with
 | .call {callee:=.builtin .append,args:=⟨[sx,sy]⟩,argTypes:=⟨[sT,yT]⟩},some tA,.indexAddr t2 (.tmp tA2) nn,some tI,.store eT (.tmp tI2) zz,.store t3 (.tmp tp) (.tmp tA3)=>
  if(Nat.beq tA2 tA&&Nat.beq tA3 tA&&Nat.beq tI2 tI&&isNone (ops.getD k default).guard&&isNone (ops.getD (k+1) default).guard&&isNone (ops.getD (k+2) default).guard&&isNone (ops.getD (k+3) default).guard&&
   isNone (ops.getD (k+2) default).dst&&isNone (ops.getD (k+3) default).dst&& !Nat.beq tA tI&& !Nat.beq tp tA&& !Nat.beq tp tI&&neT nn tA&&neT zz tA&&neT zz tI&&Nat.ble (tA+1) nt&&Nat.ble (tI+1) nt)=true then
   some ⟨sx,sy,nn,zz,sT,yT,t2,eT,t3,tA,tI,tp⟩else none
 |_,_,_,_,_,_=>none
def Ai6 {nt k:Nat} {ops:Array Oper} {p:QE} (hl:k+3<ops.size) (h:Ai7 nt k ops=some p):Az5 ops nt k p:=by
 unfold Ai7 at h
 split at h
 ·rename_i sx sy sT yT tA t2 tA2 nn tI eT tI2 zz t3 tp tA3 e1 e2 e3 e4 e5 e6
  rw[Option.ite_none_right_eq_some]at h
  obtain⟨hc,h⟩:=h;cases h
  simp only[H7,V7]at hc
  obtain⟨⟨⟨⟨⟨⟨⟨⟨⟨⟨⟨⟨⟨⟨⟨⟨c1,c2⟩,c3⟩,c4⟩,c5⟩,c6⟩,c7⟩,c8⟩,c9⟩,c10⟩,c11⟩,c12⟩,c13⟩,c14⟩,c15⟩,c16⟩,c17⟩:=hc;have f1:=Bw c1;have f2:=Bw c2;have f3:=Bw c3;subst f1;subst f2;subst f3
  have ne:∀{a b:Nat},Nat.beq a b=false→a≠b:=fun h e=>by subst e;rw[Nat.beq_refl]at h;cases h
  exact⟨hl,e1,e2,GG c4,e3,e4,GG c5,e5,GG c8,GG c6,e6,GG c9,GG c7,ne c10,ne c11,ne c12,We c13,We c14,We c15,FO c16,FO c17⟩
 cases h
section
variable {P:Program}{nt:Nat}{ops:Array Oper}{H0:A4}
def AppT (P:Program) (nt:Nat) (A:QG) (ops:Array Oper) (k:Nat) (p:QE) (fr:Fr) (H:A4) (K:Fr→A4→Prop):Prop:=
 ∃ (xs:List V) (tl tl':D2) (y0 vV z:V) (kk:IntKind) (e:TypeId) (sz by_ idp offp:Nat),
  BV (ev fr p.sx) (.sl xs tl)∧ev fr p.sy= .sl [y0] tl'∧y0.cells.length=sz∧ev fr p.nn= .int kk (xs.length:Nat)∧BV (ev fr p.zz) vV∧vV.one=true∧vV.cells.length=sz∧
  EO P p.sT=some e∧(EO P p.yT).isSome=true∧EO P p.t2=some e∧Eh P e=some sz∧Eh P p.eT=some sz∧0<sz∧Ny P e=some by_∧0<by_∧HA P e=some z∧z.one=true∧z.cells.length=sz∧EN H tl∧
  xs.all (fun x=>x.cells.length==sz)=true∧(xs.length+1)*by_≤140737488355328∧fr.s p.tp= .ref idp offp∧Eh P p.t3=some 1∧
  ∀t,G0 H tl t=none→∃cs,upd (G0 H tl) t (some .spare) idp=some (.cells cs)∧offp+1≤cs.length∧
   HV P A nt ops (ops.toList.drop (k+4)) ((fr.put (some p.tA) (.sl (xs++[vV]) (.tok t))).put (some p.tI) .bad) (upd (upd (G0 H tl) t (some .spare)) idp (some (.cells (T5 cs offp [.sl (xs++[vV]) (.tok t)])))) K
def T4.appF {A:QG} {rd:Option Nat} {id k:Nat} {p:QE} {fr:Fr} {Q:Exit→Fr→A4→Prop} (hm:P.follows .mixedOrders=true) (hok:ML ops k=true) (hp:Az5 ops nt k p)
 (h:Iq P nt ops H0 (ops.toList.take k) fr (fun _=>none) fun fr' pv=>(∀x,pv x=none)∧AppT P nt A ops k p fr' H0 (Q .normal)):T4 P nt rd (.region id ops true) fr H0 Q:=by
 intro r g w a _ hR hF;refine wpIn_region_any hm ?_;obtain⟨hk3,hat⟩:=Qm hok
 have hk:k≤ops.size:=by omega
 have sd:U3 g w g w.drew:=⟨fun _ _ e=>e,fun _ _ e=>e,fun _ _ e=>e,rfl,fun _ _ _=>rfl,(U8 _ _).drew,fun _ _ _=>rfl,DK _⟩
 have hRd:Rl g H0 w.drew:=by
  refine⟨fun id b hb=>(hR.blk id b hb).mono hb sd fun _ _=>⟨rfl,fun _ ho=>ho⟩,hR.inj,hR.frz,hR.nxt,hR.bnd,fun n=>(hR.glb n).mono sd⟩
 have hI:WI nt H0 g w.drew fr (fun _=>none) g w.drew a:=
  ⟨H0,fun _=>0,U3.refl _ _,hRd,hF.mono sd,fun _ _ h=>h,fun d cs h=>(by cases h),fun d d' cs cs' h=>(by cases h),fun _=>none,fun d cs h=>(by cases h),fun d d' cs cs' t h=>(by cases h),fun cs h=>(by cases h)⟩
 have hmap:(List.range k).map (fun i=>ops.getD i default)=ops.toList.take k:=by
  apply Jw
  ·simp;omega
  intro i h1 h2
  simp at h1
  simp[Array.getD,show i<ops.size by omega]
 have hb:=Qy (r:=r) (Q:=QF nt g w Q) hk (fun i hi=>⟨(hat i hi).1,fun j hj=>by
  rcases(hat i hi).2 j hj with h|h
  ·exact h.imp (fun h=>h) .inl
  exact .inr (.inr (by omega))⟩) (K:=fun fr' pv=>(∀x,pv x=none)∧AppT P nt A ops k p fr' H0 (Q .normal)) (g0:=g) (w0:=w.drew)
  (fun g' w' a' fr' pv listed hsz hl hI' hK=>?_) k (List.range k) (Array.replicate ops.size false) fr (fun _=>none) (by simp) (NL) (fun i hi=>by simpa using hi) (by simp) (fun i b hi=>by simp[Array.getD,hi]) (fun m j hm _=>by simp[Array.getD]at hm) (by rw[hmap];exact h) g w.drew a hI
 ·rw[show k+(ops.size-k)=ops.size by omega]at hb
  exact hb
 obtain⟨H,ids,s,hR',hF',hext,hpv,hinj,_⟩:=hI';obtain⟨_,xs,tl,tl',y0,vV,z,kk,e,sz,by_,idp,offp,b1,b2,b3,b4,b5,b6,b7,b8,b9,b10,b11,b12,b13,b14,b15,b16,b17,b18,b19,b20,b21,b22,b23,b24⟩:=hK;have hR0:=hR'.less hext
 have hfresh:G0 H0 tl g'.nx=none:=by
  have:=(hR0.nxt _ (D3 _)).2.2
  cases hd:G0 H0 tl g'.nx with
  |none=>rfl
  |some b=>rw[EI hd]at this;cases this
 obtain⟨cs,c1,c2,_⟩:=b24 _ hfresh
 have hlc:LC ops listed fun i=>decide (i<k):=⟨hsz,hl,fun m j hm hj=>by
  have hms:m<ops.size:=by
   rcases G6 m ops.size with h|h
   ·exact h
   simp[Array.getD,show¬m<listed.size by omega]at hm
  rw[hl m false hms]at hm
  simp only[B2]at hm
  have hbw:=(hat m hms).1
  simp only[Bj,Array.all_eq_true]at hbw
  simp only[Dd,Ht,H7,Cu]at hj
  obtain⟨x,hx,rfl,hbx⟩:=hj;have:=hbw x hx
  simp only[hbx,M5,Hm,B2]at this
  rw[hl _ false (by omega)]
  simp only[B2];omega⟩
 have hidp:∀t cs,G0 H0 tl t=none→upd (G0 H0 tl) t (some .spare) idp=some (.cells cs)→H0 idp=some (.cells cs):=fun t cs ht h=>by
  by_cases e:idp=t
  ·subst e;rw[D6]at h;cases h
  rw[C3 _ _ e]at h;exact EI h
 have hUc:=hidp _ _ hfresh c1
 exact Ai4 (A:=A) (r:=r) (K:=Q .normal) (g0:=g) (w0:=w) hp (fun i hi=>⟨(hat i hi).1,fun j hj=>by
  rcases(hat i hi).2 j hj with(h|h)|h
  ·exact .inl h
  ·exact .inr (.inl h.1)
  exact .inr (.inr h)⟩)
  (fun g3 w3 a3 fr3 H3 s3 hR3 hF3 hK3=>⟨g3,fr3,H3,s3,hR3,hF3,hK3⟩) hlc b1 b2 b3 b4 b5 b6 b7 b8 b9 b10 b11 b12 b13 b14 b15 b16 b17 b18 b19 b20 b21 b22 hUc b23 c2
  (fun t ht=>by
   obtain⟨cs',d1,d2,d3⟩:=b24 t ht;have:=hidp _ _ ht d1
   rw[hUc]at this
   cases this
   exact d3) g' w' a' (sd.trans s) hR0 hF'
end
section
variable (E:Eg)(T:FY)(nt:Nat)(A:Nat→Bool)
def At2 (k :Nat) (p:QE) (ops:Array Oper) (l:Fl) (H:A4) (K:Fl→A4→Prop):Prop:=
 match(R0 [] l p.sx).V,(R0 [] l p.sy).V,(R0 [] l p.nn).V,lk l p.tp with
 | .sl xs tl,.sl [y0] _,.int _ m,.v (.ref idp offp)=>
  (match tg T p.sT,tg T p.yT,tg T p.t2,tg T p.eT,tg T p.t3 with
   | some I,some I2,some I3,some I4,some I5=>
    (match I.sl,I2.sl,I3.sl with
     | some e,some _,some e3=>
      (match tg T e with
       | some J=>
        (match J.ze with
         | some z=>
          if 0<J.sz∧0<J.by_∧z.one=true∧z.cells.length=J.sz∧e3=e∧I4.sz=J.sz∧I5.sz=1∧y0.cells.length=J.sz∧(R0 [] l p.zz).V.one=true∧(R0 [] l p.zz).V.cells.length=J.sz then
           E.need (m=Af0 xs) fun _=>
           E.appn J.sz J.by_ H tl xs [(R0 [] l p.zz).V] fun r H'=>E.storeP H' idp offp 1 [r] fun H''=>NV E T nt A ops (ops.toList.drop (k+4)) ((p.tI,.v .bad)::(p.tA,.v r)::l) H'' K
          else False
         |none=>False)
       |none=>False)
     |_,_,_=>False)
   |_,_,_,_,_=>False)
 |_,_,_,_=>False
def Av2 (k:Nat)(ops:Array Oper)(l:Fl)(H:A4)(K:Fl→A4→Prop):Prop:=
 match Ai7 nt k ops with
 |some p=>ZA E T nt A [] ops (ops.toList.take k) l [] none [] none H fun l' pv pe tk=>(match pv,pe,tk with|[],none,[]=>At2 E T nt A k p ops l' H K|_,_,_=>False)
 |none=>False
end
section
variable {P:Program}{nt:Nat}{rd:Option Nat}{T:FY}{A:Nat→Bool}{df:List Nat}
def VD (hT:Jb P T) {k:Nat} {ops:Array Oper} {l:Fl} {H:A4} {K:Fl→A4→Prop} {id:Nat} (hm:P.follows .mixedOrders=true) (hok:ML ops k=true)
 (h:Av2 (H5 P nt rd) T nt A k ops l H K):T4 P nt rd (.region id ops true) (I0 ⟨l,df⟩) H fun e fr H'=>e= .normal∧∃l',fr=I0 ⟨l',df⟩∧K l' H':=by
 unfold Av2 at h
 split at h
 ·rename_i p hpat;have hp:=Ai6 (Qm hok).1 hpat;refine T4.appF (A:=A) hm hok hp ?_
  have e0:(fun _=>none:Pv)=Ad [] none [] none:=by funext x;cases x<;>rfl
  rw[e0];refine Hc (fun fr pv ⟨l',pl,pe',tk',ex',e1,e2,e4,e3,h⟩=>?_) _ _ _ (BR (df:=df) hT _ _ _ _ _ _ h);cases e4 rfl;subst e1;subst e2
  split at h
  ·refine ⟨fun x=>by cases x<;>rfl,?_⟩
   unfold At2 at h
   split at h
   ·rename_i xs tl y0 tl' kk m idp offp hx hy hn htp
    split at h
    ·rename_i I I2 I3 I4 I5 h1 h2 h3 h4 h5
     split at h
     ·rename_i e e2 e3' q1 q2 q3
      split at h
      ·rename_i J hJ
       split at h
       ·rename_i z hz
        have ez:=(G8 hT hJ).ze;rw[hz]at ez;simp only[BO]at ez
        split at h
        ·rename_i hc;obtain⟨c1,c2,c3,c4,c5,c6,c7,c8,c9,c10⟩:=hc;obtain⟨hm',xs',ys',a1,a2,a3,a4,a5,a6,a7,a8⟩:=h;have E':∀x,(R0 [] l' x).V=ev (I0 ⟨l',df⟩) x:=fun x=>DH Jd.nil x
         rw[E']at hx hy hn c9 c10
         rw[E']at a2
         obtain⟨vV,rfl,hle⟩:∃vV,ys'=[vV]∧BV (ev (I0 ⟨l',df⟩) p.zz) vV:=by
          cases a2 with
          |cons q r=>cases r;exact⟨_,rfl,q⟩
         have hl:=a1.length
         refine⟨xs',tl,tl',y0,vV,z,kk,e,J.sz,J.by_,idp,offp,by rw[hx];exact .slt _ a1,hy,c8,by rw[hn,hm',Xu,hl],hle,hle.one c9,by rw[←hle.cells.length];exact c10,
          (G8 hT h1).sl.trans q1,by rw[(G8 hT h2).sl,q2];rfl,by rw[(G8 hT h3).sl,q3,c5],(G8 hT hJ).sz,by rw[(G8 hT h4).sz,c6],c1,(G8 hT hJ).by_,c2,ez,c3,c4,a3,a4,by simpa using a6,
          Ks l' p.tp _ htp (fun _ _ _ h=>by cases h),by rw[(G8 hT h5).sz,c7],fun t ht=>?_⟩
         obtain⟨cs,g1,g2,g3⟩:=a8 t (by simp) ht;refine⟨cs,g1,FO g2,?_⟩;have:=FP (df:=df) hT _ _ _ g3
         have ef:I0 ⟨(p.tI,.v .bad)::(p.tA,.v (.sl (xs'++[vV]) (.tok t)))::l',df⟩=((I0 ⟨l',df⟩).put (some p.tA) (.sl (xs'++[vV]) (.tok t))).put (some p.tI) .bad:=by
          have e1:=N6 (df:=df) ((p.tA,.v (.sl (xs'++[vV]) (.tok t)))::l') (some p.tI) (.v .bad);have e2:=N6 (df:=df) l' (some p.tA) (.v (.sl (xs'++[vV]) (.tok t)))
          simp only[Dj]at e1 e2
          rw[e1,e2];rfl
         rw[ef]at this
         exact Ni (fun fr H' ⟨l'',e,hk⟩=>⟨rfl,l'',e,hk⟩) _ _ _ this
        exact h.elim
       exact h.elim
      exact h.elim
     exact h.elim
    exact h.elim
   exact h.elim
  exact h.elim
 exact h.elim
end
end Go.Ab
namespace Go.Ab
open Go.RowKit
variable [L6]
def Af3:Op→Option Operand
 | .move x=>some x
 | .assign x=>some x
 |_=>none
def odd:Op→Bool
 | .defer _=>true
 | .select _ _=>true
 |_=>false
def hi (m i:Nat):Nat:=if i=m then 0 else if i<m then i+1 else i
def Lb (m:Nat)(o:Oper):Oper:={o with after:= #[⟨0,.data⟩]++o.after.map fun e=>{e with on:=hi m e.on},guard:=o.guard.map fun p=>(hi m p.1,p.2)}
def U1 (m:Nat)(ops:Array Oper):Array Oper:=({ops.getD m default with after:= #[]}::((ops.toList.eraseIdx m).map (Lb m))).toArray
def ON (m:Nat) (ops:Array Oper):Bool:=
 Nat.blt m ops.size&&(Af3 (ops.getD m default).op).isSome&&(ops.getD m default).dst.isSome&&(ops.getD m default).guard.isNone&&(ops.getD m default).after.all (fun e=> !Region.binds .any e)&&
  (List.range ops.size).all fun j=>j==m||(!odd (ops.getD j default).op&&(Dd (ops.getD j default) m||(ops.getD m default).apart ops (ops.getD j default)))
def Aw7 (ops:Array Oper):Bool:=(List.range ops.size).all fun i=>(ops.getD i default).after.all fun e=>Nat.blt e.on ops.size
def Gg:List (Nat×Nat)→Nat→List Nat
 |[],_=>[]
 |(x,y)::l,n=>match n==x with|true=>y::Gg l n|false=>Gg l n
def hoistAll:List Nat→Array Oper→Array Oper
 |[],ops=>ops
 |m::ms,ops=>hoistAll ms (U1 m ops)
def PJ:List Nat→Array Oper→Bool
 |[],_=>true
 |m::ms,ops=>ON m ops&&Aw7 ops&&PJ ms (U1 m ops)
section
variable {P:Program}{ops:Array Oper}{Q:Exit→Act→World→Prop}{F:Fence}{n:Nat}
def Lm {oi:Oper} {x:Operand} (hx:x∈oi.op.operands) {a:Act} {e:Option Tmp} {u:Value} (h:∀d,e=some d→d∉oi.looksAt ops):(a.put e u).eval x=a.eval x:=
 Act.eval_put fun d hd hxd=>h d hd (by
  subst hxd
  exact R6 _ (List.mem_filterMap.2 ⟨.tmp d,by simpa using hx,rfl⟩))
def YA {j:Nat} {oi oj:Oper} {x:Operand} (hj:ops[j]? =some oj) (hx:x∈oi.op.operands) (hap:oi.apart ops oj=true) (hd:∀c,oj.op≠ .defer c) (hs:∀cs b,oj.op≠ .select cs b) (hQ:∀c a w,¬Q (.panic c) a w)
 {K:Act→World→Prop} {a:Act} {w:World} (h:wpOpIn F n P ops Q j K (a.put oi.dst (a.eval x)) w):wpOpIn F n P ops Q j (fun a' w'=>K (a'.put oi.dst (a'.eval x)) w') a w:=by
 obtain⟨h1,h2,h3⟩:=Oper.apart_spec hap
 have fin:∀u w',K ((a.put oi.dst (a.eval x)).put oj.dst u) w'→K ((a.put oj.dst u).put oi.dst ((a.put oj.dst u).eval x)) w':=fun u w' hk=>by
  rw[Lm hx h3,←Act.put_comm a _ u h2];exact hk
 unfold wpOpIn at h ⊢
 simp only[hj]at h ⊢
 rw[wanted_put oj a oi.dst _ h1,about_put oj w a oi.dst _ h1]at h
 by_cases hw:Region.wanted oj (yielded ops a.tmps)=true
 ·rw[A1 hw]at h ⊢
  unfold Oper.wpIn at h ⊢
  rw[about_put oj w a oi.dst _ h1]at h
  refine⟨h.1,?_⟩;replace h:=h.2
  rw[AI _ _ _ hd,execOp_put oj hs a oi.dst _ h1]at h
  rw[AI _ _ _ hd]
  cases hr:(execOp a.eval oj).run P w with
  | ok y w'=>
   rw[hr]at h
   cases y with
   |value u=>exact fin u w' h
   |skip=>exact fin undef w' h
   |defer d=>
    simp only[Oper.uponIn]at h ⊢
    have e1:({a with defers:=d::a.defers}:Act).eval x=a.eval x:=rfl;have e2:(({a with defers:=d::a.defers}:Act).put oj.dst undef).eval x=a.eval x:=(Lm (a:={a with defers:=d::a.defers}) hx h3).trans e1;rw[e2,←Act.put_comm _ _ undef h2,←Act.put_defers];exact h
   |enter f args=>
    simp only[Oper.uponIn]at h ⊢
    refine⟨h.1,CallsIn.mono h.2 fun e w2 he=>?_⟩
    cases e with
    |returned u=>exact fin u w2 he
    |panicked c=>exact absurd he (hQ _ _ _)
    |outgrown=>exact he
   |row row args=>
    simp only[Oper.uponIn]at h ⊢
    exact⟨h.1,RowsIn.mono h.2 fun u w2 he=>fin u w2 he⟩
   |round l f tmps assign body=>
    simp only[Oper.uponIn]at h ⊢
    refine⟨h.1,RoundIn.mono h.2 fun e w2 he=>?_⟩
    cases e with
    |returned u=>exact fin u w2 he
    |panicked c=>exact absurd he (hQ _ _ _)
    |outgrown=>exact he
   |_=>exact h
  |halt y w'=>
   rw[hr]at h
   cases y with
   |panic c=>exact absurd h (hQ _ _ _)
   |_=>exact h
 rw[A3 hw]at h ⊢
 exact⟨h.1,fin undef w h.2⟩
def Zh {m:Nat} {oi:Oper} {x:Operand} (hm:ops[m]? =some oi) (ho:oi.op= .move x∨oi.op= .assign x) (hg:oi.guard=none) (hb:∀e∈oi.after,Region.binds .any e=false)
 (hfree:∀j oj,ops[j]? =some oj→j≠m→((∀c,oj.op≠ .defer c)∧∀cs b,oj.op≠ .select cs b)∧((∃e∈oj.after,Region.binds .any e=true∧e.on=m)∨oi.apart ops oj=true)) (hQ:∀c a w,¬Q (.panic c) a w):
 ∀(fuel:Nat) (listed:Array Bool) (a:Act) (w:World),listed.getD m true=false→
  wpAnyIn F n P .any ops Q fuel (listed.setIfInBounds m true) (a.put oi.dst (a.eval x)) w→wpAnyIn F n P .any ops Q (fuel+1) listed a w:=by
 have hx:x∈oi.op.operands:=by rcases ho with ho|ho<;>simp[ho,Op.operands]
 have hready:∀listed:Array Bool,listed.getD m true=false→m∈Region.ready .any ops listed:=fun listed hl=>
  Go.mem_ready.2 ⟨hl,oi,hm,fun e he hbe=>by rw[hb e he]at hbe;cases hbe⟩
 have first:∀(listed:Array Bool) (a:Act) (w:World) (K:Act→World→Prop),K (a.put oi.dst (a.eval x)) w→wpOpIn F n P ops Q m K a w:=fun listed a w K hk=>by
  unfold wpOpIn;simp only[hm];rw[A1 (by simp[Region.wanted,hg])];refine⟨fun f hf=>?_,?_⟩
  ·unfold Oper.about at hf
   rcases ho with ho|ho<;>(rw[ho]at hf;cases hf)
  rw[AI _ _ _ fun c=>by rcases ho with ho|ho<;>simp[ho]]
  have:(execOp a.eval oi).run P w= .ok (.value (a.eval x)) w:=by
   unfold execOp
   rcases ho with ho|ho<;>(rw[ho];rfl)
  rw[this];exact hk
 intro fuel
 induction fuel with
 |zero=>
  intro listed a w hl H;refine⟨fun h=>(by have:=hready listed hl;rw[h]at this;cases this),fun j hj=>?_⟩
  by_cases hji:j=m
  ·subst hji;exact first listed a w _ H
  have:=ready_mono hj hji
  rw[H.1]at this
  cases this
 | succ fuel ih=>
  intro listed a w hl H;refine⟨fun h=>(by have:=hready listed hl;rw[h]at this;cases this),fun j hj=>?_⟩
  by_cases hji:j=m
  ·subst hji;exact first listed a w _ H
  have h1:=H.2 j (ready_mono hj hji);obtain⟨_,oj,hoj,hall⟩:=Go.mem_ready.1 hj;obtain⟨⟨hd,hs⟩,hor⟩:=hfree j oj hoj hji
  have hap:oi.apart ops oj=true:=by
   rcases hor with⟨e,he,hbe,heq⟩|h
   ·exfalso;have h3:=hall e he hbe
    rw[heq]at h3
    rcases G6 m listed.size with h'|h'
    ·simp[Array.getD,h']at hl h3;rw[hl]at h3;cases h3
    simp[Array.getD,show¬m<listed.size by omega]at h3
   exact h
  have h2:=YA hoj hx hap hd hs hQ h1;refine wpOpIn_mono (fun a' w' h3=>ih (listed.setIfInBounds j true) a' w' ?_ ?_) h2
  ·rw[getD_set_ne true (fun e=>hji e)];exact hl
  rw[NQ _ _ hji];exact h3
end
section
variable {m:Nat}{ops:Array Oper}
def IJ (h:m<ops.size):(U1 m ops).size=ops.size:=by
 simp[U1,List.length_eraseIdx,h];omega
def LP:(U1 m ops)[0]? =some {ops.getD m default with after:= #[]}:=by simp[U1]
def MC {i:Nat}{o:Oper}(h:ops[i]? =some o)(hne:i≠m):(U1 m ops)[hi m i]? =some (Lb m o):=by
 unfold U1 hi;rw[A3 hne]
 have hl:ops.toList[i]? =some o:=by rw[Cr];exact h
 split
 ·rename_i hlt;simp only[Q1,Ai,V8,GK,A1 hlt,hl,J4]
 rename_i hge;obtain⟨k,rfl⟩:∃k,i=k+1:=⟨i-1,by omega⟩;simp only[Q1,Ai,V8,GK,A3 (show¬k<m by omega),hl,J4]
def Ag0 {i j:Nat}(h:hi m i=hi m j):i=j:=by
 unfold hi at h
 split at h<;>split at h<;>(try split at h)<;>(try split at h)<;>omega
def Af9 {i:Nat}(h:i<ops.size)(hm:m<ops.size):hi m i<ops.size:=by
 unfold hi;split<;>(try split)<;>omega
def Aq0 {k:Nat}(h:k<ops.size)(hm:m<ops.size):∃i,i<ops.size∧hi m i=k:=by
 by_cases h0:k=0
 ·exact⟨m,hm,by unfold hi;rw[A1 rfl,h0]⟩
 by_cases hk:k≤m
 ·exact⟨k-1,by omega,by unfold hi;rw[A3 (by omega),A1 (by omega)];omega⟩
 exact⟨k,h,by unfold hi;rw[A3 (by omega),A3 (by omega)]⟩
end
section
variable {P:Program}{ops:Array Oper}{Q:Exit→Act→World→Prop}{F:Fence}{n m:Nat}
def QH (hm:m<ops.size) (t:Array Value) (j:Nat):yielded (U1 m ops) t (hi m j)=yielded ops t j:=by
 unfold yielded
 have:((U1 m ops)[hi m j]?).bind (·.dst)=(ops[j]?).bind (·.dst):=by
  by_cases hjm:j=m
  ·subst hjm
   have:hi j j=0:=by unfold hi;rw[A1 rfl]
   rw[this,LP];simp[Ak hm,Array.getD,hm]
  cases hj:ops[j]? with
  |some o=>rw[MC hj hjm];rfl
  | none=>
   have hs:ops.size≤j:=by rw[NS]at hj;exact hj
   have:(U1 m ops)[hi m j]? =none:=by
    rw[NS,IJ hm];unfold hi;rw[A3 hjm,A3 (by omega)];exact hs
   rw[this]
 rw[this]
def Ac5 (hm:m<ops.size) {i:Nat} {o:Oper} (hi':ops[i]? =some o) (hne:i≠m) {K:Act→World→Prop} {a:Act} {w:World} (h:wpOpIn F n P (U1 m ops) Q (hi m i) K a w):wpOpIn F n P ops Q i K a w:=by
 unfold wpOpIn at h ⊢
 rw[MC hi' hne]at h
 rw[hi']
 have hw:Region.wanted (Lb m o) (yielded (U1 m ops) a.tmps)=Region.wanted o (yielded ops a.tmps):=by
  unfold Region.wanted Lb
  cases hg:o.guard with
  |none=>rfl
  |some p=>
   obtain⟨j,want⟩:=p;simp only[J4,QH hm]
 simp only[hw]at h
 exact h
def Ar7 (hm:m<ops.size):∀(fuel:Nat) (listed listed':Array Bool) (a:Act) (w:World),listed.size=ops.size→listed'.size=ops.size→listed.getD m false=true→(∀i,i<ops.size→listed'.getD (hi m i) false=listed.getD i false)→
 (∀(i:Nat) (o:Oper),ops[i]? =some o→∀e∈o.after,e.on<ops.size)→
 wpAnyIn F n P .any (U1 m ops) Q fuel listed' a w→wpAnyIn F n P .any ops Q fuel listed a w:=by
 intro fuel
 have e0:∀(l:Array Bool) (i:Nat),l.size=ops.size→i<ops.size→l.getD i true=l.getD i false:=fun l i hl h=>by simp[Array.getD,show i<l.size by omega]
 have fwd:∀(listed listed':Array Bool),listed.size=ops.size→listed'.size=ops.size→listed.getD m false=true→(∀i,i<ops.size→listed'.getD (hi m i) false=listed.getD i false)→(∀(i:Nat) (o:Oper),ops[i]? =some o→∀e∈o.after,e.on<ops.size)→
  ∀i,i∈Region.ready .any ops listed→i≠m∧i<ops.size∧hi m i∈Region.ready .any (U1 m ops) listed':=fun listed listed' s1 s2 hlm hrel hon i hi'=>by
  obtain⟨h1,o,ho,h2⟩:=Go.mem_ready.1 hi';have hil:=(Array.getElem?_eq_some_iff.1 ho).1
  have hne:i≠m:=fun e=>by subst e;rw[e0 _ _ s1 hil,hlm]at h1;cases h1
  refine⟨hne,hil,Go.mem_ready.2 ⟨?_,_,MC ho hne,fun e he hb=>?_⟩⟩
  ·rw[e0 _ _ s2 (Af9 hil hm),hrel i hil,←e0 _ _ s1 hil];exact h1
  simp only[Lb,DR,Array.mem_map]at he
  rcases he with he|⟨e',he',rfl⟩
  ·simp at he;subst he
   have:=hrel m hm
   rw[show hi m m=0 by unfold hi;rw[A1 rfl],hlm]at this
   exact this
  have hb':Region.binds .any e'=true:=by simpa[Region.binds]using hb
  simp only
  rw[hrel _ (hon i o ho e' he')];exact h2 e' he' hb'
 have bwd:∀(listed listed':Array Bool),listed.size=ops.size→listed'.size=ops.size→listed.getD m false=true→(∀i,i<ops.size→listed'.getD (hi m i) false=listed.getD i false)→(∀(i:Nat) (o:Oper),ops[i]? =some o→∀e∈o.after,e.on<ops.size)→
  Region.ready .any ops listed=[]→Region.ready .any (U1 m ops) listed'=[]:=fun listed listed' s1 s2 hlm hrel hon h=>by
  rw[JN];intro k hk;obtain⟨h1,o',ho',h2⟩:=Go.mem_ready.1 hk
  have hkl:k<ops.size:=by rw[←IJ hm];exact(Array.getElem?_eq_some_iff.1 ho').1
  obtain⟨i,hil,rfl⟩:=Aq0 (ops:=ops) hkl hm
  have h3:listed.getD i true=false:=by rw[e0 _ _ s1 hil,←hrel i hil,←e0 _ _ s2 hkl];exact h1
  have hne:i≠m:=fun e=>by subst e;rw[e0 _ _ s1 hil,hlm]at h3;cases h3
  have hoi:=Ak hil
  rw[MC hoi hne]at ho'
  cases ho'
  have:i∈Region.ready .any ops listed:=Go.mem_ready.2 ⟨h3,_,hoi,fun e he hb=>by
   have:=h2 {e with on:=hi m e.on} (by simp only[Lb,DR,Array.mem_map];exact .inr ⟨e,he,rfl⟩) (by simpa[Region.binds]using hb)
   rw[hrel _ (hon i _ hoi e he)]at this
   exact this⟩
  rw[h]at this;cases this
 induction fuel with
 |zero=>
  intro listed listed' a w s1 s2 hlm hrel hon H;refine⟨?_,H.2⟩;rw[JN];intro i hi';obtain⟨_,_,h3⟩:=fwd listed listed' s1 s2 hlm hrel hon i hi'
  rw[H.1]at h3;cases h3
 | succ fuel ih=>
  intro listed listed' a w s1 s2 hlm hrel hon H;refine⟨fun h=>H.1 (bwd listed listed' s1 s2 hlm hrel hon h),fun i hi'=>?_⟩;obtain⟨hne,hil,h3⟩:=fwd listed listed' s1 s2 hlm hrel hon i hi';have h4:=H.2 _ h3;refine wpOpIn_mono (fun a' w' h5=>ih (listed.setIfInBounds i true) (listed'.setIfInBounds (hi m i) true) a' w' (by simpa using s1) (by simpa using s2) ?_ (fun j hj=>?_) hon h5) (Ac5 hm (Ak hil) hne h4)
  ·rw[getD_set_ne false hne];exact hlm
  by_cases e:j=i
  ·subst e
   have h6:hi m j<listed'.size:=by rw[s2];exact Af9 hil hm
   simp[Array.getD,h6,show j<listed.size by omega]
  rw[getD_set_ne false (fun x=>e x.symm),getD_set_ne false (fun x=>e (Ag0 x).symm)];exact hrel j hj
end
def BI.hoist {P:Program} {nt m:Nat} {rd:Option Nat} {ops:Array Oper} {fr:Fr} {H:A4} {Q:Exit→Fr→A4→Prop} (hok:ON m ops=true) (hon:Aw7 ops=true) (hQ:∀c fr H,¬Q (.panic c) fr H) (h:BI P nt rd (U1 m ops) fr H Q):BI P nt rd ops fr H Q:=by
 unfold Aw7 at hon
 intro r g w a hr hR hF;have h:=h r g w a hr hR hF
 simp only[ON,H7,DS,DM,Y2,Cu,V7]at hok
 obtain⟨⟨⟨⟨⟨h1,h2⟩,h3⟩,h4⟩,h5⟩,h6⟩:=hok
 have hm:m<ops.size:=by simpa[Nat.blt_eq]using h1
 have hget:∀i,i<ops.size→ops[i]? =some (ops.getD i default):=fun i hi=>by simp[Array.getD,hi]
 have hom:=hget m hm
 generalize hoi:ops.getD m default=oi at *
 obtain⟨x,hx⟩:=Option.isSome_iff_exists.1 h2
 have ho:oi.op= .move x∨oi.op= .assign x:=by
  cases hop:oi.op<;>rw[hop]at hx<;>simp[Af3]at hx<;>simp[hx]
 have hg:oi.guard=none:=by simpa using h4
 obtain⟨s,hs⟩:∃s,ops.size=s+1:=⟨ops.size-1,by omega⟩;rw[hs]
 refine Zh hom ho hg (fun e he=>by
  have:=Array.all_eq_true_iff_forall_mem.1 h5 e he
  simpa using this) (fun j oj hj hne=>?_) (fun c a' w' ⟨_,fr',H',_,_,_,hq⟩=>hQ _ _ _ hq) s _ a _ (by simp[Array.getD,show m<s+1 by omega]) ?_
 ·have hjl:=(Array.getElem?_eq_some_iff.1 hj).1
  have ej:ops.getD j default=oj:=by have:=hget j hjl;rw[hj]at this;exact(Ck this).symm
  rcases h6 j hjl with h7|⟨h7,h8⟩
  ·exact absurd h7 hne
  rw[ej]at h7 h8
  refine⟨⟨fun c hc=>(by rw[hc]at h7;cases h7),fun cs b hc=>(by rw[hc]at h7;cases h7)⟩,?_⟩
  rcases h8 with h8|h8
  ·left
   simp only[Dd,Ht,H7,Cu]at h8
   obtain⟨k,hk,e1,e2⟩:=h8;exact⟨oj.after[k],Array.getElem_mem hk,e2,e1⟩
  exact .inr h8
 have hs':(U1 m ops).size=s+1:=by rw[IJ hm,hs]
 rw[hs']at h
 have hz:(0:Nat)∈Region.ready .any (U1 m ops) (Array.replicate (s+1) false):=
  Go.mem_ready.2 ⟨by simp[Array.getD],_,LP,fun e he=>by simp at he⟩
 have h7:=h.2 0 hz
 unfold wpOpIn at h7
 rw[LP,hoi]at h7
 simp only at h7
 rw[A1 (by simp[Region.wanted,hg])]at h7
 have h8:=h7.2
 have hsem:({oi with after:= #[]}:Oper).semAt (Fw r).round a.eval=execOp a.eval {oi with after:= #[]}:=AI _ _ _ fun c=>by rcases ho with ho|ho<;>simp[ho]
 rw[hsem]at h8
 have hrun:(execOp a.eval ({oi with after:= #[]}:Oper)).run P w.drew= .ok (.value (a.eval x)) w.drew:=by
  unfold execOp
  rcases ho with ho|ho<;>(simp only[ho];rfl)
 rw[hrun]at h8
 refine Ar7 hm s _ ((Array.replicate (s+1) false).setIfInBounds 0 true) _ _ (by simp[hs]) (by simp[hs]) ?_ (fun i hil=>?_) (fun i o hoo e he=>?_) h8
 ·simp[Array.getD,show m<s+1 by omega]
 ·by_cases e:i=m
  ·subst e
   have:hi i i=0:=by unfold hi;rw[A1 rfl]
   rw[this];simp[Array.getD,show i<s+1 by omega]
  have hne:hi m i≠0:=fun h=>by
   have:hi m i=hi m m:=by rw[h];unfold hi;rw[A1 rfl]
   exact e (Ag0 this)
  rw[getD_set_ne false (fun x=>hne x.symm),getD_set_ne false (fun x=>e x.symm)];have:=Af9 (ops:=ops) hil hm;simp[Array.getD,show i<s+1 by omega,show hi m i<s+1 by omega]
 have hil:=(Array.getElem?_eq_some_iff.1 hoo).1;have:=List.all_eq_true.1 hon i (List.mem_range.2 hil)
 have e2:ops.getD i default=o:=by have:=hget i hil;rw[hoo]at this;exact(Ck this).symm
 rw[e2]at this
 have:=Array.all_eq_true_iff_forall_mem.1 this e he
 simpa[Nat.blt_eq]using this
def BI.hoistAll {P:Program} {nt:Nat} {rd:Option Nat} {fr:Fr} {H:A4} {Q:Exit→Fr→A4→Prop} (hQ:∀c fr H,¬Q (.panic c) fr H):∀(ms:List Nat) (ops:Array Oper),PJ ms ops=true→BI P nt rd (hoistAll ms ops) fr H Q→BI P nt rd ops fr H Q
 |[],ops,_,h=>h
 |m::ms,ops,hok,h=>by
  simp only[PJ,H7]at hok
  exact BI.hoist hok.1.1 hok.1.2 hQ (BI.hoistAll hQ ms _ hok.2 h)
section
variable (P:Program)(A:QG)(nt:Nat)(ops:Array Oper)
def At4 (o:Oper) (fr:Fr) (H:A4) (K:Fr→A4→Prop):Prop:=
 Gs nt o.dst=true∧
  match Bh ops fr o with
  |some true=>Hi P A o (ev fr) H fun v H'=>K (fr.put o.dst v) H'
  |some false=>K (fr.put o.dst (.tup [])) H
  |none=>False
def Vp:Nat→Array Bool→Fr→A4→(Fr→A4→Prop)→Prop
 |0,listed,fr,H,K=>Region.ready .any ops listed=[]∧K fr H
 | n +1,listed,fr,H,K=>(Region.ready .any ops listed=[]→K fr H)∧
     ∀i∈Region.ready .any ops listed,At4 P A nt ops (ops.getD i default) fr H fun fr' H'=>Vp n (listed.setIfInBounds i true) fr' H' K
end
section
variable {P:Program}{nt:Nat}{ops:Array Oper}{A:QG}{r:Option Nat}{K:Fr→A4→Prop}{Q:Exit→Act→World→Prop}{g0:Gh}{w0:World}
def XN (hQ:∀g w a fr H,U3 g0 w0 g w→Rl g H w→FR nt g w a fr→K fr H→Q .normal a w):
 ∀(n:Nat) (listed:Array Bool) (fr:Fr) (H:A4),Vp P A nt ops n listed fr H K→
  ∀g w a,U3 g0 w0 g w→Rl g H w→FR nt g w a fr→wpAnyIn (Fw r) 0 P .any ops Q n listed a w
 |0,listed,fr,H,h,g,w,a,s,hR,hF=>⟨h.1,hQ g w a fr H s hR hF h.2⟩
 |n+1,listed,fr,H,h,g,w,a,s,hR,hF=>by
  refine⟨fun e=>hQ g w a fr H s hR hF (h.1 e),fun i hi=>?_⟩;obtain⟨h1,_,_⟩:=mem_ready hi;have hs:=h.2 i hi
  have eo:ops.getD i default=ops[i]:=by simp[Array.getD,h1]
  rw[eo]at hs
  obtain⟨hd,hs⟩:=hs;have ih:=XN hQ n (listed.setIfInBounds i true);simp only[wpOpIn,Ak h1]
  split at hs
  ·rename_i hg;rw[A1 (W9 hF.s hg)];exact Re hR hF hd hs fun g' w' a' v H' s' hR' hF' hK=>ih _ _ hK g' w' a' (s.trans s') hR' hF'
  ·rename_i hg;rw[A3 (by rw[W9 hF.s hg];simp)];exact⟨fun _ _=>trivial,ih _ _ hs g w _ s hR (hF.put (EH hd) (VR.und _ _))⟩
  exact hs.elim
def BI.all {rd:Option Nat} {fr:Fr} {H0:A4} {Q:Exit→Fr→A4→Prop} (h:Vp P A nt ops ops.size (Array.replicate ops.size false) fr H0 (Q .normal)):BI P nt rd ops fr H0 Q:=by
 intro r g w a _ hR hF;have sd:U3 g w g w.drew:=⟨fun _ _ e=>e,fun _ _ e=>e,fun _ _ e=>e,rfl,fun _ _ _=>rfl,(U8 _ _).drew,fun _ _ _=>rfl,DK _⟩
 have hRd:Rl g H0 w.drew:=by
  refine⟨fun id b hb=>(hR.blk id b hb).mono hb sd fun _ _=>⟨rfl,fun _ ho=>ho⟩,hR.inj,hR.frz,hR.nxt,hR.bnd,fun n=>(hR.glb n).mono sd⟩
 exact XN (r:=r) (g0:=g) (w0:=w) (fun g' w' a' fr' H' s' hR' hF' hK=>⟨g',fr',H',s',hR',hF',hK⟩) _ _ fr H0 h g w.drew a sd hRd (hF.mono sd)
end
end Go.Ab
namespace Go.Ab
open Go.RowKit
variable [L6][Ar]
def Ay1:List Nat→(Nat→Prop)→Prop
 |[],_=>True
 |[i],f=>f i
 |i::l,f=>f i∧Ay1 l f
def Vo:∀{l:List Nat} {f:Nat→Prop},Ay1 l f→∀i∈l,f i
 |[],_,_,i,h=>by cases h
 |[a],f,h,i,hi=>by rw[List.mem_singleton.1 hi];exact h
 |a::b::l,f,h,i,hi=>by
  rcases List.mem_cons.1 hi with rfl|hi
  ·exact h.1
  exact Vo h.2 i hi
section
variable (E:Eg)(T:FY)(nt:Nat)(A:Nat→Bool)(ops:Array Oper)
def As7 (o:Oper)(l:Fl)(H:A4)(K:Fl→A4→Prop):Prop:=
 match Gs nt o.dst with
 |true=>GN E ops o 4 l (fun G l' wr=>Zx E T A G o l' H fun s H'=>K (Dj o.dst (wr s) l') H') fun l'=>K (Dj o.dst (.v (.tup [])) l') H
 |false=>False
end
section
variable {P:Program}{nt:Nat}{rd:Option Nat}{T:FY}{A:Nat→Bool}{df:List Nat}
end
end Go.Ab
namespace Go.Ab
open Go.RowKit
variable [L6]
section
variable {P:Program}
def YD {A:QG} {o:Oper} {ρ ρ':Operand→V} {H:A4} {K:V→A4→Prop} (hρ:∀x∈o.op.operands,ρ x=ρ' x) (h:Hi P A o ρ H K):Hi P A o ρ' H K:=by
 have hq:∀{v},Md P o ρ H v→Md P o ρ' H v:=Nk hρ
 unfold Hi at h ⊢
 cases ho:o.op<;>simp only[ho]at h ⊢ hρ<;>first
  |exact h
  |(obtain⟨v,h1,h2⟩:=h;exact⟨v,hq h1,h2⟩)
  | (simp only[Op.operands,FI,FC,List.not_mem_nil,or_false,forall_eq_or_imp,forall_eq]at hρ
     first
      |(rw[←hρ];exact h)
      |(rw[←hρ.1,←hρ.2];exact h)
      |(rw[←hρ.1,←hρ.2.1,←hρ.2.2];exact h))
  |skip
 ·rename_i t n ps
  have e:ps.toList.map (fun p=>(p.1,ρ p.2))=ps.toList.map (fun p=>(p.1,ρ' p.2)):=X3 fun p hp=>by rw[hρ p.2 (by simp only[Op.operands,FI,FA];grind)]
  rw[←e]
  grind
 ·rename_i op t x y _;rw[←hρ x (by simp[Op.operands]),←hρ y (by simp[Op.operands])]
  grind
 rename_i c;have hargs:c.args.toList.map ρ=c.args.toList.map ρ':=X3 fun p hp=>hρ p (by simp only[Op.operands,Call.operands,DR];simp_all);rw[←hargs]
 cases hc:c.callee with
 |value f=>
  simp only[hc]at h ⊢
  rw[←hρ f (by simp[Op.operands,Call.operands,hc])];exact h
 |builtin b=>rw[hc]at h;cases b<;>exact h
 |_=>rw[hc]at h;exact h.elim
def Nc:Op→Bool
 | .move _=>true
 | .assign _=>true
 | .pick _ _ _=>true
 | .build _ _=>true
 | .binOp _ _ _ _ _=>true
 | .unOp _ _ _=>true
 | .fieldAddr _ _ _=>true
 | .field _ _ _=>true
 | .extract _ _=>true
 | .load _ _=>true
 | .call c=>match c.callee with| .builtin .len=>true|_=>false
 |_=>false
def Ac7 {A:QG}{o:Oper}{ρ:Operand→V}{H:A4}{K:V→A4→Prop}{v:V}(hs:Nc o.op=true)(h:Md P o ρ H v)(hk:K v H):Hi P A o ρ H K:=by
 grind[Hi,Nc,Md]
variable {A:QG}{nt:Nat}{ops:Array Oper}
def Qc (ops:Array Oper)(i:Nat):Bool:=
 Nc (ops.getD i default).op&&(ops.getD i default).guard.isNone&&(List.range ops.size).all fun j=>j==i||Dd (ops.getD j default) i||Dd (ops.getD i default) j||(ops.getD i default).apart ops (ops.getD j default)
theorem Zi {i:Nat} (hi:i<ops.size) (hf:Qc ops i=true) (hdst:Gs nt (ops.getD i default).dst=true) {K:Fr→A4→Prop} {v:V}:∀(n:Nat) (listed:Array Bool) (fr:Fr) (H:A4),i∈Region.ready .any ops listed→(∀H',Md P (ops.getD i default) (ev fr) H' v)→
 Vp P A nt ops n (listed.setIfInBounds i true) (fr.put (ops.getD i default).dst v) H K→Vp P A nt ops (n+1) listed fr H K:=by
 simp only[Qc,H7,DS,DM,Y2,Cu]at hf
 obtain⟨⟨hso,hg⟩,hfree⟩:=hf
 have hg:(ops.getD i default).guard=none:=by simpa using hg
 have first:∀(fr:Fr) (H:A4) (K':Fr→A4→Prop),(∀H',Md P (ops.getD i default) (ev fr) H' v)→K' (fr.put (ops.getD i default).dst v) H→At4 P A nt ops (ops.getD i default) fr H K':=fun fr H K' hq hk=>by
  refine⟨hdst,?_⟩
  have:Bh ops fr (ops.getD i default)=some true:=by simp_all[Bh]
  rw[this];exact Ac7 hso (hq H) hk
 intro n
 induction n with
 |zero=>
  intro listed fr H hr hq h;refine⟨fun e=>(by rw[e]at hr;cases hr),fun j hj=>?_⟩
  by_cases hji:j=i
  ·simp_all
  have:=Go.ready_mono hj hji
  rw[h.1]at this;cases this
 | succ n ih=>
  intro listed fr H hr hq h;refine⟨fun e=>(by rw[e]at hr;cases hr),fun j hj=>?_⟩
  by_cases hji:j=i
  ·simp_all
  have h1:=h.2 j (Go.ready_mono hj hji);obtain⟨hjs,hjl,hje⟩:=mem_ready hj;obtain⟨_,hil,_⟩:=mem_ready hr
  have hap:(ops.getD i default).apart ops (ops.getD j default)=true:=by
   grind
  obtain⟨p1,p2,p3⟩:=Oper.apart_spec hap
  have hn:∀(u:V) (H':A4),Vp P A nt ops n ((listed.setIfInBounds i true).setIfInBounds j true) ((fr.put (ops.getD i default).dst v).put (ops.getD j default).dst u) H' K→Vp P A nt ops (n+1) (listed.setIfInBounds j true) (fr.put (ops.getD j default).dst u) H' K:=fun u H' hk=>by
   refine ih _ _ _ (Go.ready_mono hr fun e=>hji e.symm) (fun H2=>Nk (fun x hx=>(Kr p3 x hx).symm) (hq H2)) ?_;rw[NQ _ _ hji,←put_comm p2];exact hk
  obtain⟨hd,hs⟩:=h1;refine⟨hd,?_⟩
  rw[Oi p1]at hs
  split at hs
  ·exact Kj (YD (Kr p1) hs) fun u H' hk=>hn u H' hk
  ·grind
  omega
end
end Go.Ab
namespace Go.Ab
open Go.RowKit
variable [L6][Ar]
def Wt:List Nat→Nat→Bool
 |[],_=>false
 |a::l,n=>match n==a with|true=>true|false=>Wt l n
def UJ:∀{l:List Nat} {n:Nat},Wt l n=true→n∈l
 |[],_,h=>by cases h
 |a::l,n,h=>by
  unfold Wt at h
  cases e:n==a with
  |true=>rw[beq_iff_eq.1 e];simp
  |false=>rw[e]at h;exact Y5 _ (UJ h)
section
variable (E:Eg)(T:FY)(nt:Nat)(A:Nat→Bool)(ops:Array Oper)(fl:List Nat)
def OI (o:Oper)(l:Fl):Bool:=
 match o.op with
 | .load _ x=>(match R0 [] l x with| .v (.eref _ _)=>true|_=>false)
 |_=>true
def Ip (l:Fl):List Nat→Option Nat
 |[]=>none
 |i::r=>match Wt fl i with
  |true=>(match OI (ops.getD i default) l with|true=>some i|false=>Ip l r)
  |false=>Ip l r
def Rd:Nat→Array Bool→Fl→A4→(Fl→A4→Prop)→Prop
 |0,listed,l,H,K=>match Region.ready .any ops listed with|[]=>K l H|_::_=>False
 | n +1,listed,l,H,K=>
  match Region.ready .any ops listed with
  |[]=>K l H
  | i::r=>
   match Ip ops fl l (i::r)with
   | some j=>
    (match Gs nt (ops.getD j default).dst with
     |true=>xq E T [] (ops.getD j default) l H fun s=>Rd n (listed.setIfInBounds j true) (Dj (ops.getD j default).dst (Sl.n s) l) H K
     |false=>False)
   |none=>Ay1 (i::r) fun i=>As7 E T nt A ops (ops.getD i default) l H fun l' H'=>Rd n (listed.setIfInBounds i true) l' H' K
end
def GY {ops:Array Oper} {fl:List Nat} {l:Fl} {j:Nat}:∀{r:List Nat},Ip ops fl l r=some j→j∈r∧Wt fl j=true∧OI (ops.getD j default) l=true
 |[],h=>by cases h
 | i::r,h=>by
  unfold Ip at h
  cases h1:Wt fl i with
  |true=>
   rw[h1]at h
   cases h2:OI (ops.getD i default) l with
   |true=>rw[h2]at h;simp_all
   |false=>rw[h2]at h;have:=GY h;simp_all
  |false=>rw[h1]at h;have:=GY h;simp_all
section
variable {P:Program}{nt:Nat}{rd:Option Nat}{T:FY}{A:Nat→Bool}{df:List Nat}
theorem YB {o:Oper} {ρ:Operand→V} {H:A4} {v:V} (hs:Nc o.op=true) (hl:∀t x,o.op= .load t x→∃cs off,ρ x= .eref cs off) (h:Md P o ρ H v) (H':A4):Md P o ρ H' v:=by
 unfold Md at h ⊢
 cases ho:o.op<;>simp only[ho,Nc,E2]at hs h ⊢ <;>first
  |exact h
  |skip
 ·rename_i t x;obtain⟨cs,off,e⟩:=hl t x ho
  rw[e]at h ⊢
  rcases h with h|h
  ·left
   unfold HG at h ⊢
   grind
  simp_all[Lp]
 rename_i c
 cases hcc:c.callee with
 | builtin b=>
  rw[hcc]at hs h
  cases b with
  | len=>
   have h:CO P .len c.argTypes.toList (c.args.toList.map ρ) v∨LN P H .len c.argTypes.toList (c.args.toList.map ρ) v:=h
   have k:∀(ts:List TypeId) (vs:List V),LN P H .len ts vs v→LN P H' .len ts vs v:=fun ts vs h=>by
    rcases ts with _|⟨t,_|⟨t2,ts⟩⟩<;>rcases vs with _|⟨x,_|⟨x2,vs⟩⟩<;>first
     |exact h
     |exact h.elim
   grind
  |_=>cases hs
 |_=>rw[hcc]at hs;cases hs
def FQ (hT:Jb P T) {ops:Array Oper} {fl:List Nat} (hfl:∀i,Wt fl i=true→Qc ops i=true) {K:Fl→A4→Prop}:∀(n:Nat) (listed:Array Bool) (l:Fl) (H:A4),Rd (H5 P nt rd) T nt A ops fl n listed l H K→Vp P A nt ops n listed (I0 ⟨l,df⟩) H fun fr H'=>∃l',fr=I0 ⟨l',df⟩∧K l' H'
 |0,listed,l,H,h=>by
  unfold Rd at h
  split at h
  ·rename_i e;exact⟨e,l,rfl,h⟩
  grind
 | n +1,listed,l,H,h=>by
  unfold Rd at h
  split at h
  ·rename_i e;exact⟨fun _=>⟨l,rfl,h⟩,fun i hi=>by rw[e]at hi;cases hi⟩
  rename_i i0 r0 e
  split at h
  ·rename_i j hj;obtain⟨j1,j2,j3⟩:=GY hj
   rw[←e]at j1
   obtain⟨js,_,_⟩:=mem_ready j1;have hf:=hfl j j2
   split at h
   ·rename_i hd;obtain⟨s,hq,hk⟩:=Me (df:=df) hT Jd.nil h
    have hso:Nc (ops.getD j default).op=true:=by
     have:=hf
     simp_all[Qc]
    have hst:∀t x,(ops.getD j default).op= .load t x→∃cs off,ev (I0 ⟨l,df⟩) x= .eref cs off:=fun t x ho=>by
     unfold OI at j3
     rw[ho]at j3
     dsimp only at j3
     split at j3
     ·rename_i cs off he;exact⟨cs,off,by rw[←DH (df:=df) Jd.nil x,he];rfl⟩
     cases j3
    have hall:=FQ hT hfl n _ _ _ hk
    rw[N6]at hall
    have hv:Ya l (Sl.n s)=s.V:=by cases s<;>rfl
    rw[hv]at hall
    grind[Zi,YB]
   grind
  refine⟨(fun e'=>by rw[e]at e';cases e'),fun i hi=>?_⟩
  rw[e]at hi
  have h:=Vo h i hi
  unfold As7 at h
  split at h
  ·rename_i hd;refine⟨hd,?_⟩;obtain⟨l',e,h⟩:=Ek (df:=df) 4 l h
   have e:I0 ⟨l',df⟩=I0 ⟨l,df⟩:=by simp_all[I0]
   rcases h with⟨hg,G,wr,hG,hwr,h⟩|⟨hg,h⟩
   ·rw[hg];rw[←e];refine Kj (MW (df:=df) hT hG h) fun v H' ⟨s,hv,hk⟩=>?_;subst hv;rw[←hwr s,←N6];exact FQ hT hfl n _ _ _ hk
   rw[hg];rw[←e]
   rcases h with h|⟨G,d,want,ht,hb,h⟩
   ·have:=FQ hT hfl n _ _ _ h
    rw[N6]at this
    exact this
   obtain⟨s,h⟩:=RY hT ht h;have:=FQ hT hfl n _ _ _ h
   rw[N6]at this
   simp_all[Ya]
  grind
end
def LM:List Nat→Nat→Bool
 |[],_=>false
 |x::l,n=>match n==x with|true=>true|false=>LM l n
def YR:List (Nat×Nat)→Nat→Nat
 |[],_=>0
 |(x,y)::l,n=>match Nat.beq n x with|true=>y|false=>YR l n
structure Cf where
 A:List Nat
 hk:List (Nat×Nat)
 J:List (Nat×Nat)
 JB:List Nat
 Z:List (Nat×Nat)
 W:List (Nat×Nat×List Nat)
def wAt:List (Nat×Nat×List Nat)→Nat→Option (Nat×List Nat)
 |[],_=>none
 |(q,d)::l,n=>match Nat.beq n q with|true=>some d|false=>wAt l n
def zAt:List (Nat×Nat)→Nat→List Nat
 |[],_=>[]
 |(q,d)::l,n=>match n==q with|true=>d::zAt l n|false=>zAt l n
def Au9:List (Nat×Nat)→Nat→List Nat
 |[],_=>[]
 |(q,d)::l,n=>match n==q with|true=>d::Au9 l n|false=>Au9 l n
def memP:List (Nat×Nat)→Nat→Nat→Bool
 |[],_,_=>false
 |(x,y)::l,a,b=>match Nat.beq a x&&Nat.beq b y with|true=>true|false=>memP l a b
def QT:Code→Nat
 | .region id _ _=>id+1
 | .seq a b=>(match QT a with|0=>QT b|n+1=>n+1)
 | .cond _ a b=>(match QT a with|0=>QT b|n+1=>n+1)
 | .block _ c=>QT c
 | .loop c=>QT c
 | .rangeFunc _ _ a b=>(match QT a with|0=>QT b|n+1=>n+1)
 |_=>0
def J5 (cf:Cf):Code→Bool
 | .seq a b=>J5 cf a&&J5 cf b
 | .cond _ a b=>J5 cf a&&J5 cf b
 | .block _ c=>J5 cf c
 | .loop c=>J5 cf c
 | .rangeFunc _ _ a b=>J5 cf a&&J5 cf b
 | .region id ops true=>match LM cf.JB (id+2000000)with|true=>PJ (Gg cf.hk (id+1000000)) ops&&(Gg cf.hk (id+3000000)).all (Qc (hoistAll (Gg cf.hk (id+1000000)) ops))|false=>match LM cf.JB (id+1000000)with|true=>ML ops (YR cf.hk id)|false=>PJ (Gg cf.hk (id+1000000)) ops&&Qn (hoistAll (Gg cf.hk (id+1000000)) ops) (YR cf.hk id)&&decide (FX ((hoistAll (Gg cf.hk (id+1000000)) ops).toList.take (YR cf.hk id))).Nodup
 |_=>true
section
variable (E:Eg)(T:FY)(nt:Nat)(cf:Cf)
def XJ (c:Operand) (st:St) (ra rb:St→Prop):Prop:=
 match R0 [] st.l c with
 | .b true=>ra st
 | .b false=>rb st
 | .v (.bool t)=>
  (match c with
   | .tmp d=>E.br t (fun _=>ra ⟨LE st.l d true,st.df⟩) (fun _=>rb ⟨LE st.l d false,st.df⟩)
   |_=>E.br t (fun _=>ra st) (fun _=>rb st))
 |_=>False
def Tc (id:Nat)(K:Exit→St→A4→Prop)(e:Exit)(st':St)(H':A4):Prop:=
 match e with
 | .exit id'=>(match Nat.beq id' id with|true=>K .normal st' H'|false=>K (.exit id') st' H')
 |e=>K e st' H'
def AB7 (c:Operand)(a b:Code):Bool:=
 match c with
 | .tmp d=>memP cf.J d (match QT a with|0=>QT b|n+1=>n+1)
 |_=>false
def run:Code→St→A4→(Exit→St→A4→Prop)→Prop
 | .skip,st,H,K=>K .normal st H
 | .ret,st,H,K=>K .ret st H
 | .exit id,st,H,K=>K (.exit id) st H
 | .seq a b,st,H,K=>run a st H fun e st' H'=>match e with| .normal=>run b st' H' K|e=>K e st' H'
 | .cond c a b,st,H,K=>
  (match AB7 cf c a b with
   |true=>E.sim (.cond c a b) st H K
   |false=>XJ E c st (fun st=>run a st H K) (fun st=>run b st H K))
 | .block id c,st,H,K=>
  (match LM cf.JB id with
   |true=>E.sim (.block id c) st H K
   |false=>run c st H (Tc id K))
 | .region _ ops false,st,H,K=>Mf E T nt (LM cf.A) (zAt cf.Z) ops ops.toList st.l H fun l' H'=>K .normal ⟨l',st.df⟩ H'
 | .region id ops true,st,H,K=>
  (match LM cf.JB (id+2000000)with
   |true=>E.sim (.region id ops true) st H K
   | false=>
    (match LM cf.JB (id+1000000)with
     |true=>Av2 E T nt (LM cf.A) (YR cf.hk id) ops st.l H fun l' H'=>K .normal ⟨l',st.df⟩ H'
     |false=>Mg E none (Au9 cf.Z (id+400000000)) st.l H fun l H=>Zz E T nt (LM cf.A) (wAt cf.W id) (YR cf.hk id) (hoistAll (Gg cf.hk (id+1000000)) ops) l H fun l' H'=>K .normal ⟨l',st.df⟩ H'))
 |c,st,H,K=>E.sim c st H K
def Aa2:Code→St→A4→(Exit→St→A4→Prop)→Prop
 | .cond c a b,st,H,K=>XJ E c st (fun st=>run E T nt cf a st H K) (fun st=>run E T nt cf b st H K)
 | .block id c,st,H,K=>run E T nt cf c st H (Tc id K)
 | .region id ops true,st,H,K=>
  (match LM cf.JB (id+2000000)with
   |true=>Rd E T nt (LM cf.A) (hoistAll (Gg cf.hk (id+1000000)) ops) (Gg cf.hk (id+3000000)) ops.size (Array.replicate ops.size false) st.l H fun l' H'=>K .normal ⟨l',st.df⟩ H'
   |false=>run E T nt cf (.region id ops true) st H K)
 |c,st,H,K=>run E T nt cf c st H K
end
section
variable {P:Program}{nt:Nat}{rd:Option Nat}{T:FY}{cf:Cf}
def T4.frLe {c:Code}{fr:Fr}{st:St}{H:A4}{Q:Exit→Fr→A4→Prop}(hf:Dn fr st)(h:T4 P nt rd c (I0 st) H Q):T4 P nt rd c fr H Q:=
 h.less hf.s hf.df.symm fun _ _ h=>h
theorem Dn.refl (st:St):Dn (I0 st) st:=⟨fun _=>Wk.refl _,rfl⟩
def T4.of_frz {c:Code} {ds:List Nat} {st:St} {H:A4} {Q:Exit→Fr→A4→Prop} {k:Fl→A4→Prop} (h:Mg (H5 P nt rd) none ds st.l H k) (hk:∀l' H',k l' H'→T4 P nt rd c (I0 ⟨l',st.df⟩) H' Q):T4 P nt rd c (I0 st) H Q:=
 fun r g w a hr hR hF=>by
  obtain⟨g',l',H',s,hR',hF',h'⟩:=BA none ds st.l H g k (fun _ _ _ _ h=>by cases h) hR hF h;exact wpIn_mono (hk l' H' h' r g' w a (Zm.mono hr s) hR' hF') fun _ _ _=>QF.later s
def Ot {c:Operand} {a b:Code} {st:St} {H:A4} {Q:Exit→Fr→A4→Prop} {ra rb:St→Prop} (h:XJ (H5 P nt rd) c st ra rb) (ha:∀st',I0 st'=I0 st→ra st'→T4 P nt rd a (I0 st') H Q) (hb:∀st',I0 st'=I0 st→rb st'→T4 P nt rd b (I0 st') H Q):T4 P nt rd (.cond c a b) (I0 st) H Q:=by
 have hev:ev (I0 st) c=(R0 [] st.l c).V:=(DH (df:=st.df) Jd.nil c).symm
 unfold XJ at h
 split at h
 ·rename_i he;exact T4.cond (t:=true) (by rw[hev,he];rfl) (fun _=>ha st rfl h) (fun e=>by cases e)
 ·rename_i he;exact T4.cond (t:=false) (by rw[hev,he];rfl) (fun e=>by cases e) (fun _=>hb st rfl h)
 ·rename_i t he
  split at h
  ·rename_i d
   have he':Cj st.l d= .bool t:=by
    have:=Xg (l:=st.l) Jd.nil d
    rw[show An5 [] st.l d= .v (.bool t)from he]at this
    exact this.symm
   obtain⟨h1,h2⟩:=h;refine T4.cond (t:=t) (by rw[hev,he];rfl) (fun e=>?_) (fun e=>?_)
   ·subst e;have ef:I0 ⟨LE st.l d true,st.df⟩=I0 st:=Nr he';have:=ha _ ef (h1 rfl)
    rwa[ef]at this
   subst e;have ef:I0 ⟨LE st.l d false,st.df⟩=I0 st:=Nr he';have:=hb _ ef (h2 rfl)
   rwa[ef]at this
  obtain⟨h1,h2⟩:=h;exact T4.cond (t:=t) (by rw[hev,he];rfl) (fun e=>ha st rfl (h1 e)) (fun e=>hb st rfl (h2 e))
 grind
def M0 (hT:Jb P T) (hm:P.follows .mixedOrders=true):∀(c:Code) (st:St) (H:A4) (K:Exit→St→A4→Prop),J5 cf c=true→run (H5 P nt rd) T nt cf c st H K→T4 P nt rd c (I0 st) H fun e fr' H'=>∃st',Dn fr' st'∧K e st' H'
 | .skip,st,H,K,hd,h=>T4.skip ⟨st,Dn.refl _,h⟩
 | .ret,st,H,K,hd,h=>T4.ret ⟨st,Dn.refl _,h⟩
 | .exit id,st,H,K,hd,h=>T4.exit ⟨st,Dn.refl _,h⟩
 | .seq a b,st,H,K,hd,h=>by
  simp only[J5,H7]at hd
  refine T4.seq ((M0 hT hm a st H _ hd.1 h).mono fun e fr' H' ⟨st',hf,hk⟩=>?_)
  cases e with
  |normal=>exact T4.frLe hf (M0 hT hm b st' H' K hd.2 hk)
  |_=>exact⟨st',hf,hk⟩
 | .cond c a b,st,H,K,hd,h=>by
  simp only[J5,H7]at hd
  unfold run at h
  split at h
  ·exact h
  exact Ot h (fun st' _ h=>M0 hT hm a st' H K hd.1 h) (fun st' _ h=>M0 hT hm b st' H K hd.2 h)
 | .block id c,st,H,K,hd,h=>by
  unfold run at h
  split at h
  ·exact h
  refine T4.block ((M0 hT hm c st H _ hd h).mono fun e fr' H' ⟨st',hf,hk⟩=>?_)
  cases e with
  |exit id'=>
   unfold Tc at hk
   dsimp only at hk ⊢
   split at hk
   ·rename_i e;rw[A1 (Bw e)];grind
   rename_i e;rw[A3 (fun x=>by simp_all)];grind
  |_=>exact⟨st',hf,hk⟩
 | .region id ops false,st,H,K,hd,h=>by
  unfold run at h
  intro r g w a hr hR hF;refine wpIn_region ?_
  have:=Vx (P:=P) (nt:=nt) (rd:=rd) (T:=T) (A:=LM cf.A) (Z:=zAt cf.Z) (df:=st.df) hT (ops:=ops) (r:=r) (K:=fun l' H'=>K .normal ⟨l',st.df⟩ H') (Q:=QF nt g w fun e fr' H'=>∃st',Dn fr' st'∧K e st' H') (g0:=g) (w0:=w)
   (fun g' w' a' l' H' s hR hF hK=>⟨g',_,H',s,hR,hF,⟨l',st.df⟩,Dn.refl _,hK⟩) ops.size 0 st.l H (by omega) (by grind) g w a (U3.refl _ _) hR hF
  rwa[←List.range_eq_range']at this
 | .region id ops true,st,H,K,hd,h=>by
  cases hj2:LM cf.JB (id+2000000)with
  |true=>
   unfold run at h
   rw[hj2]at h
   exact h
  |false=>
  cases hj:LM cf.JB (id+1000000)with
  |true=>
   simp only[J5,hj2,hj]at hd
   unfold run at h
   rw[hj2]at h
   simp only[hj]at h
   refine(VD (df:=st.df) hT hm hd h).mono fun e fr H' ⟨he,l',hfr,hk⟩=>?_;subst he;subst hfr;exact⟨⟨l',st.df⟩,Dn.refl _,hk⟩
  |false=>
   simp only[J5,hj2,hj,H7,B2]at hd
   unfold run at h
   rw[hj2]at h
   simp only[hj]at h
   refine T4.of_frz h fun l1 H1 h=>?_;refine(T4.of_any hm (BI.hoistAll (fun c fr H h=>by cases h.1) _ ops hd.1.1 (XT (df:=st.df) hT hd.1.2 hd.2 h))).mono fun e fr H' ⟨he,l',hfr,hk⟩=>?_;subst he;subst hfr;exact⟨⟨l',st.df⟩,Dn.refl _,hk⟩
 | .loop c,st,H,K,hd,h=>h
 | .rangeFunc g ps a b,st,H,K,hd,h=>h
 | .scope c,st,H,K,hd,h=>h
 | .label l,st,H,K,hd,h=>h
 | .goto l,st,H,K,hd,h=>h
 | .refuse w,st,H,K,hd,h=>h
def Lq:∀(ms:List Nat) (ops:Array Oper),PJ ms ops=true→(hoistAll ms ops).size=ops.size
 |[],ops,_=>rfl
 | m::ms,ops,hok=>by
  simp only[PJ,H7]at hok
  have hm:m<ops.size:=by
   have h:=hok.1.1
   simp_all[ON]
  exact(Lq ms _ hok.2).trans (IJ hm)
def VQ (hT:Jb P T) (hm:P.follows .mixedOrders=true):∀(c:Code) (st:St) (H:A4) (K:Exit→St→A4→Prop),J5 cf c=true→Aa2 (H5 P nt rd) T nt cf c st H K→T4 P nt rd c (I0 st) H fun e fr' H'=>∃st',Dn fr' st'∧K e st' H'
 | .cond c a b,st,H,K,hd,h=>by
  simp only[J5,H7]at hd
  unfold Aa2 at h
  exact Ot h (fun st' _ h=>M0 hT hm a st' H K hd.1 h) (fun st' _ h=>M0 hT hm b st' H K hd.2 h)
 | .block id c,st,H,K,hd,h=>by
  unfold Aa2 at h
  refine T4.block ((M0 hT hm c st H _ hd h).mono fun e fr' H' ⟨st',hf,hk⟩=>?_)
  cases e with
  |exit id'=>
   unfold Tc at hk
   dsimp only at hk ⊢
   split at hk
   ·rename_i e;rw[A1 (Bw e)];grind
   rename_i e;rw[A3 (fun x=>by simp_all)];grind
  |_=>exact⟨st',hf,hk⟩
 | .skip,st,H,K,hd,h=>M0 hT hm _ st H K hd h
 | .ret,st,H,K,hd,h=>M0 hT hm _ st H K hd h
 | .exit id,st,H,K,hd,h=>M0 hT hm _ st H K hd h
 | .seq a b,st,H,K,hd,h=>M0 hT hm _ st H K hd h
 | .region id ops false,st,H,K,hd,h=>M0 hT hm _ st H K hd h
 | .region id ops true,st,H,K,hd,h=>by
  unfold Aa2 at h
  dsimp only at h
  cases hj2:LM cf.JB (id+2000000)with
  |false=>rw[hj2]at h;exact M0 hT hm _ st H K hd h
  |true=>
   rw[hj2]at h
   simp only[J5,hj2,H7]at hd
   obtain⟨hd,hfree⟩:=hd;have h':=FQ (df:=st.df) hT (fun i hi=>List.all_eq_true.1 hfree i (UJ hi)) _ _ _ _ h;have hsz:(hoistAll (Gg cf.hk (id+1000000)) ops).size=ops.size:=Lq _ _ hd
   rw[←hsz]at h'
   refine(T4.of_any hm (BI.hoistAll (fun c fr H h=>h) _ ops hd (BI.all (Q:=fun e fr H'=>match e with| .normal=>∃l',fr=I0 ⟨l',st.df⟩∧K .normal ⟨l',st.df⟩ H'|_=>False) h'))).mono fun e fr H' hq=>?_
   cases e with
   |normal=>obtain⟨l',hfr,hk⟩:=hq;subst hfr;exact⟨⟨l',st.df⟩,Dn.refl _,hk⟩
   |_=>exact hq.elim
 | .loop c,st,H,K,hd,h=>h
 | .rangeFunc g ps a b,st,H,K,hd,h=>h
 | .scope c,st,H,K,hd,h=>h
 | .label l,st,H,K,hd,h=>h
 | .goto l,st,H,K,hd,h=>h
 | .refuse w,st,H,K,hd,h=>h
def TZ (K:V→A4→Prop)(H:A4)(vs:List V):Prop:=
 match vs with
 |[x]=>K x H
 |l=>K (.tup l) H
def Pu {K:V→A4→Prop}{H:A4}{vs:List V}(h:TZ K H vs):K (Of vs) H:=by
 unfold TZ at h
 grind[Of]
def AC5 (v:V)(k:List V→Prop)(vs:List V):Prop:=k (v::vs)
def QQ (E:Eg)(T:FY)(l:Fl)(H:A4):List ResultVar→(List V→Prop)→Prop
 |[],k=>k []
 | .tmp t::r,k=>QQ E T l H r fun vs=>AC5 (Cj l t) k vs
 | .cell a t::r,k=>(match Cj l a with| .elem _ _ _ _=>False|x=>WL E T t x H fun v=>QQ E T l H r fun vs=>k (v::vs))
def IB (hT:Jb P T) {l:Fl} {H:A4} {df:List Nat}:∀(rs:List ResultVar) (k:List V→Prop),QQ (H5 P nt rd) T l H rs k→∃vs,Ca P (I0 ⟨l,df⟩) H rs=some vs∧k vs
 |[],k,h=>⟨[],rfl,h⟩
 | .tmp t::r,k,h=>by
  obtain⟨vs,h1,h2⟩:=IB (df:=df) hT r _ h;exact⟨_,by simp_all[Ca,I0],h2⟩
 | .cell a t::r,k,h=>by
  unfold QQ at h
  split at h
  ·exact h.elim
  rename_i x hne;obtain⟨v,h1,h2⟩:=JP hT h
  have h1:HG P H t (Cj l a)=some v:=h1.elim (fun h=>h) fun h=>by
   unfold Lp at h
   simp_all
  obtain⟨vs,h3,h4⟩:=IB (df:=df) hT r _ h2
  simp_all[Ca,I0]
def T4.post_le {c:Code}{fr:Fr}{H:A4}{K:Exit→St→A4→Prop}(h:T4 P nt rd c fr H fun e fr' H'=>∃st',Dn fr' st'∧K e st' H'):T4 P nt rd c fr H fun e fr' H'=>∃st',fr'=I0 st'∧K e st' H':=by
 intro r g w a hr hR hF;refine wpIn_mono (h r g w a hr hR hF) fun e a' w' ⟨g',fr',H',s,hR',hF',st',hle,hk⟩=>⟨g',I0 st',H',s,hR',⟨hF'.size,fun t=>hle.s t _ _ _ (hF'.s t),?_⟩,st',rfl,hk⟩;have:=hF'.df
 rw[hle.df]at this
 exact this
def BF:List V→Nat→Fl
 |[],_=>[]
 |v::l,i=>(i,.v v)::BF l (i+1)
def Rt:∀(args:List V) (i t:Nat),Cj (BF args i) t=if i≤t then args.getD (t-i) .bad else .bad
 |[],i,t=>by simp[Cj,BF]
 | v::l,i,t=>by
  simp only[BF,Cj]
  by_cases h:t=i
  ·simp_all
  have hb:Nat.beq t i=false:=by
   cases hb:Nat.beq t i with
   |false=>rfl
   |true=>simp_all
  simp only[hb];rw[Rt l (i+1) t]
  grind
def Ag9 (args:List V):entry args=I0 ⟨BF args 0,[]⟩:=by
 simp only[entry,I0,Fr.mk.injEq,J6]
 funext t
 rw[Rt];simp
def LR (E:Eg)(T:FY)(rs:List ResultVar)(K:V→A4→Prop)(e:Exit)(st:St)(H:A4):Prop:=
 match e with
 | .normal=>(match st.df with|[]=>QQ E T st.l H rs fun vs=>TZ K H vs|df=>E.fin df H fun H'=>QQ E T st.l H' rs fun vs=>TZ K H' vs)
 | .ret=>(match st.df with|[]=>QQ E T st.l H rs fun vs=>TZ K H vs|df=>E.fin df H fun H'=>QQ E T st.l H' rs fun vs=>TZ K H' vs)
 |_=>False
def YW (hT:Jb P T) {fn:Func} {K:V→A4→Prop} {e:Exit} {st:St} {H:A4} (h:LR (H5 P nt rd) T fn.results.toList K e st H):Ret P fn K e (I0 st) H:=by
 have key:∀(h:match st.df with|[]=>QQ (H5 P nt rd) T st.l H fn.results.toList fun vs=>TZ K H vs|df=>(H5 P nt rd).fin df H fun H'=>QQ (H5 P nt rd) T st.l H' fn.results.toList fun vs=>TZ K H' vs),
  Aq5 H (I0 st).df∧∃l,Ca P (I0 st) (clear H (I0 st).df) fn.results.toList=some l∧K (Of l) (clear H (I0 st).df):=by
  obtain⟨l,df⟩:=st;intro h
  cases df with
  |nil=>
   have hcl:clear H []=H:=by funext x;simp[clear]
   obtain⟨vs,h1,h2⟩:=IB (df:=[]) hT _ _ h;refine⟨⟨by simp[I0],fun id hi=>by simp[I0]at hi⟩,vs,?_,?_⟩
   ·simp_all[I0]
   show K _ (clear H [])
   rw[hcl];exact Pu h2
  |cons d ds=>
   obtain⟨hd,h⟩:=h;obtain⟨vs,h1,h2⟩:=IB (df:=d::ds) hT _ _ h;exact⟨hd,vs,h1,Pu h2⟩
 cases e<;>first|exact h.elim|skip
 ·exact⟨.inl rfl,key h⟩
 exact⟨.inr rfl,key h⟩
def R4 {f:FuncId}{fn:Func}{c:Code}{n:Nat}{rs:List ResultVar}{args:List V}{H:A4}{K:V→A4→Prop}(cf:Cf)(hT:Jb P T)(hm:P.follows .mixedOrders=true)(hf:P.funcs[f]? =some fn)(hb:fn.body=some c)(hd:J5 cf c=true)(hcall:∀vals w,(callFunc f vals).run P w= .ok (.enter f vals) w)
 (hnt:fn.ntmps=n) (hrs:fn.results.toList=rs) (hn:Nat.ble args.length n=true) (h:∀E:Eg,E=H5 P n none→run E T n cf c ⟨BF args 0,[]⟩ H (LR E T rs K)):J1 P f args H K:=by
 subst hnt;subst hrs;refine QY hf hb hcall (FO hn) ?_;rw[Ag9];refine(T4.post_le (M0 hT hm c _ H _ hd (h _ rfl))).mono fun e fr' H' ⟨st',hfr,hq⟩=>?_;subst hfr;exact YW hT hq
end
end Go.Ab
