/- GLU6 GLU7 GLU8 GLIn GLPr -/
import Derived.Test.YtildiiggamckaaaGreatDoorL19
import Derived.Test.YtildiiggamckaaaGreatDoorRows
import Derived.WalkKit
import Derived.ProofKit
import Derived.OpenShut
import Derived.Deep.DeepHandedRow
import Derived.Carry
import Derived.Test.YtildiiggamckaaaGreatDoorTie
set_option linter.all false
open Go.Ab.Ar (ar cmp lst lst_eq)
namespace Go.Ab
noncomputable section
def cm (l:List C3)(k:Int):List C3:=l.filter fun m=>decide (m.cX=k)
theorem SL {l:List C3}{k:Int}{m:C3}:m∈cm l k↔m∈l∧m.cX=k:=by unfold cm;simp
theorem Ae0 (l:List C3)(k:Int):(cm l k).length≤l.length:=Hf _ _
theorem WQ {a b:A0} (hab:AB a b) {i:Nat} {q:C9} {m:C3} (hm:m∈a.cV) (hmf:m.cX=q.E0):∀(ns:List C3) (s:PS),(∀n∈ns,n∈b.cV∧n.cX=q.E1)→PW a b s→s.2.1[i]? =some q→s.1.cV.length+ns.length≤100000→
 ∃t,G0 (fun(s37:PS) (y36:C3)=>prI 40000000 (i:Int) m s37 y36) ns s=some (.inl t)∧PW a b t∧YQ s t∧t.1.cV.length≤s.1.cV.length+ns.length∧∀n∈ns,Cmp i m n t
 |[],s,_,hw,_,_=>⟨s,rfl,hw,.refl s,by simp,fun n h=>by cases h⟩
 |n::ns,s,hn,hw,hi,hl=>by
  rw[M2]at hl
  obtain⟨h1,h2⟩:=hn n (by simp);obtain⟨t,e1,w1,x1,l1,c1⟩:=Aj6 hab hw hi (by omega) hm hmf h1 h2;obtain⟨v,hv⟩:=x1.q;obtain⟨r,e2,w2,x2,l2,c2⟩:=WQ hab hm hmf ns t (fun y hy=>hn y (J7 _ hy)) w1 (by rw[hv];exact Iy hi) (by omega);refine⟨r,?_,w2,x1.trans x2,by rw[M2];omega,fun y hy=>?_⟩
  ·rw[G0];simp only[e1,A6,e2]
  rcases List.mem_cons.1 hy with rfl|hy
  ·exact c1.ext x2
  exact c2 y hy
theorem WP {a b:A0} (hab:AB a b) {i:Nat} {q:C9}:∀(ms:List C3) (s:PS),(∀m∈ms,m∈a.cV∧m.cX=q.E0)→PW a b s→s.2.1[i]? =some q→s.1.cV.length+ms.length*16≤100000→
 ∃t,G0 (fun(s27:PS) (y26:C3)=>prO 40000000 b (i:Int) q.E1 s27 y26) ms s=some (.inl t)∧PW a b t∧YQ s t∧t.1.cV.length≤s.1.cV.length+ms.length*(cm b.cV q.E1).length∧∀m∈ms,∀n∈b.cV,n.cX=q.E1→Cmp i m n t
 |[],s,_,hw,_,_=>⟨s,rfl,hw,.refl s,by simp,fun n h=>by cases h⟩
 | m::ms,s,hm,hw,hi,hl=>by
  rw[M2]at hl
  obtain⟨h1,h2⟩:=hm m (by simp);have hcl:=Ae0 b.cV q.E1;have hb:=hab.mb;obtain⟨t,e1,w1,x1,l1,c1⟩:=WQ hab h1 h2 (cm b.cV q.E1) s (fun n hn=>SL.1 hn) hw hi (by omega);obtain⟨v,hv⟩:=x1.q;obtain⟨r,e2,w2,x2,l2,c2⟩:=WP hab ms t (fun y hy=>hm y (J7 _ hy)) w1 (by rw[hv];exact Iy hi) (by omega);refine⟨r,?_,w2,x1.trans x2,?_,fun y hy n hn hnf=>?_⟩
  ·have ef:J6 40000000 b q.E1=some (cm b.cV q.E1):=OI (by omega) (by omega)
   have e0:prO 40000000 b (i:Int) q.E1 s m=some (.inl t):=by
    unfold prO;rw[ef];simp only[A6];rw[e1];rfl
   rw[G0];simp only[e0,A6,e2]
  ·rw[M2,G2];omega
  rcases List.mem_cons.1 hy with rfl|hy
  ·exact(c1 n (SL.2 ⟨hn,hnf⟩)).ext x2
  exact c2 y hy n hn hnf
def cq (a b:A0)(q:C9):Nat:=(cm a.cV q.E0).length*(cm b.cV q.E1).length
def prs (a b:List C3):List (C3×C3):=a.flatMap fun m=>b.map fun n=>(m,n)
def Mq (q:C9)(p:C3×C3):Bool:=decide (p.1.cX=q.E0)&&decide (p.2.cX=q.E1)
theorem WN (b:List C3):∀a:List C3,(prs a b).length=a.length*b.length
 |[]=>by simp[prs]
 |m::a=>by
  have:=WN b a
  unfold prs at *
  rw[DI,I6,this,Q7,M2,G2];omega
theorem WO (b:List C3) (q:C9):∀a:List C3,((prs a b).filter (Mq q)).length=(cm a q.E0).length*(cm b q.E1).length
 |[]=>by simp[prs,cm]
 | m::a=>by
  have:=WO b q a
  unfold prs at *
  rw[DI,List.filter_append,I6,this]
  have e:((b.map fun n=>(m,n)).filter (Mq q)).length=if m.cX=q.E0 then(cm b q.E1).length else 0:=by
   rw[List.filter_map,Q7]
   by_cases h:m.cX=q.E0
   ·rw[A2 h];unfold cm
    congr 1
    refine List.filter_congr fun n _=>?_;simp[Mq,h]
   rw[A3 h];rw[List.length_eq_zero_iff,List.filter_eq_nil_iff];intro n _;simp[Mq,h]
  rw[e]
  by_cases h:m.cX=q.E0
  ·rw[A2 h,show cm (m::a) q.E0=m::cm a q.E0 by unfold cm;simp[h],M2,G2];omega
  rw[A3 h,show cm (m::a) q.E0=cm a q.E0 by unfold cm;simp[h]];omega
theorem Uz {α:Type} (P:α→Bool):∀L:List α,(L.filter P).length+(L.filter fun p=> !P p).length=L.length
 |[]=>rfl
 |x::L=>by
  have:=Uz P L;rw[Fd,Fd];cases P x<;>simp<;>omega
theorem WI :∀(Q:List C9),Q.Nodup→∀L:List (C3×C3),(Q.map fun q=>(L.filter (Mq q)).length).sum≤L.length
 |[],_,L=>by simp
 | q ::Q,hn,L=>by
  rw[GV]at hn
  have ih:=WI Q hn.2 (L.filter fun p=> !Mq q p)
  have e:(Q.map fun r=>(L.filter (Mq r)).length)=Q.map fun r=>((L.filter fun p=> !Mq q p).filter (Mq r)).length:=by
   refine Cb fun r hr=>?_;rw[List.filter_filter]
   congr 1
   refine List.filter_congr fun p _=>?_
   by_cases h:Mq r p=true
   ·have:Mq q p=false:=by
     rw[Bool.eq_false_iff];intro h2
     simp only[Mq,G8,C2]at h h2
     have:q=r:=by
      obtain⟨q0,q1⟩:=q;obtain⟨r0,r1⟩:=r
      dsimp only at *
      rw[←h.1,←h.2,h2.1,h2.2]
     exact hn.1 (this▸hr)
    simp[h,this]
   simp[h]
  rw[E9,IU,e];have:=Uz (Mq q) L;omega
theorem Tl {Q:List C9} {f:C9→Nat}:∀(Q:List C9) (i:Nat),((Q.take i).map f).sum≤(Q.map f).sum
 |[],i=>by simp
 |q::Q,0=>by simp
 |q::Q,i+1=>by
  have:=Tl (Q:=Q) (f:=f) Q i;simp only[Jp,E9,IU];omega
theorem Wj {a b:A0}(hab:AB a b){Q:List C9}(hn:Q.Nodup)(i:Nat):((Q.take i).map (cq a b)).sum≤256:=by
 have h1:=Tl (Q:=Q) (f:=cq a b) Q i;have h2:=WI Q hn (prs a.cV b.cV)
 rw[WN]at h2
 have h3:a.cV.length*b.cV.length≤16*16:=AE hab.ma hab.mb;have e:(Q.map fun q=>((prs a.cV b.cV).filter (Mq q)).length)=Q.map (cq a b):=Cb fun q _=>WO b.cV q a.cV
 rw[e]at h2
 omega
def Om (a b:A0)(q:C9):Bool:=decide (a.cU[q.E0.toNat]? =some true)&&decide (b.cU[q.E1.toNat]? =some true)
structure MI (a b:A0) (i:Nat) (s:PS):Prop where
 w:PW a b s
 ty:s.1.cW=a.cW
 fi:s.1.cU=(s.2.1.take i).map (Om a b)
 le:i≤s.2.1.length
 mv:s.1.cV.length≤((s.2.1.take i).map (cq a b)).sum
 hd:s.2.1[0]? =some ⟨0,0⟩
 cp:∀i'<i,∀q,s.2.1[i']? =some q→∀m∈a.cV,m.cX=q.E0→∀n∈b.cV,n.cX=q.E1→Cmp i' m n s
theorem As7 {a b:A0} (hab:AB a b) {i:Nat} {s:PS} (h:MI a b i s) {q:C9} (hq:s.2.1[i]? =some q):∃t,(prR 40000000 a b ((i:Int),s) q (s.1.cU++[Om a b q])=some (.inl (((i+1:Nat):Int),t))∧G0 (fun(s27:PS) (y26:C3)=>prO 40000000 b (i:Int) q.E1 s27 y26) (cm a.cV q.E0) ({s.1 with cU:=s.1.cU++[Om a b q]},s.2.1,s.2.2)=some (.inl t))∧MI a b (i+1) t:=by
 have hil:=(List.getElem?_eq_some_iff.1 hq).1;have hc1:=Wj hab h.w.nd i;have hma:=hab.ma;have hcl:=Ae0 a.cV q.E0;have hmv:=h.mv;obtain⟨t,e1,w1,x1,l1,c1⟩:=WP hab (i:=i) (q:=q) (cm a.cV q.E0) ({s.1 with cU:=s.1.cU++[Om a b q]},s.2.1,s.2.2) (fun m hm=>SL.1 hm) ⟨h.w.nd,h.w.rg,h.w.mp,h.w.snd⟩ hq (by dsimp only;omega);have hc2:=Wj hab w1.nd (i+1);obtain⟨v,hv⟩:=x1.q
 dsimp only at hv
 have htk:t.2.1.take i=s.2.1.take i:=by rw[hv,Ih (by omega)]
 have hti:t.2.1[i]? =some q:=by rw[hv];exact Iy hq
 have htk1:t.2.1.take (i+1)=s.2.1.take i++[q]:=by rw[Jk,htk,hti];rfl
 have hmv2:t.1.cV.length≤((t.2.1.take (i+1)).map (cq a b)).sum:=by
  rw[htk1,Bp,List.sum_append];simp only[E9,I1,IU,List.sum_nil]
  dsimp only at l1
  unfold cq at *
  omega
 have hql:=w1.len;have hqs:=h.w.len;have hab2:a.cU.length*b.cU.length≤8*8:=AE hab.fa hab.fb;refine⟨t,⟨?_,e1⟩,w1,x1.ty.trans h.ty,?_,?_,hmv2,?_,?_⟩
 ·unfold prR;have ef:J6 40000000 a q.E0=some (cm a.cV q.E0):=OI (by omega) (by omega);rw[ef];simp only[A6];rw[e1];simp only[A6];rw[A3 (by simp[U3,Gz,E4];omega),O7 (by omega) (by omega)];rfl
 ·rw[x1.fi,htk1,Bp,←h.fi];rfl
 ·rw[hv,I6];omega
 ·rw[hv];exact Iy h.hd
 intro i' hi' q' hq' m hm hmf n hn hnf
 by_cases hii:i'=i
 ·subst hii
  rw[hti]at hq';cases hq'
  exact c1 m (SL.2 ⟨hm,hmf⟩) n hn hnf
 have:s.2.1[i']? =some q':=by
  rw[hv,Bt (by omega)]at hq';exact hq'
 have hc:=h.cp i' (by omega) q' this m hm hmf n hn hnf;have x2:YQ s ({s.1 with cU:=s.1.cU++[Om a b q]},s.2.1,s.2.2)→True:=fun _=>trivial;intro x h1 h2;obtain⟨z,hz,f,c,k,hk,hqk⟩:=hc x h1 h2;obtain⟨u,hu⟩:=x1.mv;exact⟨z,by rw[hu];exact P6 _ hz,f,c,k,hk,by rw[hv];exact Iy hqk⟩
theorem As8 {a b:A0} (hab:AB a b):∀(d i N:Nat) (s:PS),64≤i+d→d<N→MI a b i s→∃j t,loopN (fun s12=>pqS 40000000 a b s12) N ((i:Int),s)=some (.inl (j,t))∧MI a b t.2.1.length t:=by
 intro d
 induction d with
 |zero=>
  intro i N s hd hN h;obtain⟨N,rfl⟩:∃m,N=m+1:=⟨N - 1,by omega⟩;have hql:=h.w.len;have hab2:a.cU.length*b.cU.length≤8*8:=AE hab.fa hab.fb
  have e:i=s.2.1.length:=by have:=h.le;omega
  rw[loopN];rw[pqS,A3 (by simp[D5,E4];omega)];exact⟨_,_,rfl,e▸h⟩
 | succ d ih=>
  intro i N s hd hN h;obtain⟨N,rfl⟩:∃m,N=m+1:=⟨N - 1,by omega⟩
  by_cases hi:i<s.2.1.length
  case neg=>
   have e:i=s.2.1.length:=by have:=h.le;omega
   rw[loopN];rw[pqS,A3 (by simp[D5,E4];omega)];exact⟨_,_,rfl,e▸h⟩
  have hq:=E2 hi
  generalize s.2.1[i]=q at hq
  obtain⟨t,⟨e1,_⟩,h1⟩:=As7 hab h hq;obtain⟨j,r,e2,h2⟩:=ih (i+1) N t (by omega) (by omega) h1;refine⟨j,r,?_,h2⟩;obtain⟨r0,r1⟩:=h.w.rg q (I7 hq)
  have hfl:s.1.cU.length≤1000:=by
   have:=h.w.len;have hab2:a.cU.length*b.cU.length≤8*8:=AE hab.fa hab.fb;rw[h.fi,Q7,Br];omega
  have hstep:pqS 40000000 a b ((i:Int),s)=some (.inl (((i+1:Nat):Int),t)):=by
   obtain⟨k0,hk0⟩:∃k:Nat,q.E0=k:=⟨q.E0.toNat,by omega⟩;obtain⟨k1,hk1⟩:∃k:Nat,q.E1=k:=⟨q.E1.toNat,by omega⟩;have ga:a.cU[k0]? =some (a.cU[k0]'(by omega)):=E2 _;have gb:b.cU[k1]? =some (b.cU[k1]'(by omega)):=E2 _
   have ef:Om a b q=(a.cU[k0]'(by omega)&&b.cU[k1]'(by omega)):=by
    unfold Om;rw[hk0,hk1,N3,N3,ga,gb];cases a.cU[k0]'(by omega)<;>cases b.cU[k1]'(by omega)<;>rfl
   rw[pqS,A2 (by simp[D5,E4];omega)]
   dsimp only
   rw[I0,hq];simp only[A6];rw[hk0,I0,ga];simp only[A6]
   cases hfa:a.cU[k0]'(by omega)with
   |true=>
    rw[A2 rfl,hk1,I0,gb];simp only[A6];rw[As (by simp;omega)];simp only[A6]
    rw[hfa,Bool.true_and]at ef
    rw[←ef];exact e1
   |false=>
    rw[A3 (by simp),As (by simp;omega)];simp only[A6]
    rw[hfa,Bool.false_and]at ef
    rw[←ef];exact e1
  rw[loopN,hstep];exact e2
theorem VF {a b:A0} (hab:AB a b) (ha:Ol a=0) (hb:Ol b=0):∃s,AS 40000000 a b=some (s.1,0)∧MI a b s.2.1.length s:=by
 have hp:W0 40000000 a b=some 0:=by
  unfold W0;rw[AW (by omega),AW (by omega),ha,hb];simp[X5,hab.ty]
 rw[ZN,hp];simp only[A6];rw[A3 (show¬cmp .neq (0:Int) 0=true by decide)];have es:AV ([]:List (C9×Int)) (⟨0,0⟩:C9) 0=some [(⟨0,0⟩,0)]:=rfl;rw[es];simp only[A6];have hfa:=hab.oa.fi;have hfb:=hab.ob.fi
 obtain⟨j,t,e,h⟩:=As8 hab 64 0 40000000 ((⟨a.cW,[],[]⟩:A0),[(⟨0,0⟩:C9)],[(⟨0,0⟩,0)]) (by omega) (by omega)
  ⟨⟨by simp,fun q hq=>by rw[List.mem_singleton.1 hq];dsimp only;omega,fun q v=>by
   rw[J2]
   constructor
   ·intro e;cases e;exact⟨0,rfl,rfl⟩
   rintro⟨k,rfl,hk⟩
   cases k with
   |zero=>simp at hk;rw[←hk];rfl
   |succ k=>simp at hk,fun z hz=>by cases hz⟩,rfl,rfl,by simp,by simp,rfl,fun i' h=>absurd h (Nat.not_lt_zero _)⟩
 rw[show((0:Int),(⟨a.cW,[],[]⟩:A0),[(⟨0,0⟩:C9)],[((⟨0,0⟩:C9),(0:Int))])=(((0:Nat):Int),(⟨a.cW,[],[]⟩:A0),[(⟨0,0⟩:C9)],[((⟨0,0⟩:C9),(0:Int))])from rfl,e];exact⟨t,rfl,h⟩
theorem Aj5 {a b:A0}(hab:AB a b){s:PS}(h:MI a b s.2.1.length s):GN s.1:=by
 have hl:s.1.cU.length=s.2.1.length:=by rw[h.fi,Q7,Jd]
 have hql:=h.w.len;have hab2:a.cU.length*b.cU.length≤8*8:=AE hab.fa hab.fb;have h1:=(List.getElem?_eq_some_iff.1 h.hd).1;have hc:=Wj hab h.w.nd s.2.1.length;have hm:=h.mv;refine⟨by rw[h.ty];exact hab.oa.ty,by omega,by omega,fun z hz=>?_⟩;obtain⟨i,k,q,q',hi,hk,f,t,p,_⟩:=h.w.snd z hz;have:=(List.getElem?_eq_some_iff.1 hi).1;have:=(List.getElem?_eq_some_iff.1 hk).1;rw[hl,h.ty];exact⟨by omega,p⟩
theorem Mg {a b:A0} (hab:AB a b) {s:PS} (h:MI a b s.2.1.length s):∀(w:List B8) (i:Nat) (q:C9),s.2.1[i]? =some q→∀ja jb:Nat,(∃j,Ou s.1 w i j∧s.2.1[j]? =some ⟨(ja:Int),(jb:Int)⟩)↔Ou a w q.E0.toNat ja∧Ou b w q.E1.toNat jb
 | [],i,q,hi,ja,jb=>by
  have hr:=h.w.rg q (I7 hi)
  constructor
  ·rintro⟨j,e,hj⟩;have e:i=j:=e;subst e
   rw[hi]at hj;cases hj
   exact⟨N3 _,N3 _⟩
  rintro⟨e1,e2⟩;have e1:q.E0.toNat=ja:=e1;have e2:q.E1.toNat=jb:=e2;refine⟨i,rfl,?_⟩;rw[hi];obtain⟨q0,q1⟩:=q
  dsimp only at *
  rw[show q0=(ja:Int) by omega,show q1=(jb:Int) by omega]
 | x::w,i,q,hi,ja,jb=>by
  have hr:=h.w.rg q (I7 hi)
  constructor
  ·rintro⟨j,⟨z,hz,f,c,k,t,hp⟩,hj⟩;obtain⟨i',k',q1,q2,h1,h2,f',t',_,hx⟩:=h.w.snd z hz
   have ei:i'=i:=by omega
   have ek:k'=k:=by omega
   subst ei;subst ek
   rw[hi]at h1;cases h1
   obtain⟨⟨m,hm,m1,m2,m3⟩,n,hn,n1,n2,n3⟩:=hx x c;have hr2:=h.w.rg q2 (I7 h2);obtain⟨p1,p2⟩:=(Mg hab h w k' q2 h2 ja jb).1 ⟨j,hp,hj⟩;exact⟨⟨m,hm,by omega,m3,q2.E0.toNat,by omega,p1⟩,n,hn,by omega,n3,q2.E1.toNat,by omega,p2⟩
  rintro⟨⟨m,hm,m1,m3,ka,m2,p1⟩,n,hn,n1,n3,kb,n2,p2⟩;obtain⟨z,hz,f,c,k,t,hk⟩:=h.cp i (List.getElem?_eq_some_iff.1 hi).1 q hi m hm (by omega) n hn (by omega) x m3 n3;obtain⟨j,hp,hj⟩:=(Mg hab h w k _ hk ja jb).2 ⟨by dsimp only;rw[m2,N3];exact p1,by dsimp only;rw[n2,N3];exact p2⟩;exact⟨j,⟨z,hz,f,c,k,t,hp⟩,hj⟩
theorem ZM {s:A0} {Q:List C9} (hs:∀z∈s.cV,∃k:Nat,z.To=(k:Int)∧∃q,Q[k]? =some q):∀{w:List B8} {i j:Nat},(∃q,Q[i]? =some q)→Ou s w i j→∃q,Q[j]? =some q
 |[],i,j,hi,e=>by have e:i=j:=e;subst e;exact hi
 |x::w,i,j,hi,⟨z,hz,f,c,k,t,h⟩=>by
  obtain⟨k',t',hk⟩:=hs z hz
  have:k=k':=by omega
  exact ZM hs (by rw[this];exact hk) h
theorem ZO {a b:A0} (hab:AB a b) {s:PS} (h:MI a b s.2.1.length s) (w:List B8):Wx s.1 w↔Wx a w∧Wx b w:=by
 have hf:∀j,s.1.cU[j]? =(s.2.1[j]?).map (Om a b):=fun j=>by rw[h.fi,Jd,Z8]
 unfold Wx
 constructor
 ·rintro⟨j,hp,hj⟩
  obtain⟨q,hq⟩:=ZM (Q:=s.2.1) (fun z hz=>by
   obtain⟨i',k',q1,q2,h1,h2,f',t',_⟩:=h.w.snd z hz
   exact⟨k',t',q2,h2⟩) ⟨_,h.hd⟩ hp
  rw[hf,hq]at hj
  have hj:Om a b q=true:=X8 hj;have hr:=h.w.rg q (I7 hq)
  have hq2:s.2.1[j]? =some ⟨((q.E0.toNat:Nat):Int),((q.E1.toNat:Nat):Int)⟩:=by
   rw[hq];obtain⟨q0,q1⟩:=q
   dsimp only at *
   rw[show((q0.toNat:Nat):Int)=q0 by omega,show((q1.toNat:Nat):Int)=q1 by omega]
  obtain⟨p1,p2⟩:=(Mg hab h w 0 _ h.hd q.E0.toNat q.E1.toNat).1 ⟨j,hp,hq2⟩
  unfold Om at hj
  simp only[G8,C2]at hj
  exact⟨⟨_,p1,hj.1⟩,_,p2,hj.2⟩
 rintro⟨⟨ja,p1,f1⟩,jb,p2,f2⟩;obtain⟨j,hp,hj⟩:=(Mg hab h w 0 _ h.hd ja jb).2 ⟨p1,p2⟩;refine⟨j,hp,?_⟩;rw[hf,hj]
 show some (Om a b _)=some true
 unfold Om
 dsimp only
 rw[N3,N3,f1,f2];simp
end
end Go.Ab
namespace Go.Ab
open Classical
noncomputable section
def Lv (s:A0)(S:List (Int×Bool))(n:Nat):Prop:=(∃d,Va s n d)∧((n:Int),true)∈S
def tb (s:A0)(S:List (Int×Bool))(k:Int):Bool:=decide (∃n:Nat,k=(n:Int)∧Lv s S n)
def kp (s:A0)(S:List (Int×Bool))(i:Nat):List Nat:=(List.range i).filter fun k=>decide (k=0∨Lv s S k)
def Ws (T:List (Int×Int))(K:List Nat):Prop:=∀k v,(k,v)∈T↔∃j n:Nat,k=(n:Int)∧v=(j:Int)∧K[j]? =some n
def Kl (s:A0)(K:List Nat):List Bool:=K.map fun k=>decide (s.cU[k]? =some true)
section
variable {s:A0}{M:List (Int×Int)}{S:List (Int×Bool)}
theorem MT {N:Nat} (hM:Ap0 s M) (hS:Qs s [] S) (k:Int):P2 N k M S=some (tb s S k):=by
 unfold P2
 by_cases h:∃v,(k,v)∈M
 ·obtain⟨v,hv⟩:=h;obtain⟨j,d,e2,_,h2⟩:=(hM.mem k v).1 hv;rw[Nl hM.mp hv];simp only[A6,C7]
  by_cases hin:(k,true)∈S
  ·rw[Wc hS.tru hin];simp only[A6]
   have:tb s S k=true:=by unfold tb;exact Cj ⟨j,e2,⟨d,h2⟩,by rw[←e2];exact hin⟩
   rw[this]
  obtain⟨g1,_⟩:=SE hS.tru hin;rw[g1];simp only[A6]
  have:tb s S k=false:=by
   unfold tb;refine Dh ?_;rintro⟨n,e,h3,h4⟩;exact hin (by rw[e];exact h4)
  rw[this]
 rw[Rt fun v hv=>h ⟨v,hv⟩];simp only[A6,F6,E3]
 have:tb s S k=false:=by
  unfold tb;refine Dh ?_;rintro⟨n,e,⟨d,h3⟩,h4⟩;exact h ⟨(d:Int),(hM.mem k d).2 ⟨n,d,e,rfl,h3⟩⟩
 rw[this]
theorem Ay7 {i n:Nat}(h:n∈kp s S i):n<i:=by
 unfold kp at h
 exact List.mem_range.1 (List.mem_filter.1 h).1
theorem OE (i:Nat):kp s S (i+1)=kp s S i++if i=0∨Lv s S i then[i]else[]:=by
 unfold kp;rw[List.range_succ,List.filter_append]
 congr 1
 by_cases h:i=0∨Lv s S i
 ·rw[A2 h];simp[h]
 rw[A3 h];simp[h]
theorem Ws.snoc {T:List (Int×Int)} {K:List Nat} (h:Ws T K) {i:Nat} (hi:∀n∈K,n<i):AV T (i:Int) ((K.length:Nat):Int)=some (T++[((i:Int),(K.length:Int))])∧Ws (T++[((i:Int),(K.length:Int))]) (K++[i]):=by
 constructor
 ·unfold AV;rw[A3];simp only[DE,C2];rintro⟨p,hp,e⟩;obtain⟨j,n,h1,h2,h3⟩:=(h p.1 p.2).1 hp;have:=hi n (I7 h3);omega
 intro k v;rw[AF,J2,h]
 constructor
 ·rintro(⟨j,n,h1,h2,h3⟩|e)
  ·exact⟨j,n,h1,h2,by rw[Bt (List.getElem?_eq_some_iff.1 h3).1];exact h3⟩
  cases e;exact⟨K.length,i,rfl,rfl,by simp⟩
 rintro⟨j,n,h1,h2,h3⟩
 by_cases hj:j<K.length
 ·rw[Bt hj]at h3
  exact .inl ⟨j,n,h1,h2,h3⟩
 rw[Gt (by omega)]at h3
 have h0:j - K.length=0:=by
  have:=(List.getElem?_eq_some_iff.1 h3).1
  simp at this;omega
 rw[h0]at h3
 simp at h3
 subst h3;exact .inr (by rw[h1,h2,show j=K.length by omega])
theorem Ws.get {T:List (Int×Int)} {K:List Nat} (h:Ws T K) {n:Nat} (hn:n∈K):∃j:Nat,Am T (n:Int) (0:Int)=some ((j:Int),true)∧K[j]? =some n:=by
 unfold Am
 cases hf:T.find? (fun p=>decide (p.1=(n:Int)))with
 |none=>
  obtain⟨j,hj⟩:=M3 hn;have:=List.find?_eq_none.1 hf _ ((h (n:Int) (j:Int)).2 ⟨j,n,rfl,rfl,hj⟩)
  simp at this
 |some p=>
  have h1:=Ez hf;have h2:=Fc hf
  simp only[C2]at h2
  obtain⟨p1,p2⟩:=p
  dsimp only at h2
  obtain⟨j,n',e1,e2,h3⟩:=(h _ _).1 h1
  have:n'=n:=by omega
  subst this;exact⟨j,by rw[e2],h3⟩
theorem As2 (hs:GN s) (hM:Ap0 s M) (hS:Qs s [] S):∃T,loopN (trA 40000000 s (M,S)) 40000000 (0,(⟨s.cW,[],[]⟩:A0),([]:List (Int×Int)))=some (⟨s.cW,Kl s (kp s S s.cU.length),[]⟩,T)∧Ws T (kp s S s.cU.length):=by
 have hfi:=hs.fi
 obtain⟨r,h1,h2⟩:=HY (N:=40000000) (l:=s.cU) (Q:=fun(r:A0×List (Int×Int))=>r.1=⟨s.cW,Kl s (kp s S s.cU.length),[]⟩∧Ws r.2 (kp s S s.cU.length))
  (I:=fun i (t:Int×A0×List (Int×Int))=>t.1=(i:Int)∧t.2.1=⟨s.cW,Kl s (kp s S i),[]⟩∧Ws t.2.2 (kp s S i))
  (s0:=((0:Int),(⟨s.cW,[],[]⟩:A0),([]:List (Int×Int)))) (step:=trA 40000000 s (M,S))
  (fun i x t hx hi ⟨e1,e2,e3⟩=>by
   obtain⟨j,o,T⟩:=t
   simp only at e1 e2 e3
   subst e1;subst e2
   have hkl:(kp s S i).length≤i:=by unfold kp;exact Z6 (Hf _ _) (by simp)
   have hb:x=decide (s.cU[i]? =some true):=by rw[hx];cases x<;>rfl
   have hcond:cmp .lss (i:Int) (Ar.len s.cU)=true:=by simp only[D5,E4,C2];omega
   obtain⟨g1,g2⟩:=e3.snoc (i:=i) fun n hn=>Ay7 hn
   have hlen:Ar.len (Kl s (kp s S i))=(((kp s S i).length:Nat):Int):=by rw[E4];unfold Kl;rw[Q7]
   have hap:N5 (Kl s (kp s S i)) [x]=some (Kl s (kp s S i++[i])):=by
    rw[As (by unfold Kl;rw[Q7];simp;omega)];unfold Kl;rw[Bp];simp only[E9,I1,←hb]
   have hinc:ar .add .i64 (i:Int) 1=((i+1:Nat):Int):=O6 hi (by omega);have hyes:∃t',some (Sum.inl (ar .add .i64 (i:Int) 1,(⟨s.cW,Kl s (kp s S i++[i]),[]⟩:A0),T++[((i:Int),((kp s S i).length:Int))]):(Int×A0×List (Int×Int))⊕(A0×List (Int×Int)))=some (.inl t')∧((i=0∨Lv s S i)→t'.1=((i+1:Nat):Int)∧t'.2.1=⟨s.cW,Kl s (kp s S (i+1)),[]⟩∧Ws t'.2.2 (kp s S (i+1))):=⟨_,rfl,fun h=>⟨hinc,by rw[OE,A2 h],by rw[OE,A2 h];exact g2⟩⟩;unfold trA;rw[A2 hcond];simp only[I0,hx,A6]
   by_cases h0:i=0
   ·rw[A2 (by simp only[EZ,C2];omega)];simp only[hlen,g1,A6,hap];obtain⟨t',q1,q2⟩:=hyes;exact⟨t',q1,q2 (.inl h0)⟩
   rw[A3 (by simp only[EZ,C2];omega),MT hM hS];simp only[A6]
   by_cases hl:Lv s S i
   ·have:tb s S (i:Int)=true:=Cj ⟨i,rfl,hl⟩;rw[A2 this];simp only[hlen,g1,A6,hap];obtain⟨t',q1,q2⟩:=hyes;exact⟨t',q1,q2 (.inr hl)⟩
   have:¬tb s S (i:Int)=true:=by
    intro h;obtain⟨n,e,h⟩:=Ca h;exact hl (by rw[show i=n by omega];exact h)
   rw[A3 this];refine⟨_,rfl,hinc,?_,?_⟩
   ·rw[OE,A3 (by simp[h0,hl]),H7]
   rw[OE,A3 (by simp[h0,hl]),H7];exact e3)
  (fun t ⟨e1,e2,e3⟩=>by
   obtain⟨j,o,T⟩:=t
   simp only at e1 e2 e3
   subst e1;subst e2;refine⟨(⟨s.cW,Kl s (kp s S s.cU.length),[]⟩,T),?_,rfl,e3⟩;unfold trA
   rw[A3 (by simp only[D5,E4,C2];omega)])
  ⟨rfl,rfl,fun k v=>⟨fun h=>(by cases h),fun⟨j,n,_,_,h⟩=>(by simp[kp]at h)⟩⟩ (by omega)
 obtain⟨r1,r2⟩:=r;obtain⟨q1,q2⟩:=h2
 dsimp only at q1 q2
 subst q1;exact⟨r2,h1,q2⟩
def YN (T:List (Int×Int))(k:Int):Int:=((Am T k (0:Int)).getD (0,false)).1
def Zo (s:A0)(S:List (Int×Bool))(T:List (Int×Int))(m:C3):List C3:=if tb s S m.cX=true∧tb s S m.To=true∧vd m.On=false then[⟨YN T m.cX,YN T m.To,m.On⟩]else[]
def Tg (s:A0)(S:List (Int×Bool))(T:List (Int×Int)):A0:=⟨s.cW,Kl s (kp s S s.cU.length),s.cV.flatMap (Zo s S T)⟩
theorem As1 (hs:GN s) (hM:Ap0 s M) (hS:Qs s [] S) (T:List (Int×Int)) (F:List Bool):loopN (trB 40000000 s (M,S) (⟨s.cW,F,[]⟩,T)) 40000000 (0,(⟨s.cW,F,[]⟩:A0))=some ⟨s.cW,F,s.cV.flatMap (Zo s S T)⟩:=by
 have hmv:=hs.mv
 rw [Mo (l:=s.cV) (rep:=fun i (acc:List C3)=>((i:Int),(⟨s.cW,F,acc⟩:A0))) (g:=Zo s S T) (fin:=fun acc=>(⟨s.cW,F,acc⟩:A0)) (fun m _=>by unfold Zo;split<;>simp) []
  (fun i m acc hx hi ha=>by
   have hm1:=I7 hx;have hp:=(hs.each m hm1).2
   rw[Bq]at ha
   unfold trB Zo;rw[A2 (by simp only[D5,E4,C2];omega)];simp only[I0,hx,A6];rw[MT hM hS,MT hM hS];simp only[A6];rw[O6 hi (by omega)]
   cases h1:tb s S m.cX with
   |false=>simp
   | true=>
    cases h2:tb s S m.To with
    |false=>simp
    | true=>
     rw[Ma (by omega) hp];simp only[A6,C7]
     cases h3:vd m.On with
     |true=>simp[Bb]
     |false=>
      rw[KP (by omega) hp];have e1:Am T m.cX (0:Int)=some ((Am T m.cX (0:Int)).getD (0,false)):=rfl;have e2:Am T m.To (0:Int)=some ((Am T m.To (0:Int)).getD (0,false)):=rfl;rw[e1,e2];simp only[A6,Bb,Z7,C7];rw[As (by simp;omega)]
      rfl) (fun acc _=>by unfold trB;rw[A3 (by simp only[D5,E4,C2];omega)]) (by omega) (by rfl)]
 rfl
end
theorem XC {s:A0}(h0:Ol s=0):∃S T,CU 40000000 s=some (Tg s S T,0)∧Qs s [] S∧Cls s [] S∧((0:Int),true)∈S∧Ws T (kp s S s.cU.length):=by
 rw[Zm,AW (by omega)];simp only[A6,h0,show cmp .neq (0:Int) 0=false from rfl,F6,E3];have hs:=Gw h0;obtain⟨M,e1,h1,h2⟩:=An4 hs;have hM:Ap0 s M:=⟨h1,h2⟩;obtain⟨S,e2,hS,hc,hz⟩:=ZH hs;simp only[e1,e2,A6];obtain⟨T,e3,hT⟩:=As2 hs hM hS;rw[e3];simp only[A6];rw[As1 hs hM hS T];exact⟨S,T,rfl,hS,hc,hz,hT⟩
section
variable {s:A0}{S:List (Int×Bool)}{T:List (Int×Int)}
theorem Sz {n i:Nat}:n∈kp s S i↔n<i∧(n=0∨Lv s S n):=by unfold kp;simp
theorem Sy {i:Nat}(hi:1≤i):(kp s S i)[0]? =some 0:=by
 obtain⟨k,rfl⟩:∃k,i=k+1:=⟨i - 1,by omega⟩;unfold kp;rw[List.range_succ_eq_map,Fd,A2 (by simp)];rfl
theorem RP (hs:GN s) (hT:Ws T (kp s S s.cU.length)) {z:C3}:z∈(Tg s S T).cV↔∃m∈s.cV,∃f t j k:Nat,m.cX=(f:Int)∧m.To=(t:Int)∧Lv s S f∧Lv s S t∧vd m.On=false∧YN T m.cX=(j:Int)∧YN T m.To=(k:Int)∧(kp s S s.cU.length)[j]? =some f∧(kp s S s.cU.length)[k]? =some t∧z=⟨(j:Int),(k:Int),m.On⟩:=by
 show z∈s.cV.flatMap (Zo s S T)↔_
 rw[Di]
 constructor
 ·rintro⟨m,hm,hz⟩
  unfold Zo at hz
  split at hz
  ·next h=>
   obtain⟨h1,h2,h3⟩:=h;obtain⟨f,ef,lf⟩:=Ca h1;obtain⟨t,et,lt⟩:=Ca h2;have hr:=(hs.each m hm).1;obtain⟨j,gj,kj⟩:=hT.get (n:=f) (Sz.2 ⟨by omega,.inr lf⟩);obtain⟨k,gk,kk⟩:=hT.get (n:=t) (Sz.2 ⟨by omega,.inr lt⟩)
   have nj:YN T m.cX=(j:Int):=by unfold YN;rw[ef,gj];rfl
   have nk:YN T m.To=(k:Int):=by unfold YN;rw[et,gk];rfl
   exact⟨m,hm,f,t,j,k,ef,et,lf,lt,h3,nj,nk,kj,kk,by rw[List.mem_singleton.1 hz,nj,nk]⟩
  cases hz
 rintro⟨m,hm,f,t,j,k,ef,et,lf,lt,h3,nj,nk,kj,kk,rfl⟩;refine⟨m,hm,?_⟩;unfold Zo;rw[A2 ⟨Cj ⟨f,ef,lf⟩,Cj ⟨t,et,lt⟩,h3⟩,nj,nk];simp
theorem As0 (hs:GN s) (hT:Ws T (kp s S s.cU.length)):GN (Tg s S T):=by
 have hfi:=hs.fi
 have hkl:(kp s S s.cU.length).length≤s.cU.length:=by unfold kp;exact Z6 (Hf _ _) (by simp)
 have hk1:=(List.getElem?_eq_some_iff.1 (Sy (s:=s) (S:=S) hfi.1)).1
 have hl:(Tg s S T).cU.length=(kp s S s.cU.length).length:=by show(Kl _ _).length=_;unfold Kl;rw[Q7]
 refine⟨hs.ty,by omega,?_,fun z hz=>?_⟩
 ·have:=GF (l:=s.cV) (g:=Zo s S T) (fun m _=>by unfold Zo;split<;>simp);have:=hs.mv
  show(s.cV.flatMap (Zo s S T)).length≤2048
  omega
 obtain⟨m,hm,f,t,j,k,_,_,_,_,_,_,_,kj,kk,rfl⟩:=(RP hs hT).1 hz;have:=(List.getElem?_eq_some_iff.1 kj).1;have:=(List.getElem?_eq_some_iff.1 kk).1;rw[hl];exact⟨⟨by dsimp only;omega,by dsimp only;omega⟩,(hs.each m hm).2⟩
theorem Zn (hs:GN s) (hT:Ws T (kp s S s.cU.length)):∀{w:List B8} {j j' p:Nat},(kp s S s.cU.length)[j]? =some p→Ou (Tg s S T) w j j'→∃p',(kp s S s.cU.length)[j']? =some p'∧Ou s w p p'
 |[],j,j',p,hj,e=>by have e:j=j':=e;subst e;exact⟨p,hj,rfl⟩
 |x::w,j,j',p,hj,⟨z,hz,f,c,k,t,h⟩=>by
  obtain⟨m,hm,mf,mt,jj,kk,ef,et,_,_,_,_,_,q1,q2,rfl⟩:=(RP hs hT).1 hz
  dsimp only at f t c
  have e1:jj=j:=by omega
  have e2:kk=k:=by omega
  subst e1;subst e2
  rw[hj]at q1;cases q1
  obtain⟨p',h1,h2⟩:=Zn hs hT q2 h;exact⟨p',h1,m,hm,ef,c,mt,et,h2⟩
theorem WH (hs:GN s) (hT:Ws T (kp s S s.cU.length)) (hc:Cls s [] S):∀{w:List B8} {j p q:Nat},(kp s S s.cU.length)[j]? =some p→((p:Int),true)∈S→Ou s w p q→s.cU[q]? =some true→∃j',Ou (Tg s S T) w j j'∧(kp s S s.cU.length)[j']? =some q
 |[],j,p,q,hj,hp,e,hf=>by have e:p=q:=e;subst e;exact⟨j,rfl,hj⟩
 | x::w,j,p,q,hj,hp,⟨m,hm,f,c,k,t,h⟩,hf=>by
  have hr:=(hs.each m hm).1;have hv:=VY c
  have hk:((k:Int),true)∈S:=by
   rcases hc _ hp with h|h
   ·cases h
   rw[←t];exact h m hm f hv
  have live:∀{u:List B8} {n:Nat},Ou s u n q→((n:Int),true)∈S→Lv s S n:=fun h1 h2=>by
   obtain⟨d,_,hd⟩:=VV (ZL h1 hf);exact⟨⟨d,hd⟩,h2⟩
  have lp:Lv s S p:=live (u:=x::w) ⟨m,hm,f,c,k,t,h⟩ hp;have lk:Lv s S k:=live h hk;obtain⟨j1,g1,k1⟩:=hT.get (n:=p) (Sz.2 ⟨by omega,.inr lp⟩);obtain⟨j2,g2,k2⟩:=hT.get (n:=k) (Sz.2 ⟨by omega,.inr lk⟩)
  have n1:YN T m.cX=(j1:Int):=by unfold YN;rw[f,g1];rfl
  have n2:YN T m.To=(j2:Int):=by unfold YN;rw[t,g2];rfl
  have hz:=(RP hs hT (z:=⟨(j1:Int),(j2:Int),m.On⟩)).2 ⟨m,hm,p,k,j1,j2,f,t,lp,lk,hv,n1,n2,k1,k2,rfl⟩
  have hjj:j1=j:=by
   have hnd:(kp s S s.cU.length).Nodup:=by unfold kp;exact List.Nodup.sublist List.filter_sublist List.nodup_range
   have a1:=List.getElem?_eq_some_iff.1 k1;have a2:=List.getElem?_eq_some_iff.1 hj;exact(List.getElem_inj hnd).1 (a1.2.trans a2.2.symm)
  subst hjj;obtain⟨j',h1,h2⟩:=WH hs hT hc k2 hk h hf;exact⟨j',⟨_,hz,rfl,c,j2,rfl,h1⟩,h2⟩
theorem Ah1 (hs:GN s) (hT:Ws T (kp s S s.cU.length)) (hc:Cls s [] S) (hz:((0:Int),true)∈S) (w:List B8):Wx (Tg s S T) w↔Wx s w:=by
 have hfi:=hs.fi
 have hf:∀j:Nat,(Tg s S T).cU[j]? =((kp s S s.cU.length)[j]?).map fun k:Nat=>decide (s.cU[k]? =some true):=fun j=>by show(Kl s (kp s S s.cU.length))[j]? =_;unfold Kl;rw[Z8]
 unfold Wx
 constructor
 ·rintro⟨j,hp,hj⟩;obtain⟨p',h1,h2⟩:=Zn hs hT (Sy hfi.1) hp
  rw[hf,h1]at hj
  exact⟨p',h2,Ca (X8 hj)⟩
 rintro⟨q,hp,hq⟩;obtain⟨j',h1,h2⟩:=WH hs hT hc (Sy hfi.1) hz hp hq;refine⟨j',h1,?_⟩;rw[hf,h2];exact O8 some (Cj hq)
end
end
end Go.Ab
namespace Go.Ab
theorem Tn {w:List B8} (hw:w.length≤1000):M9 40000000 w=some w.reverse:=by
 unfold M9;rw[E4,show ar .sub .i64 (w.length:Int) 1=(w.length:Int) - 1 from Fp (by omega) (by omega)]
 obtain⟨r,h1,h2⟩:=HY (N:=40000000) (l:=List.range (w.length / 2)) (Q:=fun(r:List B8)=>r=w.reverse)
  (I:=fun i (t:Int×Int×List B8)=>t.1=(i:Int)∧t.2.1=(w.length:Int) - 1 - i∧t.2.2.length=w.length∧∀k,k<w.length→t.2.2[k]? =if k<i∨w.length - i≤k then w[w.length - 1 - k]? else w[k]?)
  (s0:=((0:Int),(w.length:Int) - 1,w))
  (step:=fun(s1:Int×Int×(List B8))=>
   (
    if cmp .lss s1.1 s1.2.1=true then
     ((
      (DK (Eh s1.2.2 s1.2.1)).bind fun _=>
      (D0 s1.2.2 s1.2.1).bind fun x285=>
      (DK (Eh s1.2.2 s1.1)).bind fun _=>
      (D0 s1.2.2 s1.1).bind fun x445=>
      (DK (Eh s1.2.2 s1.1)).bind fun _=>
      (CM s1.2.2 s1.1 (fun x525:B8=>x285)).bind fun l526=>
      (DK (Eh l526 s1.2.1)).bind fun _=>
      (CM l526 s1.2.1 (fun x605:B8=>x445)).bind fun l606=>
      some l606
     ):Option (((List B8)))).bind fun s4=>
     some (.inl (ar .add .i64 s1.1 1,ar .sub .i64 s1.2.1 1,s4))
    else
     some (.inr s1.2.2)
    :Option ((Int×Int×(List B8))⊕(((List B8))))))
  (fun i x t hx hi ⟨e1,e2,e3,e4⟩=>by
   obtain⟨a,b,L⟩:=t
   simp only at e1 e2 e3 e4
   rw[S5]at hi
   obtain⟨j,hj⟩:∃j:Nat,j=w.length - 1 - i:=⟨_,rfl⟩
   have eb:b=(j:Int):=by omega
   subst e1;subst eb
   have hil:i<L.length:=by omega
   have hjl:j<L.length:=by omega
   have qi:=E2 hil;have qj:=E2 hjl
   have r1:∀(l:List B8) (k:Nat),k<l.length→DK (Eh l (k:Int))=some ():=fun l k h=>by unfold DK Eh;rw[A2];simp;omega
   have u1:∀(l:List B8) (k:Nat) (y:B8),k<l.length→CM l (k:Int) (fun _:B8=>y)=some (l.set k y):=fun l k y h=>by
    unfold CM;rw[I0,E2 h,N3];rfl
   simp only[D5,C2];rw[A2 (by omega),r1 L j hjl,I0,qj];simp only[A6];rw[r1 L i hil,I0,qi];simp only[A6];rw[u1 L i _ hil];simp only[A6];rw[r1 _ j (by simp;omega)];simp only[A6];rw[u1 _ j _ (by simp;omega)];simp only[A6];refine⟨_,rfl,O7 (by omega) (by omega),?_,by simp;omega,fun k hk=>?_⟩
   ·show ar .sub .i64 (j:Int) 1=_
    rw[show ar .sub .i64 (j:Int) 1=(j:Int) - 1 from Fp (by omega) (by omega)];omega
   show((L.set i L[j]).set j L[i])[k]? =_
   rw[P5,IZ]
   by_cases h1:j=k
   ·subst h1;rw[A2 rfl,A2 hjl,A2 (by omega)];have:=e4 i (by omega)
    rw[A3 (by omega),qi]at this
    rw[this];congr 1;omega
   rw[A3 h1,P5]
   by_cases h2:i=k
   ·subst h2;rw[A2 rfl,A2 hil,A2 (by omega)];have:=e4 j (by omega)
    rw[A3 (by omega),qj]at this
    rw[this,hj]
   rw[A3 h2,e4 k hk]
   by_cases h3:k<i∨w.length - i≤k
   ·rw[A2 h3,A2 (by omega)]
   rw[A3 h3,A3 (by omega)])
  (fun t ⟨e1,e2,e3,e4⟩=>by
   obtain⟨a,b,L⟩:=t
   simp only at e1 e2 e3 e4
   rw[S5]at e1 e2 e4
   subst e1;subst e2;simp only[D5,C2];rw[A3 (by omega)];refine⟨_,rfl,AH fun k=>?_⟩
   by_cases hk:k<w.length
   ·rw[e4 k hk,List.getElem?_reverse hk]
    split
    ·rfl
    congr 1;omega
   rw[Cd (by omega),Cd (by simp;omega)])
  ⟨rfl,by simp,rfl,fun k hk=>by rw[A3 (by omega)]⟩ (by rw[S5];omega)
 rw[h1,h2];rfl
theorem Ac9 (a b:A0) (w:List B8):∃g,GE 40000000 w [a,b]=some g∧(g=true→w.length≤8∧(AB a b)∧Ol a=0∧Ol b=0∧∀x∈w,Md a.cW x=0):=by
 unfold GE
 by_cases hw:8<(w.length:Int)
 ·rw[A2 (by simpa[U3,E4]using hw)];exact⟨_,rfl,fun h=>by cases h⟩
 rw[A3 (by simpa[U3,E4]using hw)]
 have one:∀s:A0,∃p,Bx 40000000 s w [a,b]=some p∧(p=false→Ol s=0∧(∀x∈w,Md s.cW x=0)∧s.cW=a.cW∧s.cU.length≤8∧s.cV.length≤16∧∀m∈s.cV,Af0 m.On):=by
  intro s;obtain⟨r,e1,e2,h1,_⟩:=Qr s w;obtain⟨f,e3,h3⟩:=Ah7 (N:=40000000) (s:=s) (by omega);unfold Bx;simp only[e2,e3,A6]
  by_cases hb:Ar.or (Ar.nt f) (cmp .neq r.2 0)=true
  ·rw[A2 hb];exact⟨_,rfl,fun h=>by cases h⟩
  rw[A3 hb];have hi:D0 [a,b] 0=some a:=rfl;rw[hi]
  simp only[Gz,Bb,X5,S3,S4,Cg,not_or]at hb
  refine⟨_,rfl,fun h=>?_⟩
  have hf:f=true:=by cases f<;>simp_all
  have hr:r.2=0:=by omega
  obtain⟨h4,h5,_⟩:=h1 hr;obtain⟨f1,f2,f3⟩:=h3 hf
  simp only[X5,Bool.not_eq_false',C2]at h
  exact⟨h4,h5,h,f1,f2,fun m hm=>(f3 m hm).2⟩
 obtain⟨pa,ea,ha⟩:=one a;obtain⟨pb,eb,hb⟩:=one b
 have hc:J4 40000000 [a,b] (fun y1=>Bx 40000000 y1 w [a,b])=some (pa||pb):=by
  unfold J4 M7
  rw[show(40000000:Nat)=39999997+1+1+1 from rfl]at ea eb ⊢
  have i0:D0 [a,b] 0=some a:=rfl;have i1:D0 [a,b] 1=some b:=rfl;have l2:Ar.len [a,b]=(2:Int):=rfl;have e0:ar .add .i64 (0:Int) 1=1:=rfl;have e1:ar .add .i64 (1:Int) 1=2:=rfl;have c0:cmp .lss (0:Int) 2=true:=rfl;have c1:cmp .lss (1:Int) 2=true:=rfl;have c2:cmp .lss (2:Int) 2=false:=rfl;cases pa<;>cases pb<;>simp only[loopN,l2,c0,c1,c2,i0,i1,e0,e1,ea,eb,A6,C7,F6,E3]<;>rfl
 rw[hc];simp only[A6];refine⟨_,rfl,fun h=>?_⟩
 simp only[Bb,S4,Bool.or_eq_false_iff]at h
 obtain⟨a1,a2,_,a4,a5,a6⟩:=ha h.1;obtain⟨b1,_,b3,b4,b5,b6⟩:=hb h.2;exact⟨by omega,⟨Gw a1,Gw b1,b3.symm,a4,b4,a5,b5,a6,b6⟩,a1,b1,a2⟩
theorem OK {p q:Bool}:Ar.beq p q=true↔p=q:=by cases p<;>cases q<;>decide
theorem QI (aw:DO 40000000=some true) (a b:A0) (w:List B8):X4 40000000 a b w=some true:=by
 unfold X4;obtain⟨g,e,hg⟩:=Ac9 a b w;rw[e,aw];simp only[A6]
 cases g with
 |false=>rfl
 | true=>
  rw[A3 (show¬Ar.nt true=true by decide)];obtain⟨hw,hab,ha,hb,hx⟩:=hg rfl;have hfa:=hab.fa;have hfb:=hab.fb;have hma:=hab.ma;have hmb:=hab.mb;obtain⟨s,p1,p2⟩:=VF hab ha hb;obtain⟨c,u1,u2⟩:=Zk ha hb hab.ty (by omega) (by omega) (by omega) (by omega);have r1:=VA ha (by omega) (by omega);obtain⟨S,T,t1,t2,t3,t4,t5⟩:=XC ha;rw[p1,u1,r1,t1];simp only[A6];have z0:ar .add .i64 (ar .add .i64 (ar .add .i64 (0:Int) 0) 0) 0=0:=rfl;rw[z0,A3 (show¬cmp .neq (0:Int) 0=true by decide)];have op:=Aj5 hab p2;have ou:=Ar9 (c:=c) hab.oa hab.ob hab.ty (by omega) (by omega) (by omega) (by omega);have orv:=As3 hab.oa (by omega) (by omega);have ot:=As0 hab.oa t5;rw[AW (by omega),AW (by omega),AW (by omega),AW (by omega),JS op,JS ou,JS orv,JS ot];simp only[A6];rw[z0,A3 (show¬cmp .neq (0:Int) 0=true by decide)]
  have ec:O3 40000000 w=some w:=by unfold O3;rw[As (by simp;omega)];rfl
  rw[ec];simp only[A6];rw[Tn (by omega)];simp only[A6];have hxr:∀x∈w.reverse,Md a.cW x=0:=fun x hx'=>hx x (List.mem_reverse.1 hx');obtain⟨ba,ea,ia⟩:=KT ha (by omega) hx;obtain⟨bb,eb,ib⟩:=KT (w:=w) hb (by omega) (fun x hx'=>by rw[←hab.ty];exact hx x hx');obtain⟨bp,ep,ip⟩:=KT (w:=w) (JS op) (by omega) (fun x hx'=>by rw[p2.ty];exact hx x hx');obtain⟨bu,eu,iu⟩:=KT (w:=w) (JS ou) (by omega) hx;obtain⟨br,er,ir⟩:=KT (w:=w.reverse) (JS orv) (by rw[List.length_reverse];omega) hxr;obtain⟨bt,et,it⟩:=KT (w:=w) (JS ot) (by omega) hx;rw[ea,eb,ep,eu,er,et];simp only[A6]
  rw[ZO hab p2]at ip
  rw[Ag9 hab.oa hab.ob u2]at iu
  rw[Ai6 hab.oa,List.reverse_reverse]at ir
  rw[Ah1 hab.oa t5 t3 t4]at it
  have q1:bp=(ba&&bb):=by
   rw[X7,ip,G8,ia,ib]
  have q2:bu=(ba||bb):=by
   rw[X7,iu,S3,ia,ib]
  have q3:br=ba:=by
   rw[X7,ir,ia]
  have q4:bt=ba:=by
   rw[X7,it,ia]
  rw[Dv,Gz,A2 (OK.2 q1),A2 (OK.2 q2),A2 (OK.2 q3),A2 (OK.2 q4)]
end Go.Ab
namespace Go.Ab
open Go.RowKit Go.ChangeShapes Go.WideShapes Go.ChangeAt Go.Proofs Go.Proofs.YtildiiggamckaaaGreatDoor
set_option maxRecDepth 100000
mutual
def Nq :L7→V
 |⟨op,args,var,field,kind,val⟩=>.agg [.int .i64 op,.sl (UG args) .ro,.int .i64 var,.int .i64 field,.int .i64 kind,.int .i64 val.Kind,.int .i64 val.Num,.str val.Text]
def UG :List L7→List V
 |[]=>[]
 |a::r=>Nq a::UG r
end
theorem RA :∀l:List L7,UG l=l.map Nq
 |[]=>by simp[UG]
 |a::r=>by simp[UG,RA r]
mutual
def Yx :A9→V
 |⟨op,args,typ,var,scope,span,c⟩=>.agg [.int .i64 op,.sl (UD args) .ro,.int .i64 typ,.int .i64 var,.int .i64 scope,.int .i64 span,.int .i64 c.Op,.sl (c.dA.map Nq) .ro,.int .i64 c.Var,.int .i64 c.Field,.int .i64 c.Kind,.int .i64 c.Value.Kind,.int .i64 c.Value.Num,.str c.Value.Text]
def UD :List A9→List V
 |[]=>[]
 |a::r=>Yx a::UD r
end
theorem Rv :∀l:List A9,UD l=l.map Yx
 |[]=>by simp[UD]
 |a::r=>by simp[UD,Rv r]
noncomputable def MC (x:A4):V:=.agg [.int .i64 x.Low,.int .i64 x.dC]
noncomputable def HG (x:List A4):V:=.sl (lst MC x) .ro
noncomputable def QL (x:B3):V:=.agg [.sl (lst HG x.cZ) .ro]
noncomputable def PU (x:C3):V:=.agg [.int .i64 x.cX,.int .i64 x.To,.sl (lst HG x.On.cZ) .ro]
noncomputable def SJ (x:A0):V:=.agg [.int .i64 x.cW,.sl (lst V.bool x.cU) .ro,.sl (lst PU x.cV) .ro]
noncomputable def PR (x:B8):V:=.agg [.int .i64 x.Typ,.int .i64 x.Num]
noncomputable def Rz (x:HK):V:=.agg [.str x.Name,.int .i64 x.Kind]
noncomputable def PT (x:BX):V:=.agg [.str x.Name,.sl (lst Rz x.Fields) .ro]
noncomputable def YA (x:X0):V:=.agg [.int .i64 x.Kind,.int .i64 x.Num,.str x.Text]
noncomputable def Ry (x:FW):V:=.agg [.int .i64 x.dD,.int .i64 x.Typ,.int .i64 x.Var,.int .i64 x.cY.Op,.sl (lst Nq x.cY.dA) .ro,.int .i64 x.cY.Var,.int .i64 x.cY.Field,.int .i64 x.cY.Kind,.int .i64 x.cY.Value.Kind,.int .i64 x.cY.Value.Num,.str x.cY.Value.Text]
noncomputable def Rx (x:LR):V:=.agg [.sl (lst Ry x.dM) .ro]
noncomputable def KO (x:BC):V:=.agg [.int .i64 x.dD,.int .i64 x.Span]
noncomputable def UF (x:D6):V:=.agg [.int .i64 x.cX,.int .i64 x.To,.int .i64 x.Var,.int .i64 x.Typ,.int .i64 x.cY.Op,.sl (lst Nq x.cY.dA) .ro,.int .i64 x.cY.Var,.int .i64 x.cY.Field,.int .i64 x.cY.Kind,.int .i64 x.cY.Value.Kind,.int .i64 x.cY.Value.Num,.str x.cY.Value.Text,.sl (lst (V.int .i64) x.dI) .ro,.sl (lst (V.int .i64) x.dJ) .ro,.sl (lst Nq x.dG) .ro,.sl (lst KO x.dH) .ro,.sl (lst (V.int .i64) x.dK) .ro]
noncomputable def QM (x:P1):V:=.agg [.int .i64 x.Vars,.int .i64 x.dL,.sl (lst Rx x.dE) .ro,.sl (lst UF x.dF) .ro]
noncomputable def Ad6 (x:C9):V:=.agg [.int .i64 x.E0,.int .i64 x.E1]
noncomputable def ID (x:Gb):V:=.agg [.int .i64 x.a,.int .i64 x.b]
noncomputable def MB (x:R7):V:=.agg [.str x.Name,.int .i64 x.Typ]
noncomputable def PQ (x:Bm):V:=.agg [.sl (lst PT x.types) .ro,.sl (lst MB x.vars) .ro]
noncomputable def LJ (x:G1):V:=.agg [.int .i64 x.times,.int .i64 x.plus]
noncomputable def IE (x:Gc):V:=.agg [.int .i64 x.Edge.cX,.int .i64 x.Edge.To,.int .i64 x.Edge.Var,.int .i64 x.Edge.Typ,.int .i64 x.Edge.cY.Op,.sl (lst Nq x.Edge.cY.dA) .ro,.int .i64 x.Edge.cY.Var,.int .i64 x.Edge.cY.Field,.int .i64 x.Edge.cY.Kind,.int .i64 x.Edge.cY.Value.Kind,.int .i64 x.Edge.cY.Value.Num,.str x.Edge.cY.Value.Text,.sl (lst (V.int .i64) x.Edge.dI) .ro,.sl (lst (V.int .i64) x.Edge.dJ) .ro,.sl (lst Nq x.Edge.dG) .ro,.sl (lst KO x.Edge.dH) .ro,.sl (lst (V.int .i64) x.Edge.dK) .ro,.bool x.Done,.int .i64 x.Rest.Op,.sl (lst Yx x.Rest.dA) .ro,.int .i64 x.Rest.Typ,.int .i64 x.Rest.Var,.int .i64 x.Rest.dD,.int .i64 x.Rest.Span,.int .i64 x.Rest.cY.Op,.sl (lst Nq x.Rest.cY.dA) .ro,.int .i64 x.Rest.cY.Var,.int .i64 x.Rest.cY.Field,.int .i64 x.Rest.cY.Kind,.int .i64 x.Rest.cY.Value.Kind,.int .i64 x.Rest.cY.Value.Num,.str x.Rest.cY.Value.Text]
noncomputable def KY (x:A5):V:=.agg [.bool x.done,.int .i64 x.p.Op,.sl (lst Yx x.p.dA) .ro,.int .i64 x.p.Typ,.int .i64 x.p.Var,.int .i64 x.p.dD,.int .i64 x.p.Span,.int .i64 x.p.cY.Op,.sl (lst Nq x.p.cY.dA) .ro,.int .i64 x.p.cY.Var,.int .i64 x.p.cY.Field,.int .i64 x.p.cY.Kind,.int .i64 x.p.cY.Value.Kind,.int .i64 x.p.cY.Value.Num,.str x.p.cY.Value.Text]
noncomputable def MA (x:W9):V:=.agg [.int .i64 x.least,.int .i64 x.most,.bool x.typed,.bool x.cond,.bool x.scope,.bool x.span]
noncomputable def Az1 (x:List Bool):V:=.sl (lst V.bool x) .ro
noncomputable def Yy (x:List C3):V:=.sl (lst PU x) .ro
noncomputable def UE (x:List B8):V:=.sl (lst PR x) .ro
noncomputable def Yz (x:List L7):V:=.sl (lst Nq x) .ro
noncomputable def Az0 (x:List Int):V:=.sl (lst (V.int .i64) x) .ro
noncomputable def Wh (x:List BC):V:=.sl (lst KO x) .ro
noncomputable instance encsInst :K2 where
 eAA4:=MC
 eAB5:=fun _=>rfl
 eAD8:=QL
 eAC8:=fun _=>rfl
 eAA5:=PU
 eAB1:=fun _=>rfl
 eAC2:=SJ
 eAC9:=fun _=>rfl
 eAA8:=PR
 eAB8:=fun _=>rfl
 eAD2:=Rz
 eAE4:=fun _=>rfl
 eAC3:=PT
 eAD9:=fun _=>rfl
 eAE9:=YA
 eAF7:=fun _=>rfl
 eAB0:=Nq
 eAB9:=fun⟨_,_,_,_,_,_⟩=>by simp only[Nq,RA];rfl
 eAA6:=Yx
 eAB3:=fun⟨_,_,_,_,_,_,_⟩=>by simp only[Yx,Rv];rfl
 eAC6:=Ry
 eAE7:=fun _=>rfl
 eAC4:=Rx
 eAE8:=fun _=>rfl
 eAB6:=KO
 eAE0:=fun _=>rfl
 eAA7:=UF
 eAC7:=fun _=>rfl
 eAF0:=QM
 eAF8:=fun _=>rfl
 eAA9:=Ad6
 eAC0:=fun _=>rfl
 eAF1:=ID
 eAF9:=fun _=>rfl
 eAB7:=MB
 eAD7:=fun _=>rfl
 eAF2:=PQ
 eAG0:=fun _=>rfl
 eAF3:=LJ
 eAG1:=fun _=>rfl
 eAF4:=IE
 eAG2:=fun _=>rfl
 eAF5:=KY
 eAG3:=fun _=>rfl
 eAE5:=MA
 eAF6:=fun _=>rfl
 eLB:=Az1
 eAD0:=fun _=>rfl
 eAC5:=Yy
 eAC1:=fun _=>rfl
 eAE6:=UE
 eAE1:=fun _=>rfl
 eAD4:=Yz
 eAE2:=fun _=>rfl
 eLI:=Az0
 eAD1:=fun _=>rfl
 eAD6:=Wh
 eAE3:=fun _=>rfl
 eAB2:=HG
 eAB4:=fun _=>rfl
section
variable [K9]{H:Type}{enc:TypeId×Value→H}{W:World}{base:Nat}{spare:Nat→Bool}{held:Bool}
abbrev bk (d:DataW H):Nat:=Rows.uptoBulk d
noncomputable def QJ (P:Program)(t:TypeId):Array Field:=match P.underlying t with|some (.struct fs)=>fs|_=> #[]
theorem W5 {P:Program} {t ty off sz:Nat} {xs:List (DataW H×List MemPlace)} {cs:List Value} {n:Nat} (hl:xs.length=(QJ P t).size)
 (hf:∀(i:Nat) (f:Field),(QJ P t)[i]? =some f→DataW.trod enc P W base spare held n f.type ((cs.drop f.offset).take (P.cellsOf f.type))=xs[i]?) (i:Nat)
 (h:((QJ P t)[i]?.map fun f=>(f.type,f.offset,P.cellsOf f.type))=some (ty,off,sz)):∃y,xs[i]? =some y∧DataW.trod enc P W base spare held n ty ((cs.drop off).take sz)=some y:=by
 cases hi:(QJ P t)[i]? with
 |none=>rw[hi]at h;cases h
 |some f=>
  rw[hi]at h
  simp only[H8,D9,X6]at h
  obtain⟨rfl,rfl,rfl⟩:=h;exact Wd hl hf i hi
theorem Opens.down {α:Type}{P:Program}{t:TypeId}{f:α→V}{R:α→DataW H→Prop}{n:Nat}(h:Opens enc P W base spare held t f R (n+1)):Opens enc P W base spare held t f R n:=fun cs x hx=>h cs x (DataW.trod_le (Nat.le_succ n) hx)
theorem Opens.imp {α:Type}{P:Program}{t:TypeId}{f:α→V}{R R':α→DataW H→Prop}{n:Nat}(h:Opens enc P W base spare held t f R n)(hi:∀a d,R a d→R' a d):Opens enc P W base spare held t f R' n:=fun cs x hx=>by
 obtain⟨a,r,q⟩:=h cs x hx;exact⟨a,r,hi _ _ q⟩
theorem Opens.congr {α:Type}{P:Program}{t:TypeId}{f g:α→V}{R:α→DataW H→Prop}{n:Nat}(h:Opens enc P W base spare held t f R n)(hg:∀x,f x=g x):Opens enc P W base spare held t g R n:=fun cs x hx=>by
 obtain⟨a,r,q⟩:=h cs x hx;exact⟨a,by rw[←hg];exact r,q⟩
theorem u25 :Tryz.prog.underlying 25=some (.struct (QJ Tryz.prog 25)):=by kernel_rfl
theorem u3 :Tryz.prog.underlying 3=some (.int .i64):=by kernel_rfl
theorem Lx (n:Nat):Opens enc Tryz.prog W base spare held 3 (V.int .i64) (fun _ _=>True) n:=(Nd u3).imp fun _ _ _=>trivial
theorem u22 :Tryz.prog.underlying 22=some (.slice 4):=by kernel_rfl
theorem u4 :Tryz.prog.underlying 4=some .bool:=by kernel_rfl
theorem As9 (n:Nat):Opens enc Tryz.prog W base spare held 4 V.bool (fun _ _=>True) n:=(GA u4).imp fun _ _ _=>trivial
theorem Ak9 (n:Nat):Opens enc Tryz.prog W base spare held 22 (fun l:List Bool=>.sl (lst V.bool l) .ro) (fun _ _=>True) n:=
 Opens.down (((Fx u22 (show 0<Tryz.prog.cellsOf 4 by rw[show Tryz.prog.cellsOf 4=1 by kernel_rfl];decide) (As9 n)).imp fun _ _ _=>trivial).congr fun x=>by rw[lst_eq])
theorem u23 :Tryz.prog.underlying 23=some (.slice 73):=by kernel_rfl
theorem u73 :Tryz.prog.underlying 73=some (.struct (QJ Tryz.prog 73)):=by kernel_rfl
theorem u71 :Tryz.prog.underlying 71=some (.struct (QJ Tryz.prog 71)):=by kernel_rfl
theorem u69 :Tryz.prog.underlying 69=some (.slice 147):=by kernel_rfl
theorem u147 :Tryz.prog.underlying 147=some (.slice 149):=by kernel_rfl
theorem u149 :Tryz.prog.underlying 149=some (.struct (QJ Tryz.prog 149)):=by kernel_rfl
theorem ZT (n:Nat):Opens enc Tryz.prog W base spare held 149 K2.eAA4 (fun _ _=>True) n:=by
 intro cs x h;obtain⟨xs,m,hm,rfl,hcl,hl,hf⟩:=DH u149 h;subst hm;obtain⟨y0,k0,t0⟩:=W5 hl hf 0 (ty:=3) (off:=0) (sz:=1) (by kernel_rfl);obtain⟨y1,k1,t1⟩:=W5 hl hf 1 (ty:=3) (off:=1) (sz:=1) (by kernel_rfl);obtain⟨a0,r0,q0⟩:=Lx _ _ _ t0;obtain⟨a1,r1,q1⟩:=Lx _ _ _ t1;refine⟨⟨a0,a1⟩,?_,?_⟩
 ·have hc3:cs.length=2:=hcl.trans (by kernel_rfl);have:=r0.join r1;rw[K2.eAB5]
  simp only[lst_eq]at this ⊢
  simpa[P7,hc3,V.cells]using this
 trivial
theorem ZU (n:Nat):Opens enc Tryz.prog W base spare held 147 (fun l:List A4=>.sl (lst K2.eAA4 l) .ro) (fun _ _=>True) n:=
 Opens.down (((Fx u147 (show 0<Tryz.prog.cellsOf 149 by rw[show Tryz.prog.cellsOf 149=2 by kernel_rfl];decide) (ZT n)).imp fun _ _ _=>trivial).congr fun x=>by rw[lst_eq])
theorem Ak4 (n:Nat):Opens enc Tryz.prog W base spare held 69 (fun l:List (List A4)=>.sl (lst K2.eAB2 l) .ro) (fun _ _=>True) n:=
 Opens.down (((Fx u69 (show 0<Tryz.prog.cellsOf 147 by rw[show Tryz.prog.cellsOf 147=1 by kernel_rfl];decide) ((ZU n).congr fun x=>(K2.eAB4 x).symm)).imp fun _ _ _=>trivial).congr fun x=>by rw[lst_eq])
theorem Ak3 (n:Nat):Opens enc Tryz.prog W base spare held 71 K2.eAD8 (fun _ _=>True) n:=by
 intro cs x h;obtain⟨xs,m,hm,rfl,hcl,hl,hf⟩:=DH u71 h;subst hm;obtain⟨y0,k0,t0⟩:=W5 hl hf 0 (ty:=69) (off:=0) (sz:=1) (by kernel_rfl);obtain⟨a0,r0,q0⟩:=Ak4 _ _ _ t0;refine⟨⟨a0⟩,?_,?_⟩
 ·have hc3:cs.length=1:=hcl.trans (by kernel_rfl);have:=r0;rw[K2.eAC8]
  simp only[lst_eq]at this ⊢
  simpa[P7,hc3,V.cells]using this
 trivial
theorem Ak2 (n:Nat):Opens enc Tryz.prog W base spare held 73 K2.eAA5 (fun _ _=>True) n:=by
 intro cs x h;obtain⟨xs,m,hm,rfl,hcl,hl,hf⟩:=DH u73 h;subst hm;obtain⟨y0,k0,t0⟩:=W5 hl hf 0 (ty:=3) (off:=0) (sz:=1) (by kernel_rfl);obtain⟨y1,k1,t1⟩:=W5 hl hf 1 (ty:=3) (off:=1) (sz:=1) (by kernel_rfl);obtain⟨y2,k2,t2⟩:=W5 hl hf 2 (ty:=71) (off:=2) (sz:=1) (by kernel_rfl);obtain⟨a0,r0,q0⟩:=Lx _ _ _ t0;obtain⟨a1,r1,q1⟩:=Lx _ _ _ t1;obtain⟨a2,r2,q2⟩:=Ak3 _ _ _ t2;refine⟨⟨a0,a1,a2⟩,?_,?_⟩
 ·have hc3:cs.length=3:=hcl.trans (by kernel_rfl)
  rw[K2.eAC8]at r2
  have:=(r0.join r1).join r2;rw[K2.eAB1]
  simp only[lst_eq]at this ⊢
  simpa[P7,hc3,V.cells]using this
 trivial
theorem Ak8 (n:Nat):Opens enc Tryz.prog W base spare held 23 (fun l:List C3=>.sl (lst K2.eAA5 l) .ro) (fun _ _=>True) n:=
 Opens.down (((Fx u23 (show 0<Tryz.prog.cellsOf 73 by rw[show Tryz.prog.cellsOf 73=3 by kernel_rfl];decide) (Ak2 n)).imp fun _ _ _=>trivial).congr fun x=>by rw[lst_eq])
theorem Ak7 (n:Nat):Opens enc Tryz.prog W base spare held 25 K2.eAC2 (fun _ _=>True) n:=by
 intro cs x h;obtain⟨xs,m,hm,rfl,hcl,hl,hf⟩:=DH u25 h;subst hm;obtain⟨y0,k0,t0⟩:=W5 hl hf 0 (ty:=3) (off:=0) (sz:=1) (by kernel_rfl);obtain⟨y1,k1,t1⟩:=W5 hl hf 1 (ty:=22) (off:=1) (sz:=1) (by kernel_rfl);obtain⟨y2,k2,t2⟩:=W5 hl hf 2 (ty:=23) (off:=2) (sz:=1) (by kernel_rfl);obtain⟨a0,r0,q0⟩:=Lx _ _ _ t0;obtain⟨a1,r1,q1⟩:=Ak9 _ _ _ t1;obtain⟨a2,r2,q2⟩:=Ak8 _ _ _ t2;refine⟨⟨a0,a1,a2⟩,?_,?_⟩
 ·have hc3:cs.length=3:=hcl.trans (by kernel_rfl);have:=(r0.join r1).join r2;rw[K2.eAC9]
  simp only[lst_eq]at this ⊢
  simpa[P7,hc3,V.cells]using this
 trivial
theorem u26 :Tryz.prog.underlying 26=some (.slice 65):=by kernel_rfl
theorem u65 :Tryz.prog.underlying 65=some (.struct (QJ Tryz.prog 65)):=by kernel_rfl
theorem Ak5 (n:Nat):Opens enc Tryz.prog W base spare held 65 K2.eAA8 (fun _ _=>True) n:=by
 intro cs x h;obtain⟨xs,m,hm,rfl,hcl,hl,hf⟩:=DH u65 h;subst hm;obtain⟨y0,k0,t0⟩:=W5 hl hf 0 (ty:=3) (off:=0) (sz:=1) (by kernel_rfl);obtain⟨y1,k1,t1⟩:=W5 hl hf 1 (ty:=3) (off:=1) (sz:=1) (by kernel_rfl);obtain⟨a0,r0,q0⟩:=Lx _ _ _ t0;obtain⟨a1,r1,q1⟩:=Lx _ _ _ t1;refine⟨⟨a0,a1⟩,?_,?_⟩
 ·have hc3:cs.length=2:=hcl.trans (by kernel_rfl);have:=r0.join r1;rw[K2.eAB8]
  simp only[lst_eq]at this ⊢
  simpa[P7,hc3,V.cells]using this
 trivial
theorem Ak6 (n:Nat):Opens enc Tryz.prog W base spare held 26 (fun l:List B8=>.sl (lst K2.eAA8 l) .ro) (fun _ _=>True) n:=
 Opens.down (((Fx u26 (show 0<Tryz.prog.cellsOf 65 by rw[show Tryz.prog.cellsOf 65=2 by kernel_rfl];decide) (Ak5 n)).imp fun _ _ _=>trivial).congr fun x=>by rw[lst_eq])
theorem Lg {v:Value}{d:DataW H}{p:List MemPlace}(hv:Value.okWide Tryz.prog W .any base 25 v)(h:DataW.Trod enc Tryz.prog W 0 (fun _=>true) true 25 v d p):∃x:A0,VR (g0 W) W v (K2.eAC2 x):=by
 obtain⟨fuel,ht⟩:=h;obtain⟨cs,rfl,hcs⟩:=okWide_struct u25 hv;obtain⟨x,hr,hb⟩:=Ak7 fuel _ _ ht;have hr':FU (g0 W) W cs.toList (K2.eAC2 x).cells:=hr;refine⟨x,?_⟩;have:=hr'.agg
 rw[K2.eAC9]at this ⊢
 exact this
theorem SP {v:Value}{d:DataW H}{p:List MemPlace}(hv:Value.okWide Tryz.prog W .any base 26 v)(h:DataW.Trod enc Tryz.prog W 0 (fun _=>true) true 26 v d p):∃x:List B8,VR (g0 W) W v (.sl (lst K2.eAA8 x) .ro):=by
 obtain⟨fuel,ht⟩:=h;obtain⟨a,len,cap,rfl⟩:=okWide_slice u26 hv;obtain⟨x,hr,hb⟩:=Ak6 fuel _ _ ht;exact⟨x,(hr.2 0 (by simp[V.cells])).2⟩
theorem Am1 {f:FuncId}{vals:Array Value}{args:List V}(hg:∀n,VR (g0 W) W (.pointer (some ⟨n,0,none⟩)) (K9.gl n))(hcall:∀vals w,(callFunc f vals).run Tryz.prog w= .ok (.enter f vals) w)(law:C5 Tryz.prog f args (.bool true))(hA:Args (g0 W) W vals args):
 Calls Tryz.prog f vals W fun e W'=>e= .returned (.bool true)∧Below W.heap.size W W':=by
 have hc:=law (fun _=>none) (g0 W) W vals (rl0 hg) hA
 rw[hcall]at hc
 refine(callsIn_wide.1 hc).mono fun e W' ⟨v,he,g',y,H',hs,hR,hvy,hy,_⟩=>?_;subst hy;cases hvy;exact⟨he,hs.low⟩
theorem Az6 {v0 v1 v2:Value}{x0 x1 x2:V}(h0:VR (g0 W) W v0 x0)(h1:VR (g0 W) W v1 x1)(h2:VR (g0 W) W v2 x2):Args (g0 W) W #[v0,v1,v2] [x0,x1,x2]:=⟨rfl,fun i hi=>by
 match i,hi with
 |0,_=>exact h0
 |1,_=>exact h1
 |2,_=>exact h2⟩
end
end Go.Ab
namespace Go.Ab
open Go.RowKit Go.ChangeShapes Go.WideShapes Go.ChangeAt Go.Proofs Go.Proofs.YtildiiggamckaaaGreatDoor
set_option maxRecDepth 100000
section
variable {H:Type}{enc:TypeId×Value→H}{W:World}{base:Nat}{spare:Nat→Bool}{held:Bool}
theorem u294 :Tryz.prog.underlying 294=some (.array R0.length 293):=by kernel_rfl
theorem u293 :Tryz.prog.underlying 293=some (.struct (QJ Tryz.prog 293)):=by kernel_rfl
theorem VJ (n:Nat):Opens enc Tryz.prog W base spare held 293 K2.eAE5 (fun(a:W9) d=>d= .agg [.lit (.int .i64 a.least),.lit (.int .i64 a.most),.lit (.bool a.typed),.lit (.bool a.cond),.lit (.bool a.scope),.lit (.bool a.span)]) n:=by
 intro cs x h;obtain⟨xs,m,rfl,rfl,hcl,hl,hf⟩:=DH u293 h;obtain⟨y0,k0,t0⟩:=W5 hl hf 0 (ty:=3) (off:=0) (sz:=1) (by kernel_rfl);obtain⟨y1,k1,t1⟩:=W5 hl hf 1 (ty:=3) (off:=1) (sz:=1) (by kernel_rfl);obtain⟨y2,k2,t2⟩:=W5 hl hf 2 (ty:=4) (off:=2) (sz:=1) (by kernel_rfl);obtain⟨y3,k3,t3⟩:=W5 hl hf 3 (ty:=4) (off:=3) (sz:=1) (by kernel_rfl);obtain⟨y4,k4,t4⟩:=W5 hl hf 4 (ty:=4) (off:=4) (sz:=1) (by kernel_rfl);obtain⟨y5,k5,t5⟩:=W5 hl hf 5 (ty:=4) (off:=5) (sz:=1) (by kernel_rfl)
 have hxs:xs=[y0,y1,y2,y3,y4,y5]:=match xs,hl.trans (show _=6 by kernel_rfl),k0,k1,k2,k3,k4,k5 with|[_,_,_,_,_,_],_,rfl,rfl,rfl,rfl,rfl,rfl=>rfl
 obtain⟨a0,r0,q0⟩:=Nd u3 _ _ t0;obtain⟨a1,r1,q1⟩:=Nd u3 _ _ t1;obtain⟨a2,r2,q2⟩:=GA u4 _ _ t2;obtain⟨a3,r3,q3⟩:=GA u4 _ _ t3;obtain⟨a4,r4,q4⟩:=GA u4 _ _ t4;obtain⟨a5,r5,q5⟩:=GA u4 _ _ t5;refine⟨⟨a0,a1,a2,a3,a4,a5⟩,?_,?_⟩
 ·have hc3:cs.length=6:=hcl.trans (by kernel_rfl);have:=((((r0.join r1).join r2).join r3).join r4).join r5;rw[K2.eAF6]
  simpa[P7,hc3,V.cells]using this
 rw[hxs];simp only[E9,I1,q0,q1,q2,q3,q4,q5]
theorem QY :∀(l k:List W9),(RL (H:=H) (fun(a:W9) d=>d= .agg [.lit (.int .i64 a.least),.lit (.int .i64 a.most),.lit (.bool a.typed),.lit (.bool a.cond),.lit (.bool a.scope),.lit (.bool a.span)]) l
 (k.map fun a=>.agg [.lit (.int .i64 a.least),.lit (.int .i64 a.most),.lit (.bool a.typed),.lit (.bool a.cond),.lit (.bool a.scope),.lit (.bool a.span)]))→l=k
 |[],[],_=>rfl
 |[],_::_,h=>by have:=h.1;simp at this
 |_::_,[],h=>by have:=h.1;simp at this
 |a::l,b::k,h=>by
  have h0:=h.2 0 a _ rfl rfl;have h1:=QY l k ⟨by simpa using h.1,fun i a d hi hd=>h.2 (i+1) a d (by simpa using hi) (by simpa using hd)⟩;subst h1;obtain⟨a0,a1,a2,a3,a4,a5⟩:=a;obtain⟨b0,b1,b2,b3,b4,b5⟩:=b
  simp at h0
  simp[h0]
theorem Um (h:laidMetH Tryz.prog Rows.symbolicChecksRow.laid W):VR (g0 W) W (.pointer (some ⟨0,0,none⟩)) (K9.gl 0):=by
 have h':laidMet Tryz.prog Rows.symbolicChecksRow.laid W:=h;obtain⟨ps,⟨g',t',cs,fuel,p,q,hg',ht',hvar,hd,_,_⟩,_⟩:=h';obtain rfl:g'=0:=X8 (hg'.symm.trans (by kernel_rfl));obtain rfl:t'=294:=X8 (ht'.symm.trans (by kernel_rfl));obtain⟨l,hr,ds,hds,hl⟩:=TZ u294 (by kernel_rfl) (by decide) (fun n=>VJ n) hd
 have e:ds=R0.map fun a=>.agg [.lit (.int .i64 a.least),.lit (.int .i64 a.most),.lit (.bool a.typed),.lit (.bool a.cond),.lit (.bool a.scope),.lit (.bool a.span)]:=by
  have e2:(Rows.laid_tidegate_pattern_shapes:DataW Unit)= .agg ds:=hds;have e3:(Rows.laid_tidegate_pattern_shapes:DataW Unit)= .agg (R0.map fun a=>.agg [.lit (.int .i64 a.least),.lit (.int .i64 a.most),.lit (.bool a.typed),.lit (.bool a.cond),.lit (.bool a.scope),.lit (.bool a.span)]):=rfl
  rw[e3]at e2
  exact(DataW.agg.inj e2).symm
 subst e;obtain rfl:=QY _ _ hl;exact Us hg' hvar hr
theorem At9 (h:laidMetH Tryz.prog Rows.symbolicChecksRow.laid W):∀n,VR (g0 W) W (.pointer (some ⟨n,0,none⟩)) (K9.gl n)
 |0=>Um h
 |_+1=>.bad _
end
end Go.Ab
