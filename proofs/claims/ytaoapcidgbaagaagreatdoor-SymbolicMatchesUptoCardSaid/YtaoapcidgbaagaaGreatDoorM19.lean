/- . -/
import Derived.Test.YtaoapcidgbaagaaGreatDoorM18
import Derived.KernelRfl
set_option linter.all false
open Go.Ab.Ar (an ar cmp nt wr)
namespace Go.Ab
variable{N:Nat}{l:Up A0}{p x:A0}{w:Up Pr}{y:Pr}
theorem or3:((if cmp .eql x.Op 1=true then some true else if cmp .eql x.Op 2=true then some true else some (cmp .eql x.Op 3)):OS Bool)=some (decide (x.Op=1\/x.Op=2\/x.Op=3)):=by
 simp only[D8,B3]
 grind
theorem JE {α β:Type}(f:α->β):∀l:Up α,l.flatMap (λx=>[f x])=l.map f
 |[]=>rfl
 |x::l=>by rw[DT,JE f l];rfl
def Qj{j:Nat}(h:j<l.length):(l.map raw).getD j []=raw l[j]:=by
 rw[U2,Y1,D9 h];rfl
theorem BX2{e:A0}{b:A0}(h:e.dT=b::l):
 (if nt y.2.done=true then(C4 e.dT 0).bind λn=>I1 (some ([(y.1,(⟨false,(⟨8,[y.2.p,n],0,0,0,0,(⟨0,[],0,0,0,(⟨0,0,⟨#[]⟩⟩:B2)⟩:A8)⟩:A0)⟩:A7))],())) λ_=>some ([],.inl ())
  else I1 (some ([(y.1,y.2)],())) λ_=>I1 (some ([(y.1,(⟨false,e⟩:A7))],())) λ_=>some ([],.inl ()):OS (Up Pr×(Unit⊕Unit)))=some (OA e y,.inl ()):=by
 unfold OA;rw[h]
 cases I:y.2.done with
 |true=>grind[I1,S4]
 |false=>simp[I1,S4,C4];rfl
theorem Vt(N:Nat)(h e:A0)(n:Nat){l:Up Pr}{b:A0}{k:Up A0}(r:e.dT=b::k)(f:M8 N n h=some l):X6 N (n+1) h e=some (l.flatMap (OA e)):=by
 unfold X6;rw[f];simp only[A4];rw[IA (λy=>OA e y) λy _=>BX2 r];simp[I1]
def BZ9(hN:3<=N)(x:A0)(y:Pr)(h:WF y.1 1000):
 (I1 ((if cmp .eql x.Op 7=true then(if y.2.done=true then(AJ N ([y.1.eI,[x.dU]])).bind λw=>some ([],(x.Op,{y.1 with eI:=w}))else some ([],(x.Op,y.1)))
  else I1 ((if cmp .eql x.Op 5=true then some ([],true)else some ([],cmp .eql x.Op 9)):OS (Up Pr×Bool)) λV=>
   if V=true then(Ah N x y.1 y.2.done (cmp .eql x.Op 5)).bind λH=>some ([],(9,H))
   else(Ah N x y.1 y.2.done (cmp .eql x.Op 6)).bind λK=>some ([],(10,K))):OS (Up Pr×(Int×C5))) λv=>
  I1 ((if nt y.2.done=true then(CO N x v.1 y.2.p).bind λP=>some ([],{y.2 with p:=P})else some ([],y.2)):OS (Up Pr×A7)) λc=>
  I1 (some ([(v.2,c)],())) λ_=>some ([],.inl ()):OS (Up Pr×(Unit⊕Unit)))=some ([Zh x y],.inl ()):=by
 have⟨O,Z,T,d,f⟩:=id h;unfold Zh Ot Bj1 Ay5 CO;simp only[D8,B3,S4]
 by_cases r:x.Op=7
 ·cases I:y.2.done with
  |true=>
   rw[A2 r,A2 rfl,BQ6 hN _ _ Ts];simp[I1,r]
  |false=>
   rw[A2 r,A1 OC];simp[I1,r]
 rw[A1 r,A1 r,A1 r]
 by_cases n:x.Op=5\/x.Op=9
 ·have e:((if x.Op=5 then some ([],true)else some ([],decide (x.Op=9))):OS (Up Pr×Bool))=some ([],true):=by
   rcases n with h|h<;>simp[h]
  rw[e,A2 n,A2 n];simp only[I1,A4,B4,AT9 hN _ _ _ _ h];cases I:y.2.done<;>simp
 have e:((if x.Op=5 then some ([],true)else some ([],decide (x.Op=9))):OS (Up Pr×Bool))=some ([],false):=by
  rw[not_or]at n;simp_all
 rw[e,A1 n,A1 n];simp only[I1,A4,D4,B6,AT9 hN _ _ _ _ h];cases I:y.2.done<;>simp
theorem Bu2(hN:TB N):∀(d:Nat) (x:A0) (n:Nat),x.dep<=d->d<=100->3*d<=n+2->x.bulk<=16777216->x.pre.length<=64->Good N x->M8 N n x=some (raw x):=by
 intro d
 induction d with
 |zero=>grind[A0.dep_eq]
 | succ d ih=>
  intro x n hd o E C G s;have A:=DG x;have V:Gn N x=0:=s x (by rw[A0.pre_eq];simp);have u:=AD8 hN C AY V
  have h:∀a∈x.dT,∀m,3*d<=m+2->M8 N m a=some (raw a):=λa v m p=>by
   have:=Fh v;have:=W1 v;have:=Gt v;exact ih a m AY AY p AY AY (s.arg v)
  have q:∀a∈x.dT,∀y∈raw a,WF y.1 1000:=λa v y I=>(AJ1 d a (by have:=Gt v;omega) y I).mono AY;obtain⟨n,rfl⟩:∃m,n=m+1:=⟨n-1,AY⟩;rw[Ea];unfold M8 comb
  by_cases L:x.Op=0
  ·rw[A2 (HT L),A2 L];unfold Ed;simp[I1];rfl
  rw[A1 (by rw[FJ L];simp),A1 L,or3];simp only[A4,B3];have F:=u.op
  have D:1<=d:=by
   have:x.dT≠[]:=by
    by_cases T:x.Op<=3
    ·have:=u.two AY T;grind
    by_cases P:x.Op=8
    ·have⟨a,b,e⟩:=u.more P;rw[e];simp
    have⟨a,e⟩:=u.one AY P;rw[e];simp
   have⟨a,p⟩:=Md _ this;have:=Gt p;have:=A0.dep_eq a;omega
  obtain⟨n,rfl⟩:∃m,n=m+2:=⟨n-2,AY⟩
  by_cases K:x.Op=1\/x.Op=2\/x.Op=3
  ·rw [A2 K];have H:=u.two AY AY;unfold Bw AA
   by_cases O:x.Op=1
   ·rw [A2 O];rw[Uu (s0:=(0:Int)) (st:=λj=>(j:Int)) (f:=λj=>(raw (x.dT.getD j zP)).map λy=>(y.1,HX y.2 (x.dT.drop 1))) (w:=[]) (r:=(Sum.inr ():Unit⊕Unit)) (k:=1) rfl AY ?_ ?_]
    ·match R:x.dT,H with
     |a::l,_=>simp[I1]
    ·intro j z
     obtain rfl:j=0:=AY
     match R:x.dT,H with
     | a::l,H=>
      have p:a∈x.dT:=by rw[R];simp
      rw[A2 (by grind[B8,A9])];have e:C4 (a::l) ((0:Nat):Int)=some a:=rfl;rw[e];simp only[A4];rw[A1 (by grind[Q4,N5]),h a p n AY];simp only[A4]
      rw[IA (λy=>[(y.1,HX y.2 l)]) λy _=>by
       rw[A2 (HT O),AH5 OC]
       grind[BQ4,I1]]
      grind[I1,JE,Cm]
    rw[A2 (by grind[B8,A9])]
    have e:∃b,C4 x.dT ((1:Nat):Int)=some b:=by
     rw[F3,D9 AY];simp_all
    have⟨b,e⟩:=e;rw[e]
    simp_all[Q4,N5,D8]
   rw[A1 O]
   by_cases Z:x.Op=2
   ·rw[A2 Z];rw[Uu (s0:=(0:Int)) (st:=λj=>(j:Int)) (f:=λj=>(x.dT.map raw).getD j []) (w:=[]) (r:=(Sum.inl ():Unit⊕Unit)) (k:=x.dT.length) rfl AY ?_ ?_]
    ·simp[I1]
    ·intro j z
     have e:C4 x.dT (j:Int)=some x.dT[j]:=by rw[F3,D9 z]
     have p:=I9 z;simp only[e,A4];rw[A2 (by grind[B8,A9]),A1 (by grind[Q4,D8]),h _ p n AY];simp only[A4]
     rw[IA (λy=>[y]) λy _=>by
      rw[A1 (by simp[D8,O]),A1 (by simp[D8,Z])]
      simp[I1]]
     rw[Qj z,JE (λy=>y)];simp[I1,Cm (i:=j) AY]
    exact zco
   have T:x.Op=3:=AY
   rw[A1 Z,A2 T];rw[Uu (s0:=(0:Int)) (st:=λj=>(j:Int)) (f:=λj=>((x.dT.map raw).getD j []).map λy=>(y.1,Mv x.dT j y.2)) (w:=[]) (r:=(Sum.inl ():Unit⊕Unit)) (k:=x.dT.length) rfl AY ?_ ?_]
   ·simp[I1]
   ·intro j z
    have e:C4 x.dT (j:Int)=some x.dT[j]:=by rw[F3,D9 z]
    have p:=I9 z;simp only[e,A4];rw[A2 (by grind[B8,A9]),A1 (by grind[Q4,D8]),h _ p n AY];simp only[A4]
    rw[IA (λy=>[(y.1,Mv x.dT j y.2)]) λy _=>by
     rw[A1 (by simp[D8,O]),A2 (HT T),BN8 _ _ _ _ z AY]
     simp[I1]]
    rw[Qj z,JE]
    grind[I1,Cm]
   exact zco
  rw[A1 K,A1 (show¬x.Op=1 by omega),A1 (show¬x.Op=2 by omega),A1 (show¬x.Op=3 by omega)];simp only[D8,B3]
  by_cases g:x.Op=4
  ·rw[A2 g,A2 g];have⟨a,e⟩:=u.one AY AY
   have e0:C4 x.dT 0=some a:=by rw[e];rfl
   rw[e0]
   grind[X0,Vt]
  rw[A1 g,A1 g]
  by_cases P:x.Op=8
  ·rw[A2 P,A2 P];have⟨a,b,e⟩:=u.more P
   have e0:C4 x.dT 0=some a:=by rw[e];rfl
   have t:Dc x.dT (some 1) (some 2) (some 2)=some [b]:=by rw[e];rfl
   rw[e0,t];simp only[A4];unfold X0;rw[Vt N a _ n (b:=b) (k:=[]) rfl (h a (by rw[e];simp) n AY)];rw[e];rfl
  rw[A1 P,A1 P];have⟨a,e⟩:=u.one AY AY
  have e0:C4 x.dT 0=some a:=by rw[e];rfl
  have c:a∈x.dT:=by rw[e];simp
  unfold DD Cg;rw[e0];simp only[A4];rw[h a c n AY];simp only[A4];rw[IA (λy=>[Zh x y]) λy I=>BZ9 AY x y (q a c y I)];rw[e,JE];simp[I1]
structure JX (B:Nat) (R:Nat) (y:Pr):Prop where
 from0:y.1.eA=0
 to0:y.1.To=0
 done:y.2.done=true->y.2.p=zP
 cond:y.1.dU.bulk<=B
 checks:∀c∈y.1.eI,c.bulk<=B
 rest:y.2.p.bulk<=R
theorem JX.mono{B R e R':Nat}(h:JX B R y)(n:B<=e)(C:R<=R'):JX e R' y:=⟨h.from0,h.to0,h.done,Nat.le_trans h.cond n,λc d=>Nat.le_trans (h.checks c d) n,Nat.le_trans h.rest C⟩
theorem AR3:zE.bulk=10:=by simp[zE,A8.bulk,A8.bulks,ByteArray.size]
theorem SQ (e:Int)(l:Up A0):(nd e l).bulk=A0.bulks l+16:=by rw[A0.bulk_eq];grind[nd,AR3]
theorem AR2:zP.bulk=17:=by rw[A0.bulk_eq];grind[zP,AR3,A0.bulks]
theorem XU (e:Int)(l:Up A0):(DP e l).bulk<=A0.bulks l+16:=by
 match l with
 |[]=>grind[DP,SQ]
 |[x]=>grind[DP,A0.bulks]
 |x::y::l=>grind[DP,SQ]
def UJ:∀(l m:Up A0),A0.bulks (l++m)+1=A0.bulks l+A0.bulks m
 |[],m=>by grind[A0.bulks]
 |a::l,m=>by have:=UJ l m;grind[A0.bulks]
def Oe (l:Up A0)(i:Nat):A0.bulks (l.take i)+A0.bulks (l.drop i)=A0.bulks l+1:=by rw[<-UJ,Da]
def Ae9 (l:Up A0):1<=A0.bulks l:=by
 cases l with
 |nil=>grind[A0.bulks]
 |cons a l=>have:=Lo a;grind[A0.bulks]
theorem Ae8:∀(l:Up A0) (i:Nat) (p:A0),A0.bulks (l.set i p)<=A0.bulks l+p.bulk
 |[],i,p=>TQ
 |a::l,0,p=>by grind[A0.bulks]
 |a::l,i+1,p=>by have:=Ae8 l i p;grind[A0.bulks]
def AO5 (r:A7)(more:Up A0):(HX r more).done=true->(HX r more).p=zP:=by
 unfold HX
 split
 ·intro;rfl
 simp_all
theorem AO6 (r:A7)(more:Up A0):(HX r more).p.bulk<=r.p.bulk+A0.bulks more+16:=by
 have L:=Ae9 more
 grind[HX,AB2,AR2,XU,A0.bulks]
def AL3 (args:Up A0) (i:Nat) (r:A7):(Mv args i r).p.bulk<=r.p.bulk+A0.bulks args+17:=by
 unfold Mv
 simp only
 refine U0 (XU _ _) ?_
 split
 ·have O:=Oe args i;have Z:=Oe args (i+1);have L:=UJ (args.take i) (args.drop (i+1))
  have T:A0.bulks (args.take i)<=A0.bulks (args.take (i+1)):=by
   have:args.take i=(args.take (i+1)).take i:=by rw[List.take_take];grind
   rw[this];have:=Oe (args.take (i+1)) i;have:=Ae9 ((args.take (i+1)).drop i);omega
  omega
 grind[Ae8]
theorem Bt2:∀(d:Nat) (x:A0),x.dep<=d->∀y∈raw x,JX x.bulk (x.dep*(x.bulk+30)) y:=by
 intro d
 induction d with
 |zero=>grind[A0.dep_eq]
 | succ d ih=>
  intro x hd y I
  rw[Ea]at I
  have V:=A0.dep_eq x;have f:=A0.bulk_eq x
  have key:∀a∈x.dT,a.dep*(a.bulk+30)+(x.bulk+30)<=x.dep*(x.bulk+30):=λa u=>by
   have O:=Gt u;have Z:=Fh u;have T:a.dep*(a.bulk+30)<=(x.dep-1)*(x.bulk+30):=Z3 AY AY
   have v:(x.dep-1)*(x.bulk+30)+(x.bulk+30)=x.dep*(x.bulk+30):=by
    have⟨k,S⟩:∃k,x.dep=k+1:=⟨x.dep-1,AY⟩;rw[S];grind
   omega
  have one:x.bulk+30<=x.dep*(x.bulk+30):=by
   have:1*(x.bulk+30)<=x.dep*(x.bulk+30):=Z3 AY (C6 _);omega
  have e:∀a∈x.dT,∀y∈raw a,JX x.bulk (a.dep*(a.bulk+30)) y:=λa u y I=>(ih a (by have:=Gt u;omega) y I).mono (by have:=Fh u;omega) (C6 _)
  have K:∀(r:A0),r.bulk<=x.bulk+16->∀a∈x.dT,∀z∈raw a,∀b∈x.dT,(∃l,r.dT=b::l)->∀y∈OA r z,JX x.bulk (x.dep*(x.bulk+30)) y:=λr P a u z Y b H hl y I=>by
   have S:=key a u;have h:=e a u z Y
   unfold OA at I
   split at I
   ·rcases List.mem_cons.1 I with rfl|I
    ·exact h.mono (C6 _) AY
    rw[List.mem_singleton.1 I];exact⟨h.from0,h.to0,λh=>(by cases h),h.cond,h.checks,Pw⟩
   have⟨l,hl⟩:=hl
   rw[hl]at I
   rw[List.mem_singleton.1 I];refine⟨h.from0,h.to0,λh=>(by cases h),h.cond,h.checks,?_⟩;have O:=h.rest;have Z:=Fh H
   grind[SQ,A0.bulks]
  unfold comb at I
  split at I
  ·rw[List.mem_singleton.1 I];refine⟨rfl,rfl,λ_=>rfl,Pw,λc n=>by simp at n,?_⟩
   grind[AB2,AR2]
  split at I
  ·obtain⟨z,Y,rfl⟩:=List.mem_map.1 I;have⟨a,u,Y⟩:=De Y;have h:=e a u z Y;refine⟨h.from0,h.to0,AO5 _ _,h.cond,h.checks,?_⟩;have O:=AO6 z.2 (x.dT.drop 1);have Z:=Oe x.dT 1;have T:=key a u;have v:=h.rest
   grind
  split at I
  ·have⟨i,_,Y⟩:=List.mem_flatMap.1 I;have⟨a,u,Y⟩:=HI Y;exact(e a u y Y).mono (C6 _) (by have:=key a u;omega)
  split at I
  ·have⟨i,_,Y⟩:=List.mem_flatMap.1 I;obtain⟨z,w,rfl⟩:=List.mem_map.1 Y;have⟨a,u,Y⟩:=HI w;have h:=e a u z Y;refine⟨h.from0,h.to0,λh=>by simp[Mv]at h,h.cond,h.checks,?_⟩;have O:=AL3 x.dT i z.2;have T:=key a u;have v:=h.rest
   grind
  split at I
  ·rename_i v;have⟨z,Y,I⟩:=List.mem_flatMap.1 I
   match R:x.dT,Y with
   |[],Y=>simp at Y
   |a::l,Y=>grind
  split at I
  ·have⟨z,Y,I⟩:=List.mem_flatMap.1 I
   match R:x.dT,Y with
   |[],Y=>simp at Y
   | [a],Y=>
    have u:a∈x.dT:=by rw[R];simp
    have h:=e a u z Pw
    rw[R]at I
    unfold OA at I
    split at I
    ·rcases List.mem_cons.1 I with rfl|I
     ·exact h.mono (C6 _) (by have:=key a u;omega)
     rw[List.mem_singleton.1 I];refine⟨h.from0,h.to0,λh=>(by cases h),h.cond,h.checks,?_⟩
     grind[SQ,A0.bulks]
    simp[nd]at I
   |a::b::l,Y=>
    have H:A0.bulks x.dT=a.bulk+(b.bulk+A0.bulks l):=by rw[R];rfl
    rw[R]at I
    grind[nd,SQ,A0.bulks]
  obtain⟨z,Y,rfl⟩:=List.mem_map.1 I;have⟨a,u,Y⟩:=De Y;have h:=e a u z Y;have S:=key a u;have Q:=h.rest;refine⟨?_,?_,?_,?_,?_,?_⟩
  ·simp only[Zh,Ot];split
   ·split
    ·exact h.from0
    exact h.from0
   exact h.from0
  ·simp only[Zh,Ot];split
   ·split
    ·exact h.to0
    exact h.to0
   exact h.to0
  ·simp only[Zh,Bj1];split
   ·exact h.done
   simp_all
  ·simp only[Zh,Ot];split
   ·split
    ·exact h.cond
    exact h.cond
   exact h.cond
  ·simp only[Zh,Ot];split
   ·split
    ·intro c n
     rcases List.mem_append.1 n with n|n
     ·exact h.checks c n
     grind
    exact h.checks
   exact h.checks
  grind[Zh,Bj1,A0.bulk_eq,A0.bulks]
def It{α:Type}[DecidableEq α](l:Up α)(x:α):Up α:=if x∈l then l else l++[x]
def dd{α:Type}[DecidableEq α](l:Up α):Up α:=l.foldl It []
section
variable {α:Type}[DecidableEq α]
theorem AR6{l:Up α}{x y:α}:y∈It l x<->y∈l\/y=x:=by
 grind[It]
theorem AF2 {y:α}:∀{l m:Up α},y∈l.foldl It m<->y∈m\/y∈l
 |[],m=>OC
 |x::l,m=>by
  simp only[DN,AF2,AR6,Cx]
  grind
theorem UG{l:Up α}{y:α}:y∈dd l<->y∈l:=by grind[dd,AF2]
def Al7 (l:Up α)(x:α):dd (l++[x])=It (dd l) x:=by grind[dd]
def Ca9 (l m:Up α):dd (l++m)=m.foldl It (dd l):=by simp[dd]
end
theorem AA2{α:Type}[DecidableEq α](l m:Up α)(hl:l.length=m.length)(G:l.length<1000000000000)(t:α->α->Bool)(o:∀x y,t x y= !decide (x=y))(hN:l.length<N):
 loopN (λ(i:Int)=>if cmp .lss i (Ar.len l)=true then(C4 l i).bind λx=>(C4 m i).bind λy=>if t x y=true then some (Sum.inr (Sum.inr (α:=Unit) ()))else some (.inl (ar .add .i64 i 1))else some (.inr (.inl ()))) N 0=some (if l=m then .inl ()else .inr ()):=by
 have:=Wz l m hl G (λx y=>some (decide (x=y))) (λ_ _ _ _=>rfl) hN;rw[<-this]
 grind[S4]
def Bj8{a b:Cq}:a=b<->a.dZ=b.dZ/\a.Span=b.Span:=by cases a;cases b;simp
def AN3(l m:Up Int)(G:l.length<1000000)(hN:l.length<N):X4 N l m=some (decide (l=m)):=by
 unfold X4
 by_cases hl:l.length=m.length
 ·rw[A1 (by grind[H7,A9]),AA2 l m hl AY (λx y=>cmp .neq x y) (λx y=>rfl) hN]
  by_cases h:l=m<;>simp[h]
 exact zbj
def Ca4(l m:Up Cq)(G:l.length<1000000)(hN:l.length<N):Aq N l m=some (decide (l=m)):=by
 unfold Aq
 by_cases hl:l.length=m.length
 ·rw[A1 (by grind[H7,A9]),AA2 l m hl AY (λx y=>nt (an (cmp .eql x.dZ y.dZ) (an (cmp .eql x.Span y.Span) true))) (λx y=>by
   simp_all[S4,Q4,D8,Bj8]) hN]
  by_cases h:l=m<;>simp[h]
 exact zbj
def Ca5(hN:TB N)(l m:Up A8)(G:l.length<1000000)(v:∀c∈l,c.bulk<=16777216):P5 N l m (λn r=>Bg N N n r)=some (decide (l=m)):=by
 unfold P5
 by_cases hl:l.length=m.length
 ·rw[A1 (by grind[H7,A9]),Wz l m hl AY _ (λx M y _=>by grind[ZR]) AY]
  by_cases h:l=m<;>simp[h]
 exact zbj
theorem Yj{a b:C5}:a=b<->(a.eA=b.eA/\a.To=b.To)/\((a.Var=b.Var/\a.Typ=b.Typ)/\a.dU=b.dU/\a.eL=b.eL/\a.eN=b.eN/\a.eI=b.eI/\a.eO=b.eO/\a.eM=b.eM):=by
 cases a;cases b;grind
def RZ{p:Prop}[Decidable p]{q:Prop}[Decidable q]{F:OS Bool}(e:F=some (decide q)):(if p then F else some false)=some (decide (p/\q)):=by
 by_cases h:p<;>simp[h,e]
def As1(hN:TB N)(a b:C5)(G:WF a 1000)(d:a.dU.bulk<=16777216)(S:∀c∈a.eI,c.bulk<=16777216):Dl N a b=some (decide ((a.Var=b.Var/\a.Typ=b.Typ)/\a.dU=b.dU/\a.eL=b.eL/\a.eN=b.eN/\a.eI=b.eI/\a.eO=b.eO/\a.eM=b.eM)):=by
 have⟨O,Z,T,e,h⟩:=G;unfold Dl;rw[ZR hN N a.dU b.dU AY d,AN3 a.eL b.eL AY AY,AN3 a.eN b.eN AY AY,Ca5 hN a.eI b.eI AY S,Ca4 a.eO b.eO AY AY,AN3 a.eM b.eM AY AY];simp only[A4,Q4,D8,G9,B3];rw[RZ (RZ (RZ (RZ (RZ (RZ rfl)))))]
theorem Yf{α:Type}(l:Up α)(G:l.length<1000000000000)(f:α->OS Bool)(P:α->Bool)(q:∀x∈l,f x=some (P x))(hN:l.length<N):
 loopN (λ(i:Int)=>if cmp .lss i (Ar.len l)=true then(C4 l i).bind λx=>(f x).bind λr=>if r=true then some (Sum.inr (Sum.inr (α:=Unit) i))else some (.inl (ar .add .i64 i 1))else some (.inr (.inl ()))) N 0=some (match l.findIdx? P with|none=>.inl ()|some i=>.inr (i:Int)):=by
 have⟨r,O,Z⟩:=Ns (step:=λ(i:Int)=>if cmp .lss i (Ar.len l)=true then(C4 l i).bind λx=>(f x).bind λr=>if r=true then some (Sum.inr (Sum.inr (α:=Unit) i))else some (.inl (ar .add .i64 i 1))else some (.inr (.inl ())))
  (λj s=>s=(j:Int)/\∀i (h:i<l.length),i<j->P l[i]=false) (λr=>r=match l.findIdx? P with|none=>.inl ()|some i=>.inr (i:Int)) l.length 0 0 N hN ⟨rfl,λi h Z=>AY⟩
  (λj s _ z ⟨e,o⟩=>by
   subst e
   simp only[P0]at z
   have t:l[j]? =some l[j]:=by simp[z]
   simp only[B8,A9,show((j:Int)<(l.length:Int)) by omega,H8,B4,F3,t,A4,q _ (I9 z)]
   cases h:P l[j]with
   |true=>
    grind[List.findIdx?_eq_some_iff_getElem]
   |false=>
    grind[Cm])
  (λs ⟨e,o⟩=>by
   subst e
   simp only[P0]at o ⊢
   grind[B8,A9,List.getElem_of_mem])
 rw[O,Z]
def Nw{α:Type}(P:α->Bool)(l:Up α):Int:=match l.findIdx? P with|none=> -1|some i=>(i:Int)
theorem Uz(l:Up A0)(G:l.length<1000000000000)(f:A0->OS Bool)(P:A0->Bool)(q:∀x∈l,f x=some (P x))(hN:l.length<N):M0 N l f=some (Nw P l):=by
 unfold M0 Nw;rw[Yf l G f P q hN];cases l.findIdx? P<;>rfl
def Bj2(l:Up C5)(G:l.length<1000000000000)(f:C5->OS Bool)(P:C5->Bool)(q:∀x∈l,f x=some (P x))(hN:l.length<N):Z0 N l f=some (Nw P l):=by
 unfold Z0 Nw;rw[Yf l G f P q hN];cases l.findIdx? P<;>rfl
theorem DQ{α:Type}{P:α->Bool}{l:Up α}:0<=Nw P l<->∃x∈l,P x=true:=by
 grind[Nw]
def Ay8{α:Type}{P:α->Bool}{l:Up α}(h:¬∃x∈l,P x=true):Nw P l= -1:=by
 grind[Nw]
theorem Ww{α:Type}{P:α->Bool}{l:Up α}(h:∃x∈l,P x=true):∃(i:Nat) (U:i<l.length),Nw P l=i/\P l[i]=true:=by
 have Z:=DQ.2 h
 grind[Nw,List.findIdx?_eq_some_iff_getElem]
theorem Bz8{α:Type}{P:α->Bool}{l m:Up α}(h:∃x∈l,P x=true):Nw P (l++m)=Nw P l:=by
 have Z:=DQ.2 h
 grind[Nw]
def Bj4{α:Type}{P:α->Bool}{l:Up α}{x:α}(h:¬∃x∈l,P x=true)(M:P x=true):Nw P (l++[x])=l.length:=by
 grind[Nw]
noncomputable abbrev NX (l:Up A0)(p:A0):Int:=Nw (λq=>decide (p=q)) l
def Ql:(∃x∈l,decide (p=x)=true)<->p∈l:=by
 simp_all
theorem hdA(hN:TB N)(l:Up A0)(p:A0)(hl:l.length<=1000000)(f:p.bulk<=16777216):P3 N l p=some (NX l p):=by
 grind[P3,Uz,Ee,BT4]
theorem Bz7{q:A0}(f:p∈l)(h:NX l p=NX l q):p=q:=by
 have c:q∈l:=by
  rw[<-Ql];rw[<-DQ];grind[Nw]
 have⟨i,U,t,e2⟩:=Ww (Ql.2 f);have⟨j,z,e,e4⟩:=Ww (Ql.2 c)
 have:i=j:=by rw[show NX l p=Nw (λq=>decide (p=q)) l from rfl,t,show NX l q=Nw (λr=>decide (q=r)) l from rfl,e]at h;omega
 simp_all
noncomputable def Il (l:Up A0)(y:Pr):Up A0:=if y.2.done=true then l else It l y.2.p
noncomputable def rests (w:Up Pr):Up A0:=w.foldl Il []
noncomputable def Nf (l:Up A0)(r:A7):Int:=if r.done=true then -1 else NX l r.p
noncomputable def eg (l:Up A0)(y:Pr):C5:={y.1 with To:=Nf l y.2}
theorem GE (w:Up Pr)(y:Pr):rests (w++[y])=Il (rests w) y:=by simp[rests]
theorem Bg5(h:p∈l):p∈Il l y:=by grind[Il,It]
theorem Bg6(h:¬y.2.done=true):y.2.p∈Il l y:=by unfold Il;rw[A1 h];grind[It]
theorem Ai8 {p:A0}:∀{w:Up Pr} {l:Up A0},p∈l->p∈w.foldl Il l
 |[],l,h=>h
 |y::w,l,h=>Ai8 (w:=w) (Bg5 h)
theorem Ha(I:y∈w)(h:¬y.2.done=true):y.2.p∈rests w:=by
 have key:∀(w:Up Pr) (l:Up A0),y∈w->y.2.p∈w.foldl Il l:=λw=>by
  induction w with
  |nil=>simp_all
  |cons z w ih=>
   grind[Ai8,Bg6]
 grind[rests]
theorem Qz(h:p∈rests w):∃y∈w,¬y.2.done=true/\y.2.p=p:=by
 have key:∀(w:Up Pr) (l:Up A0),p∈w.foldl Il l->p∈l\/∃y∈w,¬y.2.done=true/\y.2.p=p:=λw=>by
  induction w with
  |nil=>simp_all
  |cons z w ih=>
   grind[Il,AR6]
 rcases key w [] h with h|h
 ·simp at h
 exact h
def UQ (N:Nat)(w:Up Pr):Prop:=2048<(dd w).length\/∃y∈w,y.2.done=false/\Q7 N y.2.p≠0
noncomputable instance (N:Nat)(w:Up Pr):Decidable (UQ N w):=Classical.propDecidable _
theorem AB5 (w v:Up Pr):(dd w).length<=(dd (w++v)).length:=by
 rw[Ca9]
 have key:∀(v l:Up Pr),l.length<=(v.foldl It l).length:=λv=>by
  induction v with
  |nil=>simp_all
  |cons x v ih=>
   grind[It]
 grind
def UQ.mono{v:Up Pr}(h:UQ N w):UQ N (w++v):=by
 rcases h with h|⟨y,I,h⟩
 ·left;have:=AB5 w v;omega
 right;grind
structure YW (N:Nat) (w:List Pr) (s:List A0×List C5):Prop where
 rs:s.1=rests w
 es:s.2=(dd w).map (eg (rests w))
 ok:¬UQ N w
 len:(rests w).length<=(dd w).length
theorem Ap7{r:A7}(h:¬r.done=true->r.p∈l):Nf (Il l y) r=Nf l r:=by
 unfold Nf
 by_cases hd:r.done=true
 ·rw[A2 hd,A2 hd]
 rw[A1 hd,A1 hd]
 grind[Il,It,Bz8]
theorem Ca6{z:Pr}{B R:Nat}(I:JX B R y)(Y:JX B R z)(r:¬y.2.done=true->y.2.p∈l)(v:¬z.2.done=true->z.2.p∈l)(h:eg l y=eg l z):y=z:=by
 have O:y.1=z.1:=by
  rw[Yj]at h ⊢
  have⟨_,h⟩:=h;exact⟨⟨by rw[I.from0,Y.from0],by rw[I.to0,Y.to0]⟩,h⟩
 have o:Nf l y.2=Nf l z.2:=(Yj.1 h).1.2
 have M:∀a b:A7,a.done=b.done->a.p=b.p->a=b:=λa b O Z=>by cases a;simp_all
 have Z:y.2=z.2:=by
  unfold Nf at o
  by_cases e:y.2.done=true<;>by_cases n:z.2.done=true
  ·exact M _ _ (by rw[e,n]) (by rw[I.done e,Y.done n])
  ·rw[A2 e,A1 n]at o
   have:=DQ.2 (Ql.2 (v n))
   grind
  ·rw[A1 e,A2 n]at o
   have:=DQ.2 (Ql.2 (r e))
   simp_all
  rw[A1 e,A1 n]at o
  exact M _ _ (by rw[EK]at e n;rw[e,n]) (Bz7 (r e) o)
 grind
noncomputable def Ba2 (N:Nat) (h:Up A0×Up C5) (n:C5×A7):OS ((Up A0×Up C5)⊕(Up A0×Up C5×Int)):=
 ((if nt n.2.done=true then(P3 N h.1 n.2.p).bind λv=>if cmp .lss v 0=true then(N8 N n.2.p).bind λx=>if cmp .neq x 0=true then some (.inr ({n.1 with To:=v},17))else(K2 h.1 ([n.2.p])).bind λw=>some (.inl ({n.1 with To:=Ar.len h.1},w))else some (.inl ({n.1 with To:=v},h.1))else some (.inl ({n.1 with To:=(-1)},h.1))):OS ((C5×(Up A0))⊕(C5×Int))).bind λH=>
  match H with
  | .inl e=>
   (G4 N h.2 (λP=>J4 N P e.1)).bind λy=>
   if y=true then
    some (.inl (e.2,h.2))
   else
    (K2 h.2 ([e.1])).bind λr=>
    if cmp .gtr (Ar.len r) 2048=true then
     some (.inr (e.2,r,17))
    else
     some (.inl (e.2,r))
  | .inr K=>
   some (.inr (h.1,h.2,K.2))
theorem AC1(hN:TB N)(l:Up C5)(e:C5)(hl:l.length<=1000000)(G:WF e 1000)(d:e.dU.bulk<=16777216)(S:∀c∈e.eI,c.bulk<=16777216)(q:∀y∈l,e.eA=y.eA):G4 N l (λh=>J4 N h e)=some (decide (e∈l)):=by
 unfold G4
 rw[Bj2 l AY _ (λy=>decide (e=y)) (λy I=>by
  unfold J4;rw[As1 hN e y G d S];simp only[A4,D8,B3];rw[RZ rfl]
  congr 1
  rw[ON,Yj]
  grind) AY]
 simp_all[O0,DQ]
theorem BC3(hN:TB N){s:Up A0×Up C5}(D:YW N w s)(y:Pr)(I:JX 16777216 16777216 y)(m:∀z∈w,JX 16777216 16777216 z)(G:WF y.1 1000):
 ∃o,Ba2 N s y=some o/\(match o with| .inl t=>YW N (w++[y]) t| .inr q=>q.2.2=17/\UQ N (w++[y])):=by
 have⟨f,d,H,C⟩:=D
 have S:(dd w).length<=2048:=by
  rcases R3 2048 (dd w).length with h|h
  ·exact absurd (.inl h) H
  exact h
 have V:∀z∈dd w,z∈w:=λz Y=>UG.1 Y
 have key:Q7 N y.2.p=0\/y.2.done=true->∀(T:Int) (L:Up A0),L=rests (w++[y])->T=Nf (rests (w++[y])) y.2->∃o,((G4 N s.2 (λu=>J4 N u {y.1 with To:=T})).bind λp=>if p=true then some (Sum.inl (L,s.2))else(K2 s.2 ([{y.1 with To:=T}])).bind λK=>if cmp .gtr (Ar.len K) 2048=true then some (.inr (L,K,(17:Int)))else some (.inl (L,K)))=some o/\(match o with| .inl t=>YW N (w++[y]) t| .inr q=>q.2.2=17/\UQ N (w++[y])):=by
  intro e T L E F;subst E;subst F
  have P:s.2=(dd w).map (eg (rests (w++[y]))):=by
   rw[d,GE];apply BW;intro z Y
   grind[eg,Ap7,Ha]
  have r:eg (rests (w++[y])) y∈s.2<->y∈dd w:=by
   rw[P,BT]
   constructor
   ·rintro⟨z,Y,h⟩;have:=Ca6 (m z (V z Y)) I (λh=>Ha Pw h) (λh=>Ha OC h) h;rw[<-this];exact Y
   grind
  have J:s.2.length=(dd w).length:=by rw[P,H9]
  change ∃o,((G4 N s.2 (λu=>J4 N u (eg (rests (w++[y])) y))).bind _)=_/\_
  rw[AC1 hN s.2 (eg (rests (w++[y])) y) AY G I.cond I.checks (λz Y=>by
   rw[P]at Y
   obtain⟨v,j,rfl⟩:=List.mem_map.1 Y;simp only[eg]
   rw[I.from0,(m v (V v j)).from0])]
  simp only[A4,B3]
  have M:¬∃v∈w++[y],v.2.done=false/\Q7 N v.2.p≠0:=by
   rintro⟨v,j,O,Z⟩
   rcases List.mem_append.1 j with j|j
   ·exact H (.inr ⟨v,j,O,Z⟩)
   simp_all
  by_cases c:y∈dd w
  ·have n:dd (w++[y])=dd w:=by rw[Al7];simp_all[It]
   have x:rests (w++[y])=rests w:=by
    rw[GE];simp_all[Il,It,Ha]
   rw[A2 (r.2 c)];refine⟨_,rfl,rfl,?_,?_,?_⟩
   ·rw[n];exact P
   ·rintro(h|h)
    ·rw[n]at h;omega
    grind
   simp_all
  have n:dd (w++[y])=dd w++[y]:=by rw[Al7];simp_all[It]
  rw[A1 λh=>c (r.1 h),T6 Ts];simp only[A4]
  by_cases A:2048<(dd w).length+1
  ·rw[A2 (HF (by grind[A9]))];refine⟨_,rfl,rfl,.inl ?_⟩;rw[n];simp;omega
  rw[A1 (Ek (by grind[A9]))];refine⟨_,rfl,rfl,?_,?_,?_⟩
  ·simp only[n,P8,D2,G8];rw[P];rfl
  ·rintro(h|h)
   ·rw[n]at h;grind
   grind
  grind[GE,Il,It]
 unfold Ba2
 by_cases hd:y.2.done=true
 ·rw[A1 (by simp[S4,hd])]
  simp_all[GE,Il,Nf]
 rw[A2 (by simp[S4,hd]),f,hdA hN _ _ AY I.rest];simp only[A4,B8]
 by_cases r:y.2.p∈rests w
 ·have R:=DQ.2 (Ql.2 r);rw[A1 (by rw[B3];simp_all)];simp only[A4]
  have x:rests (w++[y])=rests w:=by rw[GE];simp_all[Il,It]
  have⟨v,j,Q,g⟩:=Qz r
  have e:Q7 N y.2.p=0:=by
   by_cases h:Q7 N y.2.p=0
   ·exact h
   exact absurd (.inr ⟨v,j,Pw,by rw[g];exact h⟩) H
  grind[Nf]
 rw[A2 (by rw[B3];simp_all[Ay8]),Wm hN I.rest];simp only[A4]
 by_cases e:Q7 N y.2.p=0
 ·rw[A1 (T4 e),T6 Ts];simp only[A4]
  have x:rests (w++[y])=rests w++[y.2.p]:=by rw[GE];simp_all[Il,It]
  exact key (.inl e) _ _ x.symm (by rw[x];unfold Nf;rw[A1 hd];simp only[NX];rw[Bj4 (λh=>r (Ql.1 h)) OC];rfl)
 rw[A2 (As e)];exact⟨_,rfl,rfl,.inr ⟨y,OC,Pw,e⟩⟩
def Ad9 {N:Nat} (hN:TB N):∀(v w:Up Pr) (s:Up A0×Up C5),YW N w s->(∀z∈w++v,JX 16777216 16777216 z/\WF z.1 1000)->∃o,E8 (Ba2 N) v s=some o/\(match o with| .inl e=>YW N (w++v) e| .inr q=>q.2.2=17/\UQ N (w++v))
 |[],w,s,n,_=>⟨_,rfl,Pw⟩
 | y::v,w,s,n,h=>by
  have⟨o,O,Z⟩:=BC3 hN n y (h y OC).1 (λz Y=>(h z (by simp[Y])).1) (h y OC).2;unfold E8;rw[O]
  cases o with
  |inl e=>
   have:=Ad9 hN v (w++[y]) e Z (λz Y=>h z Pw)
   simp_all
  |inr q=>
   refine⟨_,rfl,Z.1,?_⟩;have:=Z.2.mono (v:=v)
   simp_all
noncomputable def L4 (N:Nat)(w:Up Pr):Up C5×Up A0×Int:=if UQ N w then([],[],17)else((dd w).map (eg (rests w)),rests w,0)
def YA(hN:TB N)(n:x.bulk<=1100000)(Y:Q7 N x=0):Q3 N x=some (L4 N (raw x)):=by
 have f:x.pre.length<=64:=by
  grind[Q7]
 have hd:¬12<x.dep:=λh=>by rw[Q7,A1 AY,A2 h]at Y;cases Y
 have e:Good N x:=by
  rw[Q7,A1 AY,A1 hd]at Y
  exact II.1 Y
 unfold Q3;rw[Bu2 hN x.dep x N (C6 _) AY AY AY f e];simp only[A4]
 have⟨o,O,Z⟩:=Ad9 hN (raw x) [] ([],[]) ⟨rfl,rfl,by rintro(h|⟨y,I,_⟩);simp[dd]at h;simp at I,by simp[rests]⟩ (λz Y=>by
  have Y:z∈raw x:=Pw
  have O:=Bt2 x.dep x (C6 _) z Y;have Z:=AJ1 x.dep x (C6 _) z Y;have T:x.dep*(x.bulk+30)<=12*(1100000+30):=Z3 AY AY
  exact⟨O.mono AY AY,Z.mono AY⟩)
 change ((E8 (Ba2 N) (raw x) ([],[])).bind _)=_
 rw[O];unfold L4
 cases o with
 |inl r=>
  simp only[K3]at Z
  simp only[A4];rw[A1 Z.ok,Z.rs,Z.es]
 |inr q=>
  simp_all
def Xw {α R:Type} (P:α->Bool) (r:R):∀l:Up α,E8 (λ(_:Unit) y=>if P y=true then some (Sum.inr r)else some (.inl ())) l ()=some (if l.any P=true then .inr r else .inl ())
 |[]=>rfl
 | y::l=>by
  unfold E8
  cases h:P y with
  |true=>simp[h]
  |false=>
   simp only[D4,B6,GP,h,Jg];exact Xw P r l
theorem Good.sub{y:A0}(h:Good N x)(I:y∈x.pre):Gn N y=0:=h y I
theorem Bp3(hN:TB N)(e:x.bulk<=16777216):IU N x=some (if Q7 N x≠0 then Q7 N x else if x.pre.any (λy=>cmp .geq y.Op 8)=true then 1 else 0):=by
 unfold IU;rw[Wm hN e];simp only[A4]
 by_cases h:Q7 N x=0
 ·rw[A1 (T4 h),A1 AY,PO hN e];simp only[A4];rw[Xw (λy:A0=>cmp .geq y.Op 8) (1:Int) x.pre]
  grind
 simp_all[As]
def Es(Y:Q7 N x=0):x.pre.length<=64/\x.dep<=12/\Good N x:=by
 have f:x.pre.length<=64:=by
  grind[Q7]
 have hd:¬12<x.dep:=λh=>by rw[Q7,A1 AY,A2 h]at Y;cases Y
 rw[Q7,A1 AY,A1 hd]at Y
 exact⟨f,AY,II.1 Y⟩
def AK4(hN:TB N){y:A0}(h:x.bulk<=16777216)(f:x.pre.length<=64)(e:Good N x)(I:y∈x.pre):BG0 y:=by
 have O:=IW x y I;have Z:=DG y;exact AD8 hN AY AY (e y I)
def BW7(hN:TB N)(y:x.bulk<=16777216):∃b,Ml N x=some b/\(b=true->x.pre.length<=9):=by
 unfold Ml;have⟨r,L,P,V,c3⟩:=Ap6 hN 9 N x AY y;rw[L];simp only[A4]
 by_cases h:9<r
 ·rw[A2 (HF h)];simp_all
 rw[A1 (Ek h),Av6 hN N x AY y];have K:=KU x;simp only[A4]
 have key:∃o,loopN (λ(v:Int)=>((if cmp .lss v (Ar.len x.pre)=true then(C4 x.pre v).bind λx5=>(BM N N x5.dU 20).bind λn=>if cmp .gtr n 20=true then some (.inr (.inr ()))else some (.inl (ar .add .i64 v 1))else some (.inr (.inl ()))):OS (Int⊕(Unit⊕Unit)))) N 0=some o/\True:=Ns (λj s=>s=(j:Int)) (λ_=>True) x.pre.length 0 0 N AY rfl (λj s _ z e=>by
  subst e
  simp only[P0]at z
  have t:C4 x.pre (j:Int)=some x.pre[j]:=by rw[F3,D9 z]
  have p:=(IW x _ (I9 z)).1;have d:=A0.bulk_eq x.pre[j];have⟨n,H,_⟩:=AB7 hN 20 N x.pre[j].dU AY AY;rw[A2 (by grind[B8,A9]),t];simp only[A4,H]
  by_cases w:20<n
  ·rw[A2 (HF w)];simp_all
  ·rw[A1 (Ek w)];grind[Cm]) (λs e=>by
  simp_all[B8,A9])
 have⟨o,X,_⟩:=key;rw[X]
 have hl:x.pre.length<=9:=AY
 cases o with
 |inl _=>simp_all
 |inr _=>simp_all
def KS (x:A0):x∈x.pre:=by rw[A0.pre_eq];simp
def Bm2(hN:TB N)(e:x.bulk<=1100000)(Y:Q7 N x=0):CQ N x=some (L4 N (raw x)):=by
 unfold CQ;rw[Wm hN AY,YA hN e Y]
 simp_all[T4]
theorem ZV (w:Up Pr):(rests w).length<=(dd w).length:=by
 have key:∀(v w:Up Pr),(rests w).length<=(dd w).length->(rests (w++v)).length<=(dd (w++v)).length:=λv=>by
  induction v with
  |nil=>simp_all
  | cons y v ih=>
   intro w h
   have:=ih (w++[y]) (by
    rw[GE,Al7];unfold Il It
    split
    ·grind
    rename_i hd
    by_cases I:y∈dd w
    ·rw[A2 (Ha (UG.1 I) hd),A2 I];exact h
    grind)
   simp_all
 simpa using key w [] (by simp[rests])
def BQ9{α β:Type}{m:OS α}{F:α->OS β}{a:α}{r:OS β}(O:m=some a)(Z:F a=r):m.bind F=r:=by rw[O];exact Z
structure PK (y:Pr):Prop where
 ok:JX 16777216 16777216 y
 sz:WF y.1 1000
def Uq (l:Up Nat):Nat:=l.foldr max 0
def uc (e:Int)(l:Up Nat):Nat:=if e=0 then 1 else if e=2\/e=3 then l.sum else if e=4\/e=8 then 2*Uq l else Uq l
mutual
def U:A0->Nat
 |⟨e,args,_,_,_,_,_⟩=>uc e (Us args)
def Us:Up A0->Up Nat
 |[]=>[]
 |a::l=>U a::Us l
end
theorem BE7:∀l:Up A0,Us l=l.map U
 |[]=>rfl
 |a::l=>by simp[Us,BE7 l]
def BF0 (x:A0):U x=uc x.Op (x.dT.map U):=by cases x;grind[U,BE7]
theorem AQ1 (e:Int)(l:Up A0):U (nd e l)=uc e (l.map U):=by rw[BF0];rfl
def uc1 (l:Up Nat):uc 1 l=Uq l:=rfl
def uc3 (l:Up Nat):uc 3 l=l.sum:=rfl
theorem uc4 (l:Up Nat):uc 4 l=2*Uq l:=rfl
theorem uc8 (l:Up Nat):uc 8 l=2*Uq l:=rfl
theorem AW8:Uq []=0:=rfl
theorem BM4{l:Up Nat}{a:Nat}(h:a∈l):a<=Uq l:=by
 induction l with
 |nil=>simp at h
 |cons b l ih=>
  grind[Uq]
theorem SV (a:Nat)(l:Up Nat):Uq (a::l)=max a (Uq l):=rfl
def Bw6{l:Up Nat}{m:Nat}(h:∀a∈l,a<=m):Uq l<=m:=by
 induction l with
 |nil=>simp[Uq]
 |cons b l ih=>
  have:=ih λa u=>h a (by simp[u]);have:=h b OC;rw[SV];omega
theorem AX4{l:Up Nat}{a:Nat}(h:a∈l):a<=l.sum:=by
 induction l with
 |nil=>simp at h
 |cons b l ih=>
  grind
theorem NE:∀(l:Up A0) (F:Nat->Nat),(∀i (h:i<l.length),F i<=U l[i])->((List.range l.length).map F).sum<=(l.map U).sum
 |[],F,_=>OC
 |a::l,F,h=>by
  have:=NE l (λi=>F (i+1)) λi n=>by have:=h (i+1) Pw;simp_all
  have L:=h 0 OC;simp only[K8,UX,D2,Bk,LH]
  simp only[List.getElem_cons_zero]at L
  have e:(List.map (F∘Nat.succ) (List.range l.length)).sum=(List.map (λi=>F (i+1)) (List.range l.length)).sum:=rfl;omega
def Le {α β:Type} {f:α->Up β} {k:Nat}:∀{l:Up α},(∀x∈l,(f x).length<=k)->(l.flatMap f).length<=k*l.length
 |[],_=>OC
 |x::l,h=>by
  have:=Le (f:=f) (l:=l) λy I=>h y (by simp[I]);have:=h x OC
  grind[Nat.mul_add]
theorem AU6 (a:A0)(y:Pr):(OA a y).length<=2:=by
 unfold OA
 grind
theorem Bj5(h:∀a∈l,(raw a).length<=U a):((l.map raw).headD []).length<=Uq (l.map U):=by
 cases l with
 |nil=>simp
 |cons a l=>have:=h a OC;grind[SV]
theorem BJ3:∀(d:Nat) (x:A0),x.dep<=d->(raw x).length<=U x:=by
 intro d
 induction d with
 |zero=>grind[A0.dep_eq]
 | succ d ih=>
  intro x hd;have e:∀a∈x.dT,(raw a).length<=U a:=λa u=>ih a (by have:=Gt u;omega);have n:=Bj5 e;rw[Ea,BF0];unfold comb uc
  by_cases L:x.Op=0
  ·rw[A2 L,A2 L];simp
  rw[A1 L,A1 L]
  by_cases O:x.Op=1
  ·rw[A2 O,A1 (show¬(x.Op=2\/x.Op=3) by omega),A1 (show¬(x.Op=4\/x.Op=8) by omega),H9];exact n
  rw[A1 O]
  by_cases Z:x.Op=2
  ·rw[A2 Z,A2 (.inl Z),List.length_flatMap]
   grind[NE]
  rw[A1 Z]
  by_cases T:x.Op=3
  ·rw[A2 T,A2 (.inr T),List.length_flatMap]
   grind[NE]
  rw[A1 T,A1 (show¬(x.Op=2\/x.Op=3) by omega)]
  by_cases h:x.Op=4
  ·rw[A2 h,A2 (.inl h)];have:=Le (f:=OA x) (k:=2) (l:=(x.dT.map raw).headD []) λy _=>AU6 x y;omega
  rw[A1 h]
  by_cases r:x.Op=8
  ·rw[A2 r,A2 (.inr r)];have:=Le (f:=OA (nd 4 (x.dT.drop 1))) (k:=2) (l:=(x.dT.map raw).headD []) λy _=>AU6 _ y;omega
  simp_all
theorem BE9 (l:Up A0):U (DP 1 l)=Uq (l.map U):=by
 match l with
 |[]=>rw[show DP 1 []=nd 1 []from rfl,AQ1,uc1]
 |[x]=>simp[DP,Uq]
 |x::y::l=>rw[show DP 1 (x::y::l)=nd 1 (x::y::l)from rfl,AQ1,uc1]
def BE8 (l:Up A0):U (DP 3 l)=(l.map U).sum:=by
 match l with
 |[]=>rw[show DP 3 []=nd 3 []from rfl,AQ1,uc3]
 |[x]=>simp[DP]
 |x::y::l=>rw[show DP 3 (x::y::l)=nd 3 (x::y::l)from rfl,AQ1,uc3]
def Bq6 (l:Up Nat)(i:Nat):(l.take i).sum+(l.drop i).sum=l.sum:=by rw[<-List.sum_append,Da]
theorem AT1:∀(l:Up Nat) (i:Nat) (U:i<l.length) (v:Nat),(l.set i v).sum+l[i]=l.sum+v
 |a::l,0,_,v=>Pw
 |a::l,i+1,U,v=>by
  have:=AT1 l i Pw v
  grind
theorem Cg5:∀(d:Nat) (x:A0),x.dep<=d->∀y∈raw x,¬y.2.done=true->U y.2.p<=U x:=by
 intro d
 induction d with
 |zero=>grind[A0.dep_eq]
 | succ d ih=>
  intro x hd y I h;have w:∀a∈x.dT,∀y∈raw a,¬y.2.done=true->U y.2.p<=U a:=λa u=>ih a (by have:=Gt u;omega);have r:∀a∈x.dT,U a<=Uq (x.dT.map U):=λa u=>BM4 (List.mem_map.2 ⟨a,u,rfl⟩)
  rw[Ea]at I
  have n:=BF0 x
  unfold comb at I
  unfold uc at n
  by_cases L:x.Op=0
  ·rw[A2 L]at I
   rw[List.mem_singleton.1 I]at h;exact absurd rfl h
  rw[A1 L]at I n
  by_cases O:x.Op=1
  ·rw[A2 O]at I
   rw[A1 AY,A1 AY]at n
   obtain⟨z,Y,rfl⟩:=List.mem_map.1 I
   match R:x.dT,Y with
   |[],Y=>simp at Y
   | a::l,Y=>
    have Y:z∈raw a:=Pw
    have u:a∈x.dT:=by rw[R];simp
    rw[R]at h n
    simp only[Jq,CA,D2,SV]at h n ⊢
    have e:U (HX z.2 l).p=Uq ((if z.2.done=true then l else z.2.p::l).map U)\/(HX z.2 l).done=true:=by
     unfold HX
     split
     ·right;rfl
     grind[BE9]
    grind[Uq]
  rw[A1 O]at I
  by_cases Z:x.Op=2
  ·rw[A2 Z]at I
   rw[A2 (.inl Z)]at n
   have⟨i,_,Y⟩:=List.mem_flatMap.1 I;have⟨a,u,Y⟩:=HI Y;have f:=w a u y Y h;have o:=AX4 (List.mem_map.2 ⟨a,u,rfl⟩:U a∈x.dT.map U);omega
  rw[A1 Z]at I
  by_cases T:x.Op=3
  ·rw[A2 T]at I
   rw[A2 (.inr T)]at n
   have⟨i,_,Y⟩:=List.mem_flatMap.1 I;obtain⟨z,m,rfl⟩:=List.mem_map.1 Y
   have s:i<x.dT.length:=by
    simp_all
   rw[Qj s]at m
   simp only[Mv];rw[BE8]
   split
   ·have:=Bq6 (x.dT.map U) i
    have e:(x.dT.map U).drop i=U x.dT[i]::(x.dT.map U).drop (i+1):=by
     rw[P1 Pw];simp
    rw[e,LH]at this
    rw[P8,List.sum_append,LI,LJ];omega
   grind[AT1,List.map_set]
  rw[A1 T]at I
  rw[A1 AY]at n
  have H:∀(P b:A0) (l:Up A0),P.dT=b::l->U P<=2*Uq (x.dT.map U)->U b<=Uq (x.dT.map U)->∀a∈x.dT,∀z∈raw a,∀y∈OA P z,¬y.2.done=true->U y.2.p<=2*Uq (x.dT.map U):=λP b l hl O Z a u z Y y I h=>by
   have:=r a u
   unfold OA at I
   grind[AQ1,uc8,SV,AW8]
  by_cases V:x.Op=4
  ·rw[A2 V]at I
   rw[A2 (.inl V)]at n
   have⟨z,Y,I⟩:=List.mem_flatMap.1 I
   match R:x.dT,Y with
   |[],Y=>simp at Y
   |a::l,Y=>
    have:=H x a l R AY (r a (by rw[R];simp)) a (by rw[R];simp) z Pw y I h;omega
  rw[A1 V]at I
  by_cases g:x.Op=8
  ·rw [A2 g]at I
   rw[A2 (.inr g)]at n
   have⟨z,Y,I⟩:=List.mem_flatMap.1 I
   match R:x.dT,Y with
   |[],Y=>simp at Y
   | [a],Y=>
    have u:a∈x.dT:=by rw[R];simp
    have p:=r a u
    rw[R]at I
    unfold OA at I
    split at I
    ·rcases List.mem_cons.1 I with rfl|I
     ·have:=w a u _ Pw h;omega
     grind[AQ1,uc4,AW8]
    simp[nd]at I
   | a::b::l,Y=>
    have q:∀c∈b::l,U c<=Uq (x.dT.map U):=λc t=>r c (by rw[R];simp_all)
    rw[R]at I
    have f:U (nd 4 (b::l))<=2*Uq (x.dT.map U):=by
     have:Uq ((b::l).map U)<=Uq (x.dT.map U):=Bw6 λv j=>by
      grind
     rw[AQ1,uc4];omega
    have:=H (nd 4 (b::l)) b l rfl f (q b OC) a (by rw[R];simp) z Pw y I h;omega
  rw[A1 g]at I
  rw[A1 AY]at n
  obtain⟨z,Y,rfl⟩:=List.mem_map.1 I;have⟨a,u,Y⟩:=De Y
  simp only[Zh,Bj1]at h ⊢
  split at h
  ·simp_all
  rename_i K;rw[A1 K];have f:=w a u z Y K;have o:=r a u;rw[BF0]
  have e:uc (Ay5 x) ([z.2.p].map U)=U z.2.p:=by
   grind[uc,Ay5,Uq]
  grind
theorem Ck2:∀(d:Nat) (x:A0),x.dep<=d->U x+1<=2 ^ x.pre.length:=by
 intro d
 induction d with
 |zero=>grind[A0.dep_eq]
 | succ d ih=>
  intro x hd;have e:∀a∈x.dT,U a+1<=2 ^ a.pre.length:=λa u=>ih a (by have:=Gt u;omega)
  have key:∀l:Up A0,(∀a∈l,U a+1<=2 ^ a.pre.length)->(l.map U).sum+1<=2 ^ (A0.pres l).length:=λl=>by
   induction l with
   |nil=>grind[A0.pres]
   | cons a l n=>
    intro h;have O:=h a OC;have Z:=n λb r=>h b (by simp[r]);simp only[D2,LH,A0.pres,N1,LB];have T:(U a+1)*((l.map U).sum+1)<=2 ^ a.pre.length*2 ^ (A0.pres l).length:=Z3 O Z
    have v:(U a+1)*((l.map U).sum+1)=U a*(l.map U).sum+U a+(l.map U).sum+1:=by
     rw[F9,Nat.mul_add];omega
    omega
  have G:=key x.dT e;have p:Uq (x.dT.map U)<=(x.dT.map U).sum:=Bw6 λa u=>AX4 u;rw[BF0,A0.pre_eq,K8,OH];have f:1<=2 ^ (A0.pres x.dT).length:=Nat.one_le_two_pow
  grind[uc]
theorem AE9 {α:Type} [DecidableEq α]:∀(l m:Up α),(l.foldl It m).length<=m.length+l.length
 |[],m=>OC
 |x::l,m=>by
  have:=AE9 l (It m x)
  have h:(It m x).length<=m.length+1:=by grind[It]
  grind
def Bm3{α:Type}[DecidableEq α](l:Up α):(dd l).length<=l.length:=by have:=AE9 l [];simp_all[dd]
def Bt3(hd:x.dep<=12)(e:x.bulk<=1100000):∀z∈raw x,PK z:=λz Y=>by
 have O:=Bt2 x.dep x (C6 _) z Y;have Z:=AJ1 x.dep x (C6 _) z Y;have T:x.dep*(x.bulk+30)<=12*(1100000+30):=Z3 AY AY;exact⟨O.mono AY AY,Z.mono AY⟩
def Ks{a b:Int}(h:a<b):cmp .lss a b=true:=by rw[B8];simp_all
def Gc{a b:Int}(h:¬a<b):¬(cmp .lss a b=true):=by rw[B8];grind
def AE3(hd:x.dep<=12)(n:x.bulk<=1100000)(r:U x<=400000):(L4 N (raw x)).1.length<=1000000/\(∀e∈(L4 N (raw x)).1,WF e 1000/\e.dU.bulk<=16777216/\∀c∈e.eI,c.bulk<=16777216)/\(L4 N (raw x)).2.1.length<=1000000/\∀p∈(L4 N (raw x)).2.1,p.bulk<=16777216:=by
 have h:=Bt3 hd n;have O:=Bm3 (raw x);have Z:=BJ3 x.dep x (C6 _);have T:=ZV (raw x);unfold L4
 split
 ·simp_all
 refine⟨Pw,λe R=>?_,Pw,λp f=>?_⟩
 ·obtain⟨y,I,rfl⟩:=List.mem_map.1 R;have S:=h y (UG.1 I);exact⟨S.sz,S.ok.cond,S.ok.checks⟩
 obtain⟨y,I,_,rfl⟩:=Qz f;exact(h y I).ok.rest
mutual
def YO:∀x:A8,(∀y∈x.pre,y.Value.Text.size<=64)->x.bulk<=74*x.pre.length
 |⟨n,args,var,field,e,v⟩,h=>by
  have O:=VS args λy I=>h y (by rw[A8.pre];simp_all);have Z:v.Text.size<=64:=h ⟨n,args,var,field,e,v⟩ (by rw[A8.pre];simp_all)
  grind[A8.bulk,A8.pre]
def VS:∀l:Up A8,(∀y∈A8.pres l,y.Value.Text.size<=64)->A8.bulks l<=1+74*(A8.pres l).length
 |[],_=>by simp[A8.bulks]
 |a::l,h=>by
  have O:=YO a λy I=>h y (by rw[A8.pres];simp_all);have Z:=VS l λy I=>h y (by rw[A8.pres];simp_all)
  grind[A8.bulks,A8.pres]
end
mutual
def YN:∀x:A0,(∀y∈x.pre,y.dU.bulk<=4736)->x.bulk<=4743*x.pre.length
 |⟨n,args,e,var,scope,span,c⟩,h=>by
  have O:=VQ args λy I=>h y (by rw[A0.pre];simp_all);have Z:c.bulk<=4736:=h ⟨n,args,e,var,scope,span,c⟩ (by rw[A0.pre];simp_all)
  grind[A0.bulk,A0.pre]
def VQ:∀l:Up A0,(∀y∈A0.pres l,y.dU.bulk<=4736)->A0.bulks l<=1+4743*(A0.pres l).length
 |[],_=>by grind[A0.bulks]
 |a::l,h=>by
  have O:=YN a λy I=>h y (by rw[A0.pres];simp_all);have Z:=VQ l λy I=>h y (by rw[A0.pres];simp_all)
  grind[A0.bulks,A0.pres]
end
theorem Rz:(⟨#[]⟩:Uf).size=0:=rfl
theorem AF7{v:B2}(h:AR1 v=true):v.Text.size<=64:=by
 simp_all[AR1,Q4,Hp,Rz]
theorem Ap1{v:B2}(h:R5 v=0):v.Text.size<=64:=by
 unfold R5 at h
 by_cases O:v.Kind=0\/v.Kind=1
 ·rw[A2 O]at h
  by_cases Z:v.Text≠⟨#[]⟩
  ·rw[A2 Z]at h;cases h
  simp_all[Rz]
 omega
def Al4{x:A8}(h:BJ x=0):x.Value.Text.size<=64:=by
 unfold BJ at h
 by_cases L:x.Op<0\/12<x.Op
 ·rw[A2 L]at h;cases h
 rw[A1 L]at h
 by_cases O:(x.dT.length:Int)≠(if x.Op<5 then 0 else if x.Op=12 then 1 else 2)
 ·rw[A2 O]at h;cases h
 rw[A1 O]at h
 by_cases Z:Ov x=true
 ·rw[A2 Z]at h;cases h
 rw[A1 Z]at h
 by_cases T:Ab9 x=true
 ·rw[A2 T]at h;cases h
 rw[A1 T]at h
 by_cases n:x.Op=4\/x.Op=0
 ·grind[Ap1]
 rw[A1 (λe=>n e.1),A1 (λe=>n (.inl e.1))]at h
 by_cases r:Ac0 x=true
 ·rw[A2 r]at h;cases h
 grind[Ac0,Q8,Q4,S4,D8,AF7]
theorem cfB{c:A8}(h:V0 c=0):c.bulk<=4736:=by
 have f:¬64<c.pre.length:=λe=>by rw[V0,A2 e]at h;cases h
 have hd:¬12<c.dep:=λe=>by rw[V0,A1 f,A2 e]at h;cases h
 rw[V0,A1 f,A1 hd]at h
 have:=YO c λy I=>Al4 (II.1 h y I);omega
theorem NN(hN:TB N){y:A0}(w:y.bulk<=16777216)(hl:y.dT.length<=64)(h:Gn N y=0):(0<=y.Op/\y.Op<=10)/\∃s r,WE N y s r/\y.dU.bulk<=4736:=by
 have d:y.dU.bulk<=16777216:=by have:=A0.bulk_eq y;omega
 have n:0<=y.Op/\y.Op<=10:=by
  by_cases X:0<=y.Op/\y.Op<=10
  ·exact X
  have O:=(ID hN w hl)
  simp_all[Z1,Bu5]
 have⟨s,r,G⟩:=SJ N y n.1 n.2 hl;have Y:=ZR hN N y.dU (⟨0,[],0,0,0,(⟨0,0,⟨#[]⟩⟩:B2)⟩:A8) AY d;have O:=KK hN d n.1 n.2 G Y
 rw[(ID hN w hl),h]at O
 have O:=CU O;refine⟨n,s,r,G,?_⟩
 by_cases u:s.eJ<=y.dT.length/\(y.dT.length:Int)<=s.most
 ·rw[A2 u]at O
  unfold XE at O
  by_cases t:Lz s.eE y.Typ 15=true
  ·rw[A2 t]at O;cases O
  rw[A1 t]at O
  by_cases e2:Lz s.eE y.Var 15=true
  ·rw[A2 e2]at O;cases O
  rw[A1 e2]at O
  by_cases v:Lz s.scope y.dZ 63=true
  ·rw[A2 v]at O;cases O
  rw[A1 v]at O
  by_cases e4:Lz s.span y.Span 1099511627776=true
  ·rw[A2 e4]at O;cases O
  rw[A1 e4]at O
  by_cases x:s.cond=true
  ·grind[cfB]
  rw[A1 (λe=>x e.1)]at O
  grind[A8.bulk,A8.bulks,Rz]
 omega
def AJ0(hN:TB N)(n:x.bulk<=16777216)(Y:Q7 N x=0):x.bulk<=400000:=by
 have⟨f,hd,e⟩:=Es Y
 have:=YN x λy I=>by
  have O:=IW x y I;have Z:=DG y;have⟨_,_,_,_,h⟩:=NN hN AY AY (e y I);exact h
 omega
def cnt:Up (Bool×Bool×A0)->Int->Int->Bool
 |[],_,_=>true
 |y::l,v,s=>(if y.1=true then decide (y.2.2.Var=v)else true)&&(if y.2.1=true then decide (y.2.2.dZ=s)else true)&&cnt l (if y.1=true then v+1 else v) (if y.2.1=true then s+1 else s)
noncomputable def We (y:A0):Bool:=match C4 O3 y.Op with|some s=>s.eE|none=>false
noncomputable def Wl (y:A0):Bool:=match C4 O3 y.Op with|some s=>s.scope|none=>false
noncomputable def Cb4 (l:Up A0):Bool:=cnt (l.map λy=>(We y,Wl y,y)) 0 0
def AQ3 (N:Nat)(y:A0):Prop:=∃s e,WE N y s e
def AM5(hN:TB N)(n:x.bulk<=16777216)(Y:Q7 N x=0):∀y∈x.pre,AQ3 N y:=λy I=>by
 have⟨f,hd,e⟩:=Es Y;have O:=IW x y I;have Z:=DG y;have⟨_,s,r,h,_⟩:=NN hN AY AY (e y I)
 grind[AQ3]
noncomputable def YC (h:Bool×Int×Int)(r:A0):OS ((Bool×Int×Int)⊕Unit):=
 (C4 O3 r.Op).bind λn=>((if n.eE=true then some (an h.1 (cmp .eql r.Var h.2.2),ar .add .i64 h.2.2 1)else some (h.1,h.2.2)):OS (Bool×Int)).bind λe=>if n.scope=true then some (.inl (an e.1 (cmp .eql r.dZ h.2.1),ar .add .i64 h.2.1 1,e.2))else some (.inl (e.1,h.2.1,e.2))
theorem Ae3 {N:Nat}:∀(l:Up A0),(∀y∈l,AQ3 N y)->∀(b:Bool) (v s:Int),0<=v->0<=s->v+l.length<=1000000->s+l.length<=1000000->
 ∃x w,E8 YC l (b,s,v)=some (.inl (b&&cnt (l.map λy=>(We y,Wl y,y)) v s,w,x))
 |[],_,b,v,s,_,_,_,_=>⟨v,s,by simp[E8,cnt]⟩
 | y::l,h,b,v,s,j,G,P,K=>by
  simp only[K8]at P K
  have⟨H,m,ok⟩:=h y OC
  have et:We y=H.eE:=by unfold We;rw[ok.tab]
  have V:Wl y=H.scope:=by unfold Wl;rw[ok.tab]
  have ev:ar .add .i64 v 1=v+1:=E6 AY AY;have c:ar .add .i64 s 1=s+1:=E6 AY AY;have Q:=λb x w O Z T f=>Ae3 l (λz Y=>h z (by simp[Y])) b x w O Z T f;simp only[D2,cnt,et,V]
  have step:∀b' r n,YC (b,s,v) y=some (.inl (b',n,r))->E8 YC (y::l) (b,s,v)=E8 YC l (b',n,r):=λb' r n h=>by grind[E8]
  have g:∀b' r n,(some (.inl (b',n,r)):OS ((Bool×Int×Int)⊕Unit))=(((if H.eE=true then some (an b (cmp .eql y.Var v),ar .add .i64 v 1)else some (b,v)):OS (Bool×Int)).bind λe=>if H.scope=true then some (.inl (an e.1 (cmp .eql y.dZ s),ar .add .i64 s 1,e.2))else some (.inl (e.1,s,e.2)))->E8 YC (y::l) (b,s,v)=E8 YC l (b',n,r):=λb' r n h=>step b' r n (by rw[h];unfold YC;rw[ok.tab];rfl);cases o:H.eE<;>cases d:H.scope
  ·have⟨x,w,O⟩:=Q b v s j G AY AY
   simp_all
  ·have⟨x,w,O⟩:=Q (b&&decide (y.dZ=s)) v (s+1) j AY AY AY
   grind[D8,Q4]
  ·have⟨x,w,O⟩:=Q (b&&decide (y.Var=v)) (v+1) s AY G AY AY
   grind[D8,Q4]
  have⟨x,w,O⟩:=Q (b&&decide (y.Var=v)&&decide (y.dZ=s)) (v+1) (s+1) AY AY AY AY
  grind[D8,Q4]
theorem Aa2(hN:TB N)(e:x.bulk<=16777216)(Y:Q7 N x=0):∃v s,Ga N x=some (v,s,Cb4 x.pre):=by
 have⟨f,hd,n⟩:=Es Y;have⟨v,s,h⟩:=Ae3 (N:=N) x.pre (AM5 hN e Y) true 0 0 AY AY AY AY;unfold Ga;rw[PO hN e];simp only[A4];refine⟨v,s,BQ9 h ?_⟩;simp[Cb4]
noncomputable def Oc (N:Nat)(x:A0):Int:=if Q7 N x≠0 then Q7 N x else if x.pre.any (λy=>cmp .geq y.Op 8)=true then 1 else if Cb4 x.pre=true then 0 else 14
theorem KD(hN:TB N)(e:x.bulk<=16777216):Et N x=some (Oc N x):=by
 unfold Et Oc;rw[Bp3 hN e];simp only[A4]
 by_cases h:Q7 N x=0
 ·rw[A1 (show¬(Q7 N x≠0) by omega),A1 (show¬(Q7 N x≠0) by omega)]
  by_cases Z:x.pre.any (λy=>cmp .geq y.Op 8)=true
  ·rw[A2 Z,A2 Z,A2 (As AY)]
  rw[A1 Z,A1 Z,A1 (T4 rfl)]
  grind[Aa2,S4]
 simp_all[As]
def lock {S R R':Type} {f:S->OS (S⊕R)} {g:S->OS (S⊕R')} (I:S->Prop) (Q:R->R'->Prop) (m:S->Nat)
 (h:∀s,I s->(∃n,f s=some (.inl n)/\g s=some (.inl n)/\I n/\m n<m s)\/(∃r e,f s=some (.inr r)/\g s=some (.inr e)/\Q r e)):
 ∀(N:Nat) (s:S),I s->m s<N->∃r e,loopN f N s=some r/\loopN g N s=some e/\Q r e
 |0,s,_,p=>AY
 | N+1,s,U,p=>by
  rcases h s U with⟨n,O,Z,T,v⟩|⟨r,e,O,Z,T⟩
  ·have⟨r,e,w,x,y⟩:=lock I Q m h N n T AY
   simp_all[loopN]
  simp_all[loopN]
theorem Sx {α:Type} [DecidableEq α] {x:α}:∀(l acc:Up α),x∈l.foldl It acc->x∈acc\/x∈l
 |[],acc,h=>.inl h
 |y::l,acc,h=>by
  rcases Sx l (It acc y) h with h|h
  ·grind[It]
  simp_all
theorem WK {α:Type} [DecidableEq α]:∀(l acc:Up α),(l.foldl It acc).length<=acc.length+l.length/\acc.length<=(l.foldl It acc).length
 |[],acc=>OC
 | y::l,acc=>by
  have h:=WK l (It acc y)
  have Z:(It acc y).length<=acc.length+1/\acc.length<=(It acc y).length:=by
   grind[It]
  grind
def BO5(hN:TB N)(l out:Up A0)(hl:l.length<=2048)(X:out.length<=256)(K:∀q∈l,q.bulk<=16777216):
 loopN (λ(n:(Up A0)×Int)=>((if cmp .lss n.2 (Ar.len l)=true then(C4 l n.2).bind λv=>(P3 N n.1 v).bind λy=>if cmp .lss y 0=true then(K2 n.1 ([v])).bind λx=>some (.inl (x,ar .add .i64 n.2 1))else some (.inl (n.1,ar .add .i64 n.2 1))else some (.inr n.1)):OS (((Up A0)×Int)⊕(Up A0)))) N (out,0)=some (l.foldl It out):=by
 rw[Bx6 (s0:=(out,(0:Int))) (st:=λj=>((l.take j).foldl It out,(j:Int))) (k:=l.length) (r:=l.foldl It out) rfl AY ?_ ?_]
 ·intro j z
  have t:C4 l (j:Int)=some l[j]:=by rw[F3,D9 z]
  have H:=(WK (l.take j) out).1
  have P:(l.take j).length<=j:=by simp;omega
  have w:(l.take (j+1)).foldl It out=It ((l.take j).foldl It out) l[j]:=by rw[Jr,D9 z,List.foldl_append];rfl
  rw[A2 (Ks (by grind[A9]))];simp only[t,A4];rw[hdA hN _ _ AY (K _ (I9 z))];simp only[A4];rw[Cm AY,w]
  by_cases e:l[j]∈(l.take j).foldl It out
  ·rw[A1 (Gc (Int.not_lt.2 (DQ.2 (Ql.2 e)))),It,A2 e]
  have L:NX ((l.take j).foldl It out) l[j]= -1:=Ay8 λh=>e (Ql.1 h);rw[A2 (Ks (by rw[L];omega)),T6 Ts,It,A1 e];rfl
 simp_all[Gc,A9]
def Qu (N:Nat)(q:A0):Prop:=q.bulk<=1100000/\Q7 N q=0/\U q<=400000
def AB4(hN:TB N)(M:Qu N x):(L4 N (raw x)).2.2=17\/(L4 N (raw x)).2.2=0/\(L4 N (raw x)).2.1.length<=2048/\∀q∈(L4 N (raw x)).2.1,Qu N q:=by
 have⟨O,Z,T⟩:=M;have⟨f,hd,H⟩:=Es Z;unfold L4
 by_cases n:UQ N (raw x)
 ·rw[A2 n];grind
 rw[A1 n];have Q:=ZV (raw x);have hl:¬2048<(dd (raw x)).length:=λh=>n (.inl h);refine .inr ⟨rfl,Pw,λq c=>?_⟩;obtain⟨y,I,r,rfl⟩:=Qz c;have Y:Q7 N y.2.p=0:=Classical.not_not.1 λe=>n (.inr ⟨y,I,Pw,e⟩);have v:=(Bt3 hd O y I).ok.rest;have w:=Cg5 x.dep x (C6 _) y I r;have:=AJ0 hN v Y
 grind[Qu]
def drE(hN:TB N)(e:x.bulk<=16777216)(d:Oc N x≠0):Y9 N x=some ([],Oc N x):=by
 simp_all[Y9,KD,As]
theorem BJ4{Q:A0->Pr->Prop}(L:∀x:A0,x.Op=0->Q x (⟨0,0,x.Var,x.Typ,x.dU,[],[],[],[],[]⟩,AB2))
 (O:∀(x a:A0) l z,x.Op=1->x.dT=a::l->z∈raw a->Q a z->Q x (z.1,HX z.2 l))
 (Z:∀(x a:A0) z,x.Op=2->a∈x.dT->z∈raw a->Q a z->Q x z)
 (T:∀(x:A0) i (U:i<x.dT.length) z,x.Op=3->z∈raw x.dT[i]->Q x.dT[i] z->Q x (z.1,Mv x.dT i z.2))
 (r:∀(x a:A0) l z y,x.Op=4->x.dT=a::l->z∈raw a->Q a z->y∈OA x z->Q x y)
 (v:∀(x a:A0) l z y,x.Op=8->x.dT=a::l->z∈raw a->Q a z->y∈OA (nd 4 l) z->Q x y)
 (U:∀(x a:A0) l z,x.Op≠0->x.Op≠1->x.Op≠2->x.Op≠3->x.Op≠4->x.Op≠8->x.dT=a::l->z∈raw a->Q a z->Q x (Zh x z)):
 ∀(d:Nat) (x:A0),x.dep<=d->∀y∈raw x,Q x y:=by
 intro d
 induction d with
 |zero=>grind[A0.dep_eq]
 | succ d ih=>
  intro x hd y I;have h:∀a∈x.dT,∀y∈raw a,Q a y:=λa u=>ih a (by have:=Gt u;omega)
  rw[Ea]at I
  unfold comb at I
  by_cases n:x.Op=0
  ·rw[A2 n]at I
   rw[List.mem_singleton.1 I];grind
  rw[A1 n]at I
  have e:∀z,z∈(x.dT.map raw).headD []->∃a l,x.dT=a::l/\z∈raw a/\Q a z:=λz Y=>by
   match R:x.dT,Y with
   |[],Y=>simp at Y
   |a::l,Y=>simp_all
  grind
def Lq (x:A0)(v:Int):Prop:=∃y∈x.pre,y.Op=0/\y.Var=v
theorem NT {y:A0}:∀{l:Up A0},y∈A0.pres l<->∃a∈l,y∈a.pre
 |[]=>by grind[A0.pres]
 |a::l=>by simp[A0.pres,NT (l:=l)]
theorem Tn{v:Int}:Lq x v<->(x.Op=0/\x.Var=v)\/∃a∈x.dT,Lq a v:=by
 grind[Lq,A0.pre_eq,NT]
theorem Fk{a:A0}{v:Int}(u:a∈x.dT)(h:Lq a v):Lq x v:=Tn.2 (.inr ⟨a,u,h⟩)
theorem Wy{e:Int}(X:e≠0){v:Int}:Lq (nd e l) v<->∃a∈l,Lq a v:=by
 rw[Tn];simp[nd,X]
def Yu{e:Int}(X:e≠0){v:Int}:Lq (DP e l) v<->∃a∈l,Lq a v:=by
 match l with
 |[]=>exact Wy X
 |[x]=>simp[DP]
 |x::y::l=>exact Wy X
theorem Bs9{e:A0}{z:Pr}(I:y∈OA e z)(n:e.Op≠0):y.1=z.1/\(y.2.done=false->∀v,Lq y.2.p v->Lq e v\/z.2.done=false/\Lq z.2.p v):=by
 unfold OA at I
 by_cases hd:z.2.done=true
 ·rw[A2 hd]at I
  grind
 rw[A1 hd]at I
 match R:e.dT,I with
 |[],I=>simp at I
 |b::l,I=>
  rw[List.mem_singleton.1 I];refine⟨rfl,λ_ v h=>?_⟩;have⟨a,u,h⟩:=(Wy AY).1 h
  rcases List.mem_cons.1 u with rfl|u
  ·simp_all
  rw[List.mem_singleton.1 u]at h
  exact .inl (Fk (by rw[R];simp) h)
theorem BX4 (d:Nat) (x:A0) (hd:x.dep<=d):∀y∈raw x,Lq x y.1.Var/\(y.2.done=false->∀v,Lq y.2.p v->Lq x v):=by
 refine BJ4 (Q:=λx y=>Lq x y.1.Var/\(y.2.done=false->∀v,Lq y.2.p v->Lq x v)) ?_ ?_ ?_ ?_ ?_ ?_ ?_ d x hd
 ·intro x h;exact⟨Tn.2 (.inl ⟨h,rfl⟩),λh=>by cases h⟩
 ·intro x a l z o e _ ⟨O,Z⟩
  have u:a∈x.dT:=by rw[e];simp
  refine⟨Fk u O,λn v j=>?_⟩
  simp only[HX]at n j
  have key:Lq (DP 1 (if z.2.done=true then l else z.2.p::l)) v:=by
   revert n j
   split
   ·intro h;cases h
   simp_all
  have⟨b,r,j⟩:=(Yu AY).1 key
  by_cases Y:z.2.done=true
  ·rw[A2 Y]at r
   grind[Fk]
  rw[A1 Y]at r
  grind[Fk]
 ·grind[Fk]
 ·intro x i U z o _ ⟨O,Z⟩;have u:=I9 U;refine⟨Fk u O,λ_ v j=>?_⟩;have⟨b,r,j⟩:=(Yu AY).1 j
  by_cases Y:z.2.done=true
  ·rw[A2 Y]at r
   grind[Fk]
  rw[A1 Y]at r
  grind[Fk]
 ·intro x a l z y o e _ ⟨O,Z⟩ I
  have u:a∈x.dT:=by rw[e];simp
  grind[Bs9,Fk]
 ·intro x a l z y o e _ ⟨O,Z⟩ I
  have u:a∈x.dT:=by rw[e];simp
  grind[Bs9,nd,Fk,Wy]
 intro x a l z _ _ _ _ _ _ e _ ⟨O,Z⟩
 have u:a∈x.dT:=by rw[e];simp
 have w:(Zh x z).1.Var=z.1.Var:=by
  grind[Zh,Ot,Ar9]
 rw[w];refine⟨Fk u O,λn v j=>?_⟩
 simp only[Zh,Bj1]at n j
 by_cases Y:z.2.done=true
 ·rw[A2 Y]at n;rw[Y]at n;cases n
 rw[A1 Y]at j
 grind[Tn,Ay5]
theorem BX1{e:A0}{z:Pr}(h:e.dT≠[]):OA e z≠[]:=by
 unfold OA
 grind
def BX3:∀(d:Nat) (x:A0),x.dep<=d->(∀y∈x.pre,BG0 y)->raw x≠[]:=by
 intro d
 induction d with
 |zero=>grind[A0.dep_eq]
 | succ d ih=>
  intro x hd u;have M:=u x (KS x)
  have P:∀a∈x.dT,raw a≠[]:=λa p=>ih a (by have:=Gt p;omega) λy I=>u y (by
   rw[A0.pre_eq];grind[NF])
  have v:∀(F:Up Pr->Up Pr),(∀l,l≠[]->F l≠[])->∀(n:Nat) (g:Up (Up Pr)),0<n->g.getD 0 []≠[]->((List.range n).flatMap λi=>F (g.getD i []))≠[]:=λF G n g E L h=>by
   rw[Vk]at h
   grind
  rw[Ea];unfold comb
  by_cases o:x.Op=0
  ·rw[A2 o];simp
  rw[A1 o]
  have r:∃a l,x.dT=a::l:=by
   match R:x.dT with
   |a::l=>simp_all
   |[]=>
    exfalso
    by_cases T:x.Op<=3
    ·have:=M.two (by have:=M.op;omega) T;rw[R]at this;simp at this
    by_cases m:x.Op=8
    ·have⟨a,b,e⟩:=M.more m;rw[R]at e;cases e
    have⟨a,e⟩:=M.one AY m;rw[R]at e;cases e
  have⟨a,l,e⟩:=r;have K:raw a≠[]:=P a (by rw[e];simp)
  have w:(x.dT.map raw).headD []≠[]:=by rw[e];exact K
  have f:(x.dT.map raw).getD 0 []≠[]:=by rw[e];exact K
  have H:0<x.dT.length:=by rw[e];simp
  by_cases q:x.Op=1
  ·rw[A2 q];simpa using w
  rw[A1 q]
  by_cases o2:x.Op=2
  ·rw[A2 o2];exact v (λl=>l) (λ_ h=>h) _ _ H f
  rw[A1 o2]
  by_cases s:x.Op=3
  ·rw[A2 s]
   grind[List.flatMap_eq_nil_iff,List.map_eq_nil_iff]
  rw[A1 s]
  have V:∀c:A0,c.dT≠[]->((x.dT.map raw).headD []).flatMap (OA c)≠[]:=λc C h=>by
   rw[Vk]at h
   have⟨z,Y⟩:=Md _ w
   grind[BX1]
  by_cases t:x.Op=4
  ·rw[A2 t];simp_all
  rw[A1 t]
  by_cases j:x.Op=8
  ·rw[A2 j];refine V _ ?_;have⟨D,b',A⟩:=M.more j;rw[A];simp[nd]
  rw[A1 j]
  simpa using w
theorem Bc6{α:Type}[DecidableEq α]{l:Up α}{x:α}(h:l.Nodup):(It l x).Nodup:=by
 grind[It]
theorem WJ {α:Type}[DecidableEq α]:∀(l acc:Up α),acc.Nodup->(l.foldl It acc).Nodup
 |[],_,h=>h
 |_::l,_,h=>WJ l _ (Bc6 h)
theorem Ao5 {α:Type} [DecidableEq α]:∀(l acc:Up α),(∀x∈acc,x∈l.foldl It acc)/\∀x∈l,x∈l.foldl It acc
 |[],_=>⟨λ_ h=>h,λ_ h=>by cases h⟩
 |y::l,acc=>by
  have⟨O,Z⟩:=Ao5 l (It acc y)
  grind[It]
theorem Ao6 {α:Type} [DecidableEq α]:∀(l acc:Up α),∃t,l.foldl It acc=acc++t
 |[],acc=>⟨[],OC⟩
 |y::l,acc=>by
  have⟨t,h⟩:=Ao6 l (It acc y);rw[DN,h]
  grind[It]
noncomputable def Ai4 (N:Nat)(q:A0):Up A0:=(L4 N (raw q)).2.1
structure Sn (N:Nat) (x:A0) (l:List A0):Prop where
 len:l.length<=256
 ok:∀q∈l,Qu N q
 nodup:l.Nodup
 head:∃t,l=x::t
 good:∀q∈l,(L4 N (raw q)).2.2=0
 rests:∀q∈l,∀r∈Ai4 N q,r∈l
 vars:∀q∈l,∀v,Lq q v->Lq x v
theorem za0(hN:TB N)(M:Qu N x)(d:Oc N x=0):∃r:Up A0×Int,Y9 N x=some r/\(r.2=17\/r.2=0/\Sn N x r.1):=by
 unfold Y9;rw[KD hN (by have:=M.1;omega)];simp only[A4,d];rw[A1 (T4 rfl)]
 have ⟨r,r',O,Z,T⟩:=lock (S:=Up A0×Int) (R:=Up A0⊕Int) (R':=Up A0⊕Int)
  (f:=λ(h:(Up A0)×Int)=>((if cmp .lss h.2 (Ar.len h.1)=true then(C4 h.1 h.2).bind λx5=>(Q3 N x5).bind λw=>if cmp .neq w.2.2 0=true then some (.inr (.inr w.2.2))else(loopN (λ(e:(Up A0)×Int)=>((if cmp .lss e.2 (Ar.len w.2.1)=true then(C4 w.2.1 e.2).bind λn=>(P3 N e.1 n).bind λP=>if cmp .lss P 0=true then(K2 e.1 ([n])).bind λK=>some (.inl (K,ar .add .i64 e.2 1))else some (.inl (e.1,ar .add .i64 e.2 1))else some (.inr e.1)):OS (((Up A0)×Int)⊕(Up A0)))) N (h.1,0)).bind λo=>if cmp .gtr (Ar.len o) 256=true then some (.inr (.inr 17))else some (.inl (o,ar .add .i64 h.2 1))else some (.inr (.inl h.1))):OS (((Up A0)×Int)⊕(((Up A0))⊕Int))))
  (g:=λ(h:(Up A0)×Int)=>((if cmp .lss h.2 (Ar.len h.1)=true then(C4 h.1 h.2).bind λx5=>(Q3 N x5).bind λw=>if cmp .neq w.2.2 0=true then some (.inr (.inr w.2.2))else(loopN (λ(e:(Up A0)×Int)=>((if cmp .lss e.2 (Ar.len w.2.1)=true then(C4 w.2.1 e.2).bind λn=>(P3 N e.1 n).bind λP=>if cmp .lss P 0=true then(K2 e.1 ([n])).bind λK=>some (.inl (K,ar .add .i64 e.2 1))else some (.inl (e.1,ar .add .i64 e.2 1))else some (.inr e.1)):OS (((Up A0)×Int)⊕(Up A0)))) N (h.1,0)).bind λo=>if cmp .gtr (Ar.len o) 256=true then some (.inr (.inr 17))else some (.inl (o,ar .add .i64 h.2 1))else some (.inr (.inl h.1))):OS (((Up A0)×Int)⊕(((Up A0))⊕Int))))
  (λs=>∃j:Nat,s.2=j/\j<=s.1.length/\s.1.length<=256/\(∀q∈s.1,Qu N q)/\s.1.Nodup/\(∃t,s.1=x::t)/\(∀q∈s.1.take j,(L4 N (raw q)).2.2=0)/\(∀q∈s.1.take j,∀r∈Ai4 N q,r∈s.1)/\∀q∈s.1,∀v,Lq q v->Lq x v)
  (λr _=>(∃l,r= .inl l/\Sn N x l)\/r= .inr 17)
  (λs=>257-s.2.toNat)
  (λs ⟨j,i0,i1,i2,i3,i4,⟨t,i5⟩,E,F,G⟩=>by
   have⟨out,i⟩:=s
   simp only at i0 i1 i2 i3 i4 i5 E F G
   subst i0
   by_cases z:j<out.length
   ·have X:C4 out (j:Int)=some out[j]:=by rw[F3,D9 z]
    have p:=I9 z;have A:=i3 _ p;simp only[A2 (Ks (show(j:Int)<Ar.len out by grind[A9])),X,A4];rw[YA hN A.1 A.2.1];simp only[A4]
    rcases AB4 hN A with V|⟨L,hl,Q⟩
    ·rw[A2 (As (by rw[V];omega)),V]
     simp_all
    rw[A1 (T4 L)];rw[BO5 hN _ out hl i2 (λq c=>by have:=(Q q c).1;omega)];simp only[A4]
    by_cases J:256<((L4 N (raw out[j])).2.1.foldl It out).length
    ·rw[A2 (HF (by grind[A9]))]
     simp_all
    rw[A1 (Ek (by grind[A9]))];have U:=(WK (L4 N (raw out[j])).2.1 out).2;have⟨t',D⟩:=Ao6 (L4 N (raw out[j])).2.1 out;have m:=Ao5 (L4 N (raw out[j])).2.1 out
    have H:((L4 N (raw out[j])).2.1.foldl It out).take (j+1)=out.take j++[out[j]]:=by
     rw[D,Me AY,Jr,D9 z];rfl
    refine .inl ⟨_,rfl,rfl,⟨j+1,?_,?_,?_,?_,?_,?_,?_,?_,?_⟩,?_⟩
    ·grind[Cm]
    ·grind
    ·simp_all
    ·grind[Sx]
    ·grind[WJ]
    ·simp_all
    ·grind
    ·simp only[H];intro q c r Q
     rcases List.mem_append.1 c with c|c
     ·grind
     rw[List.mem_singleton.1 c]at Q;exact m.2 r Q
    ·intro q c v u
     rcases Sx _ _ c with c|c
     ·grind
     refine G _ p v ?_
     have C:q∈rests (raw out[j]):=by
      grind[L4]
     obtain⟨y,I,aa,rfl⟩:=Qz C;exact(BX4 _ _ (C6 _) y I).2 Pw v u
    grind[Cm]
   simp only[A1 (Gc (show¬(j:Int)<Ar.len out by grind[A9]))];have Y:out.take j=out:=W4 AY
   rw[Y]at E F
   exact .inr ⟨_,_,rfl,rfl,.inl ⟨out,rfl,i2,i3,i4,⟨t,i5⟩,E,F,G⟩⟩)
  N ([x],0) ⟨0,rfl,OC,OC,λq c=>by rw[List.mem_singleton.1 c];exact M,OC,⟨[],rfl⟩,λq c=>by simp at c,λq c=>by simp at c,λq c v u=>by rw[List.mem_singleton.1 c]at u;exact u⟩ Ts
 rw[O]
 rcases T with⟨l,rfl,h4⟩|rfl
 ·exact⟨(l,0),rfl,.inr ⟨rfl,h4⟩⟩
 simp
noncomputable def SH (F:A0->OS (Up Ck))(s:Up Ck)(a:A0):OS (Up Ck⊕Up Ck):=(F a).bind λr=>(K2 s r).bind λl=>some (.inl l)
theorem ZZ {F:A0->OS (Up Ck)}:∀(l:Up A0) (s:Up Ck),s.length+(A0.pres l).length<=40000000->
 (∀a∈l,∃r,F a=some r/\r.length<=a.pre.length)->∃r,E8 (SH F) l s=some (.inl r)/\r.length<=s.length+(A0.pres l).length
 |[],s,_,_=>⟨s,rfl,AY⟩
 |a::l,s,e,h=>by
  have⟨r,O,T⟩:=h a OC
  simp only[A0.pres,N1]at e ⊢
  have⟨w,n,v⟩:=ZZ l (s++r) Pw λb e=>h b (by simp[e])
  grind[E8,SH,T6]
theorem Bt0(hN:TB N){F:A0->OS (Up Ck)}(x:l.length<=16777216)(s:Up Ck):
 loopN (λ(h:Up Ck×Int)=>if cmp .lss h.2 (Ar.len l)=true then(C4 l h.2).bind λw=>(F w).bind λv=>(K2 h.1 v).bind λn=>some (.inl (n,ar .add .i64 h.2 1))else some (.inr h.1)) N (s,0)=
  (E8 (SH F) l s).bind λo=>match o with| .inl s=>some s| .inr r=>some r:=by
 rw[R6 l AY (mk:=λ(s:List Ck) i=>(s,i)) (body:=SH F) (fin:=λs=>s) (s:=s) AY ?_ ?_]
 ·grind
 ·intro s i a u U;have e:ar .add .i64 (i:Int) 1=i+1:=E6 AY AY;simp only[B8,A9,U,H8,B4,F3,u,A4,e,SH]
  grind
 grind[B8,A9]
theorem AF0(hN:TB N):∀(n:Nat) (x:A0),x.bulk<=n->x.bulk<=16777216->x.pre.length<=64->Good N x->
 ∃r,N9 N n x=some r/\r.length<=x.pre.length:=by
 intro n
 induction n with
 |zero=>grind[Lo]
 | succ n ih=>
  intro x M y f H;have hl:=Nu x;have V:=DG x;have h:Gn N x=0:=H x (by rw[A0.pre_eq];simp)
  have e:∀a∈x.dT,∃r,N9 N n a=some r/\r.length<=a.pre.length:=λa u=>by
   have:=Fh u;have:=W1 u;exact ih a AY AY AY (H.arg u)
  unfold N9
  by_cases P:x.Op=9
  ·have⟨a,l,R⟩:=AP8 hN y AY h AY;have⟨r,v,K⟩:=e a (by rw[R];simp);have w:=W1 (x:=x) (a:=a) (by rw[R];simp)
   have U:C4 x.dT 0=some a:=by rw[R];rfl
   refine⟨(⟨x.dZ,x.Typ,x.Var,x.dU⟩:Ck)::r,?_,Pw⟩;simp only[FJ (show¬x.Op=1 by omega),FJ (show¬x.Op=8 by omega),FJ (show¬x.Op=3 by omega),HT P,A4,D4,B6,B4,U,v];rw[T6 OC]
   grind[K2]
  by_cases T:x.Op=3
  ·have c:=Jz x.dT;have d:=A0.bulk_eq x;have⟨r,v,K⟩:=ZZ (F:=N9 N n) x.dT [] Ts e;refine⟨r,?_,by grind[A0.pre_eq]⟩;simp only[FJ (show¬x.Op=1 by omega),FJ (show¬x.Op=8 by omega),HT T,A4,D4,B6,B4];have:=Bt0 (N:=N) hN (F:=N9 N n) (l:=x.dT) AY [];rw[this,v];rfl
  by_cases O:x.Op=1\/x.Op=8\/x.Op=10\/x.Op=7
  ·have⟨a,l,R⟩:=AP8 hN y AY h AY;have⟨r,v,K⟩:=e a (by rw[R];simp);have w:=W1 (x:=x) (a:=a) (by rw[R];simp)
   have U:C4 x.dT 0=some a:=by rw[R];rfl
   refine⟨r,?_,AY⟩
   rcases O with O|O|O|O
   ·simp_all[HT]
   ·simp_all[HT]
   ·simp_all[FJ,HT]
   simp_all[FJ,HT]
  refine⟨[],?_,BK _⟩
  simp_all[FJ]
end Go.Ab
namespace Go.Ab
open Classical
noncomputable section
variable{N:Nat}{l:Up A0}{α:Type}
def RP{l:Up α}{i:Int}(h:i<l.length):cmp .lss i (Ar.len l)=true:=Ks h
def RQ{l:Up α}:¬cmp .lss (l.length:Int) (Ar.len l)=true:=Gc (Int.lt_irrefl _)
def Bs7{l:Up α}{i:Int}(L:0<=i)(O:i<l.length):IS (OB l i)=some ():=by
 grind[IS,OB]
def BZ1{S R T:Type}{step:S->OS (S⊕R)}{k:R->OS T}{Q:T->Prop}(I:Nat->S->Prop)(n:Nat){s:S}(hN:n<N)(L:I 0 s)
 (G:∀j s,j<n->I j s->∃o,step s=some o/\(match o with| .inl v=>I (j+1) v| .inr r=>∃t,k r=some t/\Q t))(e:∀s,I n s->∃r,step s=some (.inr r)/\∃t,k r=some t/\Q t):∃t,(loopN step N s).bind k=some t/\Q t:=by
 have⟨r,O,Z⟩:=Ns (step:=step) I (λr=>∃t,k r=some t/\Q t) n 0 s N hN L (λj s _ z h=>G j s AY h) λs h=>e s (by rw[P0]at h;exact h);rw[O];exact Z
def ZX {α σ R R':Type} {f:σ->α->OS (σ⊕R)} {e:σ->α->OS (σ⊕R')} (g:R->R') (h:∀s a,e s a=(f s a).map (Sum.map id g)):∀(l:Up α) (s:σ),E8 e l s=(E8 f l s).map (Sum.map id g)
 |[],s=>rfl
 | a::l,s=>by
  simp only[E8,h s a]
  cases f s a with
  |none=>rfl
  |some o=>
   cases o with
   |inl n=>simp only[K1,Sum.map_inl,id];exact ZX g h l n
   |inr r=>rfl
theorem Bm1 (N:Nat) (x:A0):AW N x=Q3 N x:=by
 unfold AW Q3
 cases M8 N N x with
 |none=>rfl
 | some w=>
  simp only[A4]
  rw[ZX (λq:List A0×List C5×Int=>(q.1,q.2.1,q.2.2,([]:List C5))) (f:=λ(n:(List A0)×(List C5)) (v:(C5×A7))=>
  (
   ((
    if nt v.2.done=true then
     (P3 N n.1 v.2.p).bind λK=>
     if cmp .lss K 0=true then
      (N8 N v.2.p).bind λg=>
      if cmp .neq g 0=true then
       some (.inr ({v.1 with To:=K},17))
      else
       (K2 n.1 ([v.2.p])).bind λd=>
       some (.inl ({v.1 with To:=Ar.len n.1},d))
     else
      some (.inl ({v.1 with To:=K},n.1))
    else
     some (.inl ({v.1 with To:=(-1)},n.1))
   ):OS ((C5×(Up A0))⊕(C5×Int))).bind λp=>
   match p with
   | .inl h=>
    (G4 N n.2 (λV=>J4 N V h.1)).bind λP=>
    if P=true then
     some (.inl (h.2,n.2))
    else
     (K2 n.2 ([h.1])).bind λe=>
     if cmp .gtr (Ar.len e) 2048=true then
      some (.inr (h.2,e,17))
     else
      some (.inl (h.2,e))
   | .inr t=>
    some (.inr (n.1,n.2,t.2))
   :OS (((Up A0)×(Up C5))⊕(((Up A0)×(Up C5)×Int)))))]
  ·generalize E8 _ w ([],[])=o
   cases o with
   |none=>rfl
   |some o=>cases o<;>rfl
  intro s y
  have tl:∀z:C5×Up A0,((G4 N s.2 (λV=>J4 N V z.1)).bind λj=>
   if j=true then
    some (.inl (z.2,s.2))
   else
    (K2 s.2 ([z.1])).bind λH=>
    if cmp .gtr (Ar.len H) 2048=true then
     some (.inr (z.2,H,17,[]))
    else
     some (.inl (z.2,H)):OS (((Up A0)×(Up C5))⊕(((Up A0)×(Up C5)×Int×(Up C5)))))=
   ((G4 N s.2 (λV=>J4 N V z.1)).bind λP=>
   if P=true then
    some (.inl (z.2,s.2))
   else
    (K2 s.2 ([z.1])).bind λe=>
    if cmp .gtr (Ar.len e) 2048=true then
     some (.inr (z.2,e,17))
    else
     some (.inl (z.2,e)):OS (((Up A0)×(Up C5))⊕(((Up A0)×(Up C5)×Int)))).map (Sum.map id λq:Up A0×Up C5×Int=>(q.1,q.2.1,q.2.2,([]:Up C5))):=λz=>by
   cases G4 N s.2 (λV=>J4 N V z.1)with
   |none=>rfl
   |some b=>
    grind[K2]
  by_cases hd:nt y.2.done=true
  ·rw [A2 hd,A2 hd]
   cases P3 N s.1 y.2.p with
   |none=>rfl
   | some r=>
    simp only[A4]
    by_cases O:cmp .lss r 0=true
    ·rw[A2 O,A2 O]
     cases N8 N y.2.p with
     |none=>rfl
     |some c=>
      simp only[A4]
      by_cases Z:cmp .neq c 0=true
      ·rw[A2 Z,A2 Z];rfl
      rw[A1 Z,A1 Z]
      cases K2 s.1 [y.2.p]with
      |none=>rfl
      |some m=>exact tl _
    simp_all
  simp_all
def BC4 (N:Nat)(x:A0):Bx N x=CQ N x:=by
 grind[Bx,CQ,Bm1]
def Ab3 {S R β:Type} {step:S->OS (Up β×(S⊕R))} (I:Nat->S->Prop) (Q:R->Prop):∀(k i:Nat) (s:S) (N:Nat),k<N->I i s->
 (∀j s,i<=j->j<i+k->I j s->∃e,step s=some ([],.inl e)/\I (j+1) e)->
 (∀s,I (i+k) s->∃r,step s=some ([],.inr r)/\Q r)->∃r,R7 step N s=some ([],r)/\Q r
 |0,i,s,N,hN,L,_,h=>by
  obtain⟨N,rfl⟩:∃M,N=M+1:=⟨N-1,AY⟩
  grind[R7]
 |k+1,i,s,N,hN,L,G,h=>by
  obtain⟨N,rfl⟩:∃M,N=M+1:=⟨N-1,AY⟩;have⟨e,O,Z⟩:=G i s (C6 _) AY L;have⟨r,T,n⟩:=Ab3 I Q k (i+1) e N AY Z (λj s a b=>G j s AY AY) (by rwa[show i+1+k=i+(k+1) by omega])
  simp_all[R7]
def Ab4 {β:Type} {step:Int->OS (Up β×(Int⊕Unit))} (w:Nat->β) (n:Nat) (G:∀i:Nat,i<n->step (i:Int)=some ([w i],.inl ((i:Int)+1))) (R:step (n:Int)=some ([],.inr ())):
 ∀(k i N:Nat),i+k=n->k<N->R7 step N (i:Int)=some ((List.range' i k).map w,())
 |0,i,N,h,hN=>by
  obtain⟨N,rfl⟩:∃M,N=M+1:=⟨N-1,AY⟩
  have:i=n:=AY
  simp_all[R7]
 |k+1,i,N,h,hN=>by
  obtain⟨N,rfl⟩:∃M,N=M+1:=⟨N-1,AY⟩;have ih:=Ab4 w n G R k (i+1) N AY AY
  have e:((i+1:Nat):Int)=(i:Int)+1:=AY
  rw[e]at ih
  grind[R7,List.range'_succ]
def Xn (N:Nat)(q:A0):Up C5:=(L4 N (raw q)).1
def QZ (N:Nat)(q:A0):Up A0:=(L4 N (raw q)).2.1
def Nb (N:Nat)(l:Up A0)(i:Nat)(q:A0)(e:C5):C5:={e with eA:=(i:Int),To:=if 0<=e.To then NX l ((QZ N q)[e.To.toNat]?.getD q)else e.To}
def BH3{w:Up Pr}{z:Pr}(Y:z∈w)(h:0<=Nf (rests w) z.2):∃p,C4 (rests w) (Nf (rests w) z.2)=some p:=by
 unfold Nf at h ⊢
 by_cases hd:z.2.done=true
 ·rw[A2 hd]at h;omega
 rw[A1 hd]at h ⊢
 have n:=Ha Y hd;have⟨i,U,e,_⟩:=Ww (P:=λq=>decide (z.2.p=q)) (Ql.2 n);have e:NX (rests w) z.2.p=(i:Int):=e;rw[e,F3]
 simp_all
def Cg2{q:A0}(n:(L4 N (raw q)).2.2=0){e:C5}(R:e∈Xn N q)(h:0<=e.To):∃p,C4 (QZ N q) e.To=some p/\(QZ N q)[e.To.toNat]?.getD q=p:=by
 unfold Xn L4 at R
 unfold QZ
 unfold L4 at n ⊢
 by_cases v:UQ N (raw q)
 ·rw[A2 v]at n;cases n
 rw[A1 v]at R ⊢
 obtain⟨z,Y,rfl⟩:=List.mem_map.1 R
 have r:z∈raw q:=by
  have:∀(l a:Up Pr) (x:Pr),x∈l.foldl It a->x∈a\/x∈l:=λl a x=>Sx l a
  rcases this _ _ _ Y with h|h
  ·simp_all
  exact h
 have⟨p,f⟩:=BH3 (w:=raw q) r h;refine⟨p,f,?_⟩
 unfold C4 at f
 rw[A2 (show 0<=Nf (rests (raw q)) z.2 from h)]at f
 show(rests (raw q))[(Nf (rests (raw q)) z.2).toNat]?.getD q=p
 rw[f];rfl
def Cj1(hN:TB N){q:A0}(h:Qu N q)(e:(L4 N (raw q)).2.2=0):CQ N q=some (Xn N q,QZ N q,0):=by
 rw[Bm2 hN h.1 h.2.1];have:L4 N (raw q)=(Xn N q,QZ N q,(L4 N (raw q)).2.2):=rfl;rw[this,e]
def BP3(hN:TB N)(l:Up A0)(p:A0)(hl:l.length<=1000000)(e:∀q∈l,q.bulk<=16777216):HZ N l p=some (NX l p):=by
 grind[HZ,Uz,HY,BT4]
structure ClD (N:Nat) (l:List A0):Prop where
 len:l.length<=256
 ok:∀q∈l,Qu N q
 good:∀q∈l,(L4 N (raw q)).2.2=0
theorem ClD.bulk {N:Nat}{l:Up A0}(h:ClD N l):∀q∈l,q.bulk<=16777216:=λq c=>by have:=(h.ok q c).1;omega
def Zk (N:Nat)(l:Up A0)(i:Nat)(q:A0):Up C5:=(Xn N q).map (Nb N l i q)
def Ba3(hN:TB N){q:A0}(h:Qu N q):(Xn N q).length<=1000000:=(AE3 (Es h.2.1).2.1 h.1 h.2.2).1
def Bd5(hN:TB N)(h:ClD N l):Fm N l=some ((List.range l.length).map λ(i:Nat)=>((i:Int),Zk N l i (l.getD i ⟨0,[],0,0,0,0,⟨0,[],0,0,0,⟨0,0,⟨#[]⟩⟩⟩⟩))):=by
 have J:=h.len;unfold Fm FK
 have key:=Ab4 (step:=(λ(A:Int)=>
  (
   if cmp .lss A (Ar.len l)=true then
    (C4 l A).bind λx7=>
    (Bx N x7).bind λg=>
    I1 (R7
     (λ(e:Int×(Up C5))=>
      (
       if cmp .lss e.1 (Ar.len g.1)=true then
        (IS (OB e.2 e.1)).bind λ_=>
        (Ex e.2 e.1 (λC:C5=>{C with eA:=A})).bind λn=>
        (C4 n e.1).bind λD=>
        if cmp .geq D.To 0=true then
         (C4 n e.1).bind λE=>
         (C4 g.2.1 E.To).bind λF=>
         (HZ N l F).bind λq=>
         (Ex n e.1 (λG:C5=>{G with To:=q})).bind λf=>
         some ([],.inl (ar .add .i64 e.1 1,f))
        else
         some ([],.inl (ar .add .i64 e.1 1,n))
       else
        some ([],.inr e.2)
       :OS (Up (Int×(Up C5))×((Int×(Up C5))⊕(((Up C5)))))))
     N (0,g.1)) λw=>
    I1 (some ([(A,w)],())) λ_=>
    some ([],.inl (ar .add .i64 A 1))
   else
    some ([],.inr ())
   :OS (Up (Int×(Up C5))×((Int)⊕(Unit)))))) (λi=>((i:Int),Zk N l i (l.getD i ⟨0,[],0,0,0,0,⟨0,[],0,0,0,⟨0,0,⟨#[]⟩⟩⟩⟩))) l.length (λi U=>?_) (by rw[A1 RQ]) l.length 0 N AY AY
 ·have e0:((0:Nat):Int)=0:=rfl
  rw[e0]at key
  rw[key]
  grind[I1,List.range_eq_range']
 have L:=I9 U;have Q:=h.ok _ L;have I:=h.good _ L;have O:=Ba3 hN Q;have t:ar .add .i64 (i:Int) 1=(i:Int)+1:=E6 AY AY;rw[A2 (RP AY),F3,D9 U];simp only[A4];rw[BC4,Cj1 hN Q I];simp only[A4]
 have M:l.getD i ⟨0,[],0,0,0,0,⟨0,[],0,0,0,⟨0,0,⟨#[]⟩⟩⟩⟩=l[i]:=TQ
 have ex:∀{o:OS (Up (Int×(Up C5))×Up C5)},(∃r,o=some ([],r)/\r=Zk N l i l[i])->(I1 o λw=>I1 (some ([((i:Int),w)],())) λ_=>some ([],.inl (ar .add .i64 (i:Int) 1)):OS (Up (Int×Up C5)×(Int⊕Unit)))=some ([((i:Int),Zk N l i l[i])],.inl ((i:Int)+1)):=λ{o} ⟨r,Y,Z⟩=>by
  rw[Y,Z,t];simp[I1]
 rw[M];refine ex (Ab3 (λ(j:Nat) (s:Int×Up C5)=>s.1=(j:Int)/\s.2=((Xn N l[i]).take j).map (Nb N l i l[i])++(Xn N l[i]).drop j) (λr=>r=Zk N l i l[i]) (Xn N l[i]).length 0 _ _ AY ⟨rfl,OC⟩ (λj s _ z ⟨P,x⟩=>?_) (λs ⟨P,x⟩=>?_))
 ·have⟨k,m⟩:=s
  dsimp only at P x
  subst P
  rw[P0]at z
  have S:m.length=(Xn N l[i]).length:=by rw[x];simp;omega
  have R:m[j]? =some (Xn N l[i])[j]:=by
   rw[x,GB Ts]
   grind
  have H:∀v,m.set j v=((Xn N l[i]).take j).map (Nb N l i l[i])++v::(Xn N l[i]).drop (j+1):=λv=>by
   rw[x,List.set_append_right _ _ Ts,P1 z,H9,EV,LO (Nat.le_of_lt z),Nat.sub_self];rfl
  have K:∀u:C5->C5,Ex m (j:Int) u=some (m.set j (u (Xn N l[i])[j])):=λu=>by
   grind[Ex,F3]
  dsimp only
  rw[A2 (RP AY),Bs7 AY AY,K];simp only[A4]
  have y:∀v,C4 (m.set j v) (j:Int)=some v:=λv=>by rw[F3,Pi AY]
  simp only[y,A4]
  have c:∀v,v=Nb N l i l[i] (Xn N l[i])[j]->m.set j v=((Xn N l[i]).take (j+1)).map (Nb N l i l[i])++(Xn N l[i]).drop (j+1):=λv X=>by
   rw[H,X,Vj z,P8];simp
  have V:=I9 z
  by_cases T:0<=((Xn N l[i])[j]).To
  ·rw[A2 (by rw[O0];simp_all)];have⟨p,p1,p2⟩:=Cg2 I V T;rw[p1];simp only[A4];rw[BP3 hN l p AY h.bulk];simp only[A4]
   have d:∀(v:C5) (u:C5->C5),Ex (m.set j v) (j:Int) u=some (m.set j (u v)):=λv u=>by
    unfold Ex;rw[y];simp
   rw[d];simp only[A4]
   grind[Cm,Nb]
  rw[A1 (by rw[O0];grind)]
  grind[Cm,Nb]
 simp_all[RQ,Zk]
def AK3:A0:=⟨0,[],0,0,0,0,⟨0,[],0,0,0,⟨0,0,⟨#[]⟩⟩⟩⟩
def Ie (N:Nat)(l:Up A0)(n:Nat):Up C5:=(List.range n).flatMap λi=>Zk N l i (l.getD i AK3)
def UM (N:Nat)(l:Up A0)(n:Nat):Ie N l (n+1)=Ie N l n++Zk N l n (l.getD n AK3):=by grind[Ie,List.range_succ]
def QM{i:Nat}(U:i<l.length):l.getD i AK3=l[i]:=TQ
def TF {N:Nat} (hN:TB N) {l:Up A0} (h:ClD N l):∀n,n<=l.length->(Ie N l n).length<=n*1000000
 |0,_=>by simp[Ie]
 |n+1,E=>by
  have ih:=TF hN h n AY;have:=Ba3 hN (h.ok _ (I9 (show n<l.length by omega)));rw[UM,QM (show n<l.length by omega),N1,Zk,H9];omega
def Bg9{σ R:Type}{step:σ->α->OS (σ⊕R)}(w:Nat->α)(I:Nat->σ->Prop)(n:Nat)(G:∀i s,i<n->I i s->∃s',step s (w i)=some (.inl s')/\I (i+1) s'){s:σ}(L:I 0 s):
 ∃s',E8 step ((List.range n).map w) s=some (.inl s')/\I n s':=by
 have key:∀(k i:Nat) (s:σ),i+k=n->I i s->∃s',E8 step ((List.range' i k).map w) s=some (.inl s')/\I n s':=by
  intro k
  induction k with
  |zero=>simp_all[E8]
  |succ k ih=>
   grind[List.range'_succ,E8]
 rw[Ju]
 simp_all
def Cc3(hN:TB N){q:A0}(h:Qu N q):∃r,Bh N q=some (r,0):=by
 have e:q.bulk<=16777216:=by have:=h.1;omega
 have⟨f,hd,n⟩:=Es h.2.1;have⟨r,v,_⟩:=AF0 hN N q AY e f n;refine⟨r,?_⟩;unfold Bh;rw[Wm hN e];simp only[A4];rw[A1 (T4 h.2.1),v];rfl
def Bm4(hN:TB N)(h:ClD N l)(a b:Int):∃s:K6,E8 (λ(e:K6) (H:(Int×(Up C5)))=>
        (
         (C4 l H.1).bind λy=>
         (Bh N y).bind λn=>
         if cmp .neq n.2 0=true then
          some (.inr (e,n.2))
         else
          ((
           (K2 e.eH ([(⟨n.1⟩:Oj)])).bind λv=>
           (K2 e.eG H.2).bind λw=>
           some ({e with eH:=v,eG:=w})
          ):OS (K6)).bind λx=>
          some (.inl x)
         :OS ((K6)⊕((K6×Int))))
        ) ((List.range l.length).map λ(i:Nat)=>((i:Int),Zk N l i (l.getD i AK3))) (⟨a,b,[],[]⟩:K6)=some (.inl s)/\s.eH.length=l.length/\s.eG=Ie N l l.length:=by
 have P:=h.len
 have ⟨s, O,Z,T⟩:=Bg9 (R:=K6×Int) (step:=λ(e:K6) (H:(Int×(Up C5)))=>
       (
        (C4 l H.1).bind λy=>
        (Bh N y).bind λn=>
        if cmp .neq n.2 0=true then
         some (.inr (e,n.2))
        else
         ((
          (K2 e.eH ([(⟨n.1⟩:Oj)])).bind λv=>
          (K2 e.eG H.2).bind λw=>
          some ({e with eH:=v,eG:=w})
         ):OS (K6)).bind λx=>
         some (.inl x)
        :OS ((K6)⊕((K6×Int))))) (λ(i:Nat)=>((i:Int),Zk N l i (l.getD i AK3))) (λi (s:K6)=>s.eH.length=i/\s.eG=Ie N l i) l.length
  (λi s U ⟨t,e2⟩=>by
   have p:=I9 U;have⟨r,c⟩:=Cc3 hN (h.ok _ p);have V:=TF hN h i AY;have K:=TF hN h (i+1) U
   rw[UM,N1]at K
   dsimp only
   rw[F3,D9 U];simp only[A4,c];rw[A1 (T4 rfl),T6 (by rw[t];simp;omega),e2,T6 AY]
   simp_all[UM]) (s:=(⟨a,b,[],[]⟩:K6)) ⟨rfl,by simp[Ie]⟩
 simp_all
def AC4{p:A0}(h:Oc N p=0):Q7 N p=0:=by
 grind[Oc]
def BX0(hN:TB N){x:A0}(h:x.bulk<=1048576)(e:x.pre.length<=9)(d:Oc N x=0):Qu N x:=by
 refine⟨AY,AC4 d,?_⟩;have O:=Ck2 x.dep x (C6 _);have Z:2 ^ x.pre.length<=2 ^ 9:=Gy Sz e
 have T:2 ^ 9=512:=Sz
 omega
def BC7(hN:TB N){x:A0}(e:x.bulk<=16777216)(d:Oc N x=0):∃a b,IV N x=some (a,b,0):=by
 unfold IV;rw[KD hN e,d];simp only[A4];have⟨v,s,h⟩:=Aa2 hN e (AC4 d);rw[A1 (T4 rfl),h]
 simp_all
end
end Go.Ab
namespace Go.Ab
variable{l:Up A6}
def fb {α:Type}(f:Nat->α->Int):Nat->Up α->Int
 |_,[]=>0
 |i,x::r=>if f i x=0 then fb f (i+1) r else f i x
theorem FH {α:Type} {f:Nat->α->Int}:∀{l:Up α} {i:Nat},fb f i l=0<->∀(k:Nat) x,l[k]? =some x->f (i+k) x=0
 |[],i=>by simp[fb]
 | y::r,i=>by
  unfold fb
  split
  ·rename_i h;rw[FH];refine⟨λH k x S=>?_,λH k x S=>?_⟩
   ·grind
   have:=H (k+1) x Pw
   rwa[show i+(k+1)=i+1+k by omega]at this
  rename_i h;exact⟨λe=>absurd e h,λH=>absurd (H 0 y OC) h⟩
theorem Bv{i:Nat}{n:Nat}(U:i<n)(E:n<1000000000000):ar .add .i64 (i:Int) 1=((i+1:Nat):Int):=by
 rw[E6 AY AY];omega
def Gg{α R:Type}{l:Up α}{step:Int->OS (Int⊕R)}{f:Nat->α->Int}{e:R}{b:Int->R}
 (G:∀(i:Nat) x,l[i]? =some x->i<l.length->step (i:Int)=if f i x=0 then some (.inl ((i+1:Nat):Int))else some (.inr (b (f i x))))
 (n:step (l.length:Int)=some (.inr e)):∀{N:Nat},l.length<N->loopN step N 0=some (if fb f 0 l=0 then e else b (fb f 0 l)):=by
 have key:∀(k i N:Nat),i+k=l.length->k<N->loopN step N (i:Int)=some (if fb f i (l.drop i)=0 then e else b (fb f i (l.drop i))):=by
  intro k
  induction k with
  |zero=>
   intro i N U hN;obtain⟨N,rfl⟩:∃M,N=M+1:=⟨N-1,AY⟩;rw[show i=l.length by omega,Ji]
   grind[loopN,fb]
  |succ k ih=>
   intro i N U hN;obtain⟨N,rfl⟩:∃M,N=M+1:=⟨N-1,AY⟩
   have h:i<l.length:=AY
   rw[P1 h]
   grind[loopN,fb]
 grind
def fm (x:A6):Int:=
 if x.Low< -1099511627776\/1099511627776<x.Low\/x.dV< -1099511627776\/1099511627776<x.dV then 2 else if x.dV<x.Low then 3 else 0
def BP2{x:A6}(h:fm x=0): -1099511627776<=x.Low/\x.Low<=x.dV/\x.dV<=1099511627776:=by
 grind[fm]
def Bk4 (N:Nat)(x:A6):Gq N x=some (fm x):=by
 unfold Gq fm;simp only[B8,N5,Q8,L7,B3,or_assoc]
 grind
noncomputable def fiq (l:Up A6)(i:Nat)(x:A6):Int:=
 if fm x=0 then(if 0<i then match l[i-1]? with|some y=>if x.Low<ar .add .i64 y.dV 2 then 14 else 0|none=>0 else 0)else fm x
noncomputable def ck (l:Up A6):Int:=if 256<l.length then 5 else fb (fiq l) 0 l
def Ca7{α:Type}{l:Up α}{i:Nat}(U:0<i)(hl:i<l.length)(E:l.length<1000000000000):C4 l (ar .sub .i64 (i:Int) 1)=l[i-1]? :=by
 have e:ar .sub .i64 (i:Int) 1=((i-1:Nat):Int):=by
  show IntKind.wrap .i64 ((i:Int)-1)=_
  rw[Bt AY AY];omega
 rw[e,F3]
def QK{N:Nat}(hN:256<N):AU N l=some (ck l):=by
 unfold AU ck;simp only[N5,A9,B3]
 by_cases hl:256<l.length
 ·rw[A2 AY,A2 hl]
 rw[A1 AY,A1 hl];rw[Gg (l:=l) (f:=fiq l) (e:=.inl ()) (b:=.inr) (N:=N) ?_ ?_ AY]
 ·grind
 ·intro i x M U;simp only[B8,H7,Bk4,F3,M,A4,B3];rw[A2 AY,Bv U AY];unfold fiq
  by_cases L:fm x=0
  ·simp only[L,H8,W3,D4,B6,B4]
   by_cases h:0<i
   ·rw[A2 AY,Ca7 h U AY]
    grind
   simp_all
  simp[L]
 simp[B8]
def Srt (l:Up A6):Prop:=l.length<=256/\(∀x∈l, -1099511627776<=x.Low/\x.Low<=x.dV/\x.dV<=1099511627776)/\∀(i:Nat) x y,l[i]? =some x->l[i+1]? =some y->x.dV+2<=y.Low
theorem Ty(h:ck l=0):Srt l:=by
 unfold ck at h
 split at h
 ·cases h
 rename_i hl;have h:=FH.1 h
 have p:∀(k:Nat) x,l[k]? =some x->fm x=0:=λk x M=>by
  have:=h k x M
  grind[fiq]
 refine⟨AY,λx M=>?_,λi x y M I=>?_⟩
 ·grind[List.getElem?_of_mem,fm]
 have O:=BP2 (p _ _ M);have:=h (i+1) y I
 simp only[P0]at this
 unfold fiq at this
 rw[A2 (p _ _ I),A2 AY,show i+1-1=i by omega,M]at this
 grind[E6]
def Bp1{n:Int}(L:0<=n)(O:n<18446744073709551616):IntKind.wrap .u64 n=n:=by
 have e:IntKind.wrap .u64 n=n % 18446744073709551616:=by
  exact zb7
 rw[e];omega
def BY8{i j:Nat}(h:i+j<1000000000000):wr .i64 (Ar.sh .shr .u64 (wr .u64 (ar .add .i64 (i:Int) (j:Int))) 1)=(((i+j) / 2:Nat):Int):=by
 rw[E6 AY AY]
 show IntKind.wrap .i64 (shI .shr .u64 (IntKind.wrap .u64 ((i:Int)+j)) 1)=_
 rw[Bp1 AY AY]
 have e:shI .shr .u64 ((i:Int)+j) 1=((i:Int)+j) / 2:=by
  show((i:Int)+j).fdiv (2 ^ (min (1:Int).toNat 64))=_
  rw[show(2:Int) ^ (min (1:Int).toNat 64)=2 from rfl,Int.fdiv_eq_ediv_of_nonneg _ Sz]
 rw[e,Bt AY AY];omega
def Bp2 (x:A6)(n:Int):Int:=if x.dV<n then -1 else if n<x.Low then 1 else 0
def Ak8 (N:Nat)(x:A6)(n:Int):Dx N x n=some (Bp2 x n):=by
 unfold Dx Bp2;simp only[B8,N5,B3]
 grind
def Bs (l:Up A6)(n:Int):Prop:=∃x∈l,x.Low<=n/\n<=x.dV
def WX {l:Up A6} (G:Srt l):∀(d i:Nat) x y,l[i]? =some x->l[i+d+1]? =some y->x.dV+2<=y.Low
 |0,i,x,y,M,I=>G.2.2 i x y M I
 | d+1,i,x,y,M,I=>by
  have e:i+d+1<l.length:=by
   grind
  have O:=WX G d i x _ M (D9 e);have Z:=G.2.2 (i+d+1) _ y (D9 e) I;have T:=G.2.1 _ (I9 e);omega
def BQ8{N0:Nat}{n:Int}(G:Srt l):∀(k i j N:Nat),j-i<=k->i<=j->j<=l.length->k<N->
 (∀m x,m<i->l[m]? =some x->x.dV<n)->(∀m x,j<=m->l[m]? =some x->n<=x.dV)->
 ∃ r :Nat,r<=l.length/\(∀m x,m<r->l[m]? =some x->x.dV<n)/\(∀m x,r<=m->l[m]? =some x->n<=x.dV)/\
  loopN (λ(A:Int×Int)=>(
   if cmp .lss A.1 A.2=true then
    (C4 l (wr .i64 (Ar.sh .shr .u64 (wr .u64 (ar .add .i64 A.1 A.2)) 1))).bind λf=>
    (Dx N0 f n).bind λw=>
    if cmp .lss w 0=true then
     some (.inl (ar .add .i64 (wr .i64 (Ar.sh .shr .u64 (wr .u64 (ar .add .i64 A.1 A.2)) 1)) 1,A.2))
    else
     some (.inl (A.1,wr .i64 (Ar.sh .shr .u64 (wr .u64 (ar .add .i64 A.1 A.2)) 1)))
   else
    some (.inr A.1):OS ((Int×Int)⊕(Int)))) N ((i:Int),(j:Int))=some (r:Int):=by
 intro k;have hl:=G.1
 induction k with
 |zero=>
  intro i j N S y z hN O Z;obtain⟨N,rfl⟩:∃M,N=M+1:=⟨N-1,AY⟩;refine⟨i,AY,O,λm x p v=>Z m x AY v,?_⟩;unfold loopN;simp only[B8,B3];rw[A1 AY]
 | succ k ih=>
  intro i j N S y z hN O Z;obtain⟨N,rfl⟩:∃M,N=M+1:=⟨N-1,AY⟩
  by_cases c:i<j
  ·have p:(i+j) / 2<l.length:=AY
   have v:=D9 p;have step:=BY8 (i:=i) (j:=j) AY
   by_cases d:l[(i+j) / 2].dV<n
   ·have⟨r,K,P,V,w⟩:=ih ((i+j) / 2+1) j N AY AY z AY (λm x H h=>by
     by_cases e:m=(i+j) / 2
     ·simp_all
     have:=WX G ((i+j) / 2-m-1) m x l[(i+j) / 2] h (by rw[<-v];congr 1;omega);have:=G.2.1 _ (I9 p)
     omega) Z
    refine⟨r,K,P,V,?_⟩;rw[<-w]
    conv=>lhs;unfold loopN
    simp only[B8,B3,step,F3,v,A4,Ak8];rw[A2 AY,A2 (by simp_all[Bp2])]
    grind[Bv]
   have⟨r,K,P,V,w⟩:=ih i ((i+j) / 2) N AY AY AY AY O (λm x H h=>by
    by_cases e:m=(i+j) / 2
    ·simp_all
    have:=WX G (m-(i+j) / 2-1) ((i+j) / 2) l[(i+j) / 2] x v (by rw[<-h];congr 1;omega);have:=G.2.1 x (K4 h)
    omega)
   refine⟨r,K,P,V,?_⟩;rw[<-w]
   conv=>lhs;unfold loopN
   simp only[B8,B3,step,F3,v,A4,Ak8];rw[A2 AY,A1 (by grind[Bp2])]
  refine⟨i,AY,O,λm x p v=>Z m x AY v,?_⟩
  simp_all[loopN,B8,A1]
def AM3{N:Nat}{n:Int}(G:Srt l)(hN:300<N):∃b,CL N l n=some b/\(b=true<->Bs l n):=by
 have hl:=G.1;have⟨r,P,y,H,K⟩:=BQ8 (N0:=N) (n:=n) G l.length 0 l.length N AY AY AY AY (λm x h=>AY) (λm x h M=>by rw[List.getElem?_eq_none h]at M;cases M);unfold CL Q1;simp only[A9];rw[show((0:Int),((l.length:Nat):Int))=(((0:Nat):Int),((l.length:Nat):Int))from rfl,K];simp only[A4,B8,B3]
 by_cases Q:r<l.length
 ·have M:=D9 Q;rw[A2 AY,F3,M];simp only[A4,Ak8];refine⟨_,rfl,?_⟩;simp only[D8,B3];have T:=H r _ AY M;unfold Bp2;rw[A1 AY]
  constructor
  ·grind[Bs]
  rintro⟨x,v,O,Z⟩;have⟨m,p⟩:=AF v
  have w:¬m<r:=λh=>by have:=y m x h p;omega
  by_cases e:m=r
  ·simp_all
  have:=WX G (m-r-1) r l[r] x M (by rw[<-p];grind);omega
 rw[A1 AY];refine⟨_,rfl,?_⟩;simp only[D4,false_iff];rintro⟨x,v,O,Z⟩
 grind[List.getElem?_of_mem]
end Go.Ab
open Go.Ab.Ar (an cmp mn mx neg nt sat slen)
namespace Go.Ab
noncomputable def YJ (types:Int)(p:D3):Int:=if types<1\/16<types then 2 else if(p.dW.length:Int)≠types then 15 else fb (λ_ x=>ck x) 0 p.dW
def AJ8 {N:Nat} {types:Int} {p:D3} (hN:256<N):Cs N types p=some (YJ types p):=by
 unfold Cs YJ;simp only[B8,N5,H7,Q8,A9,L7,P9,B3,O2]
 by_cases O:types<1\/16<types
 ·rw[A2 O,A2 O]
 rw[A1 O,A1 O]
 by_cases Z:(p.dW.length:Int)=types
 ·rw[A1 AY,A1 AY];rw[Gg (l:=p.dW) (f:=λ_ x=>ck x) (e:=.inl ()) (b:=.inr) (N:=N) ?_ ?_ AY]
  ·grind
  ·intro i x M U;simp only[F3,M,A4,QK hN];rw[A2 AY,Bv U AY]
   simp_all
  simp_all
 simp_all
noncomputable abbrev VW (p:D3):Int:=YJ (p.dW.length:Int) p
def Bh3 {p:D3}(h:VW p=0):(1<=p.dW.length/\p.dW.length<=16)/\∀x∈p.dW,Srt x:=by
 unfold VW YJ at h
 split at h
 ·cases h
 rw[A1 OC]at h
 grind[List.getElem?_of_mem,Ty,FH]
def AP0 {N:Nat} {l:Up D3} (hN:256<N) (hl:l.length<N) (h:l.length<1000000000):Af N l=some (fb (λ_ x=>VW x) 0 l):=by
 unfold Af;rw[Gg (l:=l) (f:=λ_ x=>VW x) (e:=.inl ()) (b:=.inr) (N:=N) ?_ ?_ hl]
 ·grind
 ·intro i x M U;simp only[B8,H7,A9,F3,M,A4,AJ8 hN,B3];rw[A2 AY,Bv U AY]
  simp_all
 grind[B8,A9]
def AC5 {N:Nat}{p:D3}(hN:256<N):Af N [p]=some (VW p):=by
 rw[AP0 hN Ts OC]
 simp_all[fb]
def InP (p:D3)(s:E9):Prop:=0<=s.Typ/\∃l,p.dW[s.Typ.toNat]? =some l/\Bs l s.Num
noncomputable def YH (types:Int)(s:E9):Int:=if s.Typ<0\/types<=s.Typ then 6 else if s.Num< -1099511627776\/1099511627776<s.Num then 2 else 0
def BD3 {a b:Bool}{P:Prop}(h:a=true<->P)(k:b=true<->P):a=b:=by
 cases a<;>cases b<;>simp_all
def Df {α:Type}(p:α->Bool):Nat->Up α->OS (Nat×α)
 |_,[]=>none
 |i,x::r=>if p x then some (i,x)else Df p (i+1) r
def UD {α R:Type} {l:Up α} {step:Int->OS (Int⊕R)} {p:α->Bool} {e:R} {b:Nat->α->R}
 (G:∀(i:Nat) x,l[i]? =some x->i<l.length->step (i:Int)=if p x then some (.inr (b i x))else some (.inl ((i+1:Nat):Int)))
 (n:step (l.length:Int)=some (.inr e)):∀{N:Nat},l.length<N->loopN step N 0=some (match Df p 0 l with|some q=>b q.1 q.2|none=>e):=by
 have key:∀(k i N:Nat),i+k=l.length->k<N->loopN step N (i:Int)=some (match Df p i (l.drop i)with|some q=>b q.1 q.2|none=>e):=by
  intro k
  induction k with
  |zero=>
   intro i N U hN;obtain⟨N,rfl⟩:∃M,N=M+1:=⟨N-1,AY⟩;rw[show i=l.length by omega,Ji]
   grind[loopN,Df]
  |succ k ih=>
   intro i N U hN;obtain⟨N,rfl⟩:∃M,N=M+1:=⟨N-1,AY⟩
   have h:i<l.length:=AY
   rw[P1 h];simp only[loopN,G i _ (D9 h) h,Df]
   grind
 grind
def Ti {α:Type} {p:α->Bool}:∀{l:Up α} {i k:Nat} {x:α},Df p i l=some (k,x)->i<=k/\l[k-i]? =some x/\p x=true/\∀(j:Nat) y,j<k-i->l[j]? =some y->p y=false
 |[],_,_,_,h=>by cases h
 |y::r,i,k,x,h=>by
  unfold Df at h
  split at h
  ·simp_all
  rename_i f;have⟨O,Z,T,e⟩:=Ti h
  grind
def Az8 {α:Type} {p:α->Bool}:∀{l:Up α} {i:Nat},Df p i l=none->∀x∈l,p x=false
 |[],_,_=>λx M=>by cases M
 |y::r,i,h=>by
  unfold Df at h
  split at h
  ·cases h
  rename_i f;intro x M
  rcases List.mem_cons.1 M with rfl|M
  ·grind
  exact Az8 h x M
end Go.Ab
namespace Go.Ab
set_option maxRecDepth 100000
def all1:FZ 40000000 1=some (⟨[[⟨-1099511627776,1099511627776⟩]]⟩,0):=JO
end Go.Ab
namespace Go.Ab
variable{N:Nat}{α:Type}
def FM{β:Type}{m:OS α}{x:α}{F:α->OS β}{r:OS β}(h:m=some x)(k:F x=r):m.bind F=r:=by rw[h];exact k
def Bx4{R:Type}{step:Int->OS (Int⊕R)}{n:Nat}(G:∀i:Nat,i<n->∃o,step (i:Int)=some o/\(o= .inl ((i+1:Nat):Int)\/∃r,o= .inr r))(e:∃r,step (n:Int)=some (.inr r))(hN:n<N):∃r,loopN step N 0=some r:=by
 have key:∀(k i N:Nat),i+k=n->k<N->∃r,loopN step N (i:Int)=some r:=by
  intro k
  induction k with
  |zero=>
   intro i N U hN;obtain⟨N,rfl⟩:∃M,N=M+1:=⟨N-1,AY⟩;have⟨r,Q⟩:=e;rw[show i=n by omega]
   simp_all[loopN]
  | succ k ih=>
   intro i N U hN;obtain⟨N,rfl⟩:∃M,N=M+1:=⟨N-1,AY⟩;have⟨o,O,Z⟩:=G i AY
   rcases Z with rfl|⟨r,rfl⟩
   ·have⟨r,Q⟩:=ih (i+1) N AY AY
    simp_all[loopN]
   simp_all[loopN]
 exact key n 0 N AY hN
def Ae7{S R:Type}{l:Up α}{step:Int×S->OS ((Int×S)⊕R)}{f:Nat->α->Int}(st:Nat->S){e:S->R}{b:Int->S->R}
 (G:∀(i:Nat) x,l[i]? =some x->i<l.length->step ((i:Int),st i)=if f i x=0 then some (.inl (((i+1:Nat):Int),st (i+1)))else some (.inr (b (f i x) (st i))))
 (r:step ((l.length:Int),st l.length)=some (.inr (e (st l.length))))(hN:l.length<N):∃s,loopN step N (0,st 0)=some (if fb f 0 l=0 then e s else b (fb f 0 l) s):=by
 have key:∀(k i N:Nat),i+k=l.length->k<N->∃s,loopN step N ((i:Int),st i)=some (if fb f i (l.drop i)=0 then e s else b (fb f i (l.drop i)) s):=by
  intro k
  induction k with
  |zero=>
   intro i N U hN;obtain⟨N,rfl⟩:∃M,N=M+1:=⟨N-1,AY⟩;rw[show i=l.length by omega,Ji]
   grind[loopN,fb]
  | succ k ih=>
   intro i N U hN;obtain⟨N,rfl⟩:∃M,N=M+1:=⟨N-1,AY⟩
   have n:i<l.length:=AY
   have O:=G i _ (D9 n) n;rw[P1 n]
   by_cases h:f i l[i]=0
   ·rw[A2 h]at O
    have⟨s,Z⟩:=ih (i+1) N AY AY
    grind[loopN,fb]
   grind[loopN,fb]
 exact key l.length 0 N AY hN
def AO1 (c:Int):Bool:=decide (48<=c)&&decide (c<=57)
def Ra (c:Int):Bool:=decide (c=95)||(decide (97<=c)&&decide (c<=122))||(decide (65<=c)&&decide (c<=90))
def AB3 (N:Nat)(c:Int):Hq N c=some (AO1 c):=rfl
def Bi4 (N:Nat)(c:Int):IR N c=some (Ra c):=rfl
def Xl (N:Nat)(c:Int):Hs N c=some (Ra c):=by
 unfold Ra;rw[Bool.or_assoc,Bool.or_comm];rfl
def Ax7{c:Int}(h:Ra c=true):AO1 c=false:=by
 grind[AO1,Ra]
noncomputable def NO (x:Uf)(s:Int):OS (Int⊕(Unit⊕Unit)):=
 if s<(x.size:Int)then(if 0<=s then(if Ra (sat x s)||AO1 (sat x s)then some (.inl (Ar.ar .add .i64 s 1))else some (.inr (.inr ())))else none)else some (.inr (.inl ()))
def nm1 (N:Nat) (x:Uf):(λ(e:Int)=>
 (
  if cmp .lss e (slen x)=true then
   (IS (an (cmp .geq e 0) (cmp .lss e (slen x)))).bind λ_=>
   (IR N (sat x e)).bind λh=>
   if nt h=true then
    (IS (an (cmp .geq e 0) (cmp .lss e (slen x)))).bind λ_=>
    (Hq N (sat x e)).bind λn=>
    if nt n=true then
     some (.inr (.inr ()))
    else
     some (.inl (Ar.ar .add .i64 e 1))
   else
    some (.inl (Ar.ar .add .i64 e 1))
  else
   some (.inr (.inl ()))
  :OS ((Int)⊕(Unit⊕Unit))))=NO x:=by
 funext s
 unfold NO;simp only[B8,O0,Q4,PB,Bi4,AB3,S4,B3]
 grind[IS]
def nm2 (N:Nat) (x:Uf):(λ(e:Int)=>
 (
  if cmp .lss e (slen x)=true then
   (IS (an (cmp .geq e 0) (cmp .lss e (slen x)))).bind λ_=>
   (Hs N (sat x e)).bind λh=>
   if nt h=true then
    (IS (an (cmp .geq e 0) (cmp .lss e (slen x)))).bind λ_=>
    if cmp .lss (sat x e) 48=true then
     some (.inr (.inr ()))
    else
     (IS (an (cmp .geq e 0) (cmp .lss e (slen x)))).bind λ_=>
     if cmp .gtr (sat x e) 57=true then
      some (.inr (.inr ()))
     else
      some (.inl (Ar.ar .add .i64 e 1))
   else
    some (.inl (Ar.ar .add .i64 e 1))
  else
   some (.inr (.inl ()))
  :OS ((Int)⊕(Unit⊕Unit))))=NO x:=by
 funext s
 unfold NO;simp only[B8,O0,N5,Q4,PB,Xl,S4,B3]
 grind[IS,AO1]
def Av9(hN:30<N)(x:Uf):∃b,Fb N x=some b/\Iz N x=some b:=by
 unfold Fb Iz;rw[nm1,nm2];simp only[AB3,Xl,A4,D8,N5,O0,B8,Q8,Q4,PB,S4,L7,B3]
 by_cases h:((x.size:Int)=0\/24<(x.size:Int))
 ·rw[A2 h,A2 h];simp_all
 rw[A1 h,A1 h]
 have Q:IS (decide ((0:Int)<=0)&&decide ((0:Int)<(x.size:Int)))=some ():=by
  simp_all[IS]
 rw[Q];simp only[A4]
 have⟨r,v⟩:=Bx4 (N:=N) (step:=NO x) (n:=x.size) (λi U=>by
  unfold NO;rw[A2 AY,A2 AY,Bv U AY]
  grind) ⟨_,by unfold NO;rw[A1 AY]⟩ AY
 by_cases hl:Ra (sat x 0)=true
 ·rw[Ax7 hl,hl,v];simp only[D4,B6,W3,A4];cases r<;>exact⟨_,rfl,rfl⟩
 have e:Ra (sat x 0)=false:=Pw
 rw[e];simp only[CS,B4]
 by_cases hd:AO1 (sat x 0)=true
 ·rw[A2 hd];simp_all
 rw[A1 hd]
 have w:AO1 (sat x 0)=false:=Pw
 obtain⟨M,rfl⟩:∃M,N=M+1:=⟨N-1,AY⟩
 have:NO x 0=some (.inr (.inr ())):=by
  simp_all[NO]
 grind[loopN]
noncomputable def KP (N:Nat)(x:Uf):Bool:=(Fb N x).getD false
theorem AV6(hN:30<N)(x:Uf):Fb N x=some (KP N x):=by
 have⟨b,h,_⟩:=Av9 hN x
 grind[KP]
def As7(hN:30<N)(x:Uf):Iz N x=some (KP N x):=by
 have⟨b,h,e⟩:=Av9 hN x
 simp_all[KP]
open Classical in
def AZ5 (L:Up Uf) (k:Uf):Gf (L.map λy=>(y,true)) k false=some (decide (k∈L),decide (k∈L)):=by
 unfold Gf
 congr 1
 induction L with
 |nil=>simp
 |cons y L ih=>
  grind
def AT6{L:Up Uf}{k:Uf}(h:k∉L):FX (L.map λy=>(y,true)) k true=some ((L++[k]).map λy=>(y,true)):=by
 simp_all[FX]
def Zt(p:α->Bool)(l:Up α):Int:=match Df p 0 l with|some q=>(q.1:Int)|none=> -1
def Az9{l:Up α}{p:α->Bool}{i:Nat}{x:α}(M:l[i]? =some x)(f:p x=true):Zt p l<(i:Int)<->∃y∈l.take i,p y=true:=by
 unfold Zt
 cases c:Df p 0 l with
 |none=>have:=Az8 c x (K4 M);rw[f]at this;cases this
 |some q=>
  have⟨k,y⟩:=q;have⟨_,Z,T,e⟩:=Ti c
  rw[Nat.sub_zero]at Z e
  simp only
  constructor
  ·intro h;refine⟨y,?_,T⟩;rw[List.mem_iff_getElem?];exact⟨k,by rw[LW,A2 AY];exact Z⟩
  grind[List.getElem?_of_mem]
end Go.Ab
namespace Go.Ab
open Classical
set_option maxRecDepth 100000
variable{N:Nat}
abbrev AS7:ByteArray:=⟨#[116,105,109,101]⟩
noncomputable def fdF (N:Nat)(s:F6)(i:Nat)(x:Y5):Int:=
 if KP N x.Name=false\/x.Name=AS7 then 8 else if x.Name∈(s.Fields.take i).map Y5.Name then 7 else if x.Kind<0\/3<=x.Kind then 1 else 0
noncomputable def PC (N:Nat)(s:F6):Int:=if KP N s.Name=false then 8 else if 8<s.Fields.length then 5 else fb (fdF N s) 0 s.Fields
def BB5(hN:30<N)(x:Uf):Dt N x=some (KP N x&& !decide (x=AS7)):=by
 grind[Dt,AV6,Q4,Xi]
def drR{α β:Type}{l:Up α}{f:α->β}{i:Nat}{x:α}(h:l[i]? =some x):(l.take (i+1)).map f=(l.take i).map f++[f x]:=by
 rw[Jr,h];simp
def Bg2(hN:30<N)(s:F6):Hr N s=some (PC N s):=by
 unfold Hr PC;rw[AV6 hN];simp only[A4,S4]
 by_cases L:KP N s.Name=false
 ·rw[A2 (by rw[L];rfl),A2 L]
 rw[A1 Pw,A1 L];simp only[N5,A9,B3]
 by_cases O:8<s.Fields.length
 ·rw[A2 AY,A2 O]
 rw[A1 AY,A1 O]
 have ⟨m,p⟩:=Ae7 (l:=s.Fields) (f:=fdF N s) (N:=N) (λi=>((s.Fields.take i).map Y5.Name).map λy=>(y,true)) (e:=λm=>.inl m) (b:=λr m=>.inr (r,m))
  (step :=λ(h:Int×(Up (Uf×Bool)))=>
   (
    if cmp .lss h.1 (Ar.len s.Fields)=true then
     (C4 s.Fields h.1).bind λn=>
     (Dt N n.Name).bind λw=>
     if nt w=true then
      some (.inr (.inr (8,h.2)))
     else
      (Gf h.2 n.Name (false:Bool)).bind λH=>
      if H.1=true then
       some (.inr (.inr (7,h.2)))
      else
       if Ar.or (cmp .lss n.Kind 0) (cmp .geq n.Kind 3)=true then
        some (.inr (.inr (1,h.2)))
       else
        (FX h.2 n.Name true).bind λv=>
        some (.inl (Ar.ar .add .i64 h.1 1,v))
    else
     some (.inr (.inl h.2))
    :OS ((Int×(Up (Uf×Bool)))⊕(((Up (Uf×Bool)))⊕(Int×(Up (Uf×Bool)))))))
  (λi x M U=>by
   simp only[B8,O0,A9,F3,M,A4,BB5 hN,S4,AZ5,Q8,L7,B3];rw[A2 AY,Bv U AY];unfold fdF
   by_cases a:KP N x.Name=false\/x.Name=AS7
   ·rw[A2 a,A2 (by rcases a with a|a<;>simp[a]),A1 Sz]
   rw[A1 a,A1 TQ]
   by_cases b:x.Name∈(s.Fields.take i).map Y5.Name
   ·rw[A2 b,A2 b,A1 Sz]
   rw[A1 b,A1 b]
   by_cases c:x.Kind<0\/3<=x.Kind
   ·rw[A2 c,A2 c,A1 Sz]
   rw[A1 c,A1 c,A2 rfl,AT6 b,drR M]
   rfl)
  (by simp_all[B8,A9]) AY
 refine FM p ?_
 grind
def BX9{s:F6}(k:Uf)(hl:s.Fields.length<=1000)(hN:1000<N):Ht N s k=some (Zt (λx:Y5=>decide (x.Name=k)) s.Fields):=by
 unfold Ht Zt;rw[UD (l:=s.Fields) (p:=λx:Y5=>decide (x.Name=k)) (e:=.inl ()) (b:=λi _=>.inr (i:Int)) (N:=N) ?_ ?_ AY]
 ·grind
 ·exact zbo
 exact zco
def Bp4{l:Up F6}(k:Uf)(hl:l.length<=1000)(hN:1000<N):Mn N l k=some (Zt (λx:F6=>decide (x.Name=k)) l):=by
 unfold Mn Zt;rw[UD (l:=l) (p:=λx:F6=>decide (x.Name=k)) (e:=.inl ()) (b:=λi _=>.inr (i:Int)) (N:=N) ?_ ?_ AY]
 ·grind
 ·exact zbo
 exact zco
def AI7(hN:1000<N)(s:F6):Mo N s=some (PC N s):=by
 unfold Mo PC;rw[As7 AY];simp only[A4,S4]
 by_cases L:KP N s.Name=false
 ·rw[A2 (by rw[L];rfl),A2 L]
 rw[A1 Pw,A1 L];simp only[N5,A9,B3]
 by_cases O:8<s.Fields.length
 ·rw[A2 AY,A2 O]
 rw[A1 AY,A1 O];refine FM (Gg (l:=s.Fields) (f:=fdF N s) (N:=N) (e:=.inl ()) (b:=λr=>.inr r) (λi x M U=>?_) ?_ AY) ?_
 ·simp only[B8,H7,F3,M,A4,As7 (show 30<N by omega),Q8,Q4,Hp,BX9 x.Name (show s.Fields.length<=1000 by omega) hN,L7,G9,P9,B3,O2];rw[A2 AY,Bv U AY];unfold fdF
  by_cases a:KP N x.Name=false\/x.Name=AS7
  ·rw[A2 a,A2 a,A1 Sz]
  rw[A1 a,A1 a];have h:=Az9 (p:=λy:Y5=>decide (y.Name=x.Name)) M OC
  have n:(∃y∈s.Fields.take i,decide (y.Name=x.Name)=true)<->x.Name∈(s.Fields.take i).map Y5.Name:=Pw
  rw[n]at h
  grind
 ·simp_all[B8]
 grind
noncomputable def scF (N:Nat)(l:Up F6)(i:Nat)(x:F6):Int:=
 if PC N x≠0 then PC N x else if x.Name∈(l.take i).map F6.Name then 7 else 0
noncomputable def PE (N:Nat)(l:Up F6):Int:=if 16<l.length then 5 else fb (scF N l) 0 l
def An1(hN:1000<N)(l:Up F6):Bq N l=some (PE N l):=by
 unfold Bq PE;simp only[N5,A9,B3]
 by_cases O:16<l.length
 ·rw[A2 AY,A2 O]
 rw[A1 AY,A1 O]
 have ⟨m,p⟩:=Ae7 (l:=l) (f:=scF N l) (N:=N) (λi=>((l.take i).map F6.Name).map λy=>(y,true)) (e:=λm=>.inl m) (b:=λr m=>.inr (r,m))
  (step:=λ(h:Int×(Up (Uf×Bool)))=>
   (
    if cmp .lss h.1 (Ar.len l)=true then
     (C4 l h.1).bind λv=>
     (Hr N v).bind λw=>
     if cmp .neq w 0=true then
      some (.inr (.inr (w,h.2)))
     else
      (Gf h.2 v.Name (false:Bool)).bind λH=>
      if H.1=true then
       some (.inr (.inr (7,h.2)))
      else
       (FX h.2 v.Name true).bind λn=>
       some (.inl (Ar.ar .add .i64 h.1 1,n))
    else
     some (.inr (.inl h.2))
    :OS ((Int×(Up (Uf×Bool)))⊕(((Up (Uf×Bool)))⊕(Int×(Up (Uf×Bool)))))))
  (λi x M U=>by
   simp only[B8,H7,A9,F3,M,A4,Bg2 (show 30<N by omega),AZ5,P9,B3,O2];rw[A2 AY,Bv U AY];unfold scF
   by_cases a:PC N x=0
   ·simp only[a,ne_eq,Y2,B6]
    by_cases b:x.Name∈(l.take i).map F6.Name
    ·rw[A2 b,A2 b,A1 Sz]
    rw[A1 b,A1 b,A2 rfl,AT6 b,drR M];rfl
   simp_all)
  (by simp_all[B8,A9]) AY
 refine FM p ?_
 grind
def BJ5(hN:1000<N)(l:Up F6):Hu N l=some (PE N l):=by
 unfold Hu PE;simp only[N5,A9,B3]
 by_cases O:16<l.length
 ·rw[A2 AY,A2 O]
 rw[A1 AY,A1 O];refine FM (Gg (l:=l) (f:=scF N l) (N:=N) (e:=.inl ()) (b:=λr=>.inr r) (λi x M U=>?_) ?_ AY) ?_
 ·simp only[B8,H7,F3,M,A4,AI7 hN,Bp4 x.Name (show l.length<=1000 by omega) hN,P9,B3,O2];rw[A2 AY,Bv U AY];unfold scF
  by_cases a:PC N x=0
  ·simp only[a,ne_eq,Y2,B6];have h:=Az9 (p:=λy:F6=>decide (y.Name=x.Name)) M OC
   have n:(∃y∈l.take i,decide (y.Name=x.Name)=true)<->x.Name∈(l.take i).map F6.Name:=Pw
   rw[n]at h
   simp_all
  simp_all
 ·simp_all[B8]
 grind
def As0{l:Up F6}(h:PE N l=0):l.length<=16/\∀s∈l,s.Fields.length<=8/\∀x∈s.Fields,x.Kind=0\/x.Kind=1\/x.Kind=2:=by
 unfold PE at h
 split at h
 ·cases h
 grind[List.getElem?_of_mem,FH,scF,PC,fdF]
def Ku{α:Type}{l:Up α}{i:Int}(h:0<=i/\i<(l.length:Int)):∃x,C4 l i=some x/\l[i.toNat]? =some x:=by
 simp_all[C4]
noncomputable def vlF (fs:Up Y5)(i:Nat)(v:B2):Int:=
 if R5 v≠0 then R5 v else match fs[i]? with|some f=>if v.Kind≠f.Kind then 9 else 0|none=>0
def Um (s:F6):Int:=Zt (λf:Y5=>decide (f.Kind=0)) s.Fields
def RF{s:F6}(hl:s.Fields.length<=1000)(hN:1000<N):CH N s=some (Um s):=by
 unfold CH AQ Um Zt;rw[UD (l:=s.Fields) (p:=λf:Y5=>decide (f.Kind=0)) (e:=.inl ()) (b:=λi _=>.inr (i:Int)) (N:=N) ?_ ?_ AY]
 ·grind
 ·intro i x M U;simp only[B8,A9,F3,M,A4,Di,D8,B3];rw[A2 AY,Bv U AY]
 exact zco
def Bv0 (s:F6): -1<=Um s/\Um s<(s.Fields.length:Int):=by
 unfold Um Zt
 cases h:Df (λf:Y5=>decide (f.Kind=0)) 0 s.Fields with
 |none=>grind
 |some q=>
  have⟨k,x⟩:=q;have:=(List.getElem?_eq_some_iff.1 (Ti h).2.1).1
  simp_all
structure Bc0 (x:A8):Prop where
 op:0<=x.Op/\x.Op<=12
 ar:(x.dT.length:Int)=(if x.Op<5 then 0 else if x.Op=12 then 1 else 2)
 var:(x.Op=1\/x.Op=2\/x.Op=3\/x.Op=4)->0<=x.Var/\x.Var<16
 fld:(x.Op=1\/x.Op=4)->0<=x.Field/\x.Field<8
 knd:x.Op=4->x.Kind≠0
 val:(x.Op=4\/x.Op=0)->R5 x.Value=0
def Aj3{x:A8}(h:BJ x=0):Bc0 x:=by
 unfold BJ at h
 by_cases L:x.Op<0\/12<x.Op
 ·rw[A2 L]at h;cases h
 rw[A1 L]at h
 by_cases O:(x.dT.length:Int)≠(if x.Op<5 then 0 else if x.Op=12 then 1 else 2)
 ·rw[A2 O]at h;cases h
 rw[A1 O]at h
 by_cases Z:Ov x=true
 ·rw[A2 Z]at h;cases h
 rw[A1 Z]at h
 by_cases T:Ab9 x=true
 ·rw[A2 T]at h;cases h
 rw[A1 T]at h
 by_cases n:(x.Op=4\/x.Op=0)/\R5 x.Value≠0
 ·rw[A2 n]at h;omega
 simp only[Ov,AS0,AS1,Ab9,Q4,Q8,B8,O0,N5,D8,L7,G9,B3,not_or,not_and]at Z T n
 refine⟨AY,Classical.not_not.1 O,λe=>?_,λe=>?_,λe=>?_,λe=>?_⟩
 ·have:=Z.1 e;omega
 ·have:=Z.2 e;omega
 ·have:=T e;omega
 omega
def AL2{l:Up A8}{F G:A8->OS (Int×Int)}(h:∀a∈l,∃r,F a=some r/\G a=some r)(hl:l.length<=1000000)(hN:1000000<N):
 ∃ r :Up Int⊕Int,(∀n,r= .inl n->n.length=l.length)/\∀K:A8->OS (Int×Int),K=F\/K=G->
  loopN (λ(w:(Up Int)×Int)=>
   (
    if cmp .lss w.2 (Ar.len l)=true then
     (C4 l w.2).bind λx5=>
     (K x5).bind λP=>
     if cmp .neq P.2 0=true then
      some (.inr (.inr P.2))
     else
      (K2 w.1 ([P.1])).bind λH=>
      some (.inl (H,Ar.ar .add .i64 w.2 1))
    else
     some (.inr (.inl w.1))
    :OS (((Up Int)×Int)⊕(((Up Int))⊕Int)))) N ([],0)=some r:=by
 let kd:A8->Int×Int:=λa=>if u:a∈l then Classical.choose (h a u)else(0,0)
 have S:∀a∈l,F a=some (kd a)/\G a=some (kd a):=λa u=>by
  have:=US (h a u)
  grind
 let body:Up Int->A8->OS (Up Int⊕(Up Int⊕Int)):=λs a=>if(kd a).2≠0 then some (.inr (.inr (kd a).2))else(K2 s [(kd a).1]).bind λH=>some (.inl H)
 have V:∀(m:Up A8) (s:Up Int),s.length+m.length<=1000000->∃o,E8 body m s=some o/\(∀x,o= .inl x->x.length=s.length+m.length)/\∀n,o= .inr (.inl n)->False:=by
  intro m
  induction m with
  |nil=>simp[E8]
  | cons a m ih=>
   intro s d
   simp only[K8]at d
   unfold E8
   by_cases z:(kd a).2=0
   ·have⟨o,O,Z,T⟩:=ih (s++[(kd a).1]) Ts;refine⟨o,?_,λx e=>by have:=Z x e;grind,T⟩
    have:body s a=some (.inl (s++[(kd a).1])):=by
     simp only[body,z,ne_eq,Y2,B6];rw[T6 Ts];rfl
    simp_all
   grind
 have⟨o,O,Z,T⟩:=V l [] Pw
 have⟨v,y,f⟩:∃v:Up Int⊕Int,(∀n,v= .inl n->n.length=l.length)/\(∀s,o= .inl s->v= .inl s)/\∀r,o= .inr r->v=r:=by
  cases o with
  |inl s=>simp_all
  |inr r=>simp_all
 refine⟨v,y,λK g=>?_⟩;rw[R6 l AY (mk:=λ(s:List Int) i=>(s,i)) (body:=body) (fin:=λs=>.inl s) (s:=[]) AY ?_ ?_]
 ·rw[O]
  grind
 ·intro s i a u U;have p:=K4 u
  have e:K a=some (kd a):=Pw
  have c:Ar.ar .add .i64 (i:Int) 1=i+1:=E6 AY AY;simp only[B8,H7,A9,U,H8,B4,F3,u,A4,e,c,body,P9,O2]
  grind
 exact zco
noncomputable def vrF (types:Up F6)(_:Nat)(v:R9):Int:=if v.Typ<0\/(types.length:Int)<=v.Typ then 1 else 0
end Go.Ab
namespace Go.Ab
variable{N:Nat}{l:Up A6}{x:A6}{α:Type}
def FT:Up A6->Prop
 |[]=>True
 |x::l=>(-1099511627776<=x.Low/\x.Low<=x.dV/\x.dV<=1099511627776)/\(∀y∈l,x.dV+2<=y.Low)/\FT l
theorem W2{n:Int}:Bs (x::l) n<->(x.Low<=n/\n<=x.dV)\/Bs l n:=by
 simp[Bs]
def Kt{n:Int}:¬Bs [] n:=λ⟨_,h,_⟩=>by cases h
def AZ3{m:Up A6}{n:Int}:Bs (l++m) n<->Bs l n\/Bs m n:=by
 grind[Bs]
def Srt.ord:∀{l:Up A6},Srt l->FT l:=by
 intro l
 induction l with
 |nil=>simp[FT]
 |cons x l ih=>
  intro G;refine⟨G.2.1 x OC,λy I=>?_,ih ⟨by have:=G.1;grind,λz Y=>G.2.1 z (by simp[Y]),λi a b u e=>G.2.2 (i+1) a b Pw Pw⟩⟩;have⟨k,S⟩:=AF I;exact WX G k 0 x y rfl TQ
def FT.srt':∀{l:Up A6},FT l->∀x∈l, -1099511627776<=x.Low/\x.Low<=x.dV/\x.dV<=1099511627776
 |_::_,h,x,M=>by
  rcases List.mem_cons.1 M with rfl|M
  ·exact h.1
  exact FT.srt' h.2.2 x M
def FT.srt:∀{l:Up A6},FT l->l.length<=256->Srt l:=by
 intro l
 induction l with
 |nil=>simp[Srt]
 |cons x l ih=>
  grind[FT,Srt]
def FT.lo(h:FT (x::l)){n:Int}(E:Bs (x::l) n):x.Low<=n:=by
 grind[FT,Bs]
def FT.above(h:FT (x::l)){n:Int}(E:Bs l n):x.dV+2<=n:=by
 grind[FT,Bs]
def AV1:∀{l m:Up A6},FT l->FT m->(∀n,Bs l n<->Bs m n)->l=m
 |[],[],_,_,_=>rfl
 |[],y::m,_,p,h=>absurd ((h y.Low).2 (W2.2 (.inl ⟨AY,p.1.2.1⟩))) Kt
 |x::l,[],hl,_,h=>absurd ((h x.Low).1 (W2.2 (.inl ⟨AY,hl.1.2.1⟩))) Kt
 | x::l,y::m,hl,p,h=>by
  have w:=p.lo ((h x.Low).1 (W2.2 (.inl ⟨AY,hl.1.2.1⟩)));have H:=hl.lo ((h y.Low).2 (W2.2 (.inl ⟨AY,p.1.2.1⟩)));have M:=hl.1;have I:=p.1
  have K:¬x.dV<y.dV:=λv=>by
   rcases W2.1 ((h (x.dV+1)).2 (W2.2 (.inl ⟨AY,AY⟩)))with r|r
   ·omega
   grind[FT,Bs]
  have P:¬y.dV<x.dV:=λv=>by
   rcases W2.1 ((h (y.dV+1)).1 (W2.2 (.inl ⟨AY,AY⟩)))with r|r
   ·omega
   grind[FT,Bs]
  have e:x=y:=by
   cases x;cases y
   grind
  subst e;rw[AV1 hl.2.2 p.2.2 λn=>?_]
  constructor
  ·intro E;have:=hl.above E
   rcases W2.1 ((h n).1 (W2.2 (.inr E)))with r|r
   ·omega
   exact r
  intro E;have:=p.above E
  rcases W2.1 ((h n).2 (W2.2 (.inr E)))with r|r
  ·omega
  exact r
def Lw (lo:Int):Up A6->Up A6
 |[]=>if lo<=1099511627776 then[⟨lo,1099511627776⟩]else[]
 |x::l=>if lo<x.Low then⟨lo,x.Low-1⟩::Lw (x.dV+1) l else Lw (x.dV+1) l
def AZ6:∀{l:Up A6} {lo n:Int},FT l->(∀y∈l,lo<=y.Low)->(Bs (Lw lo l) n<->lo<=n/\n<=1099511627776/\¬Bs l n)
 |[],lo,n,_,_=>by
  grind[Lw,W2,Bs]
 | x::l,lo,n,h,r=>by
  have M:=h.1;have L:=r x OC
  have ih:=AZ6 (n:=n) h.2.2 (lo:=x.dV+1) λy I=>by have:=h.2.1 y I;omega
  unfold Lw
  by_cases E:Bs l n
  ·have:=h.above E;have e:¬Bs (Lw (x.dV+1) l) n:=λv=>(ih.1 v).2.2 E
   grind[Bs]
  grind[W2]
def Az5:∀{l:Up A6} {lo:Int},FT l->(∀y∈l,lo<=y.Low)-> -1099511627776<=lo->FT (Lw lo l)/\∀y∈Lw lo l,lo<=y.Low
 |[],lo,_,_,n=>by
  grind[FT,Lw]
 |x::l,lo,h,e,n=>by
  have M:=h.1;have L:=e x OC;have⟨i1,i2⟩:=Az5 h.2.2 (lo:=x.dV+1) (λy I=>by have:=h.2.1 y I;omega) AY
  grind[FT,Lw]
def Yk:∀(l:Up A6) (lo:Int),(Lw lo l).length<=l.length+1
 |[],lo=>by grind[Lw]
 |x::l,lo=>by
  have:=Yk l (x.dV+1)
  grind[Lw]
def Ut{S R:Type}{l:Up α}{step:S->OS (S⊕R)}{Q:R->Prop}(I:Nat->S->Prop)
 (G:∀(i:Nat) x s,l[i]? =some x->i<l.length->I i s->∃n,step s=some (.inl n)/\I (i+1) n)
 (v:∀s,I l.length s->∃r,step s=some (.inr r)/\Q r){s0:S}(L:I 0 s0)(hN:l.length<N):∃r,loopN step N s0=some r/\Q r:=by
 have key:∀(k i N:Nat) (s:S),i+k=l.length->k<N->I i s->∃r,loopN step N s=some r/\Q r:=by
  intro k
  induction k with
  |zero=>
   intro i N s U hN h;obtain⟨N,rfl⟩:∃M,N=M+1:=⟨N-1,AY⟩
   rw[show i=l.length by omega]at h
   grind[loopN]
  |succ k ih=>
   intro i N s U hN h;obtain⟨N,rfl⟩:∃M,N=M+1:=⟨N-1,AY⟩
   have e:i<l.length:=AY
   have⟨n,O,Z⟩:=G i _ s (D9 e) e h
   grind[loopN]
 grind
def YS{l m:Up α}(h:l.length+m.length<=1073741824):K2 l m=some (l++m):=by simp_all[K2]
def BA4(X:FT l)(hl:l.length<=1000000)(hN:l.length<N):IZ N l=some (Lw (-1099511627776) l):=by
 unfold IZ Gp
 have key:∀(k i N:Nat) (lo:Int),i+k=l.length->k<N->∃w s,R7
  (λ(A:Int×Int)=>
   (
    if cmp .lss A.2 (Ar.len l)=true then
     (C4 l A.2).bind λr=>
     if cmp .lss A.1 r.Low=true then
      I1 (some ([(⟨A.1,Ar.ar .sub .i64 r.Low 1⟩:A6)],())) λ_=>
      some ([],.inl (Ar.ar .add .i64 r.dV 1,Ar.ar .add .i64 A.2 1))
     else
      some ([],.inl (Ar.ar .add .i64 r.dV 1,Ar.ar .add .i64 A.2 1))
    else
     some ([],.inr A.1)
    :OS (Up A6×((Int×Int)⊕(Int))))) N (lo,(i:Int))=some (w,s)/\w++Lw s []=Lw lo (l.drop i):=by
  intro k
  induction k with
  |zero=>
   intro i N lo U hN;obtain⟨N,rfl⟩:∃M,N=M+1:=⟨N-1,AY⟩;rw[show i=l.length by omega,Ji];refine⟨[],lo,?_,OC⟩
   grind[R7,B8,A9]
  | succ k ih=>
   intro i N lo U hN;obtain⟨N,rfl⟩:∃M,N=M+1:=⟨N-1,AY⟩
   have e:i<l.length:=AY
   have v:=D9 e;have x:=X.srt' _ (I9 e);have⟨w,s,O,Z⟩:=ih (i+1) N (l[i].dV+1) AY AY;rw[P1 e];unfold R7;have n:Ar.ar .sub .i64 l[i].Low 1=l[i].Low-1:=Bt AY AY
   simp only[B8,A9,F3,v,A4,B3,I1,F2,n]at O ⊢
   rw[A2 AY,Bv e AY,E6 AY AY]
   by_cases h:lo<l[i].Low
   ·rw[A2 h]
    grind[Lw]
   rw[A1 h]
   grind[Lw]
 have⟨w,s,O,Z⟩:=key l.length 0 N (-1099511627776) AY hN
 rw[show((0:Nat):Int)=0 from rfl]at O
 rw[O];simp only[I1,A4,Gv,B3]
 rw[CA]at Z
 rw[<-Z]
 grind[Lw]
def Bt8(hl:l.length<=1000000):∀{acc:Up A6},acc.length<=1000000->E8 (λ(h:(Up A6)) (n:A6)=>
 ((K2 h ([n])).bind λe=>some (.inl e):OS (((Up A6))⊕(Unit)))) l acc=some (.inl (acc++l)):=by
 have key:∀(l acc:Up A6),l.length+acc.length<=3000000->E8 (λ(h:(Up A6)) (n:A6)=>
  ((K2 h ([n])).bind λe=>some (.inl e):OS (((Up A6))⊕(Unit)))) l acc=some (.inl (acc++l)):=by
  intro l
  induction l with
  |nil=>simp[E8]
  |cons x l ih=>
   grind[E8,K2]
 grind
def slV(L:ck l=0)(hN:300<N):W8 N l=some (if 256<(Lw (-1099511627776) l).length then([],5)else(Lw (-1099511627776) l,0)):=by
 have G:=Ty L;have hl:=G.1;have e:=Yk l (-1099511627776);unfold W8 Dw;rw[QK AY];simp only[A4,L,H7,H8,W3,D4,B6];rw[BA4 G.ord AY AY];simp only[A4];rw[Bt8 AY OC];simp only[A4,K3,N5,A9,B3]
 grind
theorem sub1{i:Nat}(h:i+1<1000000000000):Ar.ar .sub .i64 ((i+1:Nat):Int) 1=(i:Int):=by
 show IntKind.wrap .i64 (((i+1:Nat):Int)-1)=_
 rw[Bt AY AY];omega
theorem AK7 (a b:Int):mn a b=if b<a then b else a:=rfl
def ZA (x:A6):Prop:= -1099511627776<=x.Low/\x.Low<=x.dV/\x.dV<=1099511627776
def Au9(h:FT l)(M:ZA x)(hl:∀y∈l,y.dV+2<=x.Low):FT (l++[x]):=by
 induction l with
 |nil=>grind[FT,ZA]
 |cons a l ih=>
  grind[FT]
def Av0(h:FT (l++[x])):FT l/\ZA x/\∀y∈l,y.dV+2<=x.Low:=by
 induction l with
 |nil=>grind[FT,ZA]
 |cons a l ih=>
  simp_all[FT]
structure Jnd (acc:List A6) (x:A6) (out:List A6):Prop where
 ord:FT out
 len:out.length<=acc.length+1
 low:∀y∈out,y.Low<=x.Low
 inl:∀n,Bs out n<->Bs acc n\/(x.Low<=n/\n<=x.dV)
def AY9{acc:Up A6}(X:FT acc)(e:ZA x)(h:∀y∈acc,y.dV+1<x.Low):Jnd acc x (acc++[x]):=by
 refine⟨Au9 X e λy I=>by have:=h y I;omega,OC,λy I=>?_,λn=>?_⟩
 ·rcases List.mem_append.1 I with I|I
  ·have:=h y I;have:=X.srt' y I;omega
  simp_all
 simp[Bs]
theorem Bz0{init:Up A6}{y:A6}{U:Int}(X:FT (init++[y]))(r:ZA x)(hl:y.Low<=x.Low)(h:x.Low<=y.dV+1)
 (v:U=if y.dV<x.dV then x.dV else y.dV):Jnd (init++[y]) x (init++[⟨y.Low,U⟩]):=by
 have⟨i1,i2,i3⟩:=Av0 X
 unfold ZA at i2 r
 have e:y.dV<=U/\x.dV<=U/\(U=x.dV\/U=y.dV):=by
  omega
 refine⟨Au9 i1 ⟨TQ,Pw,Pw⟩ i3,OC,λz Y=>?_,λn=>?_⟩
 ·rcases List.mem_append.1 Y with Y|Y
  ·have:=i3 z Y;have:=i1.srt' z Y;omega
  simp_all
 rw[AZ3,W2,AZ3,W2,or_assoc]
 grind
def Bz5{l:Up α}{x:α}:OB (l++[x]) (l.length:Int)=true:=by
 grind[OB]
def BR1{l:Up α}{x:α}:(l++[x])[l.length]? =some x:=OC
def Bq0{l:Up α}{x:α}{u:α->α}:Ex (l++[x]) (l.length:Int) u=some (l++[u x]):=by
 grind[Ex,F3]
def BZ6{l:Up α}{x:α}(h:l.length<=1000000):Ar.ar .sub .i64 (((l++[x]).length:Nat):Int) 1=(l.length:Int):=by
 rw[N1]
 grind[sub1]
def Bh2{acc:Up A6}(X:FT acc)(n:ZA x)(hl:∀y∈acc,y.Low<=x.Low)(E:acc.length<=1000000):
 ∃out,Ge N acc x=some out/\Jnd acc x out:=by
 unfold Ge
 rcases EO acc with rfl|⟨init,y,rfl⟩
 ·refine⟨[x],?_,AY9 (acc:=[]) X n λy I=>by cases I⟩;rw[YS OC];rfl
 rw[EN]at *
 have e:init.length<=1000000:=Pw
 have⟨i1,i2,i3⟩:=Av0 X;have I:=hl y OC
 unfold ZA at i2
 simp only[N5,Gv,A9,BZ6 e,Bz5,IS,B4,A4,F3,BR1,Bq0,B3];rw[A2 OC,E6 AY AY]
 by_cases h:x.Low<=y.dV+1
 ·rw[A2 h]
  grind[Bz0,MP]
 rw[A1 h,YS Ts];refine⟨_,rfl,AY9 X n λz Y=>?_⟩
 grind
end Go.Ab
namespace Go.Ab
open Go.Lib
variable{l:Up A6}
def AC2{e:Up Int}(h:e.Pairwise (· <= ·)):(Lib.compact e).Pairwise (· < ·):=by
 have n:∀i,(U:i<e.length)->e.toArray[i]! =e[i]:=λi U=>by simp[U]
 have key:∀m,m<=e.length->(compactUpTo e.toArray m).Pairwise (· < ·)/\∀x∈compactUpTo e.toArray m,0<m/\x<=e.toArray[m-1]! :=by
  intro m
  induction m with
  |zero=>intro _;exact⟨by simp[compactUpTo],λx M=>by simp[compactUpTo]at M⟩
  | succ m ih=>
   intro p;have⟨O,Z⟩:=ih AY
   have hle:0<m->e.toArray[m-1]! <=e.toArray[m]! :=λL=>by
    rw[n (m-1) AY,n m AY]
    grind[List.pairwise_iff_getElem]
   rw[compactUpTo_succ]
   by_cases S:keeps e.toArray m=true
   ·rw[A2 S]
    have r:∀x∈compactUpTo e.toArray m,x<e.toArray[m]! :=λx M=>by
     grind[keeps_neg]
    grind
   grind
 exact(key e.length (C6 _)).1
def BQ3 (e:Up Int):(Lib.compact e).length<=e.length:=by
 unfold Lib.compact Lib.compactUpTo;rw[H9]
 grind
def Ax0{zs:Up Int}{x:Int}:x∈Lib.compact zs<->x∈zs:=by
 unfold Lib.compact Lib.compactUpTo;rw[BT]
 constructor
 ·grind
 intro M;obtain⟨i,U,rfl⟩:=List.mem_iff_getElem.1 M
 have key:∀(n i:Nat) (U:i<zs.length),i<=n->∃a,a∈(List.range zs.length).filter (keeps zs.toArray)/\zs.toArray[a]! =zs[i]:=λn=>by
  induction n with
  |zero=>
   intro i U h
   have:i=0:=AY
   subst this;exact⟨0,List.mem_filter.2 ⟨List.mem_range.2 U,keeps_lt_one _ 0 AY⟩,by simp[U]⟩
  |succ n ih=>
   intro i U h
   by_cases S:keeps zs.toArray i=true
   ·exact⟨i,List.mem_filter.2 ⟨List.mem_range.2 U,S⟩,by simp[U]⟩
   by_cases L:i=0
   ·simp_all
   have⟨a,u,e⟩:=ih (i-1) AY AY;refine⟨a,u,e.trans ?_⟩;have Z:zs.toArray[i]! =zs.toArray[i-1]! :=Classical.not_not.1 λr=>S (keeps_pos r)
   have t:zs.toArray[i]! =zs[i]:=by simp[U]
   have e2:zs.toArray[i-1]! =zs[i-1]:=Pw
   rw[<-t,<-e2,Z]
 exact key i i U (C6 _)
def Bi2{l r:Up Int}(h:Vp l=some r){x:Int}:x∈r<->x∈l:=by
 obtain⟨_,rfl⟩:=Ry h
 simp_all
def Bm8{l r:Up Int}(h:Vp l=some r):r.Pairwise (· <= ·)/\r.length=l.length:=by
 obtain⟨_,rfl⟩:=Ry h;have G:=Mc (le:=λx y:Int=>decide (x<=y)) (λa b c=>by simp;omega) (λa b=>by simp;omega) l
 simp_all
def Lm (l:Up A6):Up Int:=l.flatMap λx=>[x.Low,x.dV+1]
theorem Nr{n:Int}:n∈Lm l<->∃x∈l,n=x.Low\/n=x.dV+1:=by
 simp[Lm]
def Yv (l:Up A6):(Lm l).length=2*l.length:=by
 induction l with
 |nil=>rfl
 |cons x l ih=>grind[Lm]
def AO7{N:Nat}{a b:Up A6}(h:a.length+b.length<=100000)(hN:10<N):U6 N [a,b]=some (a++b):=by
 obtain⟨M,rfl⟩:∃M,N=M+3:=⟨N-3,AY⟩;have e0:Ar.ar .add .i64 (0:Int) 1=1:=rfl;have t:Ar.ar .add .i64 (1:Int) 1=2:=rfl
 have e2:Ar.ar .add .i64 (0:Int) (a.length:Int)=(a.length:Int):=by rw[E6 AY AY];omega
 have e:Ar.ar .add .i64 (a.length:Int) (b.length:Int)=((a.length+b.length:Nat):Int):=by rw[E6 AY AY];omega
 have i0:C4 [a,b] 0=some a:=rfl;have i1:C4 [a,b] 1=some b:=rfl;have n:Ar.len [a,b]=(2:Int):=rfl
 have g:V8 (M+3) [] ((a.length+b.length:Nat):Int)=some []:=by
  unfold V8 Tg;rw[A2 AY]
 unfold U6
 simp only[loopN,n,B8,i0,i1,e0,t,e2,e,A9,A4,show decide ((0:Int)<2)=true from rfl,show decide ((1:Int)<2)=true from rfl,show decide ((2:Int)<2)=false from rfl,B4,D4,B6,
  show decide ((a.length:Int)<0)=false from CT AY,show decide (((a.length+b.length:Nat):Int)<0)=false from CT AY,g,YS (l:=([]:Up A6)) (m:=a) Ts,K3,YS (l:=a) (m:=b) AY]
def Bl3{N:Nat}(y:∀x∈l,ZA x)(hl:l.length<=100000)(hN:l.length<N):loopN
 (λ(e:Int×(Up Int))=>
  (
   if cmp .lss e.1 (Ar.len l)=true then
    (C4 l e.1).bind λh=>
    (K2 e.2 ([h.Low,Ar.ar .add .i64 h.dV 1])).bind λw=>
    some (.inl (Ar.ar .add .i64 e.1 1,w))
   else
    some (.inr e.2)
   :OS ((Int×(Up Int))⊕(((Up Int))))))
 N (0,([]:Up Int))=some (Lm l):=by
 have⟨r,O,Z⟩:=Ut (N:=N) (l:=l) (Q:=λ(r:Up Int)=>r=Lm l)
  (I:=λi (t:Int×Up Int)=>t.1=(i:Int)/\t.2=Lm (l.take i))
  (s0:=((0:Int),([]:Up Int)))
  (step:=λ(e:Int×(Up Int))=>
   (
    if cmp .lss e.1 (Ar.len l)=true then
     (C4 l e.1).bind λh=>
     (K2 e.2 ([h.Low,Ar.ar .add .i64 h.dV 1])).bind λw=>
     some (.inl (Ar.ar .add .i64 e.1 1,w))
    else
     some (.inr e.2)
    :OS ((Int×(Up Int))⊕(((Up Int))))))
  (λi x t M U ⟨n,e2⟩=>by
   have⟨j,acc⟩:=t
   simp only at n e2
   subst n;subst e2;have v:=y x (K4 M)
   unfold ZA at v
   have H:(Lm (l.take i)).length<=200000:=by rw[Yv,EV];omega
   simp only[B8,A9,F3,M,A4,B3];rw[A2 AY,Bv U AY,YS Ts,E6 AY AY]
   simp_all[Jr,Lm])
  (λt ⟨n,e2⟩=>by
   simp_all[B8,A9]) ⟨rfl,by simp[Lm]⟩ hN
 rw[O,Z]
def Ay7{E:Up Int}{i:Nat}{p q n:Int}(r:∀x∈l,x.Low∈E/\x.dV+1∈E)(e:E.Pairwise (· < ·))(f:E[i]? =some p)(c:E[i+1]? =some q)(O:p<=n)(Z:n<q):Bs l n<->Bs l p:=by
 have h:∀m∈E,m<=n<->m<=p:=λm v=>by
  grind[List.getElem?_of_mem,List.pairwise_iff_getElem]
 grind[Bs]
def Bq5{N:Nat}{a b:Up A6}{bel:Bool->Bool->OS Bool}{f:Bool->Bool->Bool}(hf:∀x y,bel x y=some (f x y))(ad:f false false=false)
 (u:Srt a)(hb:Srt b)(hN:2000<N){P:Int->Prop}(G:∀n x y,(x=true<->Bs a n)->(y=true<->Bs b n)->(f x y=true<->P n)):
 ∃r,HD N a b bel=some r/\FT r/\r.length<=2*(a.length+b.length)/\∀n,Bs r n<->P n:=by
 have aq:=u.1;have ar:=hb.1
 have ac:∀x∈a++b,ZA x:=λx M=>by
  grind[ZA,Srt]
 unfold HD;rw[AO7 AY AY];simp only[A4];rw[Bl3 ac Ts Ts];simp only[A4]
 have au:(Lm (a++b)).length=2*(a.length+b.length):=by rw[Yv,N1]
 have⟨S,hS⟩:∃S,Vp (Lm (a++b))=some S:=⟨_,by unfold Vp;rw[A2 AY]⟩;have⟨o,ap⟩:=Bm8 hS
 have hC:Qp S=some (Lib.compact S):=by grind[Qp]
 unfold EZ Ds;rw[hS];simp only[A4,hC];have v:=AC2 o;have aa:=BQ3 S;have w:∀m,m∈Lib.compact S<->m∈Lm (a++b):=λm=>Ax0.trans (Bi2 hS)
 generalize Lib.compact S=E at v aa w
 have T:∀x∈a,x.Low∈E/\x.dV+1∈E:=λx M=>⟨(w _).2 (Nr.2 ⟨x,by simp[M],.inl rfl⟩),(w _).2 (Nr.2 ⟨x,by simp[M],.inr rfl⟩)⟩;have X:∀x∈b,x.Low∈E/\x.dV+1∈E:=λx M=>⟨(w _).2 (Nr.2 ⟨x,by simp[M],.inl rfl⟩),(w _).2 (Nr.2 ⟨x,by simp[M],.inr rfl⟩)⟩
 have H:∀m∈E, -1099511627776<=m/\m<=1099511627777:=λm hm=>by
  grind[Nr,ZA]
 have av:∀n,¬Bs a n->¬Bs b n->¬P n:=λn O Z h=>by
  have:=(G n false false (by simp[O]) (by simp[Z])).2 h
  rw[ad]at this;cases this
 have ⟨r,O,Z⟩:=Ut (N:=N) (l:=List.range (E.length-1)) (Q:=λ(r:Up A6)=>FT r/\r.length<=E.length/\∀n,Bs r n<->P n)
  (I:=λi (t:Int×Up A6)=>t.1=(i:Int)/\FT t.2/\t.2.length<=i/\(∀y∈t.2,∀p,E[i]? =some p->y.Low<=p)/\∀n,Bs t.2 n<->(P n/\∃p,E[i]? =some p/\n<p))
  (s0:=((0:Int),([]:Up A6)))
  (step:=λ(e:Int×(Up A6))=>
   (
    if cmp .lss (Ar.ar .add .i64 e.1 1) (Ar.len E)=true then
     (IS (OB E e.1)).bind λ_=>
     (C4 E e.1).bind λal=>
     (CL N a al).bind λai=>
     (IS (OB E e.1)).bind λ_=>
     (C4 E e.1).bind λam=>
     (CL N b am).bind λaj=>
     (bel ai aj).bind λak=>
     if ak=true then
      (IS (OB E e.1)).bind λ_=>
      (C4 E e.1).bind λan=>
      (IS (OB E (Ar.ar .add .i64 e.1 1))).bind λ_=>
      (C4 E (Ar.ar .add .i64 e.1 1)).bind λao=>
      (Ge N e.2 (⟨an,Ar.ar .sub .i64 ao 1⟩:A6)).bind λah=>
      some (.inl (Ar.ar .add .i64 e.1 1,ah))
     else
      some (.inl (Ar.ar .add .i64 e.1 1,e.2))
    else
     some (.inr e.2)
    :OS ((Int×(Up A6))⊕(((Up A6))))))
  (λi x t M U ⟨K,e2,F,e4,V⟩=>by
   have⟨j,acc⟩:=t
   simp only at K e2 F e4 V
   subst K
   rw[CY]at U
   have g:=D9 (show i<E.length by omega);have c:=D9 (show i+1<E.length by omega);have A:=(List.pairwise_iff_getElem.1 v) i (i+1) AY AY AY;have bp:=H _ (I9 (show i<E.length by omega));have bq:=H _ (I9 (show i+1<E.length by omega))
   generalize E[i]=p at g A bp
   generalize E[i+1]=q at c A bq
   have af:OB E (i:Int)=true:=by grind[OB]
   have ag:OB E ((i+1:Nat):Int)=true:=by grind[OB]
   have⟨va,k1,k2⟩:=AM3 (N:=N) (n:=p) u AY;have⟨J,k3,k4⟩:=AM3 (N:=N) (n:=p) hb AY
   have ae:∀n,p<=n->n<q->(P n<->P p):=λn L R=>by
    have:=G n va J (k2.trans (Ay7 T v g c L R).symm) (k4.trans (Ay7 X v g c L R).symm)
    grind
   simp only[B8,A9,B3];rw[Bv U AY,A2 AY];simp only[af,ag,IS,B4,A4,F3,g,c,k1,k3,hf]
   by_cases d:f va J=true
   ·have ab:=(G p va J k2 k4).1 d;rw[A2 d];have C:Ar.ar .sub .i64 q 1=q-1:=Bt AY AY;rw[C];have⟨out,o1,o2⟩:=Bh2 (N:=N) (acc:=acc) (x:=⟨p,q-1⟩) e2 ⟨TQ,Pw,Pw⟩ (λy D=>e4 y D p g) AY;rw[o1];refine⟨_,rfl,rfl,o2.ord,by have:=o2.len;grind,λy D z Y=>?_,λn=>?_⟩
    ·cases Y;have:=o2.low y D
     grind
    rw[o2.inl,V]
    grind
   rw[A1 d];have ab:¬P p:=λh=>d ((G p va J k2 k4).2 h)
   grind)
  (λt ⟨K,e2,F,e4,V⟩=>by
   have⟨j,acc⟩:=t
   simp only at K e2 F e4 V
   rw[CY]at K F e4 V
   subst K;have s:Ar.ar .add .i64 ((E.length-1:Nat):Int) 1=((E.length-1+1:Nat):Int):=Bv (n:=E.length+1) AY AY;simp only[B8,A9,s,B3];rw[A1 AY];refine⟨_,rfl,e2,AY,λn=>(V n).trans ⟨λh=>h.1,λh=>⟨h,?_⟩⟩⟩
   have above:∀x,x∈a\/x∈b->x.Low<=n->n<=x.dV->∃p,E[E.length-1]? =some p/\n<p:=λx M L R=>by
    have hm:x.dV+1∈E:=Pw
    have⟨k,hk⟩:=AF hm;have⟨a1,a2⟩:=List.getElem?_eq_some_iff.1 hk
    grind[List.pairwise_iff_getElem]
   grind[Bs])
  ⟨rfl,trivial,OC,λy D=>by simp at D,λn=>by
   simp only[Kt,false_iff,not_and];rintro h ⟨p,g,hn⟩
   have first:∀m∈E,p<=m:=λm hm=>by
    grind[List.getElem?_of_mem,List.pairwise_iff_getElem]
   grind[Bs]⟩ (by rw[CY];omega)
 rw[O]
 grind
end Go.Ab
namespace Go.Ab
def Cn (P:Int->Prop)(l:Up A6):Prop:=FT l/\l.length<=256/\∀n,Bs l n<->P n
def Cn.ext {P Q:Int->Prop}{l m:Up A6}(h:Cn P l)(k:Cn Q m)(e:∀n,P n<->Q n):l=m:=AV1 h.1 k.1 λn=>(h.2.2 n).trans ((e n).trans (k.2.2 n).symm)
def Qg {N:Nat}{a b:Up A6}{bel:Bool->Bool->OS Bool}{f:Bool->Bool->Bool}(q:∀x y,bel x y=some (f x y))(e:f false false=false)
 (u:ck a=0) (h:ck b=0) (hl:a.length+b.length<=100) (hN:2000<N) {P:Int->Prop} (w:∀n x y,(x=true<->Bs a n)->(y=true<->Bs b n)->(f x y=true<->P n)):
 ∃r,BS N a b bel=some (r,0)/\Cn P r/\r.length<=2*(a.length+b.length):=by
 have⟨r,O,Z,T,v⟩:=Bq5 q e (Ty u) (Ty h) hN w;refine⟨r,?_,⟨Z,AY,v⟩,T⟩;unfold BS MR Dw;simp only[QK (show 256<N by omega),A4,u,h,H7,H8,W3,D4,B6,O,N5,A9,B3];rw[A1 AY];rfl
def Sm (k:Nat)(p:D3):Prop:=∀x∈p.dW,x.length<=k
def Bi (P:(Int->Prop)->(Int->Prop)->Int->Prop)(k:Nat)(p q r:D3):Prop:=
 r.dW.length=p.dW.length/\∀(i:Nat) a b c,p.dW[i]? =some a->q.dW[i]? =some b->r.dW[i]? =some c->Cn (P (Bs a) (Bs b)) c/\c.length<=k
def Un (k:Nat)(p r:D3):Prop:=
 r.dW.length=p.dW.length/\∀(i:Nat) a c,p.dW[i]? =some a->r.dW[i]? =some c->Cn (λn=> -1099511627776<=n/\n<=1099511627776/\¬Bs a n) c/\c.length<=k
end Go.Ab
namespace Go.Ab
set_option maxRecDepth 100000
def BG5 {x:A6}(h: -1099511627776<=x.Low/\x.Low<=x.dV/\x.dV<=1099511627776):fm x=0:=by
 grind[fm]
theorem AR0 {l:Up A6} (h:Srt l):ck l=0:=by
 unfold ck;rw[A1 (by have:=h.1;omega)];refine FH.2 λk x M=>?_;unfold fiq;have e:=h.2.1 x (K4 M);rw[A2 (BG5 e)]
 split
 ·rename_i S
  split
  ·rename_i y I;have:=h.2.2 (k-1) y x Pw (by rw[<-M];grind);have n:=h.2.1 y (K4 I);rw[E6 AY AY,A1 AY]
  rfl
 rfl
def WG {p:D3}(L:1<=p.dW.length/\p.dW.length<=16)(h:∀x∈p.dW,Srt x):VW p=0:=by
 unfold VW YJ;rw[A1 AY,A1 OC]
 grind[FH,AR0]
def Cn.srt {P:Int->Prop}{l:Up A6}(h:Cn P l):Srt l:=h.1.srt h.2.1
theorem Bi.own {P:(Int->Prop)->(Int->Prop)->Int->Prop} {k:Nat} {p q r:D3} (h:Bi P k p q r) (hl:p.dW.length=q.dW.length) (L:1<=p.dW.length/\p.dW.length<=16):VW r=0/\Sm k r:=by
 have e:∀x∈r.dW,Srt x/\x.length<=k:=λx M=>by
  have⟨i,U⟩:=AF M;have n:=(List.getElem?_eq_some_iff.1 U).1;have Q:=h.1;have:=h.2 i _ _ x (D9 (show i<p.dW.length by omega)) (D9 (show i<q.dW.length by omega)) U;exact⟨this.1.srt,this.2⟩
 exact zbd
theorem Un.own {k:Nat} {p r:D3} (h:Un k p r) (L:1<=p.dW.length/\p.dW.length<=16):VW r=0/\Sm k r:=by
 have e:∀x∈r.dW,Srt x/\x.length<=k:=λx M=>by
  have⟨i,U⟩:=AF M;have n:=(List.getElem?_eq_some_iff.1 U).1;have Q:=h.1;have:=h.2 i _ x (D9 (show i<p.dW.length by omega)) U;exact⟨this.1.srt,this.2⟩
 exact zbd
end Go.Ab
namespace Go.Ab
open Classical
structure Gd (types k:Nat) (l:List D3):Prop where
 len:∀p∈l,p.dW.length=types
 srt:∀p∈l,∀x∈p.dW,Srt x
 sm:∀p∈l,Sm k p
theorem Gd.at {types k:Nat} {l:Up D3} (h:Gd types k l) {p:D3} (f:p∈l) {i:Nat} (U:i<types):p.dW[i]? =some (p.dW.getD i [])/\Srt (p.dW.getD i [])/\(p.dW.getD i []).length<=k:=by
 have hl:=h.len p f
 have e:p.dW[i]? =some (p.dW.getD i []):=by
  rw[U2,D9 AY];rfl
 exact⟨e,h.srt p f _ (K4 e),h.sm p f _ (K4 e)⟩
noncomputable def sg (l:Up D3)(i:Nat)(n:Int):Up Int:=l.map λp=>if Bs (p.dW.getD i []) n then 1 else 0
def Dn (i:Nat)(b:Int)(j:Nat)(n:Int):Prop:=(-1099511627776<=n/\n<=1099511627776)/\(j<i\/(j=i/\n<b))
def Lx (j:Nat)(n:Int)(e:Nat)(h:Int):Prop:=j<e\/(j=e/\n<h)
def Asc (a:Up A6):Prop:=(∀x∈a,ZA x)/\a.Pairwise λx y=>x.dV<y.Low
structure Cls0 (types:Nat) (l:List D3) (B i k:Nat) (b:Int) (out:List D3) (W:List (List Int)):Prop where
 len:out.length=W.length
 nodup:W.Nodup
 bits:∀w∈W,∃j n,w=sg l j n
 sets:∀p∈out,p.dW.length=types
 cls:∀(c:Nat) p w (j:Nat) a,out[c]? =some p->W[c]? =some w->p.dW[j]? =some a->Asc a/\∀n,Bs a n<->Dn i b j n/\sg l j n=w
 cnt:∀(c:Nat) p (j:Nat) a,out[c]? =some p->p.dW[j]? =some a->(j≠i->a.length<=B)/\(j=i->a.length<=k)
structure Cls (types:Nat) (l:List D3) (B i k:Nat) (b:Int) (out:List D3) (W:List (List Int)):Prop extends Cls0 types l B i k b out W where
 occ:∀w∈W,∃j n,j<types/\Dn i b j n/\sg l j n=w
 cov:∀j n,j<types->Dn i b j n->sg l j n∈W
 ord:∀(c c':Nat) w w',c<c'->W[c]? =some w->W[c']? =some w'->∃j n,j<types/\Dn i b j n/\sg l j n=w/\∀j' n',j'<types->Dn i b j' n'->sg l j' n'=w'->Lx j n j' n'
def Asc.nil:Asc []:=⟨λx h=>(by cases h),.nil⟩
def Asc.empty {a:Up A6}(h:Asc a)(E:∀n,¬Bs a n):a=[]:=by
 cases a with
 |nil=>rfl
 |cons x a=>exact absurd (W2.2 (.inl ⟨T9 _,(h.1 x OC).2.1⟩)) (E x.Low)
theorem Asc.snoc {a:Up A6} {x:A6} (h:Asc a) (M:ZA x) (hl:∀n,Bs a n->n<x.Low):Asc (a++[x]):=by
 refine⟨λy I=>?_,List.pairwise_append.2 ⟨h.2,Vc _ _,λy I z Y=>?_⟩⟩
 ·rcases List.mem_append.1 I with I|I
  ·exact h.1 y I
  rw[List.mem_singleton.1 I];exact M
 rw[List.mem_singleton.1 Y];exact hl y.dV ⟨y,I,(h.1 y I).2.1,T9 _⟩
section
variable {types B i k:Nat}{l:List D3}{a b:Int}{out:List D3}{W:List (List Int)}
def Dn.mono {j:Nat}{n:Int}(h:Dn i a j n)(e:a<=b):Dn i b j n:=by grind[Dn]
theorem Dn.new {j:Nat}{n:Int}(h:Dn i b j n):Dn i a j n\/(j=i/\a<=n/\n<b):=by grind[Dn]
def Dn.lx {j e:Nat}{n n':Int}(h:Dn i a j n)(z:e=i)(E:a<=n'):Lx j n e n':=by grind[Lx,Dn]
def Cls.step (h:Cls types l B i k a out W) (U:i<types) (D:∀n,a<=n->n<b->sg l i n=sg l i a) (u: -1099511627776<=a) (q:a<b) (s:b<=1099511627777) {r:Up D3} {W':Up (Up Int)}
 (L:Cls0 types l B i (k+1) b r W') (f:(W'=W/\sg l i a∈W)\/(W'=W++[sg l i a]/\sg l i a∉W)):Cls types l B i (k+1) b r W':=by
 have t:Dn i b i a:=by grind[Dn]
 refine⟨L,λw m=>?_,λj n z E=>?_,λc c' w w' K m e=>?_⟩
 ·rcases f with⟨rfl,_⟩|⟨rfl,_⟩
  ·have⟨j,n,O,Z,T⟩:=h.occ w m
   grind[Dn]
  rcases List.mem_append.1 m with m|m
  ·have⟨j,n,O,Z,T⟩:=h.occ w m
   grind[Dn]
  grind
 ·rcases E.new (a:=a)with O|⟨rfl,O,Z⟩
  ·have:=h.cov j n z O
   grind
  grind
 have A:W[c]? =some w->W[c']? =some w'->∃j n,j<types/\Dn i b j n/\sg l j n=w/\∀v n',v<types->Dn i b v n'->sg l v n'=w'->Lx j n v n':=λm e=>by
  have⟨j,n,O,Z,T,C⟩:=h.ord c c' w w' K m e
  grind[Dn,Lx]
 rcases f with⟨rfl,_⟩|⟨rfl,y⟩
 ·simp_all
 have x:=(List.getElem?_eq_some_iff.1 e).1
 simp only[N1,Mb]at x
 have P:c<W.length:=AY
 rw[GA P]at m
 rcases R3 c' W.length with d|V
 ·rw[GA d]at e
  simp_all
 rw[GB V,show c'-W.length=0 by omega]at e
 simp at e
 subst e;have⟨j,n,O,Z,T⟩:=h.occ w (K4 m);refine⟨j,n,O,Z.mono AY,T,λv n' g o p=>?_⟩
 rcases o.new (a:=a)with H|⟨rfl,H,_⟩
 ·exact absurd (p▸h.cov v n' g H) y
 exact Z.lx rfl H
def Cls.next (h:Cls types l B i k 1099511627777 out W) (S:k<=B):Cls types l B (i+1) 0 (-1099511627776) out W:=by
 have e:∀j n,Dn i 1099511627777 j n<->Dn (i+1) (-1099511627776) j n:=λj n=>by grind[Dn]
 refine⟨⟨h.len,h.nodup,h.bits,h.sets,λc p w j s f m G=>?_,λc p j s f G=>?_⟩,λw m=>?_,λj n z E=>h.cov j n z ((e j n).2 E),λc c' w w' r m x=>?_⟩
 ·have⟨O,Z⟩:=h.cls c p w j s f m G
  simp_all
 ·have⟨O,Z⟩:=h.cnt c p j s f G;refine⟨λ_=>?_,λz=>?_⟩
  ·omega
  have v:c<W.length:=by rw[<-h.len];grind
  have⟨T,y⟩:=h.cls c p _ j s f (D9 v) G
  have:s=[]:=T.empty λn E=>by
   have:=((y n).1 E).1
   grind[Dn]
  rw[this];simp_all
 ·have⟨j,n,O,Z,T⟩:=h.occ w m
  grind
 have⟨j,n,O,Z,T,y⟩:=h.ord c c' w w' r m x
 grind
end
def bits:Nat->Up (Up Int)
 |0=>[[]]
 |n+1=>(bits n).map (0:: ·)++(bits n).map (1:: ·)
def Aa4 {α:Type}:∀{l m:Up α},l.Nodup->(∀x∈l,x∈m)->l.length<=m.length
 |[],m,_,_=>BK _
 |x::l,m,E,h=>by
  classical
  have M:=h x OC;have⟨O,Z⟩:=List.nodup_cons.1 E;have:=Aa4 (l:=l) (m:=m.erase x) Z λy I=>(List.mem_erase_of_ne (λe=>TQ)).2 (h y (by simp[I]))
  rw[List.length_erase_of_mem M]at this
  have:0<m.length:=UW M
  grind
def AA4:∀{a:Up A6},FT a->(Lm a).Pairwise (· < ·)
 |[],_=>by simp[Lm]
 | x::a,h=>by
  have ih:=AA4 h.2.2;have M:=h.1;have e:Lm (x::a)=x.Low::(x.dV+1)::Lm a:=rfl
  have U:∀m∈Lm a,x.dV+2<=m:=λm p=>by
   grind[FT,Lm]
  rw[e]
  grind[Lm]
def AN4 {a:Up A6} (h:FT a) {m:Int} (p:m∈Lm a):¬(Bs a m<->Bs a (m-1)):=by
 have⟨x,M,n⟩:=Nr.1 p;have e:=h.srt' x M
 have apart:∀y∈a,y=x\/y.dV+2<=x.Low\/x.dV+2<=y.Low:=λy I=>by
  clear n p e
  induction a with
  |nil=>cases M
  |cons z a ih=>
   grind[FT]
 grind[Bs]
def Ak2 {a:Up A6} {P:Int->Prop} {E:Up Int} (h:FT a) (e:∀n,Bs a n<->P n) (v:∀n,n∉E->(P n<->P (n-1))):2*a.length<=E.length:=by
 have r:(Lm a).Nodup:=(AA4 h).imp λh=>AY
 have:=Aa4 (l:=Lm a) (m:=E) r λm p=>by
  refine Classical.byContradiction λd=>AN4 h p ?_;rw[e,e];grind
 rwa[Yv]at this
end Go.Ab
namespace Go.Ab
open Classical
set_option maxRecDepth 100000
def Ms {a:Int}(h: -1000000000000000000<=a/\a<=1000000000000000000):neg .i64 a= -a:=(Bt (n:=0-a) AY AY).trans AY
def Wf {a b:Int}(h: -1000000000000000000<=a-b/\a-b<=1000000000000000000):Ar.ar .sub .i64 a b=a-b:=Bt (n:=a-b) AY AY
def BL8 {v:B2}(h:R5 v=0): -1099511627776<=v.Num/\v.Num<=1099511627776:=by
 grind[R5]
def BU7 {x:A8}(h:x.dT.length=2):∃a b,x.dT=[a,b]/\C4 x.dT 0=some a/\C4 x.dT 1=some b/\a∈x.dT/\b∈x.dT/\x.pre.length=1+a.pre.length+b.pre.length:=by
 rcases M:x.dT with _|⟨a,_|⟨b,_|⟨c,l⟩⟩⟩
 ·rw[M]at h;cases h
 ·rw[M]at h;cases h
 ·refine⟨a,b,rfl,rfl,rfl,OC,OC,?_⟩;rw[A8.pre_eq,M];grind[A8.pres]
 simp_all
def Cj9 {x:A8}(h:x.dT.length=1):∃a,x.dT=[a]/\C4 x.dT 0=some a/\a∈x.dT/\x.pre.length=1+a.pre.length:=by
 rcases M:x.dT with _|⟨a,_|⟨b,l⟩⟩
 ·rw[M]at h;cases h
 ·refine⟨a,rfl,rfl,OC,?_⟩;rw[A8.pre_eq,M];grind[A8.pres]
 simp_all
def SN {x a:A8}(h:a∈x.dT){P:A8->Prop}(e:∀y∈x.pre,P y):∀y∈a.pre,P y:=λy I=>e y (by rw[A8.pre_eq];grind[SF])
def Bn3 (l:Up A6):Prop:=l=[]\/∃x:A6,ZA x/\l=[x]
noncomputable def Eo (a b:Int):Int:=if Ar.ar .rem .i64 a b<0 then Ar.ar .sub .i64 (Ar.ar .quo .i64 a b) 1 else Ar.ar .quo .i64 a b
noncomputable def Qm (lo U:Int):Up A6:=if mn U 1099511627776<mx lo (-1099511627776)then[]else[⟨mx lo (-1099511627776),mn U 1099511627776⟩]
def Bb2 (lo U:Int):Bn3 (Qm lo U):=by
 unfold Qm
 by_cases h:mn U 1099511627776<mx lo (-1099511627776)
 ·rw[A2 h];exact .inl rfl
 rw[A1 h];refine .inr ⟨_,?_,rfl⟩
 rw[AK7,MP]at h
 grind[ZA,AK7,MP]
noncomputable def Aa5 (t b:Int):Up A6:=
 if 0<t then Qm (-1099511627776) (Eo b t)else if t<0 then Qm (neg .i64 (Eo b (neg .i64 t))) 1099511627776 else if 0<=b then[⟨-1099511627776,1099511627776⟩]else[]
def SW (t b:Int):Bn3 (Aa5 t b):=by
 unfold Aa5
 split
 ·exact Bb2 _ _
 split
 ·exact Bb2 _ _
 split
 ·exact .inr ⟨_,⟨Sz,Sz,Sz⟩,rfl⟩
 simp[Bn3]
def Ba4 {N:Nat}{a b:Int}(h:b≠0):Fe N a b=some (Eo a b):=by
 unfold Fe Eo
 have:IS (cmp .neq b 0)=some ():=by simp_all[IS,H7]
 rw[this];simp only[A4,B8,B3]
 grind
theorem YR {N:Nat}{a b:Int}:CI N a b=some (Qm a b):=by
 unfold CI Qm;simp only[N5,B3]
 grind
def Wu {N:Nat} {t p:Int} (o: -1000000<=t/\t<=1000000) (f: -1000000000000000<=p/\p<=1000000000000000):Cb N ⟨t,p⟩=some (Aa5 t (-p)):=by
 unfold Cb Aa5;simp only[N5,B8,Gv,B3];rw[Ms (a:=p) AY]
 by_cases O:0<t
 ·rw[A2 O,A2 O,Ba4 (N:=N) (show t≠0 by omega)]
  grind[YR]
 rw[A1 O,A1 O]
 by_cases Z:t<0
 ·rw[A2 Z,A2 Z,Ba4 (N:=N) (show neg .i64 t≠0 by rw[Ms AY];omega)]
  grind[YR]
 rw[A1 Z,A1 Z]
 grind[Eg]
def Ih (L:Up Int)(a:Up A6):Prop:=∀m,m≠ -1099511627776->m≠1099511627777->m∉L->(Bs a m<->Bs a (m-1))
def Ih.len {L:Up Int} {a:Up A6} (h:Ih L a) (X:FT a):2*a.length<=L.length+2:=by
 have:=Ak2 (E:= -1099511627776::1099511627777::L) X (λn=>GM) λn e=>by
  simp_all[Ih]
 omega
def Ih.comb {La Lb:Up Int}{a b c:Up A6}(u:Ih La a)(e:Ih Lb b)(f:Prop->Prop->Prop->Prop)(d:∀m,Bs c m<->f (Bs a m) (Bs b m) (-1099511627776<=m/\m<=1099511627776)):Ih (La++Lb) c:=λm O Z T=>by
 simp only[BU,not_or]at T
 rw[d,d,propext (u m O Z T.1),propext (e m O Z T.2),propext (show(-1099511627776<=m/\m<=1099511627776)<->(-1099511627776<=m-1/\m-1<=1099511627776) by omega)]
def Wg:Ih [] []:=λm _ _ _=>by simp[Kt]
def Bn3.ord {a:Up A6}(h:Bn3 a):FT a/\a.length<=1/\∃L,L.length<=2/\Ih L a:=by
 rcases h with rfl|⟨x,M,rfl⟩
 ·exact⟨trivial,OC,[],OC,Wg⟩
 refine⟨⟨M,(λ_ h=>by cases h),trivial⟩,OC,[x.Low,x.dV+1],OC,λm _ _ h=>?_⟩
 grind[Bs]
def Bc7:Bn3 [⟨-1099511627776,1099511627776⟩]:=.inr ⟨_,⟨Sz,Sz,Sz⟩,rfl⟩
def Bd4:Ih [] [⟨-1099511627776,1099511627776⟩]:=λm O Z _=>by
 rw[W2,W2];grind[Bs]
def Ob {a:Up A6}(h:FT a)(hl:a.length<=256):ck a=0:=AR0 (h.srt hl)
def Bw9 {N:Nat} {a b:Up A6} (u:ck a=0) (e:ck b=0) (hl:a.length+b.length<=100) (hN:100000<N):
 ∃r,Dz N a b=some (r,0)/\Cn (λn=>Bs a n/\¬Bs b n) r:=by
 have⟨r,O,Z,T⟩:=Qg (N:=N) (bel:=λv w=>FF N v w) (f:=λx y=>x&& !y) (λx y=>rfl) rfl u e hl AY (P:=λn=>Bs a n/\¬Bs b n) (λn x y h k=>by
  rw[<-h,<-k,G9,P9,EK])
 grind[Dz]
section
variable {N:Nat}(hN:TB N){La Lb:List Int}{a b:List A6}(oa:FT a)(ob:FT b)(sa:Ih La a)(sb:Ih Lb b)(hl:La.length+Lb.length<=90)
include hN oa ob sa sb hl
theorem Av4:∃r,Dz N a b=some (r,0)/\FT r/\Ih (La++Lb) r/\∀n,Bs r n<->Bs a n/\¬Bs b n:=by
 have e:=sa.len oa;have h:=sb.len ob;have⟨r,O,Z⟩:=Bw9 (N:=N) (Ob oa AY) (Ob ob AY) AY AY;exact⟨r,O,Z.1,sa.comb sb (λA B _=>A/\¬B) Z.2.2,Z.2.2⟩
end
def AI1 {N:Nat} {l:Up A8} {K:A8->OS (Up A6×Int)} {f:A8->Up A6} {g:A8->Bool} (h:∀a∈l,K a=some (if g a=true then(f a,0)else([],3))) (hl:l.length<=1000) (hN:1000<N):
 loopN (λ(n:(Up (Up A6))×Int)=>
       (
        if cmp .lss n.2 (Ar.len l)=true then
         (C4 l n.2).bind λv=>
         (K v).bind λr=>
         if cmp .neq r.2 0=true then
          some (.inr (.inr r.2))
         else
          (K2 n.1 ([r.1])).bind λe=>
          some (.inl (e,Ar.ar .add .i64 n.2 1))
        else
         some (.inr (.inl n.1))
        :OS (((Up (Up A6))×Int)⊕(((Up (Up A6)))⊕Int)))) N ([],0)=some (if l.all g=true then .inl (l.map f)else .inr 3):=by
 rw[R6 l AY (mk:=λ(s:List (List A6)) i=>(s,i)) (body:=λs a=>if g a=true then(K2 s [f a]).bind λe=>some (.inl e)else some (.inr (.inr 3))) (fin:=λs=>.inl s) (s:=[]) AY ?_ ?_]
 ·have key:∀(m:Up A8) (s:Up (Up A6)),s.length+m.length<=1000->E8 (λs a=>if g a=true then(K2 s [f a]).bind λe=>some (.inl e)else some (.inr (.inr 3:Up (Up A6)⊕Int))) m s=some (if m.all g=true then .inl (s++m.map f)else .inr (.inr 3)):=by
   intro m
   induction m with
   |nil=>simp[E8]
   |cons a m ih=>
    grind[E8,K2]
  rw[key l [] Pw]
  grind
 ·intro s i a u U;have p:=K4 u;have x:Ar.ar .add .i64 (i:Int) 1=i+1:=E6 AY AY;simp only[B8,A9,U,H8,B4,F3,u,A4,h a p,x]
  by_cases w:g a=true
  ·simp only[A2 w,show cmp .neq (0:Int) 0=false from rfl,D4,B6];cases K2 s [f a]<;>rfl
  simp only[A1 w,show cmp .neq (3:Int) 0=true from rfl,B4];rfl
 exact zco
def Ca8 (e:Int):(if cmp .eql e 7=true then some true else if cmp .eql e 8=true then some true else some (cmp .eql e 9):OS Bool)=some (decide (e=7\/e=8\/e=9)):=by
 by_cases a:e=7<;>by_cases b:e=8<;>by_cases c:e=9<;>simp[D8,a,b,c]
def Bs8 {own:Int}(h:0<=own/\own<16)(v:R9):∃l:Up R9,Z8 40000000 [v] (Ar.ar .add .i64 own 1)=some l:=by
 refine⟨List.replicate (own+1).toNat v,?_⟩
 have:own=0\/own=1\/own=2\/own=3\/own=4\/own=5\/own=6\/own=7\/own=8\/own=9\/own=10\/own=11\/own=12\/own=13\/own=14\/own=15:=AY
 rw[E6 AY AY]
 rcases this with rfl|rfl|rfl|rfl|rfl|rfl|rfl|rfl|rfl|rfl|rfl|rfl|rfl|rfl|rfl|rfl<;>(change _=_;kernel_rfl)
end Go.Ab
namespace Go.Ab
open Classical
noncomputable section
def hasP {N:Nat}(hN:TB N){s:Up A0}(hl:s.length<=1000000){f:A0->OS Bool}{P:A0->Bool}(q:∀x∈s,f x=some (P x)):Q9 N s f=some (s.any P):=by
 unfold Q9;rw[Uz s AY f P q AY];simp only[A4,O0]
 congr 1
 rw[AE,B3,DS]
 grind[Nw]
theorem VU (p:A0):(A0.pres p.dT).length+1=p.pre.length:=by rw[A0.pre_eq p];simp
def Au4 (f:A0->Bool):∀r:Up A0,(A0.pres r).all f=r.all λx=>x.pre.all f
 |[]=>rfl
 |a::r=>by simp only[A0.pres,List.all_append,Jf,Au4 f r]
def PG (y:A0):Bool:=decide (0<=y.Op/\y.Op<=4)
def Bu0 {N:Nat} (hN:TB N):∀(m:Nat) (p:A0),p.pre.length<=m->p.pre.length<=1000000->∀n,2*m<=n->AN N n p=some (p.pre.all PG):=by
 intro m
 induction m with
 |zero=>grind[VU]
 | succ m ih=>
  intro p h w n E;obtain⟨n,rfl⟩:∃k,n=k+1:=⟨n-1,AY⟩;have f:=VU p;have r:=DG p;unfold AN;rw[A0.pre_eq p,Jf,Au4]
  have e:((
   if cmp .eql p.Op 0=true then
    some true
   else
    if cmp .eql p.Op 1=true then
     some true
    else
     if cmp .eql p.Op 2=true then
      some true
     else
      if cmp .eql p.Op 3=true then
       some true
      else
       some (cmp .eql p.Op 4)
  ):OS (Bool))=some (PG p):=by
   unfold PG;simp only[D8,B3]
   by_cases L:p.Op=0
   ·rw[A2 L,L];rfl
   by_cases O:p.Op=1
   ·rw[A1 L,A2 O,O];rfl
   by_cases Z:p.Op=2
   ·rw[A1 L,A1 O,A2 Z,Z];rfl
   by_cases T:p.Op=3
   ·rw[A1 L,A1 O,A1 Z,A2 T,T];rfl
   rw[A1 L,A1 O,A1 Z,A1 T]
   congr 1
   rw[ON];omega
  rw[e];simp only[A4]
  by_cases G:PG p=true
  ·rw[A2 G,G,hasP hN AY (P:=λy=> !(y.pre.all PG)) λy I=>by
    have v:=W1 I;obtain⟨k,rfl⟩:∃k,n=k+1:=⟨n-1,AY⟩
    grind[BP,S4]]
   simp_all[S4,List.all_eq_not_any_not]
  simp_all
def AM6 (types:Up F6) (E:Up C5) (n:Int):Int×D1->OS ((Int×D1)⊕(D1⊕(Int×D1))):=λe=>
 (
  if cmp .lss e.1 (Ar.len E)=true then
   (C4 E e.1).bind λh=>
   (CJ 40000000 types h.Typ h.dU h.Var).bind λr=>
   if cmp .neq r.2 0=true then
    some (.inr (.inr (r.2,{e.2 with dY:=[]})))
   else
    ((
     if cmp .lss h.To 0=true then
      some n
     else
      some h.To
    ):OS (Int)).bind λw=>
    (K2 e.2.dX ([(⟨h.eA,w,r.1⟩:K7)])).bind λv=>
    some (.inl (Ar.ar .add .i64 e.1 1,{e.2 with dY:=[],dX:=v}))
  else
   some (.inr (.inl ({e.2 with dY:=[]})))
  :OS ((Int×D1)⊕(D1⊕(Int×D1))))
end
end Go.Ab
namespace Go.Ab
def AA9:∀{l:Up A8} {a:A8},a∈l->a.dep<=A8.deps l
 |b::l,a,h=>by
  simp only[A8.deps]
  rcases List.mem_cons.1 h with rfl|h
  ·exact Nat.le_max_left _ _
  exact U0 (AA9 h) (Nat.le_max_right _ _)
def Ad1:∀{l:Up A8} {a y:A8},a∈l->y∈a.pre->y∈A8.pres l
 |b::l,a,y,h,I=>by
  simp only[A8.pres,BU]
  rcases List.mem_cons.1 h with rfl|h
  ·exact .inl I
  exact .inr (Ad1 h I)
def Xy {α R:Type} {body:Unit->α->OS (Unit⊕R)} {p:α->Bool} {r:R}:∀{l:Up α},(∀x∈l,body () x=some (if p x=true then .inl ()else .inr r))->E8 body l ()=some (if l.all p=true then .inl ()else .inr r)
 |[],_=>rfl
 | x::l,h=>by
  unfold E8;rw[h x OC,Jf]
  by_cases M:p x=true
  ·rw[A2 M,M]
   dsimp only
   rw[Xy λy I=>h y (by simp[I])];rfl
  rw[A1 M]
  dsimp only
  rw[EK]at M
  rw[M];rfl
def BU2 {x:A8} (h:BJ x=0):(x.Op=1\/x.Op=4->0<=x.Field/\x.Field<8)/\(1<=x.Op/\x.Op<=4->0<=x.Var/\x.Var<16):=by
 have T:Ov x=false:=by
  cases r:Ov x with
  |false=>rfl
  |true=>
   exfalso
   unfold BJ at h
   by_cases a:x.Op<0\/12<x.Op
   ·rw[A2 a]at h;cases h
   rw[A1 a]at h
   by_cases b:(x.dT.length:Int)≠(if x.Op<5 then 0 else if x.Op=12 then 1 else 2)
   ·rw[A2 b]at h;cases h
   rw[A1 b,A2 r]at h
   cases h
 unfold Ov at T
 simp only[Q8,Q4,B8,O0,Pb,Ph,O2]at T
 have⟨j,q⟩:=T
 constructor
 ·intro e
  rcases q with q|q
  ·exfalso
   unfold AS1 at q
   rcases e with e|e<;>simp[e,D8,Q8]at q
  omega
 intro e
 rcases j with j|j
 ·exfalso
  have n:x.Op=1\/x.Op=2\/x.Op=3\/x.Op=4:=AY
  unfold AS0 at j
  rcases n with e|e|e|e<;>simp[e,D8,Q8]at j
 omega
end Go.Ab
namespace Go.Ab
noncomputable section
variable{N:Nat}{k:Int}{l:Up B2}{x:A8}
def Fv:B2:=⟨0,0,⟨#[]⟩⟩
def EY (k:Int)(v:B2):Int:=if R5 v≠0 then R5 v else if v.Kind=0\/(k≠1/\k≠2/\k≠3)then 0 else 9
def Ae6 (k:Int)(a b:B2):B2:=
 if k=1 then⟨0,Ar.ar .add .i64 a.Num b.Num,⟨#[]⟩⟩else if k=2 then⟨0,mn a.Num b.Num,⟨#[]⟩⟩else if k=3 then⟨0,mx a.Num b.Num,⟨#[]⟩⟩else if k=4 then a else if k=5 then b else Fv
def JY (k:Int)(v:B2):B2:=if k=0 then Fv else v
def Ld (k:Int):Up B2->B2
 |[]=>Fv
 |v::l=>l.foldl (λa b=>Ae6 k a (JY k b)) (JY k v)
def Cc1 (k:Int)(l:Up B2)(o:B2):B2×Int:=
 if k<0\/5<k then(Fv,1)else if 4096<l.length then(Fv,5)else if Ef (EY k) l≠0 then(Fv,Ef (EY k) l)else if EY k o≠0 then(Fv,EY k o)
 else if k=0 then(⟨0,l.length,⟨#[]⟩⟩,0)else if l=[]/\k≠1 then(o,0)else(Ld k l,0)
def WR (N:Nat)(k:Int)(v:B2):Cv N k v=some (decide (v.Kind=0\/(k≠1/\k≠2/\k≠3))):=by
 unfold Cv;simp only[Q8,Q4,D8,H7,E5]
 by_cases L:v.Kind=0<;>by_cases O:k=1<;>by_cases Z:k=2<;>by_cases T:k=3<;>simp[L,O,Z,T]
def Ao8 (N:Nat) (k:Int) (v:B2):Ao N k v=some (EY k v):=by
 unfold Ao EY;rw[Pu,WR];simp only[A4]
 by_cases h:R5 v=0
 ·rw[A1 (T4 h),A1 (show¬R5 v≠0 by simpa using h)]
  by_cases Z:v.Kind=0\/(k≠1/\k≠2/\k≠3)
  ·rw[A1 (by rw[S4,I8 Z];decide),A2 Z]
  rw[A2 (by rw[S4,CT Z];rfl),A1 Z]
 rw[A2 (As h),A2 h]
def Ao7{v:B2}(h:EY k v=0):R5 v=0/\(v.Kind=0\/(k≠1/\k≠2/\k≠3)):=by
 unfold EY at h
 split at h
 ·rename_i O;exact absurd h O
 rename_i O
 split at h
 ·rename_i Z;exact⟨by simpa using O,Z⟩
 cases h
def Mh{v:B2}(h:R5 v=0)(S:v.Kind=0):v.Text=⟨#[]⟩/\ -1099511627776<=v.Num/\v.Num<=1099511627776:=by
 unfold R5 at h
 rw[A2 (.inl S)]at h
 split at h
 ·cases h
 rename_i O
 split at h
 ·cases h
 rename_i Z;refine⟨by simpa using O,?_⟩
 simp only[S,true_and]at Z
 omega
def AV4{n:Int}(L: -1099511627776<=n)(O:n<=1099511627776):R5 ⟨0,n,⟨#[]⟩⟩=0:=by
 unfold R5;simp only[true_or,B4,ne_eq,Y2,B6];rw[A1 Ts]
structure Bc3 (k:Int) (n:Nat) (v:B2):Prop where
 c:k=0->v=Fv
 s:k=1->v.Kind=0/\v.Text=⟨#[]⟩/\ -(1099511627776*(n:Int))<=v.Num/\v.Num<=1099511627776*(n:Int)
 m:k=2\/k=3->R5 v=0/\v.Kind=0
 f:k=4\/k=5->R5 v=0
def BA2{v:B2}(h:EY k v=0):Bc3 k 1 (JY k v):=by
 have⟨O,Z⟩:=Ao7 h;unfold JY
 by_cases n:k=0
 ·rw[A2 n];exact⟨λ_=>rfl,AY,AY,AY⟩
 rw[A1 n];refine⟨AY,λe=>?_,λe=>⟨O,AY⟩,λ_=>O⟩
 have S:v.Kind=0:=AY
 have⟨a,b,c⟩:=Mh O S;exact⟨S,a,AY,AY⟩
def Bj7{n:Nat}{a v:B2}(u:Bc3 k n a)(E:n<=4096)(h:EY k v=0):Bc3 k (n+1) (Ae6 k a (JY k v)):=by
 have⟨O,Z⟩:=Ao7 h;unfold Ae6
 by_cases r:k=1
 ·rw[A2 r]
  have S:v.Kind=0:=AY
  have⟨_,b,c⟩:=Mh O S;have⟨_,_,d,e⟩:=u.s r;have t:JY k v=v:=A1 AY;rw[t];have e2:Ar.ar .add .i64 a.Num v.Num=a.Num+v.Num:=E6 AY AY;rw[e2];exact⟨AY,λ_=>⟨rfl,rfl,by simp only;omega,by simp only;omega⟩,AY,AY⟩
 rw[A1 r]
 by_cases w:k=2
 ·rw[A2 w]
  have S:v.Kind=0:=AY
  have⟨_,b,c⟩:=Mh O S;have⟨d,e⟩:=u.m (.inl w);have⟨_,K,P⟩:=Mh d e;have t:JY k v=v:=A1 AY;rw[t];refine⟨AY,AY,λ_=>⟨?_,rfl⟩,AY⟩
  show R5 ⟨0,if v.Num<a.Num then v.Num else a.Num,⟨#[]⟩⟩=0
  split<;>exact AV4 AY AY
 rw[A1 w]
 by_cases x:k=3
 ·rw[A2 x]
  have S:v.Kind=0:=AY
  have⟨_,b,c⟩:=Mh O S;have⟨d,e⟩:=u.m (.inr x);have⟨_,K,P⟩:=Mh d e;have t:JY k v=v:=A1 AY;rw[t];refine⟨AY,AY,λ_=>⟨?_,rfl⟩,AY⟩
  show R5 ⟨0,if a.Num<v.Num then v.Num else a.Num,⟨#[]⟩⟩=0
  split<;>exact AV4 AY AY
 rw[A1 x]
 by_cases y:k=4
 ·rw[A2 y];exact⟨AY,AY,AY,λ_=>u.f (.inl y)⟩
 rw[A1 y]
 by_cases H:k=5
 ·rw[A2 H];have t:JY k v=v:=A1 AY;rw[t];exact⟨AY,AY,AY,λ_=>O⟩
 rw[A1 H];exact⟨λ_=>rfl,AY,AY,AY⟩
def AO9(L:0<=k)(e:k<=5)(a b:B2):EH N k a b=some (Ae6 k a b):=by
 have h:k=0\/k=1\/k=2\/k=3\/k=4\/k=5:=AY
 rcases h with rfl|rfl|rfl|rfl|rfl|rfl<;>rfl
def Be3 (N:Nat)(k:Int)(v:B2):FN N k v=some (JY k v):=by
 unfold FN JY;rw[D8]
 by_cases h:k=0
 ·rw[A2 (I8 h),A2 h];rfl
 rw[A1 (by simpa using h),A1 h]
def Ig (k:Int)(l:Up B2):I6:=⟨k,l.length,Ld k l⟩
def Yo (k:Int)(l:Up B2)(v:B2):Ld k (l++[v])=if l=[]then JY k v else Ae6 k (Ld k l) (JY k v):=by
 cases l with
 |nil=>rfl
 |cons a l=>simp[Ld,List.foldl_append]
def BH5(L:0<=k)(h:k<=5)(l:Up B2)(hl:l.length<=4096)(v:B2):Aj N (Ig k l) v k=some (Ig k (l++[v])):=by
 unfold Aj;rw[Be3];simp only[A4];unfold IK;rw[D8,D8]
 have e:Ig k (l++[v])=⟨k,(l.length:Int)+1,if l=[]then JY k v else Ae6 k (Ld k l) (JY k v)⟩:=by
  unfold Ig;rw[Yo];simp
 rw[e]
 cases l with
 |nil=>rfl
 | cons a l=>
  have d:¬(decide ((Ig k (a::l)).Count=0)=true):=by
   show¬decide (((a::l).length:Int)=0)=true
   simp only[K8,B3];omega
  rw[A1 d,A1 OC]
  show((EH N k (Ld k (a::l)) (JY k v)).bind _).bind _=_
  rw[AO9 L h];simp only[A4,Ig,reduceCtorEq,B6];rw[E6 (by simp at hl ⊢;omega) (by simp at hl ⊢;omega)]
def Az0:∀(n:Nat) {l:Up B2},l.length=n->l≠[]->l.length<=4096->(∀v∈l,EY k v=0)->Bc3 k l.length (Ld k l):=by
 intro n
 induction n with
 |zero=>intro l L h;exact absurd (GC L) h
 |succ n ih=>
  intro l L h E j
  rcases EO l with rfl|⟨q,v,rfl⟩
  ·exact absurd rfl h
  rw[EN]at *
  rw[Yo,N1];have m:=j v OC
  simp only[N1,K8,BV]at E L
  by_cases h:q=[]
  ·subst h;rw[A2 rfl];exact BA2 m
  rw[A1 h];exact Bj7 (ih AY h AY λx M=>j x (by simp[M])) AY m
def AE4(L:0<=k)(P:k<=5)(hl:l.length<=4096)(j:∀v∈l,EY k v=0):Gw N (Ig k l)=some 0:=by
 unfold Gw El;simp only[A4]
 have t:¬(nt (an (cmp .geq (Ig k l).Kind 0) (cmp .leq (Ig k l).Kind 5))=true):=by
  show¬((!(decide (0<=k)&&decide (k<=5)))=true)
  simp;omega
 have e2:¬(Ar.or (cmp .lss (Ig k l).Count 0) (cmp .gtr (Ig k l).Count 4096)=true):=by
  show¬((decide ((l.length:Int)<0)||decide (4096<(l.length:Int)))=true)
  simp;omega
 rw[A1 t,A1 e2]
 by_cases Y:l=[]\/k=0
 ·have n:Ar.or (cmp .eql (Ig k l).Count 0) (cmp .eql (Ig k l).Kind 0)=true:=by
   show(decide ((l.length:Int)=0)||decide (k=0))=true
   rcases Y with rfl|h
   ·rfl
   simp[h]
  have e4:(Ig k l).Value=Fv:=by
   by_cases E:l=[]
   ·subst E;rfl
   exact(Az0 _ rfl E hl j).c (Y.resolve_left E)
  rw[A2 n,e4];exact A1 (by simp[S4,Q4,D8,Hp,Fv])
 have E:l≠[]:=λh=>Y (.inl h);have S:k≠0:=λh=>Y (.inr h);have y:l.length≠0:=λh=>E (GC h)
 have n:¬(Ar.or (cmp .eql (Ig k l).Count 0) (cmp .eql (Ig k l).Kind 0)=true):=by
  show¬((decide ((l.length:Int)=0)||decide (k=0))=true)
  simp[S,E]
 rw[A1 n];have g:=Az0 _ rfl E hl j
 by_cases x:k=1
 ·rw[A2 (show cmp .eql (Ig k l).Kind 1=true from I8 x)];have⟨a,b,c,d⟩:=g.s x;have ev:(Ig k l).Value=Ld k l:=rfl;have H:(Ig k l).Count=(l.length:Int):=rfl;have em:Ar.ar .mul .i64 (l.length:Int) 1099511627776=(l.length:Int)*1099511627776:=Bt AY AY
  have K:neg .i64 ((l.length:Int)*1099511627776)= - ((l.length:Int)*1099511627776):=by
   show IntKind.wrap .i64 (0-(l.length:Int)*1099511627776)=_
   rw[Bt AY AY];omega
  rw[ev,H,em,K];rw[A1];simp only[S4,Q4,D8,O0,Gv,Hp];rw[I8 a,I8 b,I8 (show -((l.length:Int)*1099511627776)<=(Ld k l).Num by omega),I8 (show(Ld k l).Num<=(l.length:Int)*1099511627776 by omega)]
  decide
 rw[A1 (show¬(cmp .eql (Ig k l).Kind 1=true)from(by show¬decide (k=1)=true;simpa using x))]
 have w:R5 (Ld k l)=0:=by
  by_cases e:k=2\/k=3
  ·exact(g.m e).1
  exact g.f AY
 have r:(Ld k l).Kind=0\/(k≠1/\k≠2/\k≠3):=by
  by_cases e:k=2\/k=3
  ·exact .inl (g.m e).2
  exact .inr AY
 show((BL N (Ld k l)).bind _)=_
 rw[Pu,w];simp only[A4];rw[A2 (show cmp .eql 0 0=true from rfl)]
 show((Cv N k (Ld k l)).bind _)=_
 rw[WR,I8 r];rfl
def Cc0(hN:TB N)(k:Int)(hl:l.length<1000000)(o:B2):Kz N k l o=some (Cc1 k l o):=by
 unfold Kz Cc1 El;simp only[A4]
 by_cases L:k<0\/5<k
 ·rw[A2 (by show(!(decide (0<=k)&&decide (k<=5)))=true;simp;omega),A2 L];rfl
 rw[A1 (by show¬((!(decide (0<=k)&&decide (k<=5)))=true);simp;omega),A1 L]
 by_cases O:4096<l.length
 ·rw[A2 (HF (by rw[A9];omega)),A2 O];rfl
 rw[A1 (Ek (by rw[A9];omega)),A1 O];rw[R6 l AY (mk:=λ(_:Unit) i=>i) (body:=Mi λv=>Ao N k v) (fin:=λ_=>.inl ()) (s:=()) AY ?_ ?_]
 ·rw [IT (f:=EY k) λv _=>Ao8 N k v]
  by_cases Z:Ef (EY k) l=0
  ·rw [A2 Z,A1 (show¬Ef (EY k) l≠0 by simpa using Z)];have j:=II.1 Z;simp only[A4]
   have q:S9 N (⟨k,0,⟨0,0,⟨#[]⟩⟩⟩:I6) l (λK P=>Aj N K P k)=some (Ig k l):=by
    unfold S9;rw[R6 l AY (mk:=λ(s:I6) i=>(i,s)) (body:=λs v=>(Aj N s v k).bind λr=>some (.inl r)) (fin:=λs=>s) (s:=⟨k,0,⟨0,0,⟨#[]⟩⟩⟩) AY ?_ ?_]
    ·have⟨V,y,p,x,H⟩:=Dv (R:=I6) (step:=λs v=>(Aj N s v k).bind λr=>some (.inl r)) (λr s=>∃p,p++r=l/\s=Ig k p) (λv r s ⟨p,t,e2⟩=>by
      subst e2
      refine⟨_,by rw[BH5 AY AY p (by have:=J8 List.length t;simp at this;omega)];rfl,p++[v],by simpa using t,rfl⟩) (l:=l) (s:=⟨k,0,⟨0,0,⟨#[]⟩⟩⟩) ⟨[],rfl,rfl⟩
     simp only[y,A4]
     rw[F2]at x
     rw[H,x]
    ·intro s i a u U;have e:Ar.ar .add .i64 (i:Int) 1=i+1:=E6 AY AY;simp only[B8,A9,U,H8,B4,F3,u,A4,e];cases Aj N s a k<;>rfl
    exact Kk
   rw[q];simp only[A4];unfold IL;rw[AE4 AY AY AY j];simp only[A4];rw[A1 (show¬(cmp .neq 0 0=true) by decide)]
   show((Ao N k o).bind _).bind _=_
   rw[Ao8];simp only[A4]
   by_cases T:EY k o=0
   ·rw[A1 (T4 T),A1 (show¬EY k o≠0 by simpa using T)]
    by_cases w:k=0
    ·rw[A2 (show cmp .eql (Ig k l).Kind 0=true from I8 w),A2 w];rfl
    rw[A1 (show¬(cmp .eql (Ig k l).Kind 0=true)from(by show¬decide (k=0)=true;simpa using w)),A1 w]
    by_cases n:l=[]/\k≠1
    ·rw[A2 (show an (cmp .eql (Ig k l).Count 0) (cmp .neq (Ig k l).Kind 1)=true by show(decide ((l.length:Int)=0)&& !decide (k=1))=true;simp[n.1,n.2]),A2 n];rfl
    rw[A1 (show¬(an (cmp .eql (Ig k l).Count 0) (cmp .neq (Ig k l).Kind 1)=true) by show¬((decide ((l.length:Int)=0)&& !decide (k=1))=true);simpa using n),A1 n];rfl
   rw[A2 (As T),A2 T];rfl
  rw[A1 Z,A2 Z];rfl
 ·intro s i a u U;have e:Ar.ar .add .i64 (i:Int) 1=i+1:=E6 AY AY;simp only[B8,A9,U,H8,B4,F3,u,A4,e,Mi,H7]
  cases Ao N k a with
  |none=>rfl
  |some r=>by_cases h:r=0<;>simp[h]
 exact Kk
def Sb (e:LA)(v:Int):Up B0:=if v<0\/(e.eK.length:Int)<=v then[]else e.eK.getD v.toNat []
def JS (e:B0)(k:Int):B2×Int:=if(e.Values.length:Int)<=k then(Fv,6)else(e.Values.getD k.toNat Fv,0)
def AG9 (h:Up B0)(x:A8):B2×Int:=
 if(h.all λe=>decide (x.Field<(e.Values.length:Int)))=true then Cc1 x.Kind (h.map λe=>e.Values.getD x.Field.toNat Fv) x.Value else(Fv,6)
def XX (e:Up B0)(own:Int)(ev:B0)(v:Int):OS B0:=if v≠own then e.getLast? else some ev
def Bt1 (y:B0)(x:A8):B2×Int:=
 if x.Op=2 then(⟨0,y.Time,⟨#[]⟩⟩,0)else if(JS y x.Field).2≠0 then(Fv,(JS y x.Field).2)else if R5 (JS y x.Field).1≠0 then(Fv,R5 (JS y x.Field).1)else((JS y x.Field).1,0)
def Qa (e:LA)(own:Int)(ev:B0)(x:A8):B2×Int:=
 if x.Op=0 then(x.Value,0)else if x.Op=3 then(⟨0,(Sb e x.Var).length,⟨#[]⟩⟩,0)else if x.Op=4 then AG9 (Sb e x.Var) x
 else match XX (Sb e x.Var) own ev x.Var with|none=>(Fv,10)|some y=>Bt1 y x
def UL(M:BJ x=0):0<=x.Op/\x.Op<=12/\(x.dT.length:Int)=(if x.Op<5 then 0 else if x.Op=12 then 1 else 2):=by
 unfold BJ at M
 by_cases O:x.Op<0\/12<x.Op
 ·rw[A2 O]at M;cases M
 rw[A1 O]at M
 by_cases Z:(x.dT.length:Int)≠(if x.Op<5 then 0 else if x.Op=12 then 1 else 2)
 ·rw[A2 Z]at M;cases M
 exact⟨AY,AY,by simpa using Z⟩
def Xk (e:LA):Prop:=e.eK.length<1000000/\∀l∈e.eK,l.length<1000000
def Ba0{e:LA}(h:Xk e)(v:Int):(Sb e v).length<1000000:=by
 unfold Sb
 split
 ·simp
 rename_i j
 have U:v.toNat<e.eK.length:=AY
 rw[U2,D9 U];exact h.2 _ (I9 U)
def VF (N:Nat)(e:LA)(own:Int)(ev:B0)(u:Unit)(v:Int):Az N ⟨e,own,ev,u⟩ v=some (Sb e v):=by
 unfold Az Sb
 by_cases h:v<0\/(e.eK.length:Int)<=v
 ·rw[A2 (by simp only[Q8,B8,O0,A9];simpa using h),A2 h]
 rw[A1 (by simp only[Q8,B8,O0,A9];simpa using h),A1 h]
 have U:v.toNat<e.eK.length:=AY
 have j:v=(v.toNat:Int):=AY
 rw[j,F3];simp only[U2,Z5,D9 U,A4,CV]
def Ys(N:Nat)(e:B0)(S:0<=k):Fi N e k=some (JS e k):=by
 unfold Fi JS
 by_cases h:(e.Values.length:Int)<=k
 ·rw[A2 (by rw[O0,A9];exact I8 h),A2 h];rfl
 rw[A1 (by rw[O0,A9];simpa using h),A1 h]
 have U:k.toNat<e.Values.length:=AY
 have j:k=(k.toNat:Int):=AY
 rw[j,F3];simp only[U2,Z5,D9 U,A4,CV]
def Xx {α β R:Type} {body:Up β->α->OS (Up β⊕R)} {p:α->Bool} {g:α->β} {r:R}:∀{l:Up α} {s:Up β},s.length+l.length<=1000000->(∀(s:Up β) x,x∈l->s.length<=1000000->body s x=some (if p x=true then .inl (s++[g x])else .inr r))->
 E8 body l s=some (if l.all p=true then .inl (s++l.map g)else .inr r)
 |[],s,_,_=>by simp[E8]
 |x::l,s,hl,h=>by
  simp only[E8,h s x OC (by simp at hl;omega)]
  by_cases f:p x=true
  ·simp only[f,B4];rw[Xx (by simp at hl ⊢;omega) λs y I=>h s y (by simp[I])];simp[f]
  simp[f]
def AN0(hN:TB N){n:LA}(R:Xk n)(own:Int)(ev:B0)(u:Unit)(q:0<=x.Field):CN N ⟨n,own,ev,u⟩ x=some (AG9 (Sb n x.Var) x):=by
 have hl:=Ba0 R x.Var;unfold CN AG9;rw[VF];simp only[A4]
 generalize Sb n x.Var=rows at hl
 rw[R6 rows AY (mk:=λ(s:List B2) i=>(s,i)) (body:=λs e=>(Fi N e x.Field).bind λr=>if cmp .neq r.2 0=true then some (.inr (.inr r.2))else(K2 s [r.1]).bind λl=>some (.inl l)) (fin:=λs=>.inl s) (s:=[]) AY ?_ ?_]
 ·rw[Xx (p:=λe=>decide (x.Field<(e.Values.length:Int))) (g:=λe=>e.Values.getD x.Field.toNat Fv) (r:=.inr 6) Ts (λs e _ G=>by
   rw[Ys N e q];unfold JS
   by_cases h:(e.Values.length:Int)<=x.Field
   ·rw[A2 h,A1 (by simpa using h)];rfl
   rw[A1 h,A2 (by simpa using h)];simp only[A4]
   rw[A1 Sz,T6 Ts];rfl)]
  by_cases h:(rows.all λe=>decide (x.Field<(e.Values.length:Int)))=true
  ·rw[A2 h,A2 h];simp only[A4,K3];rw[Cc0 hN _ (by simpa using hl)];rfl
  rw[A1 h,A1 h];rfl
 ·intro s i a v U;have e:Ar.ar .add .i64 (i:Int) 1=i+1:=E6 AY AY;simp only[B8,A9,U,H8,B4,F3,v,A4,e]
  cases Fi N a x.Field with
  |none=>rfl
  |some r=>
   simp only[A4]
   split
   ·rfl
   cases K2 s [r.1]<;>rfl
 exact Kk
def Bk9(hN:TB N){e:LA}(R:Xk e)(own:Int)(ev:B0)(u:Unit)(M:BJ x=0)(c:x.dT=[]):Dk N ⟨e,own,ev,u⟩ x=some (Qa e own ev x):=by
 have r:=BU2 M
 have f:0<=x.Op/\x.Op<5:=by
  have:=UL M
  rw[c]at this
  simp only[BV]at this
  have⟨O,Z,T⟩:=this
  by_cases K:x.Op<5
  ·exact⟨O,K⟩
  rw[A1 K]at T
  split at T<;>omega
 have hl:=Ba0 R x.Var;unfold Dk Qa;rw[VF];simp only[A4]
 by_cases L:x.Op=0
 ·rw[A2 (by rw[D8];exact I8 L),A2 L]
 rw[A1 (by rw[D8];simpa using L),A1 L]
 by_cases T:x.Op=3
 ·rw[A2 (by rw[D8];exact I8 T),A2 T];rfl
 rw[A1 (by rw[D8];simpa using T),A1 T]
 by_cases h:x.Op=4
 ·rw[A2 (by rw[D8];exact I8 h),A2 h,AN0 hN R own ev u (r.1 (.inr h)).1];rfl
 rw[A1 (by rw[D8];simpa using h),A1 h]
 have key:((if cmp .neq x.Var own=true then if cmp .eql (Ar.len (Sb e x.Var)) 0=true then some (.inr ())else(C4 (Sb e x.Var) (Ar.ar .sub .i64 (Ar.len (Sb e x.Var)) 1)).bind λm=>some (.inl m)else some (.inl ev)):OS (B0⊕Unit))=some (match XX (Sb e x.Var) own ev x.Var with|some y=>.inl y|none=>.inr ()):=by
  unfold XX
  by_cases j:x.Var=own
  ·rw[A1 (T4 j),A1 (by simpa using j)]
  rw[A2 (As j),A2 j]
  generalize Sb e x.Var=rows at hl
  rcases EO rows with rfl|⟨q,y,rfl⟩
  ·rfl
  rw[EN]at *
  have t:Ar.ar .sub .i64 (Ar.len (q++[y])) 1=(q.length:Int):=by
   have:Ar.ar .sub .i64 (Ar.len (q++[y])) 1=Ar.len (q++[y])-1:=Bt (by rw[A9];omega) (by rw[A9];omega);rw[this,A9];simp
  rw[A1 (by rw[D8,A9];simp;omega),t,F3];simp
 have v:=J8 (λo=>o.bind λg=>match g with
  | .inl V=>
   if cmp .eql x.Op 2=true then
    some ((⟨0,V.Time,⟨#[]⟩⟩:B2),(0:Int))
   else
    (Fi N V x.Field).bind λw=>
    ((
     if cmp .eql w.2 0=true then
      (BL N w.1).bind λH=>
      some H
     else
      some w.2
    ):OS (Int)).bind λP=>
    if cmp .neq P 0=true then
     some ((⟨0,0,⟨#[]⟩⟩:B2),P)
    else
     some (w.1,0)
  | .inr p=>
   some ((⟨0,0,⟨#[]⟩⟩:B2),10)) key
 refine v.trans ?_
 cases I:XX (Sb e x.Var) own ev x.Var with
 |none=>rfl
 | some y=>
  simp only[A4];unfold Bt1
  by_cases Z:x.Op=2
  ·rw[A2 (by rw[D8];exact I8 Z),A2 Z]
  rw[A1 (by rw[D8];simpa using Z),A1 Z]
  have O:x.Op=1:=AY
  rw[Ys N y (r.1 (.inl O)).1];simp only[A4]
  by_cases n:(JS y x.Field).2=0
  ·rw[A2 (by rw[D8];exact I8 n),Pu,A1 (by simpa using n)];simp only[A4]
   by_cases d:R5 (JS y x.Field).1=0
   ·rw[A1 (T4 d),A1 (by simpa using d)]
   rw[A2 (As d),A2 d];rfl
  rw[A1 (by rw[D8];simpa using n),A2 n];simp only[A4];rw[A2 (As n)];rfl
def DR (b:Bool):B2:=if b=true then⟨1,1,⟨#[]⟩⟩else⟨1,0,⟨#[]⟩⟩
def Ya (e:Int)(h:Up Int)(k:Int):Bool:=
 if e=5\/e=6\/e=7\/e=8 then decide (k=0)else if e=10\/e=11\/e=12 then decide (k=1)else if e=9 then decide (k=h.getD 0 0)else true
def JZ (h:Int)(e:Up Int):Int:=if e.all (Ya h e)=true then 0 else 9
instance (x y:B2):Decidable (x=y):=by
 have⟨a,b,c⟩:=x;have⟨d,e,f⟩:=y;exact decidable_of_iff (a=d/\b=e/\c=f) OC
def JU (e:Int)(l:Up B2):B2:=
 let a:=l.getD 0 Fv
 let b:=l.getD (l.length-1) Fv
 if e=9 then DR (decide (a=l.getD 1 Fv))else if e=5 then⟨0,Ar.ar .add .i64 a.Num b.Num,⟨#[]⟩⟩else if e=6 then⟨0,Ar.ar .sub .i64 a.Num b.Num,⟨#[]⟩⟩
 else if e=7 then DR (decide (a.Num<b.Num))else if e=8 then DR (decide (a.Num<=b.Num))else if e=10 then DR (decide (a.Num=1)&&decide (b.Num=1))else if e=11 then DR (decide (a.Num=1)||decide (b.Num=1))else DR (!decide (a.Num=1))
mutual
def Fj (R:A8->B2×Int):A8->B2×Int
 |⟨h,args,var,field,e,n⟩=>
  if args.length=0 then R ⟨h,args,var,field,e,n⟩else
  match HR R args with
  | .inr f=>(Fv,f)
  | .inl l=>if JZ h (l.map (·.Kind))≠0 then(Fv,JZ h (l.map (·.Kind)))else(JU h l,0)
def HR (R:A8->B2×Int):Up A8->Up B2⊕Int
 |[]=>.inl []
 |a::r=>if(Fj R a).2≠0 then .inr (Fj R a).2 else match HR R r with| .inr f=>.inr f| .inl l=>.inl ((Fj R a).1::l)
end
def Ny (R:A8->B2×Int)(x:A8):Fj R x=if x.dT.length=0 then R x else
 match HR R x.dT with
 | .inr f=>(Fv,f)
 | .inl l=>if JZ x.Op (l.map (·.Kind))≠0 then(Fv,JZ x.Op (l.map (·.Kind)))else(JU x.Op l,0):=by cases x;simp only[Fj]
def Yt {R:A8->B2×Int}:∀{l:Up A8} {r:Up B2},HR R l= .inl r->r.length=l.length
 |[],r,h=>by simp only[HR,Sum.inl.injEq]at h;subst h;rfl
 |a::l,r,h=>by
  simp only[HR]at h
  split at h
  ·cases h
  cases Q:HR R l with
  |inr f=>rw[Q]at h;cases h
  |inl q=>rw[Q]at h;simp only[Sum.inl.injEq]at h;subst h;simp[Yt Q]
def Al2 (N:Nat)(b:Bool):Ev N b=some (DR b):=by
 unfold Ev Rs DR;cases b<;>rfl
def Tr(hN:TB N)(v:Int){n:Up Int}(hl:n.length<1000000):Eu N v n=some (JZ v n):=by
 unfold Eu JZ;rw[R6 n AY (mk:=λ(_:Unit) i=>i) (body:=λ_ k=>some (if Ya v n k=true then .inl ()else .inr (.inr ()))) (fin:=λ_=>.inl ()) (s:=()) AY ?_ ?_]
 ·rw[Xy (p:=Ya v n) (r:=.inr ()) λx _=>rfl]
  by_cases h:n.all (Ya v n)=true
  ·rw[A2 h,A2 h];rfl
  rw[A1 h,A1 h];rfl
 ·intro s i k S U;have e:Ar.ar .add .i64 (i:Int) 1=i+1:=E6 AY AY
  have L:C4 n 0=some (n.getD 0 0):=by
   have:C4 n 0=n[0]? :=F3 (i:=0);rw[this,U2,D9 AY];rfl
  simp only[B8,A9,U,H8,B4,F3,S,A4,e,D8,L,S4];unfold Ya
  by_cases K:v=5
  ·subst K;exact zcl
  by_cases P:v=6
  ·subst P;exact zcl
  by_cases V:v=7
  ·subst V;exact zcl
  by_cases c:v=8
  ·subst c;exact zcl
  by_cases w:v=10
  ·subst w;by_cases Y:k=1<;>simp[Y]
  by_cases y:v=11
  ·subst y;by_cases Y:k=1<;>simp[Y]
  by_cases H:v=12
  ·subst H;by_cases Y:k=1<;>simp[Y]
  by_cases d:v=9
  ·subst d;generalize n.getD 0 0=z
   by_cases Y:k=z<;>simp[Y]
  simp[K,P,V,c,d,w,y,H]
 exact Kk
def Vu {α:Type} {F:A8->OS (B2×Int)} {R:A8->B2×Int}:∀{l:Up A8} {s:Up B2×Up Int},s.2=s.1.map (·.Kind)->s.1.length+l.length<=1000000->(∀a∈l,F a=some (Fj R a))->
 E8 (λ(s:Up B2×Up Int) a=>(F a).bind λe=>if cmp .neq e.2 0=true then some (Sum.inr (Sum.inr (α:=α) e.2))else(K2 s.1 [e.1]).bind λw=>(K2 s.2 [e.1.Kind]).bind λn=>some (.inl (w,n))) l s=
  some (match HR R l with| .inr f=>.inr (.inr f)| .inl q=>.inl (s.1++q,(s.1++q).map (·.Kind)))
 |[],s,h,_,_=>by have⟨a,b⟩:=s;dsimp only at h;subst h;simp[E8,HR]
 | a::l,s,h,hl,r=>by
  have⟨A,x⟩:=s
  dsimp only at h;subst h
  simp only[K8]at hl
  simp only[E8,HR,r a OC,A4,H7]
  by_cases Y:(Fj R a).2=0
  ·simp only[Y,H8,W3,D4,B6,ne_eq,Y2];rw[T6 Ts,T6 Ts];simp only[A4];have ih:=Vu (α:=α) (F:=F) (R:=R) (l:=l) (s:=(A++[(Fj R a).1],A.map (·.Kind)++[(Fj R a).1.Kind])) OC Ts λb v=>r b (by simp[v])
   simp only[H7]at ih
   rw[ih]
   cases HR R l with
   |inr f=>rfl
   |inl q=>simp
  simp[Y]
def Yi{i:Nat}(h:i<l.length):l[i]? =some (l.getD i Fv):=by
 rw[U2,D9 h];rfl
def Bl2(hN:TB N){H:LA}(F:Xk H)(own:Int)(ev:B0)(u:Unit):∀(n:Nat) (x:A8),x.dep<=n->x.bulk<=16777216->(∀y∈x.pre,BJ y=0)->R0 N n ⟨H,own,ev,u⟩ x=some (Fj (Qa H own ev) x):=by
 intro n
 induction n with
 |zero=>intro x h;rw[A8.dep_eq]at h;omega
 | succ n ih=>
  intro x hd S K;have M:=K x (by rw[A8.pre_eq];simp);have E:=A8.dep_eq x;unfold R0;rw[Ny]
  by_cases L:x.dT.length=0
  ·rw[A2 (by rw[D8,A9];exact I8 AY),A2 L,Bk9 hN F own ev u M (GC L)];rfl
  rw[A1 (by rw[D8,A9];simpa using(show¬(x.dT.length:Int)=0 by omega)),A1 L];have⟨O,Q,d⟩:=UL M
  have z:x.dT.length<=2:=by
   split at d
   ·omega
   split at d<;>omega
  have A:5<=x.Op:=by
   by_cases C:x.Op<5
   ·rw[A2 C]at d;omega
   omega
  have D:∀a∈x.dT,R0 N n ⟨H,own,ev,u⟩ a=some (Fj (Qa H own ev) a):=λa P=>ih a (by have:=AA9 P;omega) (by have:=Ag P;omega) λy I=>K y (by rw[A8.pre_eq];exact M1 _ (Ad1 P I));rw[R6 x.dT AY (mk:=λ(s:List B2×List Int) i=>(s.1,s.2,i)) (body:=λ(s:List B2×List Int) a=>(R0 N n ⟨H,own,ev,u⟩ a).bind λj=>if cmp .neq j.2 0=true then some (.inr (.inr j.2))else(K2 s.1 [j.1]).bind λJ=>(K2 s.2 [j.1.Kind]).bind λt=>some (.inl (J,t))) (fin:=λs=>.inl s) (s:=([],[])) AY ?_ ?_]
  ·rw [Vu (R:=Qa H own ev) rfl Ts D]
   cases c:HR (Qa H own ev) x.dT with
   |inr f=>rfl
   | inl q=>
    simp only[A4,K3];have G:=Yt c;rw[Tr hN _ Ts];simp only[A4]
    by_cases Y:JZ x.Op (q.map (·.Kind))=0
    ·rw[A1 (T4 Y),A1 (show¬JZ x.Op (q.map (·.Kind))≠0 by simpa using Y)]
     have V:C4 q 0=some (q.getD 0 Fv):=by
      have:C4 q 0=q[0]? :=F3 (i:=0);rw[this,Yi AY]
     have o:C4 q (Ar.ar .sub .i64 (Ar.len q) 1)=some (q.getD (q.length-1) Fv):=by
      have e:Ar.ar .sub .i64 (Ar.len q) 1=((q.length-1:Nat):Int):=by
       have:Ar.ar .sub .i64 (Ar.len q) 1=Ar.len q-1:=Bt (by rw[A9];omega) (by rw[A9];omega);rw[this,A9];omega
      rw[e,F3,Yi AY]
     unfold JU
     by_cases g:x.Op=9
     ·rw[A2 (by rw[D8];exact I8 g)]
      have Z:x.dT.length=2:=by rw[A1 AY,A1 AY]at d;omega
      have m:C4 q 1=some (q.getD 1 Fv):=by
       have:C4 q 1=q[1]? :=F3 (i:=1);rw[this,Yi AY]
      rw[V,m];simp only[A4];rw[Al2];simp only[A4,g,B4,E5,LL,P7]
      congr 1
      generalize q.getD 0 Fv=v;generalize q.getD 1 Fv=w;have⟨T,X,v3⟩:=v;have⟨w1,w2,w3⟩:=w;simp only[Q4,D8,Hp,B2.mk.injEq,Je,Bool.decide_and]
     rw[A1 (by rw[D8];simpa using g)];rw[V,o];simp only[A4,Bf,HQ,HP,HN,HM,HL,HK,HJ,Al2,D8,B8,Gv,Q4,Q8,H7,A1 g]
     have p:x.Op=5\/x.Op=6\/x.Op=7\/x.Op=8\/x.Op=10\/x.Op=11\/x.Op=12:=AY
     rcases p with h|h|h|h|h|h|h<;>simp[h]
    rw[A2 (As Y),A2 Y];rfl
  ·intro s i a P U;have e:Ar.ar .add .i64 (i:Int) 1=i+1:=E6 AY AY;simp only[B8,A9,U,H8,B4,F3,P,A4,e]
   cases R0 N n ⟨H,own,ev,u⟩ a with
   |none=>rfl
   | some r=>
    simp only[A4]
    split
    ·rfl
    cases K2 s.1 [r.1]with
    |none=>rfl
    |some l=>
     simp only[A4];cases K2 s.2 [r.1.Kind]<;>rfl
  exact Kk
def Ad0 (e:LA)(own:Int)(ev:B0)(x:A8):B2×Int:=if V0 x=0 then Fj (Qa e own ev) x else(Fv,V0 x)
def MS(h:V0 x=0):∀y∈x.pre,BJ y=0:=by
 unfold V0 at h
 split at h
 ·omega
 split at h
 ·omega
 exact II.1 h
def BP6(hN:TB N){e:LA}(R:Xk e)(own:Int)(ev:B0)(n:x.bulk<=16777216):QP N x e own ev=some (Ad0 e own ev x):=by
 unfold QP Ad0;rw[QS hN n];simp only[A4]
 by_cases h:V0 x=0
 ·rw[A1 (T4 h),A2 h];have hd:=YB x;rw[Bl2 hN R own ev () N x AY n (MS h)];rfl
 rw[A2 (As h),A1 h];rfl
end
end Go.Ab
namespace Go.Ab
noncomputable section
open Classical
def BW0 (x y:B2):an (cmp .eql x.Kind y.Kind) (an (cmp .eql x.Num y.Num) (an (Ar.scmp .eql x.Text y.Text) true))=decide (x=y):=by
 rw[Hp];simp only[Q4,D8,Je];cases x;cases y;simp only[B2.mk.injEq];rw[AE];simp
def Iv (e:LA)(own:Int)(ev:B0)(x:A8):Bool:=decide ((Ad0 e own ev x).2=0)&&decide ((Ad0 e own ev x).1=⟨1,1,⟨#[]⟩⟩)
def Ap5 {N:Nat}(hN:TB N){e:LA}(R:Xk e)(own:Int)(ev:B0){x:A8}(n:x.bulk<=16777216):Ll N x e own ev=some (Iv e own ev x):=by
 unfold Ll Iv;rw[BP6 hN R own ev n];simp only[A4];rw[D8]
 by_cases h:(Ad0 e own ev x).2=0
 ·rw[A2 (I8 h),Al2];simp only[A4,I8 h,LG];rw[BW0];exact J8 some (decide_eq_decide.2 GM)
 rw[A1 (by simpa using h),CT h];rfl
end
end Go.Ab
