/- . -/
import Derived.Test.YtagnkafeimdfnaaGreatDoorA20
import Derived.Test.YtagnkafeimdfnaaGreatDoorRows
import Derived.WalkKit
import Derived.ProofKit
import Derived.OpenShut
import Derived.Deep.DeepHandedRow
import Derived.Carry
import Derived.Test.YtagnkafeimdfnaaGreatDoorTie
set_option linter.all false
open List (Nodup)
open Go.Ab.Ar (ar)
namespace Go.Ab
open Classical
noncomputable section
def BC1 {A:Up CD} (h:((A.map kT).map (·.2)).Nodup) {T:Up TD} (i:(T.map (·.2)).Nodup):(((mxS A T).map kT).map (·.2)).Nodup:=by
 unfold mxS Nodup at *
 rw[O3,O3]at h
 rw[O3]at i
 rw[O3,O3,Ld]
 constructor
 ·intro c X;rw[Ld]
  constructor
  ·intro t j
   split
   ·simp_all
   simp_all
  refine i.imp λ{a e} b=>?_;intro x M y m g
  split at M
  ·cases M
  split at m
  ·cases m
  rw[BK]at M m
  subst M;subst m
  simp only[kT]at g
  simp_all
 refine h.imp λ{a c} b=>?_;intro x M y m g;obtain⟨t,_,M⟩:=List.mem_flatMap.1 M;obtain⟨u,_,m⟩:=List.mem_flatMap.1 m
 split at M
 ·cases M
 split at m
 ·cases m
 rw[BK]at M m
 subst M;subst m
 simp only[kT]at g
 injection g with _ _ k
 have:=(List.append_inj' k rfl).1;exact b (by simp_all[kT])
def Bq9 {l:Up A9} {p:A0} (J:p.Op=3) {b:Up PR} {f:Int} {T:Nat->Up TD} (y:∀i (U:i<p.dD.length),TL l p.dD[i] b f (T i)):∀j,1<=j->j<=p.dD.length->TL l {p with dD:=p.dD.take j} b f ((mxM T j).map kT)
 |0,h,_=>absurd h za2
 | 1,_,V=>by
  have e:(mxM T 1).map kT=(T 0).map (wr 0):=by
   rw[Ah7];unfold mxS mxM;rw[List.range_zero,I0,List.foldl_nil,X9,List.flatMap_nil,E5]
   have:∀L:Up TD,(L.flatMap λt=>if Ai ([]:Up PR) t.1=true then[]else[((mrg [] t.1,[]++[t.2]):CD)]).map kT=L.map (wr 0):=by
    intro L
    induction L with
    |nil=>rfl
    |cons a L ih=>
     rw[X9,P9,ih,A1 (by simp[Ai]),ED];rfl
   exact this _
  rw[e]
  have r:({p with dD:=p.dD.take 1}:A0).dD=[p.dD[0]]:=by
   show p.dD.take 1=_
   rw[Gz za2];rfl
  exact AW0 (p:={p with dD:=p.dD.take 1}) (.inr J) r (y 0 za2)
 | j +2,_,V=>by
  have ih:=Bq9 J y (j+1) za2 za2;have Q:=y (j+1) za2;have r:({p with dD:=p.dD.take (j+1+1)}:A0).dD=p.dD.take (j+1)++[p.dD[j+1]]:=Gz za2;rw[Ah7 T (j+1)];refine⟨λx M=>?_,BC1 ih.nd Q.nd,λs=>?_⟩
  rotate_left
  ·have P:p.dD.take (j+1)≠[]:=by intro e;have:=G2 List.length e;rw[X8,Ay]at this;omega
   rw[Sm.i3c (p:={p with dD:=p.dD.take (j+1+1)}) J r P]
   constructor
   ·rintro⟨x,M,rfl⟩;obtain⟨c',g,rfl⟩:=List.mem_map.1 M
    unfold mxS at g
    obtain⟨c,X,M⟩:=List.mem_flatMap.1 g;obtain⟨t,n,M⟩:=List.mem_flatMap.1 M
    split at M
    ·cases M
    next hm=>
     rw[BF]at hm
     rw[BK]at M
     subst M;exact⟨c.1,t.1,(ih.sm _).1 ⟨kT c,DN X,rfl⟩,(Q.sm _).1 ⟨t,n,rfl⟩,W0.1 hm,rfl⟩
   rintro⟨u,v,d,q,k,rfl⟩;obtain⟨x,M,rfl⟩:=(ih.sm _).2 d;obtain⟨c,X,rfl⟩:=List.mem_map.1 M;obtain⟨t,n,rfl⟩:=(Q.sm _).2 q;refine⟨kT (mrg c.1 t.1,c.2++[t.2]),DN (List.mem_flatMap.2 ⟨c,X,List.mem_flatMap.2 ⟨t,n,?_⟩⟩),rfl⟩;have k:Ai c.1 t.1=false:=W0.2 k;rw[A1 (by rw[k];simp)];simp
  obtain⟨c',g,rfl⟩:=List.mem_map.1 M
  unfold mxS at g
  obtain⟨c,X,M⟩:=List.mem_flatMap.1 g;obtain⟨t,n,M⟩:=List.mem_flatMap.1 M
  split at M
  ·cases M
  next hm=>
   rw[BF]at hm
   rw[BK]at M
   subst M;have K:=ih.tr (kT c) (DN X);exact Bu7 (p:={p with dD:=p.dD.take (j+1+1)}) J r (W0.1 hm) (Q.tr t n) K
def AC0 {N:Nat} (x:Bgn N) {l:Up A9} (B:l.length<=10) {p:A0} (J:p.Op=3) (e:p.dD.length<=64) {b:Up PR} {f:Int} (r:Gd l b) {T:Nat->Up TD} {m0:Nat} (K:∀i (U:i<p.dD.length) n,m0<=n->F6 N n ⟨l,0⟩ p.dD[i] (b.map Q8) f=some ((T i).map Mf)) (g:∀i,i<p.dD.length->∀t∈T i,Gd l t.1/\t.1≠[]):
 ∀(m:Nat) (kids:Up A5) (s:Up PR),kids.length+m=p.dD.length->Gd l s->∀n,m0+m+1<=n->E9 N n ⟨l,0⟩ p (b.map Q8) f kids (s.map Q8)=some ((mxP ((List.range' kids.length m).map T) (s,kids)).map λc=>Mf (kT c))
 |0,kids,s,P,a,n,V=>by
  obtain⟨n,rfl⟩:∃k,n=k+1:=⟨n-1,za2⟩;rw[XO za2 za2 za2];rfl
 | m+1,kids,s,P,a,n,V=>by
  obtain⟨n,rfl⟩:∃k,n=k+1:=⟨n-1,za2⟩
  have U:kids.length<p.dD.length:=za2
  rw[Ps x B (q:=p.dD[kids.length]) (L:=T kids.length) (E:=λt=>(mxP ((List.range' (kids.length+1) m).map T) (mrg s t.1,kids++[t.2])).map λc=>Mf (kT c)) r a (λh=>absurd J h) za2 za7 (by rintro(⟨_,h⟩|⟨h,_⟩)<;>omega) (by
   rw[Sk za2 (by rw[B4];omega),E8,C8 U]) (by rw[A1 za2];grind) (λt j=>g _ U t j) (λt j y=>by
   rw[A1 za2];have:=AC0 x B J e r K g m (kids++[t.2]) (mrg s t.1) (by rw[K8,BL];omega) (a.mrg (g _ U t j).1 y) n za2
   rwa[K8,BL]at this)]
  rw[Fd,D9,mxP,GT]
  grind
def AX5 {N:Nat} (c:Bgn N) {l:Up A9} (B:l.length<=10) (e:BP l=0) {k:Nat} (ih:IHT N l k) {p:A0} (J:p.Op=3) (R:FT p) (s:p.pre.length<=64) (C:KE l.length p) {b:Up PR} {f:Nat} (z:Jq l b f) (o:∀q∈p.dD,mu l q f<=k):
 ∃L,TL l p b f L/\(∀n,8*k+9+p.dD.length<=n->E9 N n ⟨l,0⟩ p (b.map Q8) f [] []=some (L.map Mf)):=by
 have m:=X7 p;have a:=R.self.a1 za2 za2;have r:=List.length_pos_iff.2 a
 have x:∀i:Nat,∃L,∀U:i<p.dD.length,TL l p.dD[i] b f L/\ST N l p.dD[i] b f (8*k+8) L:=by
  intro i
  by_cases U:i<p.dD.length
  ·have Q:=F4 U;have K:=H9 Q;obtain⟨L,O,Z⟩:=ih p.dD[i] b f (o _ Q) za2 (R.arg Q) (C.arg Q) z;exact⟨L,λ_=>⟨O,Z⟩⟩
  exact⟨[],λh=>absurd h U⟩
 obtain⟨T,g⟩:=Lf x
 have few:∀i,i<p.dD.length->(T i).length<=4096:=by
  intro i U;have Q:=F4 U;have K:=H9 Q;exact(g i U).1.few B e (R.arg Q) za2 (C.arg Q) z
 have y:∀i,i<p.dD.length->∀t∈T i,Gd l t.1/\t.1≠[]:=by
  intro i U t j;obtain⟨_,_,_,V⟩:=(g i U).1.tr t j;exact⟨V.gd,V.ne⟩
 have tl:=Bq9 J λi U=>(g i U).1;have d:=tl p.dD.length r (B1 _)
 rw[CY]at d
 have u:TL l p b f ((mxM T p.dD.length).map kT):=by
  obtain⟨v,w,A,D,E,F,G⟩:=p;exact d
 refine⟨_,u,λn P=>?_⟩;have:=AC0 c B J za2 z.gd (m0:=8*k+8) (λi U n P=>(g i U).2.prg n P) y p.dD.length [] [] za4 (Gd.nil l) n za2
 rw[I0]at this
 rw[this,Bu6,M3];rfl
def Af8 {q:A0}:∀{l:Up A0},q∈l->q.pre.length+l.length<=(A0.pres l).length+1
 |a::l,h=>by
  have L:=SR l;simp only[A0.pres,K8,N3]
  rcases List.mem_cons.1 h with rfl|h
  ·omega
  have:=Af8 h;have:=A0.pre_eq a
  have:1<=a.pre.length:=by rw[this];simp
  omega
def Us {l:Up A9}{p q:A0}(Q:q∈p.dD)(f g:Nat):mu l q g+2*p.dD.length<=mu l p f:=by
 have O:=Af8 Q
 have Z:p.pre.length=(A0.pres p.dD).length+1:=by rw[A0.pre_eq];simp
 have J:=List.length_pos_iff.2 (List.ne_nil_of_mem Q);have s:(q.pre.length+p.dD.length)*(l.length+2)<=p.pre.length*(l.length+2):=G7 _ za2
 rw[E2,DE p.dD.length]at s
 have a:1*l.length<=p.dD.length*l.length:=G7 _ J
 grind[mu]
def Ah8 {l:Up A9}{p q:A0}(Q:q∈p.dD){f g:Nat}(h:f<=g):mu l q g+(l.length+2)<=mu l p f:=by
 have O:=H9 Q;have s:(q.pre.length+1)*(l.length+2)<=p.pre.length*(l.length+2):=G7 _ O
 rw[E2,W3]at s
 grind[mu]
def AT3 {L:Up TD} (h:∀t∈L,IsK t):L.map (sk [] [])=L:=by
 have:∀L:Up TD,(∀t∈L,IsK t)->L.map (sk [] [])=L:=by
  intro L
  induction L with
  |nil=>intro _;rfl
  |cons a L ih=>
   intro h;rw[D9,ih λt j=>h t (by simp[j])];have:=h a za4
   unfold IsK at this
   congr 1
   obtain⟨b,e⟩:=a;unfold sk;rw[ED]
   grind
 grind
def WE {N n:Nat}{x:F2}{p:A0}(h:p.Op=1\/p.Op=3\/p.Op=4){o:Up DP}{f:Int}{L:Up A8}(a:E9 N n x p o f [] []=some L):N1 N (n+1) x p o f=some L:=by
 rw[N1,A1 (WJ za2),A1 (WJ za2)]
 rcases h with h|h|h
 ·rw[A2 (S2 h)];simp only[L5,A4];rw[A2 trivial,a];simp
 ·rw[A1 (WJ za2),A2 (S2 h)];simp only[L5,A4];rw[A2 trivial,a];simp
 rw[A1 (WJ za2),A1 (WJ za2)];simp only[L5,A4];rw[A2 (S2 h),a];simp
def AY8 {N:Nat} (c:Bgn N) {l:Up A9} (B:l.length<=10) (a:BP l=0):∀K,IHT N l K:=by
 intro K
 induction K using Nat.strongRecOn with
 | _ K rec=>
  intro p b f d h R C z
  have j:1<=p.pre.length:=by rw[A0.pre_eq];simp
  have G:2<=K:=by
   have s:1*(l.length+2)<=p.pre.length*(l.length+2):=G7 _ j
   unfold mu at d
   omega
  have D:=R.self.op
  by_cases u:p.Op=0
  ·obtain⟨L,O,Z⟩:=Au3 c B a R u z;exact⟨L,O,Z.mono za2⟩
  by_cases O:p.Op=1
  ·have e:=R.self.a1 za2 za2;have V:=List.length_pos_iff.2 e;obtain⟨E,r⟩:∃q,q∈p.dD:=Dc _ e;have t:=Us (l:=l) r f f;obtain⟨L,i⟩:=Ae1 c B a (rec (K-2*p.dD.length) za2) p.dD p b f O rfl e R h C z (λq Q g=>by have:=Us (l:=l) Q f g;omega);have w:=X7 p;refine⟨L,i.tl,⟨λn o=>?_⟩⟩;obtain⟨n,rfl⟩:∃k,n=k+3:=⟨n-3,za2⟩;refine PC c rfl (WE (.inl O) ?_) (by rw[E1];exact i.tl.few B a R h C z);have:=i.prg p [] [] b [] O rfl rfl za2 z.gd (Gd.nil l) (λ_ _ y m=>absurd m Cq) (AN b).symm n za2
   rw[I0,AT3 i.k]at this
   exact this
  by_cases J:p.Op=3
  ·have e:=R.self.a1 za2 za2;have V:=List.length_pos_iff.2 e;obtain⟨E,r⟩:∃q,q∈p.dD:=Dc _ e;have t:=Us (l:=l) r f f;obtain⟨L,P,v⟩:=AX5 c B a (rec (K-2*p.dD.length) za2) J R h C z (λq Q=>by have:=Us (l:=l) Q f f;omega);refine⟨L,P,⟨λn o=>?_⟩⟩;obtain⟨n,rfl⟩:∃k,n=k+3:=⟨n-3,za2⟩;exact PC c rfl (WE (.inr (.inl J)) (v n za2)) (by rw[E1];exact P.few B a R h C z)
  by_cases s:p.Op=4
  ·obtain⟨q,Q⟩:=R.self.a2 za2
   have x:q∈p.dD:=by rw[Q];simp
   have t:=Ah8 (l:=l) x (B1 f);obtain⟨L,i⟩:=As2 c B a (rec (K-(l.length+2)) za2) s Q R h C (f0:=f) (λg A=>by have:=Ah8 (l:=l) x A;omega) (l.length-f) b f (B1 _) (B1 _) z;refine⟨L,i.tl,⟨λn o=>?_⟩⟩;obtain⟨n,rfl⟩:∃k,n=k+3:=⟨n-3,za2⟩;refine PC c rfl (WE (.inr (.inr s)) ?_) (by rw[E1];exact i.tl.few B a R h C z);have:=i.prg [] b [] za6 z.gd (Gd.nil l) (λ_ _ y m=>absurd m Cq) (AN b).symm n za2
   rw[I0,AT3 i.k,A2 rfl]at this
   exact this
  obtain⟨k,rfl⟩:∃k,K=k+1:=⟨K-1,za2⟩;obtain⟨L,P,F⟩:=AY7 c B a (rec k za2) R h C za2 z za2
  grind
abbrev BG:=B0
def YH {α:Type}{l:Up α}{i:Nat}(h:i<l.length)(v:α):Ev l (i:Int) (λ_=>v)=some (l.set i v):=by
 unfold Ev;rw[E8,C8 h,W4];rfl
def Dn {α:Type}{l:Up α}{i:Nat}(h:i<l.length):El (Hu l (i:Int))=some ():=by
 simp_all[El,Hu]
def Xq (l:Up BG)(j i:Int):OS (Up BG):=
 (El (Hu l j)).bind λ_=>
 (C7 l j).bind λx=>
 (El (Hu l i)).bind λ_=>
 (C7 l i).bind λy=>
 (El (Hu l i)).bind λ_=>
 (Ev l i (λ_=>x)).bind λl1=>
 (El (Hu l1 j)).bind λ_=>
 (Ev l1 j (λ_=>y)).bind λa=>
 some a
def Ab9 {l:Up BG}{i j:Nat}(U:i<l.length)(u:j<l.length):Xq l (j:Int) (i:Int)=some ((l.set i l[j]).set j l[i]):=by
 unfold Xq;rw[Dn u,Dn U,E8,C8 u,E8,C8 U];simp only[A4];rw[YH U];simp only[A4];rw[Dn za7,YH za7];rfl
def VU {α:Type}(P S:Up α)(x:α){i:Nat}(h:i=P.length)(U:i<(P++x::S).length):(P++x::S)[i]=x:=by
 grind
def AH3 {P M S:Up BG} {x y:BG} {i j:Nat} (U:i=P.length) (u:j=P.length+1+M.length):
 Xq (P++x::(M++y::S)) (j:Int) (i:Int)=some (P++y::(M++x::S))/\Xq (P++x::(M++y::S)) (i:Int) (j:Int)=some (P++y::(M++x::S)):=by
 have O:i<(P++x::(M++y::S)).length:=by simp;omega
 have Z:j<(P++x::(M++y::S)).length:=by simp;omega
 have b:(P++x::(M++y::S))[i]=x:=VU _ _ _ U O
 have e:∀z:BG,P++z::(M++y::S)=(P++z::M)++y::S:=λz=>za4
 have g:(P++x::(M++y::S))[j]=y:=by
  have a:j<((P++x::M)++y::S).length:=by rw[<-e];exact Z
  have J:=VU (P++x::M) S y (i:=j) za6 a
  have s:(P++x::(M++y::S))[j]? =((P++x::M)++y::S)[j]? :=by rw[e x]
  rw[C8 Z,C8 a,J]at s
  grind
 rw[Ab9 O Z,Ab9 Z O,b,g]
 grind
mutual
def AF0:∀(a b:A5),dO a b=0->a=b
 | ⟨r,c,ks⟩,⟨r',c',e⟩,h=>by
  simp only[dO]at h
  by_cases O:M6 (T8 r) (T8 r')=0
  ·rw[A1 (λk=>k O)]at h
   by_cases Z:ZV c c'=0
   ·rw[A1 (λk=>k Z)]at h
    have w:=JF O
    have e2:c=c':=by
     grind[ZV]
    have g:=Al9 ks e h
    have e4:r=r':=by
     cases r;simp_all[T8]
    rw[e2,g,e4]
   omega
  omega
def Al9:∀(l m:Up A5),Yg l m=0->l=m
 |[],[],_=>rfl
 |[],_::_,h=>by simp[Yg]at h
 |_::_,[],h=>by simp[Yg]at h
 | a::l,b::m,h=>by
  simp only[Yg]at h
  by_cases O:dO a b=0
  ·rw[A1 (λk=>k O)]at h
   rw[AF0 a b O,Al9 l m h]
  omega
end
def Am0 {a b c:A5}(O:dO a b<0)(Z:dO b c<0):dO a c<0:=(Bb6 za2 za2).2 O
def Bp0 (r:Up A5):Prop:=r.Pairwise λa b=>dO a b<0
def Bt2 {N:Nat} (c:Bgn N) {L r:Up A5} (e:r.Perm L) (T:Bp0 r) (A:∀x∈r,HM x<=4096) (B:L.length<=1000000):Ll (λg i=>R3 N N g i) L=some r:=by
 have hd:∀x∈r,PK x<=N/\HM x<=30000000:=λx M=>by have:=A x M;have:=Yd x;omega
 refine UT e (Bs.2 ⟨λa h=>?_,?_⟩) za2
 ·unfold geC
  dsimp only
  rw[RE c N a a (hd a h).1 (hd a h).2,Bn4];rfl
 refine DT (λ{x y} M m b=>?_) T
 constructor
 ·unfold Nm
  dsimp only
  rw[RE c N x y (hd x M).1 (hd x M).2]
  simp_all
 unfold geC
 dsimp only
 rw[RE c N y x (hd y m).1 (hd y m).2,Aw5]
 grind
def Ym {R:Type} {step:Up A5->A8->OS (Up A5⊕R)} (C:∀s y,s.length<=100000->step s y=some (.inl (s++[y.d]))):∀(L:Up TD) (s:Up A5),s.length+L.length<=100000->M8 step (L.map Mf) s=some (.inl (s++L.map (·.2)))
 |[],s,_=>by simp[M8]
 |t::L,s,h=>by
  rw[N3]at h
  rw[D9,M8,C s _ za2]
  dsimp only
  rw[Ym C L (s++[(Mf t).d]) (by rw[K8,BL];omega)];rw[D9,D2];rfl
def Yq:∀{M:Up A5},M.Nodup->∃r,Bp0 r/\r.Perm M
 |[],_=>⟨[],List.Pairwise.nil,.refl _⟩
 | x::M,h=>by
  obtain⟨n,l⟩:=List.nodup_cons.1 h;obtain⟨r,O,Z⟩:=Yq l;have g:∀y∈r,dO y x≠0:=λy m e=>n (by rw[<-AF0 _ _ e];exact Z.mem_iff.1 m);refine⟨r.filter (λy=>decide (dO y x<0))++x::r.filter (λy=> !decide (dO y x<0)),?_,?_⟩
  ·unfold Bp0 at *
   rw[Lb,DU];refine⟨O.filter _,⟨λy m=>?_,O.filter _⟩,λa T b A=>?_⟩
   ·obtain⟨J,s⟩:=List.mem_filter.1 m;have:=g y J;have:=Aw5 y x
    simp at s
    omega
   obtain⟨J,s⟩:=List.mem_filter.1 T
   simp at s
   rcases List.mem_cons.1 A with rfl|A
   ·exact s
   obtain⟨i,k⟩:=List.mem_filter.1 A;have:=g b i;have:=Aw5 b x
   simp at k
   exact Am0 s za2
  exact List.perm_middle.trans ((List.filter_append_perm _ r).trans Z|>.cons x)
def cB (x y:BG):Int:=M6 (T8 x.Ref) (T8 y.Ref)
def Yw (x y:BG):Prop:=cB x y<=0
def ZX (l:Up BG):Prop:=l.Pairwise Yw
def Bc2 (x y:BG):cB y x= - cB x y:=Rr _ _
def Yw.of_lt {x y:BG}(h:cB x y<0):Yw x y:=by unfold Yw;omega
def Yw.of_not {x y:BG}(h:¬cB x y<0):Yw y x:=by unfold Yw;rw[Bc2];omega
def Yw.trans {x y z:BG}(O:Yw x y)(Z:Yw y z):Yw x z:=by
 unfold Yw cB at *
 by_cases w:M6 (T8 x.Ref) (T8 y.Ref)=0
 ·rw[JF w];exact Z
 by_cases e2:M6 (T8 y.Ref) (T8 z.Ref)=0
 ·rw[<-JF e2];exact O
 have:=Fv (a:=T8 x.Ref) (b:=T8 y.Ref) (c:=T8 z.Ref) za2 za2;omega
theorem Yw.refl (x:BG):Yw x x:=by unfold Yw cB;rw[Et];exact Int.le_refl _
variable {N:Nat}{cmp:BG->BG->Option Int}
def insB (c:Bgn N) (X:∀x y,cmp x y=some (cB x y)) (P S:Up BG) (x:BG) {a:Int} (T:a=P.length):∀(n K:Nat) (g b:Up BG),g.length<=n->n<K->ZX (g++b)->(∀y∈b,cB x y<0)->(P++g++x::(b++S)).length<=1000000->
 ∃ Z,Z.Perm (g++x::b)/\ZX Z/\loopN (λ(e:Int×(Up B0))=>
  (
   if Ar.cmp .gtr e.1 a=true then
    (El (Hu e.2 e.1)).bind λ_=>
    (C7 e.2 e.1).bind λE=>
    (El (Hu e.2 (ar .sub .i64 e.1 1))).bind λ_=>
    (C7 e.2 (ar .sub .i64 e.1 1)).bind λF=>
    (cmp E F).bind λD=>
    if Ar.cmp .lss D 0=true then
     (Xq e.2 (ar .sub .i64 e.1 1) e.1).bind λp=>
     some (.inl (ar .sub .i64 e.1 1,p))
    else
     some (.inr e.2)
   else
    some (.inr e.2)
   :OS ((Int×(Up B0))⊕(((Up B0)))))) K (((P.length+g.length:Nat):Int),P++g++x::(b++S))=some (P++Z++S):=by
 intro n
 induction n with
 |zero=>
  intro K g b O A C t B;obtain rfl:g=[]:=List.length_eq_zero_iff.1 za2;obtain⟨K,rfl⟩:∃q,K=q+1:=⟨K-1,za2⟩;refine⟨x::b,KL _,List.pairwise_cons.2 ⟨λy m=>.of_lt (t y m),by simpa[ZX]using C⟩,?_⟩;unfold loopN
  dsimp only
  rw[A1 (T9 (by rw[T];simp))];simp
 | succ n ih=>
  intro K g b O A C t B;obtain⟨K,rfl⟩:∃q,K=q+1:=⟨K-1,za2⟩
  rcases Gy g with rfl|⟨Q,y,rfl⟩
  ·exact ih (K+1) [] b za4 za2 C t B
  rw[Gx]at *
  simp only[K8,N3,Ay]at O B
  have r:(P++(Q++[y])++x::(b++S)).length=P.length+Q.length+1+1+b.length+S.length:=by simp;omega
  have i1:P.length+(Q++[y]).length<(P++(Q++[y])++x::(b++S)).length:=by rw[r];simp;omega
  have i2:P.length+Q.length<(P++(Q++[y])++x::(b++S)).length:=by rw[r];omega
  have u:(P++(Q++[y])++x::(b++S))[P.length+(Q++[y]).length]=x:=VU _ _ _ za4 i1
  have v:(P++(Q++[y])++x::(b++S))[P.length+Q.length]? =some y:=by
   rw[show P++(Q++[y])++x::(b++S)=(P++Q)++y::(x::(b++S)) by simp,HW za4];simp
  have s:ar .sub .i64 ((P.length+(Q++[y]).length:Nat):Int) 1=((P.length+Q.length:Nat):Int):=by
   rw[CL za6 za6];simp;omega
  unfold loopN
  dsimp only
  rw[A2 (Bn (by rw[T];simp;omega)),Dn i1,E8,C8 i1,u,s,Dn i2,E8,v];simp only[A4];rw[X];simp only[A4]
  by_cases k:cB x y<0
  ·rw[A2 (AT k)];have d:=(AH3 (P:=P++Q) (M:=[]) (S:=b++S) (x:=y) (y:=x) (i:=P.length+Q.length) (j:=P.length+(Q++[y]).length) za4 za6).2;rw[show P++(Q++[y])++x::(b++S)=(P++Q)++y::([]++x::(b++S)) by simp,d];simp only[A4]
   have V:ZX (Q++(y::b)):=by unfold ZX at *;simpa using C
   have f:∀z∈y::b,cB x z<0:=λz l=>by
    rcases List.mem_cons.1 l with rfl|h
    ·exact k
    exact t z h
   obtain⟨Z,G,I,J⟩:=ih K Q (y::b) za2 za2 V f za6;refine⟨Z,G.trans ?_,I,?_⟩
   ·rw[D2];exact SX Q (List.Perm.swap y x b)
   rw[show P++Q++x::([]++y::(b++S))=P++Q++x::((y::b)++S) by simp];exact J
  rw[A1 (Q6 k)];refine⟨(Q++[y])++x::b,KL _,?_,za4⟩
  unfold ZX at *
  rw[Lb]at C ⊢
  refine⟨C.1,List.pairwise_cons.2 ⟨λz l=>.of_lt (t z l),C.2.1⟩,λz l w R=>?_⟩
  have o:Yw z y:=by
   rcases List.mem_append.1 l with h|h
   ·have:=C.1
    rw[Lb]at this
    exact this.2.2 z h y za4
   rw[List.mem_singleton.1 h];exact .refl _
  rcases List.mem_cons.1 R with rfl|h
  ·exact o.trans (.of_not k)
  exact C.2.2 z l w h
def Av0 (c:Bgn N) (p:∀x y,cmp x y=some (cB x y)) (P X S:Up BG) {a b:Int} (f:a=P.length) (A:b=((P.length+X.length:Nat):Int)) (B:(P++X++S).length<=1000000):
 ∃Z,Z.Perm X/\ZX Z/\J7 N (P++X++S) a b cmp=some (P++Z++S):=by
 have r:=B
 simp only[K8]at r
 have g:ar .add .i64 a 1=((P.length+1:Nat):Int):=by rw[f,D4 za2 za2];omega
 rcases KY X.length with L|L
 ·obtain rfl:X=[]:=List.length_eq_zero_iff.1 L;refine⟨[],KL _,List.Pairwise.nil,?_⟩;unfold J7;obtain⟨K,rfl⟩:∃q,N=q+1:=⟨N-1,za2⟩;unfold loopN
  dsimp only
  rw[g,A1 (Q6 (by rw[A];simp;omega))];rfl
 unfold J7
 obtain ⟨t,⟨n,d⟩,h⟩:=Zm (N:=N) (m:=X.length-1) (T:=Up BG) (R:=Up BG) (step:=λ(l:Int×(Up B0))=>
  (
   if Ar.cmp .lss l.1 b=true then
    (loopN
     (λ(e:Int×(Up B0))=>
      (
       if Ar.cmp .gtr e.1 a=true then
        (El (Hu e.2 e.1)).bind λ_=>
        (C7 e.2 e.1).bind λz=>
        (El (Hu e.2 (ar .sub .i64 e.1 1))).bind λ_=>
        (C7 e.2 (ar .sub .i64 e.1 1)).bind λC=>
        (cmp z C).bind λu=>
        if Ar.cmp .lss u 0=true then
         (Xq e.2 (ar .sub .i64 e.1 1) e.1).bind λV=>
         some (.inl (ar .sub .i64 e.1 1,V))
        else
         some (.inr e.2)
       else
        some (.inr e.2)
       :OS ((Int×(Up B0))⊕(((Up B0))))))
     N (l.1,l.2)).bind λw=>
    some (.inl (ar .add .i64 l.1 1,w))
   else
    some (.inr l.2)
   :OS ((Int×(Up B0))⊕(((Up B0))))))
  (rep:=λk t=>(((P.length+1+k:Nat):Int),P++t++(X.drop (k+1)++S))) (I:=λk t=>t.Perm (X.take (k+1))/\ZX t) (res:=λt=>P++t++S) (λk F t ⟨n,d⟩=>by
   have i:k+1<X.length:=za2
   have tl:t.length=k+1:=by rw[n.length_eq,X8];omega
   have o:P++t++(X.drop (k+1)++S)=P++t++X[k+1]::([]++(X.drop (k+1+1)++S)):=by
    rw[M4 i];simp only[I1,V1]
   obtain⟨Z,D,E,j⟩:=insB c p P (X.drop (k+1+1)++S) X[k+1] f t.length N t [] (B1 _) za2 (by simpa using d) (λy s=>absurd s Cq) za6;refine⟨Z,?_,D.trans ?_,E⟩
   ·dsimp only
    rw[A2 (AT (by rw[A];omega)),o]
    rw[show P.length+t.length=P.length+1+k by omega]at j
    rw[j];simp only[A4];rw[D4 za2 za2];rfl
   ·rw[Gz i]
    exact List.Perm.append_right _ n) (λt _=>by
   dsimp only
   rw[A1 (Q6 (by rw[A];omega)),BM za2,I1]) za2 (t0:=X.take 1) ⟨KL _,by
    unfold ZX
    match X with
    |[]=>exact List.Pairwise.nil
    |[x]=>exact IQ _ _
    |x::_::_=>exact IQ _ _⟩
 refine⟨t,?_,d,?_⟩
 ·rw[show X.length-1+1=X.length by omega,CY]at n;exact n
 rw[show P++X.take 1++(X.drop (0+1)++S)=P++X++S by rw[K4,<-D2,D2 P,EW],show((P.length+1+0:Nat):Int)=ar .add .i64 a 1 by rw[g]]at h
 exact G2 (λx=>x.bind λv=>some v) h
end
end Go.Ab
namespace Go.Ab
open Classical
noncomputable section
variable {N:Nat}{cmp:BG->BG->Option Int}
def AS8 {l:Up BG}(h:ZX l){i j:Nat}(a:i<=j)(u:j<l.length):Yw (l[i]' za2) l[j]:=by
 rcases R9 i j with O|O
 ·exact List.pairwise_iff_getElem.1 h i j za2 u O
 obtain rfl:i=j:=za2
 exact .refl _
def ZX.take {l:Up BG}(h:ZX l)(n:Nat):ZX (l.take n):=List.Pairwise.sublist (List.take_sublist _ _) h
def ZX.drop {l:Up BG}(h:ZX l)(n:Nat):ZX (l.drop n):=List.Pairwise.sublist (List.drop_sublist _ _) h
end
end Go.Ab
namespace Go.Ab
open Classical
noncomputable section
variable {N:Nat}
def Yf (c: Bgn N):∀(n:Nat) (p:A0) (d:A5),PK d<=n->n<=N->HM d<=4096->FT p->p.pre.length<=64->HR d p=0->Z5 N n p d=some (SP d p)
 |0,p,d,h,_,_,_,_,_=>by rw[As]at h;omega
 | n + 1, p,d,h,S,C,r,K,P=>by
  have Y:=Mz d;have G:=As d;have M:=JX d.Kids;unfold Z5;rw[QI]
  by_cases L:p.Op=0
  ·rw[A2 (S2 L),A2 L]
  rw[A1 (WJ L),A1 L];have a:=Fj P
  have pre:∀(i:Nat) (U:i<d.Kids.length),PK d.Kids[i]<=n/\HM d.Kids[i]<=4096/\FT (L8 p d.Choice i)/\(L8 p d.Choice i).pre.length<=64/\HR d.Kids[i] (L8 p d.Choice i)=0:=by
   intro i U;have E:=F4 U;have k:=(J0 r.self a.n U a.c).1;have O:=BU E;have Z:=Gj E;have J:=H9 k;exact⟨za2,za2,r.arg k,za2,a.k i U⟩
  by_cases Z:p.Op=2
  ·rw[A2 (S2 Z)];have X:=a.c Z;have l:=a.one L za2 za2
   have U:0<d.Kids.length:=za2
   have B:=(J0 r.self a.n U a.c).2.2.1 Z
   have x:C7 p.dD d.Choice=some (L8 p d.Choice 0):=by
    obtain⟨m,E⟩:=Da X.1;rw[E,E8]
    rw[E,W4]at B
    rw[B]
   have D:C7 d.Kids 0=some d.Kids[0]:=by
    rw[show(0:Int)=((0:Nat):Int)from rfl,E8,C8 U]
   obtain⟨f,j,o,q,u⟩:=pre 0 U;rw[x,D];simp only[A4];rw[Yf c n _ _ f za2 j o q u];simp only[A4]
   obtain⟨k0,g⟩:∃k0,d.Kids=[k0]:=by
    match D:d.Kids,l with
    |[k0],_=>exact⟨k0,rfl⟩
   have e4:d.Kids[0]=k0:=by simp[g]
   rw[e4,g,Ku,Ku,E5]
  rw[A1 (WJ Z)]
  obtain ⟨t,O,J⟩:=Zm (N:=N) (m:=d.Kids.length) (T:=Up B0) (R:=Up B0) (step:=λ(b:Int×(Up B0))=>
          (
           if Ar.cmp .lss b.1 (Ar.len d.Kids)=true then
            (C7 d.Kids b.1).bind λz=>
            (El (Ar.cmp .neq (Ar.len p.dD) 0)).bind λ_=>
            (C7 p.dD (ar .rem .i64 b.1 (Ar.len p.dD))).bind λA=>
            (P5 N n A z).bind λv=>
            (V7 b.2 v).bind λV=>
            some (.inl (ar .add .i64 b.1 1,V))
           else
            some (.inr b.2)
           :OS ((Int×(Up B0))⊕(((Up B0))))))
   (rep:=λi t=>((i:Int),t)) (I:=BI d.Kids p d.Choice) (res:=λt=>t) (λi U t F=>by
    dsimp only
    have y:p.dD≠[]:=λe=>by
     have:=(J0 r.self a.n U a.c).1
     rw[e]at this;cases this
    have Q:El (Ar.cmp .neq (Ar.len p.dD) 0)=some ():=by
     unfold El;rw[A2 (O9 (by rw[B4];have:=List.length_pos_iff.2 y;omega))]
    obtain⟨w,e2⟩:=F.next U;obtain⟨f,j,o,q,u⟩:=pre i U;refine⟨_,?_,e2⟩;rw[A2 (T3 za2),E8,C8 U,Q,ZP r K a L Z U];simp only[A4];rw[Wn c n _ _ f j o q u];simp only[A4];rw[w];simp only[A4]
    rw[D4 za2 za2];rfl) (λt _=>by dsimp only;rw[A1 AO]) za2 (t0:=[]) (.start za2)
  have s:=O.stop;subst s
  rw[show((0:Nat):Int)=0 from rfl]at J
  rw[J];rfl
def Str (l:Up BG):Prop:=l.Pairwise λx y=>cB x y<0
def KN (l:Up BG):Prop:=(l.map λx=>T8 x.Ref).Nodup
def Uz {x y:BG}:cB x y=0<->T8 x.Ref=T8 y.Ref:=⟨λh=>JF h,λh=>by unfold cB;rw[h,Et]⟩
def BB6 {x y z:BG} (O:cB x y<0) (Z:Yw y z):cB x z<0:=by
 unfold Yw at Z
 by_cases e:cB y z=0
 ·have:=Uz.1 e
  unfold cB at *
  rw[<-this];exact O
 exact Fv O (by unfold cB at *;omega)
def Str.kn {l:Up BG}(h:Str l):KN l:=by
 unfold KN Nodup;rw[O3];refine h.imp λ{x y} a e=>?_;have:=Uz.2 e;omega
def KN.perm {a b:Up BG}(p:a.Perm b)(h:KN a):KN b:=(p.map _).nodup_iff.1 h
def Bt0 {l:Up BG} (h:ZX l) (hd:∀i (U:i+1<l.length),T8 l[i].Ref≠T8 l[i+1].Ref):Str l:=by
 unfold Str;rw[AC];intro i j U u a;have O:=AS8 h (i:=i) (j:=i+1) za2 za2;have Z:=AS8 h (i:=i+1) (j:=j) za2 u
 have J:cB l[i] l[i+1]<0:=by
  unfold Yw at O
  have:cB l[i] l[i+1]≠0:=λe=>hd i za2 (Uz.1 e);omega
 exact BB6 J Z
def AS5 {a b:Up BG}(T:Str a)(A:Str b)(p:a.Perm b):a=b:=by
 refine IS (le:=λx y=>cB x y<0) (λx y _ _ O Z=>?_) T A p;have:=Bc2 x y;omega
def Aw3 (c:Bgn N)(x y:BG):Al N x y=some (cB x y):=by
 unfold Al FN;rw[Wc c];rfl
end
end Go.Ab
open Go.Ab.Ar (lst lst_eq nt)
namespace Go.Ab
open Classical
noncomputable section
def Bn5 {l:Up A9}:BP l=0<->l.length<=4096/\(∀e∈l,Lz e=true)/\l.Pairwise λa b=>M6 (Aj a) (Aj b)<0/\Hm a b=false:=by
 constructor
 ·intro h
  have B:l.length<=4096:=by
   have g:=h
   unfold BP at g;split at g
   ·cases g
   omega
  have key:∀i (U:i<l.length),PL l i=0:=by
   intro i U;have g:=h
   unfold BP at g
   rw[A1 za2]at g
   exact Eu.1 g i (List.mem_range.2 U)
  refine⟨B,λe Y=>?_,List.pairwise_iff_getElem.2 λi j U u k=>⟨WD B h k u,?_⟩⟩
  ·obtain⟨i,U,rfl⟩:=K1 Y;have:=key i U
   unfold PL at this
   rw[C8 U]at this
   dsimp only at this
   split at this
   ·cases this
   next O=>simpa using O
  have:=key j u
  unfold PL at this
  rw[C8 u]at this
  dsimp only at this
  split at this
  ·cases this
  split at this
  ·cases this
  split at this
  ·cases this
  next J=>
  rw[BF,IH]at J
  have:=J l[i] (List.mem_take_iff_getElem.2 ⟨i,za2,rfl⟩)
  simpa using this
 rintro⟨O,Z,J⟩
 rw[AC]at J
 unfold BP;rw[A1 za2];refine Eu.2 λi U=>?_;have U:=List.mem_range.1 U;unfold PL;rw[C8 U]
 dsimp only
 rw[A1 (by rw[Z _ (F4 U)];simp),A1,A1]
 ·rw[IE];rintro⟨x,M,e⟩;obtain⟨j,u,rfl⟩:=List.mem_take_iff_getElem.1 M;have:=(J j i za2 U za2).2
  rw[this]at e;cases e
 rintro⟨L,s⟩
 rw[C8 za2]at s
 have:=(J (i-1) i za2 U za2).1
 simp only[O2]at s
 omega
def Uv {l:Up A9}{i:Nat}(U:i<l.length):T8 (Ce l i)=Aj l[i]:=by
 unfold Ce;rw[W4,C8 U];rfl
def Bt8 {l:Up A9}(B:l.length<=4096)(h:BP l=0){i:Nat}(U:i<l.length):Id l (Ce l i)=some i:=YZ B h U (Uv U).symm
mutual
def Ax6 {l:Up A9}:∀(d:A5) (p:A0) (b:Up PR) (f:Int) (s:Up PR),Oc l d p b f=some s->(SP d p).Perm (V2 l s).dE
 | ⟨r,c,ks⟩,p,b,f,s,h=>by
  rw[Oc]at h
  rw[SP]
  by_cases L:p.Op=0
  ·rw [A2 L]at h ⊢
   cases a:Id l r with
   |none=>rw[a]at h;cases h
   | some i=>
    rw[a]at h
    dsimp only at h
    split at h
    ·cases h;obtain⟨U,e⟩:=Ic a
     have:Ce l i=r:=by
      have e2:=Uv U
      rw[e]at e2
      have w:Ce l i=⟨(Ce l i).Time,(Ce l i).Source,(Ce l i).Seq⟩:=rfl
      unfold T8 at e2
      injection e2 with n g
      injection g with g k
      injection k with k t
      rw[w,n,g,k]
     show[(⟨p.Var,r⟩:B0)].Perm [⟨p.Var,Ce l i⟩]
     rw[this]
    cases h
  rw[A1 L]at h ⊢
  obtain⟨x,O,Z⟩:=Option.bind_eq_some_iff.1 h
  split at Z
  ·cases Z
  cases Z;have:=AF8 ks p c 0 b f [] _ O
  simpa[V2]using this
def AF8 {l:Up A9}:∀(ks:Up A5) (p:A0) (c:Int) (i:Nat) (b:Up PR) (f:Int) (s0 s:Up PR),EP l ks p c i b f s0=some s->(Ku ks p c i++(V2 l s0).dE).Perm (V2 l s).dE
 |[],p,c,i,b,f,s0,s,h=>by
  rw[EP]at h;cases h;rw[Ku];exact .refl _
 | k::ks,p,c,i,b,f,s0,s,h=>by
  rw[EP]at h
  obtain⟨x,O,Z⟩:=Option.bind_eq_some_iff.1 h
  split at Z
  ·cases Z
  have w:=Ax6 k _ _ _ x O;have e2:=AF8 ks p c (i+1) b f (mrg s0 x) s Z
  have a:(V2 l (mrg s0 x)).dE.Perm ((V2 l s0).dE++(V2 l x).dE):=by
   unfold V2;rw[<-P9];exact(Ft _ _ _ (B1 _)).map _
  rw[Ku];refine List.Perm.trans ?_ e2;refine List.Perm.trans ?_ (SX _ a.symm);refine List.Perm.trans ((w.append_right _).append_right _) ?_;rw[D2];exact List.perm_append_comm.trans (by rw[D2])
end
def Xr {l:Up A9}(B:l.length<=4096)(e:BP l=0){s:Up PR}(g:Gd l s):Str (V2 l s).dE:=by
 unfold Str V2;rw[O3];refine DT (λ{a b} T A h=>?_) g.asc;obtain⟨_,k,n⟩:=g.wf a T;obtain⟨_,r,t⟩:=g.wf b A;obtain⟨i,U⟩:∃i:Nat,a.At=i:=⟨a.At.toNat,za2⟩;obtain⟨j,u⟩:∃j:Nat,b.At=j:=⟨b.At.toNat,za2⟩
 show M6 (T8 (Ce l a.At)) (T8 (Ce l b.At))<0
 rw[U,u,Uv za2,Uv za2];exact WD B e za2 za2
def Wt {l:Up A9} (B:l.length<=4096) (a:BP l=0) {s:Up PR} (h:Gd l s) (t:s≠[]):Bc0 (V2 l s).dE=0:=by
 have r:=h.len
 have E:(V2 l s).dE.length=s.length:=by unfold V2;rw[E1]
 have C:=Xr B a h;have K:=List.length_pos_iff.2 t;unfold Bc0;rw[A1 za2,A1 za2];refine Eu.2 λi U=>?_;have U:=List.mem_range.1 U;unfold WB;rw[C8 U]
 dsimp only
 have k:i<s.length:=za2
 have e:(V2 l s).dE[i]=⟨s[i].Var,Ce l s[i].At⟩:=by simp[V2]
 obtain⟨⟨P,V⟩,x,y⟩:=h.wf s[i] (F4 k);obtain⟨j,u⟩:∃j:Nat,s[i].At=j:=⟨s[i].At.toNat,za2⟩
 have b:j<l.length:=za2
 have g:=(Bn5.1 a).2.1 l[j] (F4 b)
 have er:Ce l s[i].At=⟨l[j].Time,l[j].Source,l[j].Seq⟩:=by unfold Ce;rw[u,W4,C8 b]
 rw[A1,A1]
 ·rintro⟨L,n⟩
  rw[C8 za2]at n
  have:=List.pairwise_iff_getElem.1 C (i-1) i za2 U za2
  simp only[O2]at n
  unfold cB at this
  omega
 rw[e,er]
 unfold Lz at g
 simp only[O5,F5,U2,Dp,E4,K0,H5]at g
 simp;omega
def AH7 {N:Nat}(c:Bgn N){cmp:BG->BG->OS Int}(X:∀x y,cmp x y=some (cB x y)){l:Up BG}(B:l.length<20):∃l',T7 N l (l.length:Int) cmp=some l'/\l'.Perm l/\ZX l':=by
 obtain⟨Z,k,n,e⟩:=Av0 c X [] l [] (a:=0) (b:=(l.length:Int)) rfl za4 za6
 rw[I1,E5,I1,E5]at e
 refine⟨Z,?_,k,n⟩;unfold T7;have O:Ar.cmp .leq (20:Int) (l.length:Int)=false:=Fb za2;have g:Ar.cmp .lss (20:Int) (l.length:Int)=false:=Fb za2;obtain⟨M,i⟩:∃M,N=M+1:=⟨N-1,za2⟩
 have w:∀{S R:Type} (f:S->OS (S⊕R)) (s:S) (r:R),f s=some (.inr r)->loopN f N s=some r:=λf s r h=>by rw[i,loopN,h]
 rw[w _ _ _ (by dsimp only;rw[O];rfl)];simp only[A4];rw[e];simp only[A4];rw[w _ _ _ (by dsimp only;rw[g];rfl)];rfl
def AM1 {N:Nat} (c:Bgn N) {p:A0} (A:p.bulk<=16777216) (X:RH N p=0) {l:Up A9} (B:l.length<=10) (g:BP l=0) {d:A5} (j:HM d<=4096) (n:HR d p=0) {s:Up PR} (q:Oc l d p [] 0=some s) (f:Hi l 0 s):Aq N p d=some (V2 l s,0):=by
 have hd:=Yd d;obtain⟨R,P⟩:=JK c A X
 have v:ckD N p d=0:=by unfold ckD;rw[A2 X,A2 j];exact n
 have a:=Ax6 d p [] 0 s q;have b:=Xr za2 g f.gd
 have K:(V2 l s).dE.length<=10:=by have:=f.gd.len;unfold V2;rw[E1];omega
 unfold Aq;rw[Ye c A za2 za2];simp only[A4];rw[A1 (K7 v),Yf c N p d za2 (B1 _) j R P n];simp only[A4];obtain⟨l',w,e2,o⟩:=AH7 (N:=N) (cmp:=λz C=>Al N z C) c (λx y=>Aw3 c x y) (l:=SP d p) (by have:=a.length_eq;omega);unfold Q4;rw[B4,w];simp only[A4];have r:KN l':=KN.perm ((e2.trans a).symm) b.kn
 have V:Str l':=Bt0 o λi U e=>by
  have:=List.pairwise_iff_getElem.1 r i (i+1) za6 (by simpa using U) za2
  simp only[ID]at this
  exact this e
 have et:l'=(V2 l s).dE:=AS5 V b (e2.trans a);rw[et];have k:=List.pairwise_iff_getElem.1 b
 generalize u:(V2 l s).dE=m at K k ⊢
 refine LR (m:=m.length-1) (λi (_:Unit)=>((i+1:Nat):Int)) (λ_ _=>True) (λ_=>Sum.inl ()) (t0:=()) rfl za2 trivial (λi U t _=>⟨(),?_,trivial⟩) (λt _=>by rw[A1 (Q6 (by rw[B4];omega))]) (λt _=>?_)
 ·have L:i<m.length:=za2
  have O:i+1<m.length:=za2
  rw[A2 (T3 za2),CL za2 za2,show((i+1:Nat):Int)-1=(i:Int) by omega,Dn L,E8,C8 L,Dn O,E8,C8 O];simp only[A4];rw[A1,D4 za2 za2]
  ·rfl
  have:=k i (i+1) L O za2;intro h
  have e:T8 m[i].Ref=T8 m[i+1].Ref:=by
   simp only[O5,F5]at h
   unfold T8
   simp at h
   rw[h.1,h.2.1,h.2.2]
  rw[Uz.2 e]at this
  omega
 dsimp only
 rw[AC1 c za2,<-u];simp only[A4];rw[A1 (K7 (Wt za2 g f.gd f.ne))]
def Aq0 {N:Nat} (c:Bgn N) {p:A0} (A:p.bulk<=16777216) (X:RH N p=0) {l:Up A9} (B:l.length<=4096) (b:BP l=0) {d:A5} (h:HM d<=4096) (e:HR d p=0):S8 N p l d=some (if(SP d p).any (λy=> !(Id l y.Ref).isSome)=true then 6 else if(Oc l d p [] 0).isSome=true then 0 else 18):=by
 have hd:=Yd d;obtain⟨R,g⟩:=JK c A X
 have K:ckD N p d=0:=by unfold ckD;rw[A2 X,A2 h];exact e
 unfold S8;rw[Ye c A za2 za2];simp only[A4];rw[A1 (K7 K),Uo c];simp only[A4];rw[A1 (K7 b),Bb2 c za2 h R g e];simp only[A4];have t:=ZM d p
 rw [Pq (l:=(SP d p).map (·.Ref)) (λr=> !(Id l r).isSome) (by rw[E1];omega) (by rw[E1];omega) (λi x M U=>by
     rw[E1]at U
     rw[A2 (T3 (by rw[E1];omega)),E8,M];simp only[A4];obtain⟨k,o,_⟩:=AE0 c B b x;rw[o];simp only[A4,X5];rw[D4 za2 za2]
     cases(Id l x).isSome<;>rfl) (by rw[A1 AO])]
 rw[GN]
 by_cases T:(SP d p).any (λy=> !(Id l y.Ref).isSome)=true
 ·have a:(SP d p).any ((λr=> !(Id l r).isSome)∘λy=>y.Ref)=true:=T;rw[A2 a,A2 T];rfl
 have a:¬(SP d p).any ((λr=> !(Id l r).isSome)∘λy=>y.Ref)=true:=T;rw[A1 a,A1 T];have z:Jq l (P6 []) 0:=⟨.nil l,λx M=>absurd M Cq,CH _,za2⟩;obtain⟨r,P,n,V⟩:=UG c B b 0 N p d [] 0 za2 h R g e z;simp only[A4];rw[P]
 rw[show P6 []=[]from rfl]at n
 rw[<-n];unfold okd;cases Z:r.2<;>simp[Z,X5]
def Bd9 {N:Nat} (c:Bgn N) {p:A0} (A:p.bulk<=16777216) {l:Up A9} (B:l.length<=10) (n:(AU p+1) ^ l.length<=1500\/(CE p/\l.length ^ AU p<=1500)) (K:L1 p\/(L2 p/\(2*AU p+1) ^ l.length<=4000)) (X:RH N p=0) (b:BP l=0):
 ∃r L,FB N p l=some (r,0)/\TL l p [] 0 L/\r.Perm (L.map (·.2))/\Bp0 r/\r.length<=4096/\∀x∈r,HM x<=4096:=by
 unfold FB;rw[Sp c A];simp only[A4];rw[A1 (K7 X),Uo c];simp only[A4];rw[A1 (K7 b)];obtain⟨R,a⟩:=JK c A X;have C:KE l.length p:=⟨AT0 a n,K⟩;have z:=AK9 l;obtain⟨L,O,Z⟩:=AY8 c B b (mu l p 0) p [] 0 (B1 _) a R C z;have f:=Ah9 (p:=p) a B;have V:=O.few B b R a C z;have u:∀t∈L,HM t.2<=4096:=λt j=>(O.tree B a z t j).1;have w:F6 N N ⟨l,0⟩ p [] 0=some (L.map Mf):=Z.prg N za2;obtain⟨r,v,P⟩:=Yq O.nd
 have g:∀x∈r,HM x<=4096:=by
  grind
 have k:r.length<=4096:=by have:=P.length_eq;rw[E1]at this;omega
 refine⟨r,L,?_,O,P,v,k,g⟩;rw[w];simp only[A4]
 rw[Ym (λs y o=>by
  rw[AW za6];simp only[A4]
  have h:El (Hu (s++[(⟨⟨0,0,0⟩,0,[]⟩:A5)]) (Ar.len s))=some ():=by
   unfold El Hu;rw[A2];rw[B4]
   grind
  rw[h];simp only[A4];rw[B4,YH za4]
  simp) L [] za6]
 simp only[A4,I1];rw[A1 (T9 za2)];refine LR (m:=(L.map (·.2)).length) (λi (_:Unit)=>(i:Int)) (λ_ _=>True) (λ_=>Sum.inl ()) (t0:=()) rfl (by rw[E1];omega) trivial (λi U t _=>⟨(),?_,trivial⟩) (λt _=>by rw[A1 AO]) (λt _=>?_)
 ·have e:i<L.length:=by rwa[E1]at U
  have q:=u _ (F4 e);have d:=Yd L[i].2
  have h:El (Hu (L.map (·.2)) (i:Int))=some ():=by
   simp_all[El,Hu]
  rw[A2 (T3 za2),h,E8,Az,C8 e];simp only[A4,K5];rw[Wf c N _ za2 za2];simp only[A4];rw[A1 (T9 za2),D4 za2 za2];rfl
 rw[Bt2 c P v g (by rw[E1];omega)];rfl
def ddG (E:D6->D6->Bool):D6->Up D6->Up D6
 |_,[]=>[]
 |p,x::l=>if E x p=true then ddG E x l else x::ddG E x l
def ddE (E:D6->D6->Bool):Up D6->Up D6
 |[]=>[]
 |x::l=>x::ddG E x l
def Al7 {E:D6->D6->Bool} (y:D6):∀(l:Up D6) (p:D6),ddG E p (l++[y])=ddG E p l++if E y ((p::l).getLast za4)=true then[]else[y]
 |[],p=>by cases h:E y p<;>simp[ddG,h]
 |x::l,p=>by
  have ih:=Al7 (E:=E) y l x;have e:(p::x::l).getLast za4=(x::l).getLast za4:=List.getLast_cons za4;rw[V1,ddG,ddG,ih,e]
  split<;>rfl
def ZF {E:D6->D6->Bool} {l:Up D6} {i:Nat} (L:0<i) (h:i<l.length):ddE E (l.take (i+1))=ddE E (l.take i)++if E l[i] (l[i-1]'(Nat.lt_of_le_of_lt (Nat.sub_le _ _) h))=true then[]else[l[i]]:=by
 rw[Ff,C8 h]
 obtain⟨x,t,e⟩:∃x t,l.take i=x::t:=by
  cases j:l.take i with
  |nil=>have J:=G2 List.length j;rw[X8,Ay]at J;omega
  |cons x t=>exact⟨x,t,rfl⟩
 have B:(x::t).getLast za4=l[i-1]' za2:=by
  have O:(l.take i).getLast (by rw[e];simp)=l[i-1]' za2:=by
   rw[List.getLast_eq_getElem];simp only[List.getElem_take,X8]
   congr 1
   omega
  rw[<-O]
  congr 1
  exact e.symm
 rw[e]
 show x::ddG E x (t++[l[i]])=_
 rw[Al7,B];rfl
def ZG {E:D6->D6->Bool} {l:Up D6}:∀{i:Nat},i<=l.length->(∀j (_:0<j) (Z:j<i) (J:j<l.length),E l[j] (l[j-1]' za2)=false)->ddE E (l.take i)=l.take i
 |0,_,_=>rfl
 | i+1,h,e=>by
  by_cases L:i=0
  ·subst L
   cases l with
   |nil=>rfl
   |cons x l=>rfl
  have ih:=ZG (E:=E) (l:=l) (i:=i) za2 λj a b c=>e j a za2 c;rw[ZF za2 za2,ih,e i za2 za2 za2,Ff,C8 za2];rfl
def AY9 {P:Nat->Prop} (h:∃k,P k):∃k,P k/\∀j,j<k->¬P j:=by
 obtain⟨k,b⟩:=h
 induction k using Nat.strongRecOn with
 |_ k ih=>
  by_cases a:∃j,j<k/\P j
  ·obtain⟨j,O,Z⟩:=a;exact ih j O Z
  exact⟨k,b,λj u e=>a ⟨j,u,e⟩⟩
def MB {l:Up D6}{k:Nat}(h:k<=l.length):R6 l (some (k:Int)) none none=some (l.drop k):=by
 unfold R6;rw[A2 za6]
 congr 1
 simp only[O2,Be,W4];exact AB (by rw[Fc];omega)
def AT2 {l:Up D6}{k:Nat}(h:k<=l.length):R6 l none (some (k:Int)) none=some (l.take k):=by
 unfold R6;rw[A2 za6];simp
def Am5 {N:Nat} (C:Bgn N) {l:Up D6} (B:l.length<=1000000) {eq:D6->D6->OS Bool} {E:D6->D6->Bool} (Y:∀x∈l,∀y∈l,eq x y=some (E x y)):W2 N l eq=some (ddE E l):=by
 have g:∀{i j:Nat} (O:i<l.length) (Z:j<l.length),eq l[i] l[j]=some (E l[i] l[j]):=λO Z=>Y _ (F4 O) _ (F4 Z);unfold W2
 by_cases Z:l.length<2
 ·rw[A2 (AT (by rw[B4];omega))]
  congr 1
  match l,Z with
  |[],_=>rfl
  |[x],_=>rfl
 rw[A1 (Q6 (by rw[B4];omega))]
 by_cases hd:∀j (_:0<j) (J:j<l.length),E l[j] (l[j-1]' za2)=false
 ·rw[Ai5 (s0:=1) (λj=>((j+1:Nat):Int)) (l.length-1) (Sum.inl ()) rfl za2 (λj u=>by
   rw[A2 (T3 za2),Dn za2,E8,C8 za2,CL za2 za2,show((j+1:Nat):Int)-1=(j:Int) by omega,Dn za2,E8,C8 za2];simp only[A4];have:=hd (j+1) za2 za2
   simp only[NK]at this
   rw[g za2 za2,this,D4 za2 za2]
   rfl) (by rw[show((l.length-1+1:Nat):Int)=(l.length:Int) by omega,A1 AO])]
  have:=ZG (E:=E) (l:=l) (i:=l.length) (B1 _) λj a _ c=>hd j a c
  rw[CY]at this
  rw[this];rfl
 obtain⟨k0,⟨q,h,V⟩,d⟩:∃k,(∃(L:0<k) (J:k<l.length),E l[k] (l[k-1]' za2)=true)/\∀j,j<k->¬∃(L:0<j) (J:j<l.length),E l[j] (l[j-1]' za2)=true:=by
  have p:∃k,∃(L:0<k) (J:k<l.length),E l[k] (l[k-1]' za2)=true:=by
   apply Classical.byContradiction;intro A;refine hd λj a b=>?_
   cases K:E l[j] (l[j-1]' za2)with
   |false=>rfl
   |true=>exact absurd ⟨j,a,b,K⟩ A
  exact AY9 p
 have f:∀j (_:0<j) (Z:j<k0) (J:j<l.length),E l[j] (l[j-1]' za2)=false:=λj a b c=>by
  cases K:E l[j] (l[j-1]' za2)with
  |false=>rfl
  |true=>exact absurd ⟨a,c,K⟩ (d j b)
 have s:=ZG (E:=E) (l:=l) (i:=k0) za2 λj a b c=>f j a b c
 rw[Ai5 (s0:=1) (λj=>((j+1:Nat):Int)) (k0-1) (Sum.inr (ddE E l)) rfl za2 (λj u=>by
  rw[A2 (T3 za2),Dn za2,E8,C8 za2,CL za2 za2,show((j+1:Nat):Int)-1=(j:Int) by omega,Dn za2,E8,C8 za2];simp only[A4];have:=f (j+1) za2 za2 za2
  simp only[NK]at this
  rw[g za2 za2,this,D4 za2 za2]
  rfl) ?_]
 ·rfl
 rw[show((k0-1+1:Nat):Int)=(k0:Int) by omega,A2 (T3 za2),Dn h,E8,C8 h,CL za2 za2,show(k0:Int)-1=((k0-1:Nat):Int) by omega,Dn za2,E8,C8 za2];simp only[A4];rw[g h za2,V];simp only[A4];rw[A2 trivial,MB za2];simp only[A4];refine LR (m:=l.length-k0-1) (λi (t:Nat×Up D6)=>((t.1:Int),((i+1:Nat):Int),t.2)) (λi t=>t.2.length=l.length/\t.1<=k0+i/\t.2.take t.1=ddE E (l.take (k0+i+1))/\∀j,k0+i<=j->t.2[j]? =l[j]?) (λt=>((t.1:Int),t.2)) (t0:=(k0,l)) rfl za2 ⟨rfl,za2,?_,λ_ _=>rfl⟩ (λi U t ⟨P,o,r,n⟩=>?_) (λt ⟨P,o,r,n⟩=>?_) (λt ⟨P,o,r,n⟩=>?_)
 ·show l.take k0=_
  rw[BC,ZF q h,V,A2 rfl,E5,s]
 ·obtain⟨k,xs⟩:=t
  dsimp only at P o r n ⊢
  rw[MB za2];simp only[A4]
  have v:(xs.drop k0).length=l.length-k0:=by rw[Fc];omega
  have z:(xs.drop k0)[i+1]? =some (l[k0+i+1]' za2):=by
   rw[GW,n _ za2,C8 za2];rfl
  have g0:(xs.drop k0)[i]? =some (l[k0+i]' za2):=by
   rw[GW,n _ za2,C8 za2]
  rw[A2 (T3 za2),Dn za2,E8,z,CL za2 za2,show((i+1:Nat):Int)-1=(i:Int) by omega,Dn za2,E8,g0];simp only[A4];rw[g za2 za2];simp only[A4];have e:=ZF (E:=E) (l:=l) (i:=k0+i+1) za2 za2
  simp only[NK]at e
  cases K:E (l[k0+i+1]' za2) (l[k0+i]' za2)with
  |true=>
   rw[A1 (show¬nt true=true by decide),D4 za2 za2];refine⟨(k,xs),rfl,P,by dsimp only;omega,?_,λj u=>n j za2⟩
   rw[K,A2 rfl,E5]at e
   exact r.trans e.symm
  | false=>
   rw[A2 (show nt false=true from rfl),Dn za2];simp only[A4]
   have w:Ev xs (k:Int) (λ_=>l[k0+i+1]' za2)=some (xs.set k (l[k0+i+1]' za2)):=by
    unfold Ev;rw[E8,C8 za2,W4];rfl
   rw[w];simp only[A4];rw[D4 za2 za2,D4 za2 za2];refine⟨(k+1,xs.set k (l[k0+i+1]' za2)),rfl,by simpa using P,by dsimp only;omega,?_,λj u=>?_⟩
   ·rw[K,A1 za5,<-r]at e
    refine Eq.trans ?_ e.symm
    dsimp only
    rw[Ff,List.getElem?_set_self za2,List.take_set_of_le (B1 _)];rfl
   dsimp only
   rw[List.getElem?_set_ne za2];exact n j za2
 ·dsimp only
  rw[MB za2];simp only[A4];rw[A1 (Q6 (by rw[B4,Fc];omega))]
 dsimp only
 rw[MB za2];simp only[A4];rw[AT2 za2];simp only[A4];rw[r,show k0+(l.length-k0-1)+1=l.length by omega,CY]
def AE7 {E:D6->D6->Bool} (g:∀x y,E x y=true<->x=y):∀{l:Up D6} {p:D6},(p::l).Pairwise (λa b=>¬mO b.dE a.dE<0)->Uj (p::ddG E p l)/\∀z,z∈p::ddG E p l<->z∈p::l
 |[],p,_=>⟨by simp[ddG,Uj],λz=>by simp[ddG]⟩
 | x::l,p,h=>by
  have k:=List.pairwise_cons.1 h;obtain⟨i1,i2⟩:=AE7 g k.2;rw[ddG]
  by_cases e:E x p=true
  ·rw[A2 e];cases(g x p).1 e;exact⟨i1,λz=>by have:=i2 z;simp only[Fa]at this ⊢;grind⟩
  rw[A1 e];refine⟨List.pairwise_cons.2 ⟨λz i=>?_,i1⟩,λz=>by have:=i2 z;simp only[Fa]at this ⊢;grind⟩
  have M:mO p.dE x.dE<0:=by
   have O:=k.1 x za4
   rw[Zk]at O
   rcases Int.lt_trichotomy (mO p.dE x.dE) 0 with Z|Z|Z
   ·exact Z
   ·exact absurd ((g x p).2 (by cases x;cases p;exact G2 D6.mk (Ro Z).symm)) e
   omega
  rcases List.mem_cons.1 i with rfl|i
  ·exact M
  exact VF M ((List.pairwise_cons.1 i1).1 z i)
def Bv8 {E:D6->D6->Bool}(e:∀x y,E x y=true<->x=y){l:Up D6}(h:l.Pairwise λa b=>¬mO b.dE a.dE<0):Uj (ddE E l)/\∀z,z∈ddE E l<->z∈l:=by
 cases l with
 |nil=>exact⟨.nil,λz=>.rfl⟩
 |cons x l=>exact AE7 e h
def AP5 {a b:Up D6}(T:Uj a)(A:Uj b)(h:∀x,x∈a<->x∈b):a=b:=by
 have nd:∀{r:Up D6},Uj r->r.Nodup:=λf=>List.Pairwise.imp (λ{x y} h e=>by subst e;rw[Rp]at h;omega) f;refine IS (le:=λx y=>mO x.dE y.dE<0) (λx y _ _ O Z=>?_) (show List.Pairwise (λx y:D6=>mO x.dE y.dE<0) a from T) (show List.Pairwise (λx y:D6=>mO x.dE y.dE<0) b from A) ((List.perm_ext_iff_of_nodup (nd T) (nd A)).2 h);have:=VF O Z
 rw[Rp]at this;omega
def AX3 {N:Nat} (c:Bgn N) {L r:Up D6} (T:Uj r) (A:∀x∈r,x.dE.length<=1000000/\Bc0 x.dE=0) (g:∀x,x∈L<->x∈r) (B:L.length<=1000000) (f:r.length<=4096):MM N L=some (r,0):=by
 unfold MM;refine LR (m:=L.length) (λi (t:Up D6)=>((i:Int),t)) (λi t=>t=L.take i) (λt=>Sum.inl t) (t0:=[]) rfl za2 rfl (λi U t e=>?_) (λt _=>by rw[A1 AO]) (λt e=>?_)
 ·subst e;have M:=A _ ((g _).1 (F4 U));refine⟨L.take (i+1),?_,rfl⟩;rw[A2 (T3 za2),E8,C8 U];simp only[A4];obtain⟨bs,b⟩:∃bs,L[i]=D6.mk bs:=⟨_,rfl⟩
  rw[b]at M ⊢
  rw[AC1 c M.1];simp only[A4];rw[A1 (K7 M.2),show Y9 N bs=some bs by unfold Y9;have:=M.1;rw[AW (by simp at *;omega)];rfl];simp only[A4];rw[AW (by rw[X8];simp;omega),D4 za2 za2,Ff,C8 U,b];rfl
 dsimp only
 rw[CY]at e
 subst e;obtain⟨m,w,e2,n⟩:=Bf9 c T (λx M=>(A x M).1) (λx M=>(g x).1 M) B;rw[w];simp only[A4];have a:∀x∈m,x.dE.length<=1000000:=λx M=>(A x ((g x).1 (e2.mem_iff.1 M))).1
 rw[Am5 c (E:=λx y=>decide (x=y)) (by rw[e2.length_eq];omega) (λx M y K=>by
  unfold JE;rw[Po c (a x M) (a y K)];simp only[A4,F5,E7,decide_eq_decide]
  exact⟨λh=>by cases x;cases y;exact G2 D6.mk (Ro h),λh=>by rw[h,Rp]⟩)]
 obtain⟨k,l⟩:=Bv8 (E:=λx y=>decide (x=y)) (λx y=>za4) n;have er:ddE (λx y=>decide (x=y)) m=r:=AP5 k T λx=>(l x).trans ((e2.mem_iff).trans (g x));simp only[A4];rw[er,A1 (T9 (by rw[B4];omega))]
def AM0 {N:Nat}(c:Bgn N){r:Up D6}(A:∀x∈r,x.dE.length<=1000000)(f:r.length<=1000000):N6 N r r (λa b=>Z9 N a b)=some true:=by
 unfold N6;rw[A1 (K7 rfl)];refine LR (m:=r.length) (λi (_:Unit)=>(i:Int)) (λ_ _=>True) (λ_=>Sum.inl ()) (t0:=()) rfl za2 trivial (λi U t _=>⟨(),?_,trivial⟩) (λt _=>by rw[A1 AO]) (λt _=>rfl);have M:=A _ (F4 U);rw[A2 (T3 za2),E8,C8 U];simp only[A4];unfold Z9;rw[Po c M M,Rp];simp only[A4];rw[A1 za5,D4 za2 za2];rfl
def Ay0 {N:Nat} (c:Bgn N) (f:CS N=some true) {p:A0} (A:p.bulk<=16777216) {l:Up A9} (o:l.length<=16777216):Ec N p l=some true:=by
 unfold Ec;have ab:=Ib p;obtain⟨b,O,Z⟩:=Bg0 c A za2 o;rw[O,f];simp only[A4]
 cases b with
 |false=>rw[A2 (show nt false=true from rfl)]
 |true=>
 rw[A1 (show¬nt true=true by decide)];obtain⟨J,G,h5⟩:=Z rfl;obtain⟨b2,h6,h7⟩:=few4 c l;rw[h6];simp only[A4]
 cases b2 with
 |false=>rw[A2 (show nt false=true from rfl)]
 |true=>
 rw[A1 (show¬nt true=true by decide),AK5 c A];simp only[A4]
 by_cases X:RH N p=0
 case neg=>rw[A2 (O9 X)]
 rw[A1 (K7 X),Bh3 c];simp only[A4]
 by_cases a:BP l=0
 case neg=>rw[A2 (O9 a)]
 rw[A1 (K7 a)];obtain⟨r,L,w,tl,Y,ra,rl,rz⟩:=Bd9 c A J G h5 X a;obtain⟨ms,m1,m2,⟨L',_,E,S⟩,T,m5⟩:=Bi1 c A J G X a;rw[w];unfold Ho;rw[m1];simp only[A4];rw[A1 (show¬Ar.or (Ar.cmp .neq (0:Int) 0) (Ar.cmp .neq (0:Int) 0)=true by decide)];obtain⟨D,ac⟩:=JK c A X
 have k:∀i (U:i<r.length),∃s,HR r[i] p=0/\Oc l r[i] p [] 0=some s/\Hi l 0 s/\Sm l p [] 0 s:=λi U=>by
  obtain⟨t,R,B⟩:=List.mem_map.1 (Y.mem_iff.1 (F4 U));obtain⟨t1,V,_,t4⟩:=tl.tr t R
  rw[B]at t1 V
  exact⟨t.1,t1,V,t4,(tl.sm t.1).1 ⟨t,R,rfl⟩⟩
 refine LR (m:=r.length) (λi (t:Up D6)=>(t,(i:Int))) (λi t=>t=(r.take i).map λd=>V2 l ((Oc l d p [] 0).getD [])) (λt=>Sum.inl t) (t0:=[]) rfl za2 rfl (λi U t e=>?_) (λt _=>by rw[A1 AO]) (λt e=>?_)
 ·obtain⟨s,I,y,s3,s4⟩:=k i U;have n:=rz _ (F4 U);have v:=Ax6 _ p [] 0 _ y
  have P:∀z∈SP r[i] p,∃j,Id l z.Ref=some j:=by
   intro z n;obtain⟨x,M,rfl⟩:=List.mem_map.1 (v.mem_iff.1 n);obtain⟨_,a1,a2⟩:=s3.gd.wf x M;obtain⟨j,u⟩:∃j:Nat,x.At=j:=⟨x.At.toNat,za2⟩;exact⟨j,by show Id l (Ce l x.At)=_;rw[u];exact Bt8 za2 a za2⟩
  have ev:S8 N p l r[i]=some 0:=by
   rw[Aq0 c A X za2 a n I,y,A1 (by
    rw[IE];rintro⟨z,n,h⟩;obtain⟨j,u⟩:=P z n
    rw[u]at h
    cases h)]
   rfl
  have em:=AM1 c A X za2 a n I y s3
  have et:(r.take i).length<=4096:=by rw[X8];omega
  refine⟨t++[V2 l s],?_,?_⟩
  ·rw[A2 (T3 za2),E8,C8 U];simp only[A4];rw[ev];simp only[A4];rw[A1 (K7 rfl),em];have F:V7 t [V2 l s]=some (t++[V2 l s]):=AW (by rw[e,E1];simp;simp at et;omega)
   by_cases h0:i=0
   ·subst h0;rw[A1 (T9 za4)];simp only[A4];rw[A1 (K7 rfl),F];simp only[A4];rw[D4 za2 za2];rfl
   rw[A2 (Bn za2),CL za2 za2,show(i:Int)-1=((i-1:Nat):Int) by omega,E8,C8 za2];simp only[A4];have hd:=Yd r[i-1];have ad:=rz _ (F4 (show i-1<r.length by omega));rw[RE c N _ _ za2 za2];simp only[A4];have aa:=List.pairwise_iff_getElem.1 ra (i-1) i za2 U za2;rw[A1 (by rw[U2];simp;omega),A1 (K7 rfl),F];simp only[A4];rw[D4 za2 za2];rfl
  rw[e,Ff,C8 U,P9];simp[y]
 dsimp only
 rw[CY]at e
 have K:∀x,x∈t<->x∈ms:=λx=>by
  rw[e,S.mem_iff,DF,DF]
  constructor
  ·rintro⟨d,hd,rfl⟩;obtain⟨i,U,rfl⟩:=K1 hd;obtain⟨s,_,y,_,s4⟩:=k i U;exact⟨s,(E s).2 s4,by rw[y];rfl⟩
  rintro⟨s,C,rfl⟩;obtain⟨q,Q,rfl⟩:=(tl.sm s).2 ((E s).1 C);obtain⟨_,V,_,_⟩:=tl.tr q Q;exact⟨q.2,Y.mem_iff.2 (List.mem_map.2 ⟨q,Q,rfl⟩),by rw[V];rfl⟩
 rw[AX3 c m2 (λx M=>⟨by have:=T x M;omega,by
  obtain⟨s,C,rfl⟩:=List.mem_map.1 (S.mem_iff.1 M);have g:=((E s).1 C).res D (AK9 l)
  exact Wt za2 a g.gd g.ne⟩) K (by rw[e,E1];omega) za2]
 simp only[A4];rw[A2 (by simp[O5,F5]),AM0 c (λx M=>by have:=T x M;omega) za2];rfl
end
end Go.Ab
namespace Go.Ab
open Go.RowKit Go.ChangeShapes Go.WideShapes Go.ChangeAt Go.Proofs Go.Proofs.YtagnkafeimdfnaaGreatDoor
set_option maxRecDepth 100000
mutual
def Bb1:B6->V
 |⟨g,args,var,a,e,b⟩=>.agg [.int .i64 g,.sl (Ak9 args) .ro,.int .i64 var,.int .i64 a,.int .i64 e,.int .i64 b.Kind,.int .i64 b.Num,.str b.Text]
def Ak9:Up B6->Up V
 |[]=>[]
 |a::r=>Bb1 a::Ak9 r
end
def XZ:∀l:Up B6,Ak9 l=l.map Bb1
 |[]=>by simp[Ak9]
 |a::r=>by simp[Ak9,XZ r]
mutual
def Bm5:A0->V
 |⟨b,args,a,var,scope,span,c⟩=>.agg [.int .i64 b,.sl (Ak8 args) .ro,.int .i64 a,.int .i64 var,.int .i64 scope,.int .i64 span,.int .i64 c.Op,.sl (c.dD.map Bb1) .ro,.int .i64 c.Var,.int .i64 c.Field,.int .i64 c.Kind,.int .i64 c.Value.Kind,.int .i64 c.Value.Num,.str c.Value.Text]
def Ak8:Up A0->Up V
 |[]=>[]
 |a::r=>Bm5 a::Ak8 r
end
def XY:∀l:Up A0,Ak8 l=l.map Bm5
 |[]=>by simp[Ak8]
 |a::r=>by simp[Ak8,XY r]
mutual
def Aw0:A5->V
 |⟨r,c,ks⟩=>.agg [.int .i64 r.Time,.int .i64 r.Source,.int .i64 r.Seq,.int .i64 c,.sl (Al0 ks) .ro]
def Al0:Up A5->Up V
 |[]=>[]
 |a::r=>Aw0 a::Al0 r
end
def Ya:∀l:Up A5,Al0 l=l.map Aw0
 |[]=>by simp[Al0]
 |a::r=>by simp[Al0,Ya r]
noncomputable def SK (x:B5):V:=.agg [.int .i64 x.Kind,.int .i64 x.Num,.str x.Text]
noncomputable def PB (x:A9):V:=.agg [.int .i64 x.Source,.int .i64 x.Seq,.int .i64 x.Typ,.int .i64 x.Time,.sl (lst SK x.Values) .ro]
noncomputable def Bm6 (x:Bb):V:=.agg [.int .i64 x.Time,.int .i64 x.Source,.int .i64 x.Seq]
noncomputable def TO (x:B0):V:=.agg [.int .i64 x.Var,.int .i64 x.Ref.Time,.int .i64 x.Ref.Source,.int .i64 x.Ref.Seq]
noncomputable def AO8 (x:D6):V:=.agg [.sl (lst TO x.dE) .ro]
noncomputable def Nq (x:F2):V:=.agg [.sl (lst PB x.dH) .ro,.int .i64 x.count]
noncomputable def FX (x:A7):V:=.agg [.int .i64 x.v,.int .i64 x.at_]
noncomputable def OK (x:A8):V:=.agg [.int .i64 x.d.Ref.Time,.int .i64 x.d.Ref.Source,.int .i64 x.d.Ref.Seq,.int .i64 x.d.Choice,.sl (lst Aw0 x.d.Kids) .ro,.sl (lst FX x.s) .ro]
noncomputable def Np (x:B2):V:=.agg [.int .i64 x.d.Ref.Time,.int .i64 x.d.Ref.Source,.int .i64 x.d.Ref.Seq,.int .i64 x.d.Choice,.sl (lst Aw0 x.d.Kids) .ro,.bool x.ok]
noncomputable def PH (x:J5):V:=.agg [.int .i64 x.source,.int .i64 x.seq]
noncomputable def PI (x:C1):V:=.agg [.sl (lst PB x.dH) .ro,.bool x.full]
noncomputable def Js (x:A3):V:=.agg [.int .i64 x.dJ,.int .i64 x.at_]
noncomputable def PJ (x:D1):V:=.agg [.int .i64 x.node,.int .i64 x.first,.int .i64 x.last,.int .i64 x.outer]
noncomputable def RC (x:U0):V:=.agg [.int .i64 x.dK,.int .i64 x.most,.bool x.dG,.bool x.cond,.bool x.scope,.bool x.span]
noncomputable def QC (x:Up A9):V:=.sl (lst PB x) .ro
noncomputable def Bm7 (x:JJ):V:=.agg [.sl (lst QC x.dL) .ro]
noncomputable def QD (x:X3):V:=.agg [.sl (lst QC x.env.dL) .ro,.int .i64 x.own,.int .i64 x.event.Source,.int .i64 x.event.Seq,.int .i64 x.event.Typ,.int .i64 x.event.Time,.sl (lst SK x.event.Values) .ro,.fmap Zz Zy]
noncomputable def Uf (x:G5):V:=.agg [.int .i64 x.Kind,.int .i64 x.Count,.int .i64 x.Value.Kind,.int .i64 x.Value.Num,.str x.Value.Text]
noncomputable def Ue (x:Up A5):V:=.sl (lst Aw0 x) .ro
noncomputable def OJ (x:Up A7):V:=.sl (lst FX x) .ro
noncomputable def Jh (x:Up A3):V:=.sl (lst Js x) .ro
noncomputable def No (x:Up (Up A3)):V:=.sl (lst Jh x) .ro
noncomputable instance encsInst :P4 where
 eBF4:=SK
 eBF3:=λ_=>rfl
 eBF9:=Bb1
 eBH0:=λ⟨_,_,_,_,_,_⟩=>by simp only[Bb1,XZ];rfl
 eBE7:=Bm5
 eBF1:=λ⟨_,_,_,_,_,_,_⟩=>by simp only[Bm5,XY];rfl
 eBE3:=PB
 eBF2:=λ_=>rfl
 eBG6:=Bm6
 eBH2:=λ_=>rfl
 eBE5:=Aw0
 eBE6:=λ⟨_,_,_⟩=>by simp only[Aw0,Ya];rfl
 eBE4:=TO
 eBE9:=λ_=>rfl
 eBE8:=AO8
 eBF8:=λ_=>rfl
 eBH8:=Nq
 eBI5:=λ_=>rfl
 eBE2:=FX
 eBF5:=λ_=>rfl
 eBH9:=OK
 eBI6:=λ_=>rfl
 eBF7:=Np
 eBH5:=λ_=>rfl
 eBG7:=PH
 eBH1:=λ_=>rfl
 eBI0:=PI
 eBI7:=λ_=>rfl
 eBE1:=Js
 eBG1:=λ_=>rfl
 eBF6:=PJ
 eBH6:=λ_=>rfl
 eBH7:=RC
 eBI4:=λ_=>rfl
 eBI1:=Bm7
 eBI8:=λ_=>rfl
 eBI2:=QD
 eBI9:=λ_=>rfl
 eBI3:=Uf
 eBJ0:=λ_=>rfl
 eBG4:=QC
 eBH3:=λ_=>rfl
 eBG3:=Ue
 eBG8:=λ_=>rfl
 eBG0:=OJ
 eBG9:=λ_=>rfl
 eBG5:=No
 eBH4:=λ_=>rfl
 eBF0:=Jh
 eBG2:=λ_=>rfl
def XG {α:Type}(f:α->Nat):Up α->Nat
 |[]=>1
 |a::l=>f a+XG f l
def AB8 {α:Type}{f:α->Nat}(o:∀a,1<=f a):∀l:Up α,l.length+1<=XG f l
 |[]=>by simp[XG]
 |b::l=>by have:=o b;have:=AB8 o l;simp only[XG,N3];omega
section
variable [P3]{H:Type}{enc:TypeId×Value->H}{W:World}{base:Nat}{spare:Nat->Bool}{held:Bool}
abbrev bk (d:DataW H):Nat:=Rows.uptoBulk d
noncomputable def Zw (P:If)(t:Do):za1 Field:=match P.underlying t with|some (.struct fs)=>fs|_=> #[]
def S0 {P:If} {t ty off sz:Nat} {xs:Up (DataW H×Up MemPlace)} {cs:Up HO} {n:Nat} (B:xs.length=(Zw P t).size)
 (o:∀(i:Nat) (f:Field),(Zw P t)[i]? =some f->DataW.trod enc P W base spare held n f.type ((cs.drop f.offset).take (P.cellsOf f.type))=xs[i]?) (i:Nat)
 (h:((Zw P t)[i]?.map λf=>(f.type,f.offset,P.cellsOf f.type))=some (ty,off,sz)):∃y,xs[i]? =some y/\DataW.trod enc P W base spare held n ty ((cs.drop off).take sz)=some y:=by
 cases U:(Zw P t)[i]? with
 |none=>rw[U]at h;cases h
 |some f=>
  rw[U]at h
  simp only[K5,E7,GQ]at h
  obtain⟨rfl,rfl,rfl⟩:=h;exact Av5 B o i U
def DA.down {α:Type}{P:If}{t:Do}{f:α->V}{R:α->DataW H->Prop}{n:Nat}(h:DA enc P W base spare held t f R (n+1)):DA enc P W base spare held t f R n:=λcs x M=>h cs x (DataW.trod_le (Nat.le_succ n) M)
def DA.imp {α:Type}{P:If}{t:Do}{f:α->V}{R b:α->DataW H->Prop}{n:Nat}(h:DA enc P W base spare held t f R n)(U:∀a d,R a d->b a d):DA enc P W base spare held t f b n:=λcs x M=>by
 obtain⟨a,r,q⟩:=h cs x M;exact⟨a,r,U _ _ q⟩
def DA.congr {α:Type}{P:If}{t:Do}{f g:α->V}{R:α->DataW H->Prop}{n:Nat}(h:DA enc P W base spare held t f R n)(b:∀x,f x=g x):DA enc P W base spare held t g R n:=λcs x M=>by
 obtain⟨a,r,q⟩:=h cs x M;exact⟨a,by rw[<-b];exact r,q⟩
def Bq1 {α:Type} {f:α->Nat}:∀(l:Up α) (ds:Up (DataW H)),RL (λa d=>f a<=bk d) l ds->XG f l<=Rows.uptoBulkAll ds+1
 |[],ds,h=>by simp[XG]
 |a::l,[],h=>by have:=h.1;simp at this
 |a::l,d::ds,h=>by
  have O:f a<=bk d:=h.2 0 a d rfl rfl;have Z:=Bq1 l ds ⟨by simpa using h.1,λi a d U hd=>h.2 (i+1) a d (by simpa using U) (by simpa using hd)⟩;simp only[XG,Rows.uptoBulkAll];have J:bk d=Rows.uptoBulk d:=rfl;omega
def AA3 {α:Type}{f:α->Nat}{l:Up α}{d:DataW H}(h:RS (λa d=>f a<=bk d) l d):XG f l<=bk d:=by
 obtain⟨_,h⟩:=h
 rcases h with⟨rfl,rfl⟩|⟨b,e,rfl,h⟩
 ·simp[bk,Rows.uptoBulk,XG]
 have:=Bq1 l b h;simp only[bk,Rows.uptoBulk];omega
def An3:∀l:Up B6,B6.bulks l=XG B6.bulk l
 |[]=>by simp[B6.bulks,XG]
 |a::l=>by simp[B6.bulks,XG,An3 l]
def Bc4 {l:Up B6}{d:DataW H}(h:RS (λa d=>B6.bulk a<=bk d) l d):B6.bulks l<=bk d:=by rw[An3];exact AA3 h
def Yo:∀l:Up A0,A0.bulks l=XG A0.bulk l
 |[]=>by simp[A0.bulks,XG]
 |a::l=>by simp[A0.bulks,XG,Yo l]
def An4 {l:Up A0}{d:DataW H}(h:RS (λa d=>A0.bulk a<=bk d) l d):A0.bulks l<=bk d:=by rw[Yo];exact AA3 h
def Bv3 {β:Type}{xs:Up β}{a b c:β}(B:xs.length=3)(L:xs[0]? =some a)(O:xs[1]? =some b)(Z:xs[2]? =some c):xs=[a,b,c]:=by
 match xs,B with
 |[e,g,h],_=>simp at L O Z;rw[L,O,Z]
def Bv2 {β:Type}{xs:Up β}{a b c d e:β}(B:xs.length=5)(L:xs[0]? =some a)(O:xs[1]? =some b)(Z:xs[2]? =some c)(J:xs[3]? =some d)(s:xs[4]? =some e):xs=[a,b,c,d,e]:=by
 match xs,B with
 |[g,h,i,k,l],_=>simp at L O Z J s;rw[L,O,Z,J,s]
def Bv1 {β:Type}{xs:Up β}{a b c d e f:β}(B:xs.length=6)(L:xs[0]? =some a)(O:xs[1]? =some b)(Z:xs[2]? =some c)(J:xs[3]? =some d)(s:xs[4]? =some e)(g:xs[5]? =some f):xs=[a,b,c,d,e,f]:=by
 match xs,B with
 |[h,i,k,l,n,x5],_=>simp at L O Z J s g;rw[L,O,Z,J,s,g]
def Bv0 {β:Type}{xs:Up β}{a b c d e f g:β}(B:xs.length=7)(L:xs[0]? =some a)(O:xs[1]? =some b)(Z:xs[2]? =some c)(J:xs[3]? =some d)(s:xs[4]? =some e)(h:xs[5]? =some f)(i:xs[6]? =some g):xs=[a,b,c,d,e,f,g]:=by
 match xs,B with
 |[k,l,n,r,t,x5,x],_=>simp at L O Z J s h i;rw[L,O,Z,J,s,h,i]
def u27:Tryz.prog.underlying 27=some (.struct (Zw Tryz.prog 27)):=za3
def u23:Tryz.prog.underlying 23=some (.slice 27):=za3
def u3:Tryz.prog.underlying 3=some (.int .i64):=za3
def GC (n:Nat):DA enc Tryz.prog W base spare held 3 (V.int .i64) (λa d=>(λ_:Int=>1) a<=bk d) n:=(Sr u3).imp λa d h=>by subst h;simp[bk,Rows.uptoBulk]
def u25:Tryz.prog.underlying 25=some (.struct (Zw Tryz.prog 25)):=za3
def u9:Tryz.prog.underlying 9=some .string:=za3
def Bt9 (n:Nat):DA enc Tryz.prog W base spare held 9 V.str (λa d=>(λs:za0=>s.size+1) a<=bk d) n:=(AL0 u9).imp λa d h=>by obtain⟨rfl,_⟩:=h;simp[bk,Rows.uptoBulk]
def B5.mu (x:B5):Nat:=(λ_:Int=>1) x.Kind+(λ_:Int=>1) x.Num+(λs:za0=>s.size+1) x.Text+1
def AB2 (n:Nat):DA enc Tryz.prog W base spare held 25 P4.eBF4 (λ(a:B5) d=>B5.mu a<=bk d) n:=by
 intro cs x h;obtain⟨xs,m,E,rfl,e,B,o⟩:=IG u25 h;subst E;obtain⟨s,r,t0⟩:=S0 B o 0 (ty:=3) (off:=0) (sz:=1) za3;obtain⟨u,t,p⟩:=S0 B o 1 (ty:=3) (off:=1) (sz:=1) za3;obtain⟨w,y,q⟩:=S0 B o 2 (ty:=9) (off:=2) (sz:=1) za3;have g:=Bv3 (B.trans za3) r t y;obtain⟨i,f,K⟩:=GC _ _ _ t0;obtain⟨k,j,P⟩:=GC _ _ _ p;obtain⟨l,v,c⟩:=Bt9 _ _ _ q;refine⟨⟨i,k,l⟩,?_,?_⟩
 ·have b:cs.length=3:=e.trans za3;have:=(f.join j).join v;rw[P4.eBF3]
  simp only[lst_eq]at this ⊢
  simpa[AB,b,V.cells]using this
 simp only[bk]at K P c
 rw[g];simp only[D9,I0,bk,Rows.uptoBulk,Rows.uptoBulkAll,B5.mu];omega
def Bj0:∀n:Nat,DA enc Tryz.prog W base spare held 27 P4.eBF9 (λ(a:B6) d=>B6.bulk a<=bk d) n:=by
 intro n
 induction n with
 |zero=>intro cs x h;simp[DataW.trod]at h
 |succ n ih=>
 intro cs x h;obtain⟨xs,m,E,rfl,e,B,o⟩:=IG u27 h;cases E;obtain⟨U,f,t0⟩:=S0 B o 0 (ty:=3) (off:=0) (sz:=1) za3;obtain⟨T,j,k⟩:=S0 B o 1 (ty:=23) (off:=1) (sz:=1) za3;obtain⟨X,p,O⟩:=S0 B o 2 (ty:=3) (off:=2) (sz:=1) za3;obtain⟨Y,s,Q⟩:=S0 B o 3 (ty:=3) (off:=3) (sz:=1) za3;obtain⟨Z,u,R⟩:=S0 B o 4 (ty:=3) (off:=4) (sz:=1) za3;obtain⟨y5,w,S⟩:=S0 B o 5 (ty:=25) (off:=5) (sz:=3) za3;have g:=Bv1 (B.trans za3) f j p s u w;obtain⟨l,I,z⟩:=GC _ _ _ t0
 obtain⟨t,J,A⟩:∃a:Up B6,Ip (g0 W) W ((cs.drop 1).take 1) (V.sl (a.map P4.eBF9) .ro).cells/\B6.bulks a<=bk T.1:=by
  cases n with
  |zero=>simp[DataW.trod]at k
  |succ n=>
   obtain⟨a,r,q⟩:=LA u23 (show 0<Tryz.prog.cellsOf 27 by rw[show Tryz.prog.cellsOf 27=8 by kernel_rfl];decide) ih.down _ _ k;exact⟨a,r,Bc4 q⟩
 obtain⟨y,v,C⟩:=GC _ _ _ O;obtain⟨K,L,D⟩:=GC _ _ _ Q;obtain⟨P,M,F⟩:=GC _ _ _ R;obtain⟨c,i,G⟩:=AB2 _ _ _ S;refine⟨⟨l,t,y,K,P,c⟩,?_,?_⟩
 ·have b:cs.length=8:=e.trans za3
  rw[P4.eBF3]at i
  have:=((((I.join J).join v).join L).join M).join i;rw[P4.eBH0]
  simp only[lst_eq]at this ⊢
  simpa[AB,b,V.cells]using this
 simp only[bk]at z A C D F G
 rw[g]
 simp only[D9,I0,bk,Rows.uptoBulk,Rows.uptoBulkAll,B6.bulk,B5.mu]at *
 omega
def u29:Tryz.prog.underlying 29=some (.struct (Zw Tryz.prog 29)):=za3
def u22:Tryz.prog.underlying 22=some (.slice 29):=za3
def Bi9:∀n:Nat,DA enc Tryz.prog W base spare held 29 P4.eBE7 (λ(a:A0) d=>A0.bulk a<=bk d) n:=by
 intro n
 induction n with
 |zero=>intro cs x h;simp[DataW.trod]at h
 |succ n ih=>
 intro cs x h;obtain⟨xs,m,E,rfl,e,B,o⟩:=IG u29 h;cases E;obtain⟨y0,j,t0⟩:=S0 B o 0 (ty:=3) (off:=0) (sz:=1) za3;obtain⟨y1,p,k⟩:=S0 B o 1 (ty:=22) (off:=1) (sz:=1) za3;obtain⟨y2,s,T⟩:=S0 B o 2 (ty:=3) (off:=2) (sz:=1) za3;obtain⟨y3,u,U⟩:=S0 B o 3 (ty:=3) (off:=3) (sz:=1) za3;obtain⟨y4,w,X⟩:=S0 B o 4 (ty:=3) (off:=4) (sz:=1) za3;obtain⟨y5,z,Y⟩:=S0 B o 5 (ty:=3) (off:=5) (sz:=1) za3;obtain⟨y6,A,Z⟩:=S0 B o 6 (ty:=27) (off:=6) (sz:=8) za3;have g:=Bv0 (B.trans za3) j p s u w z A;obtain⟨l,M,C⟩:=GC _ _ _ t0
 obtain⟨t,O,D⟩:∃a:Up A0,Ip (g0 W) W ((cs.drop 1).take 1) (V.sl (a.map P4.eBE7) .ro).cells/\A0.bulks a<=bk y1.1:=by
  cases n with
  |zero=>simp[DataW.trod]at k
  |succ n=>
   obtain⟨a,r,q⟩:=LA u22 (show 0<Tryz.prog.cellsOf 29 by rw[show Tryz.prog.cellsOf 29=14 by kernel_rfl];decide) ih.down _ _ k;exact⟨a,r,An4 q⟩
 obtain⟨y,v,F⟩:=GC _ _ _ T;obtain⟨K,Q,G⟩:=GC _ _ _ U;obtain⟨P,R,I⟩:=GC _ _ _ X;obtain⟨c,S,J⟩:=GC _ _ _ Y;obtain⟨f,i,L⟩:=Bj0 _ _ _ Z;refine⟨⟨l,t,y,K,P,c,f⟩,?_,?_⟩
 ·have b:cs.length=14:=e.trans za3
  rw[P4.eBH0]at i
  have:=(((((M.join O).join v).join Q).join R).join S).join i;rw[P4.eBF1]
  simp only[lst_eq]at this ⊢
  simpa[AB,b,V.cells]using this
 simp only[bk]at C D F G I J L
 rw[g]
 simp only[D9,I0,bk,Rows.uptoBulk,Rows.uptoBulkAll,A0.bulk,B5.mu]at *
 omega
def u61:Tryz.prog.underlying 61=some (.struct (Zw Tryz.prog 61)):=za3
def u59:Tryz.prog.underlying 59=some (.slice 25):=za3
def Bi7 (n:Nat):DA enc Tryz.prog W base spare held 59 (λl:Up B5=>.sl (lst P4.eBF4 l) .ro) (λa d=>(XG B5.mu) a<=bk d) n:=
 DA.down (((LA u59 (show 0<Tryz.prog.cellsOf 25 by rw[show Tryz.prog.cellsOf 25=3 by kernel_rfl];decide) (AB2 n)).imp λa d h=>AA3 h).congr λx=>by rw[lst_eq])
def A9.mu (x:A9):Nat:=(λ_:Int=>1) x.Source+(λ_:Int=>1) x.Seq+(λ_:Int=>1) x.Typ+(λ_:Int=>1) x.Time+(XG B5.mu) x.Values+1
def Bi6 (n:Nat):DA enc Tryz.prog W base spare held 61 P4.eBE3 (λ(a:A9) d=>A9.mu a<=bk d) n:=by
 intro cs x h;obtain⟨xs,m,E,rfl,e,B,o⟩:=IG u61 h;subst E;obtain⟨J,y,t0⟩:=S0 B o 0 (ty:=3) (off:=0) (sz:=1) za3;obtain⟨L,K,D⟩:=S0 B o 1 (ty:=3) (off:=1) (sz:=1) za3;obtain⟨M,P,F⟩:=S0 B o 2 (ty:=3) (off:=2) (sz:=1) za3;obtain⟨O,c,G⟩:=S0 B o 3 (ty:=3) (off:=3) (sz:=1) za3;obtain⟨Q,f,I⟩:=S0 B o 4 (ty:=59) (off:=4) (sz:=1) za3;have g:=Bv2 (B.trans za3) y K P c f;obtain⟨i,w,j⟩:=GC _ _ _ t0;obtain⟨k,z,p⟩:=GC _ _ _ D;obtain⟨l,v,q⟩:=GC _ _ _ F;obtain⟨r,A,s⟩:=GC _ _ _ G;obtain⟨t,C,u⟩:=Bi7 _ _ _ I;refine⟨⟨i,k,l,r,t⟩,?_,?_⟩
 ·have b:cs.length=5:=e.trans za3;have:=(((w.join z).join v).join A).join C;rw[P4.eBF2]
  simp only[lst_eq]at this ⊢
  simpa[AB,b,V.cells]using this
 simp only[bk]at j p q s u
 rw[g];simp only[D9,I0,bk,Rows.uptoBulk,Rows.uptoBulkAll,A9.mu];omega
def u30:Tryz.prog.underlying 30=some (.slice 61):=za3
def Bi8 (n:Nat):DA enc Tryz.prog W base spare held 30 (λl:Up A9=>.sl (lst P4.eBE3 l) .ro) (λa d=>(XG A9.mu) a<=bk d) n:=
 DA.down (((LA u30 (show 0<Tryz.prog.cellsOf 61 by rw[show Tryz.prog.cellsOf 61=5 by kernel_rfl];decide) (Bi6 n)).imp λa d h=>AA3 h).congr λx=>by rw[lst_eq])
def ZQ {v:HO}{d:DataW H}{p:Up MemPlace}(q:Value.okWide Tryz.prog W .any base 29 v)(h:DataW.Trod enc Tryz.prog W 0 (λ_=>true) true 29 v d p):∃x:A0,VR (g0 W) W v (P4.eBE7 x)/\A0.bulk x<=Rows.uptoBulk d:=by
 obtain⟨a,j⟩:=h;obtain⟨cs,rfl,e⟩:=okWide_struct u29 q;obtain⟨x,f,A⟩:=Bi9 a _ _ j;have b:Ip (g0 W) W cs.toList (P4.eBE7 x).cells:=f;refine⟨x,?_,A⟩;have:=b.agg
 rw[P4.eBF1]at this ⊢
 exact this
def An5 {v:HO}{d:DataW H}{p:Up MemPlace}(q:Value.okWide Tryz.prog W .any base 30 v)(h:DataW.Trod enc Tryz.prog W 0 (λ_=>true) true 30 v d p):∃x:Up A9,VR (g0 W) W v (.sl (lst P4.eBE3 x) .ro)/\(XG A9.mu) x<=Rows.uptoBulk d:=by
 obtain⟨b,j⟩:=h;obtain⟨a,len,cap,rfl⟩:=okWide_slice u30 q;obtain⟨x,f,A⟩:=Bi8 b _ _ j;exact⟨x,(f.2 0 (by simp[V.cells])).2,A⟩
def u4:Tryz.prog.underlying 4=some .bool:=za3
def Bl2 {f:FuncId}{vals:za1 HO}{args:Up V}(h:∀n,VR (g0 W) W (.pointer (some ⟨n,0,none⟩)) (P3.gl n))(a:∀vals w,(callFunc f vals).run Tryz.prog w= .ok (.enter f vals) w)(law:B8 Tryz.prog f args (.bool true))(g:Args (g0 W) W vals args):
 Calls Tryz.prog f vals W λe W'=>e= .returned (.bool true)/\Below W.heap.size W W':=by
 have X:=law (λ_=>none) (g0 W) W vals (rl0 h) g
 rw[a]at X
 refine(callsIn_wide.1 X).mono λe W' ⟨v,Y,g',y,H',C,F,b,m,_⟩=>?_;subst m;cases b;exact⟨Y,C.low⟩
def BD3 {a b:HO}{e g:V}(L:VR (g0 W) W a e)(O:VR (g0 W) W b g):Args (g0 W) W #[a,b] [e,g]:=⟨rfl,λi U=>by
 match i,U with
 |0,_=>exact L
 |1,_=>exact O⟩
end
end Go.Ab
namespace Go.Ab
open Go.RowKit Go.ChangeShapes Go.WideShapes Go.ChangeAt Go.Proofs Go.Proofs.YtagnkafeimdfnaaGreatDoor
set_option maxRecDepth 100000
section
variable {H:Type}{enc:TypeId×Value->H}{W:World}{base:Nat}{spare:Nat->Bool}{held:Bool}
def u167:Tryz.prog.underlying 167=some (.array O4.length 166):=za3
def u166:Tryz.prog.underlying 166=some (.struct (Zw Tryz.prog 166)):=za3
def At1 (n:Nat):DA enc Tryz.prog W base spare held 166 P4.eBH7 (λ(a:U0) d=>d= .agg [.lit (.int .i64 a.dK),.lit (.int .i64 a.most),.lit (.bool a.dG),.lit (.bool a.cond),.lit (.bool a.scope),.lit (.bool a.span)]) n:=by
 intro cs x h;obtain⟨xs,m,rfl,rfl,e,B,o⟩:=IG u166 h;obtain⟨Q,K,t0⟩:=S0 B o 0 (ty:=3) (off:=0) (sz:=1) za3;obtain⟨R,P,I⟩:=S0 B o 1 (ty:=3) (off:=1) (sz:=1) za3;obtain⟨S,c,J⟩:=S0 B o 2 (ty:=4) (off:=2) (sz:=1) za3;obtain⟨T,f,L⟩:=S0 B o 3 (ty:=4) (off:=3) (sz:=1) za3;obtain⟨U,j,M⟩:=S0 B o 4 (ty:=4) (off:=4) (sz:=1) za3;obtain⟨X,p,O⟩:=S0 B o 5 (ty:=4) (off:=5) (sz:=1) za3
 have g:xs=[Q,R,S,T,U,X]:=match xs,B.trans (show _=6 by kernel_rfl),K,P,c,f,j,p with|[_,_,_,_,_,_],_,rfl,rfl,rfl,rfl,rfl,rfl=>rfl
 obtain⟨i,C,q⟩:=Sr u3 _ _ t0;obtain⟨k,D,s⟩:=Sr u3 _ _ I;obtain⟨l,v,u⟩:=MH u4 _ _ J;obtain⟨r,E,w⟩:=MH u4 _ _ L;obtain⟨t,F,z⟩:=MH u4 _ _ M;obtain⟨y,G,A⟩:=MH u4 _ _ O;refine⟨⟨i,k,l,r,t,y⟩,?_,?_⟩
 ·have b:cs.length=6:=e.trans za3;have:=((((C.join D).join v).join E).join F).join G;rw[P4.eBI4]
  simpa[AB,b,V.cells]using this
 rw[g];simp only[D9,I0,q,s,u,w,z,A]
def Xv:∀(l k:Up U0),(RL (H:=H) (λ(a:U0) d=>d= .agg [.lit (.int .i64 a.dK),.lit (.int .i64 a.most),.lit (.bool a.dG),.lit (.bool a.cond),.lit (.bool a.scope),.lit (.bool a.span)]) l
 (k.map λa=>.agg [.lit (.int .i64 a.dK),.lit (.int .i64 a.most),.lit (.bool a.dG),.lit (.bool a.cond),.lit (.bool a.scope),.lit (.bool a.span)]))->l=k
 |[],[],_=>rfl
 |[],_::_,h=>by have:=h.1;simp at this
 |_::_,[],h=>by have:=h.1;simp at this
 |a::l,b::k,h=>by
  have L:=h.2 0 a _ rfl rfl;have O:=Xv l k ⟨by simpa using h.1,λi a d U hd=>h.2 (i+1) a d (by simpa using U) (by simpa using hd)⟩;subst O;obtain⟨e,g,n,r,t,x⟩:=a;obtain⟨y,K,P,V,c,f⟩:=b
  simp at L
  simp[L]
def Ai9 (h:laidMetH Tryz.prog Rows.derivationAgreesRow.laid W):VR (g0 W) W (.pointer (some ⟨0,0,none⟩)) (P3.gl 0):=by
 have y:laidMet Tryz.prog Rows.derivationAgreesRow.laid W:=h;obtain⟨P,⟨_,_,_,_,_,V,_,_,_,_,L1,_⟩,_⟩:=y;obtain⟨_,_,_,_,_,c,_,_,_,_,L2,_⟩:=L1;obtain⟨_,_,_,_,_,d,_,_,_,_,t,_⟩:=L2;obtain⟨g',K,cs,r,p,q,b,k,g,hd,_,_⟩:=t;obtain rfl:g'=0:=DL (b.symm.trans za3);obtain rfl:K=167:=DL (k.symm.trans za3);obtain⟨l,f,ds,i,B⟩:=Ag6 u167 za3 za5 (λn=>At1 n) hd
 have e:ds=O4.map λa=>.agg [.lit (.int .i64 a.dK),.lit (.int .i64 a.most),.lit (.bool a.dG),.lit (.bool a.cond),.lit (.bool a.scope),.lit (.bool a.span)]:=by
  have e2:(Rows.laid_tidegate_pattern_shapes:DataW Unit)= .agg ds:=i;have x:(Rows.laid_tidegate_pattern_shapes:DataW Unit)= .agg (O4.map λa=>.agg [.lit (.int .i64 a.dK),.lit (.int .i64 a.most),.lit (.bool a.dG),.lit (.bool a.cond),.lit (.bool a.scope),.lit (.bool a.span)]):=rfl
  rw[x]at e2
  exact(DataW.agg.inj e2).symm
 subst e;obtain rfl:=Xv _ _ B;exact Aj5 b g f
def Bv5 (h:laidMetH Tryz.prog Rows.derivationAgreesRow.laid W):∀n,VR (g0 W) W (.pointer (some ⟨n,0,none⟩)) (P3.gl n)
 |0=>Ai9 h
 |_+1=>.bad _
end
end Go.Ab
