/- . -/
import Derived.Test.YtagnkafeimdfnaaGreatDoorA17
import Derived.KernelRfl
set_option linter.all false
open Go.Ab.Ar (an ar cmp nt)
namespace Go.Ab
open Classical
noncomputable section
def add1 (out:Up (Up PR))(s:Up PR):Up (Up PR):=if s∈out then out else out++[s]
def Nd (P:Up PR->Prop)(out:Up (Up PR)):Prop:=out.Nodup/\∀s∈out,P s
def Nd.nil (P:Up PR->Prop):Nd P []:=⟨List.nodup_nil,λ_ h=>absurd h List.not_mem_nil⟩
def Nd.add {P:Up PR->Prop}{out:Up (Up PR)}{s:Up PR}(h:Nd P out)(C:P s):Nd P (add1 out s):=by
 grind[Nd,add1]
def Be1 (r:OS (Up (Up PR)))(l:Up A9)(p:A0)(b:Up PR)(f:Int):Prop:=∃L,r=some L/\L.Nodup/\∀s,s∈L<->Sm l p b f s
def Be1.mk {x:OS (Up (Up PR))}{l:Up A9}{p:A0}{b:Up PR}{f:Int}(h:∃L,x=some L/\L.Nodup/\∀s,s∈L<->Sm l p b f s):Be1 (x.bind λs=>some s) l p b f:=by
 simp_all[Be1]
section
variable {N:Nat}(hN:Bgn N){l:List A9}(hl:l.length<=10)
include hN hl
end
def M6:Up Int->Up Int->Int
 |[],[]=>0
 |[],_::_=> -1
 |_::_,[]=>1
 |x::a,y::b=>if x<y then -1 else if y<x then 1 else M6 a b
def Et:∀a:Up Int,M6 a a=0
 |[]=>rfl
 |x::a=>by simp[M6,Et a]
def JF:∀{a b:Up Int},M6 a b=0->a=b
 |[],[],_=>rfl
 |[],_::_,h=>by grind[M6]
 |_::_,[],h=>by grind[M6]
 |x::a,y::b,h=>by
  unfold M6 at h
  split at h
  ·cases h
  split at h
  ·cases h
  rw[JF h];grind
def Rr:∀a b:Up Int,M6 b a= - M6 a b
 |[],[]=>rfl
 |[],_::_=>rfl
 |_::_,[]=>rfl
 |x::a,y::b=>by
  unfold M6;rw[Rr a b]
  split<;>split<;>first|omega|rfl
def Fv:∀{a b c:Up Int},M6 a b<0->M6 b c<0->M6 a c<0
 |[],[],_,h,_=>za2
 |_::_,[],_,h,_=>by grind[M6]
 |_,_::_,[],_,h=>by grind[M6]
 |[],_::_,_::_,_,_=>by simp[M6]
 |x::a,y::b,z::c,O,Z=>by
  unfold M6 at O Z ⊢
  by_cases J:x<z
  ·rw[A2 J];decide
  rw[A1 J]
  by_cases s:x<y
  ·omega
  rw[A1 s]at O
  by_cases e:y<x
  ·rw[A2 e]at O;cases O
  rw[A1 e]at O
  by_cases i:y<z
  ·omega
  rw[A1 i]at Z
  by_cases g:z<y
  ·rw[A2 g]at Z;cases Z
  rw[A1 g]at Z
  rw[A1 za2];exact Fv O Z
def ZV (a b:Int):Int:=if a<b then -1 else if b<a then 1 else 0
def Hh (N:Nat)(a b:Int):Q3 N a b=some (ZV a b):=by
 unfold Q3 Ix ZV;simp only[A4,R8,E4,EK,I9,Co,L6,H7,H5]
 grind
theorem or_eq {N:Nat} (hN:Bgn N) {l:Up Int} (hl:l.length<=1000):GJ N l=some (CC id l):=by
 unfold GJ;rw[O1 l za2 (mk:=λ(_:Unit) i=>i) (body:=Dl λx=>some x) (fin:=λ_=>.inl ()) (s:=()) za2 ?_ ?_]
 ·rw[Cj (F:=λx=>some x) (f:=id) λx _=>rfl]
  grind
 ·intro s i x M U;have e:ar .add .i64 (i:Int) 1=i+1:=D4 za2 za2;simp only[E4,B4,U,I9,D8,E8,M,A4,e,Dl]
  split<;>rfl
 intro s;simp[E4,B4]
def T8 (r:Bb):Up Int:=[r.Time,r.Source,r.Seq]
def Jm (x:B0):Up Int:=[x.Ref.Time,x.Ref.Source,x.Ref.Seq,x.Var]
def Bv4 (a b e g h i:Int):M6 [a,b,e] [g,h,i]=CC id [ZV a g,ZV b h,ZV e i]:=by
 grind[M6,CC,ZV]
def lex4 (a b e g h i k n:Int):M6 [a,b,e,g] [h,i,k,n]=CC id [M6 [a,b,e] [h,i,k],ZV g n]:=by
 grind[M6,CC,ZV]
def AA6 {N:Nat}(hN:Bgn N)(a b:Bb):GE N a b=some (M6 (T8 a) (T8 b)):=by
 unfold GE;rw[Hh,Hh,Hh];simp only[A4];rw[or_eq hN za4,T8,T8,Bv4];rfl
def AV6 (N:Nat)(a b:Bb):Jd N a b=some (M6 (T8 a) (T8 b)):=by
 unfold Jd T8;simp only[R8,E4,EK,M6,H5,Fh,IR]
 grind
def Wc {N:Nat}(hN:Bgn N)(a b:A9):Di N a b=some (M6 [a.Time,a.Source,a.Seq] [b.Time,b.Source,b.Seq]):=by
 unfold Di Dw;simp only[A4,Hh];rw[or_eq hN za4,<-Bv4];simp only[O5,F5,IB,K0,H5,A4]
 simp_all[M6]
def Bc6 {N:Nat}(hN:Bgn N)(a b:B0):CF N a b=some (M6 (Jm a) (Jm b)):=by
 unfold CF;rw[AA6 hN,Hh];simp only[A4];rw[or_eq hN za4,Jm,Jm,lex4];rfl
def mO:Up B0->Up B0->Int
 |[],[]=>0
 |[],_::_=> -1
 |_::_,[]=>1
 |x::a,y::b=>if M6 (Jm x) (Jm y)≠0 then M6 (Jm x) (Jm y)else mO a b
def Xb (m:Up B0):Up Int:=m.flatMap Jm
def Zp:∀{a b:Up Int} (c d:Up Int),a.length=b.length->M6 (a++c) (b++d)=if M6 a b≠0 then M6 a b else M6 c d
 |[],[],c,d,_=>by simp[M6]
 |[],_::_,_,_,h=>by simp at h
 |_::_,[],_,_,h=>by simp at h
 |x::a,y::b,c,d,h=>by
  simp only[V1,M6];have ih:=Zp (a:=a) (b:=b) c d za7;omega
def XI:∀a b:Up B0,mO a b=M6 (Xb a) (Xb b)
 |[],[]=>rfl
 |[],y::b=>by simp[mO,Xb,Jm,M6]
 |x::a,[]=>by simp[mO,Xb,Jm,M6]
 |x::a,y::b=>by
  simp only[mO,Xb,X9];rw[Zp _ _ (by simp[Jm])];have:=XI a b;rw[this];rfl
def Bk6 {N:Nat} {a b:Up B0} {step:Int->OS (Int⊕(Unit⊕Int))} {k:Unit⊕Int->OS Int} (hN:a.length<N) (hl:a.length<=1000000)
 (C:∀(i:Nat) (O:i<a.length) (Z:i<b.length),step (i:Int)=if cmp .neq (M6 (Jm a[i]) (Jm b[i])) 0=true then some (.inr (.inr (M6 (Jm a[i]) (Jm b[i]))))else some (.inl (ar .add .i64 (i:Int) 1)))
 (Y:∀i:Nat,i<=a.length->i<=b.length->i=a.length\/i=b.length->∃r,step (i:Int)=some (.inr r)/\k r=some (if a.length<b.length then -1 else if b.length<a.length then 1 else 0)) (W:∀c,k (.inr c)=some c):(loopN step N 0).bind k=some (mO a b):=by
 have key:∀(d i N:Nat),i+d=a.length->d<N->i<=b.length->(loopN step N (i:Int)).bind k=some (mO (a.drop i) (b.drop i)):=by
  have g:∀(i N:Nat),i<=a.length->i<=b.length->i=a.length\/i=b.length->(loopN step (N+1) (i:Int)).bind k=some (mO (a.drop i) (b.drop i)):=λi N O Z h=>by
   obtain⟨r,w,e2⟩:=Y i O Z h;simp only[loopN,w,A4,e2]
   by_cases T:i<a.length
   ·rw[M4 T,BM (show b.length<=i by omega),A1 za2,A2 za2];rfl
   rw[BM (show a.length<=i by omega)]
   by_cases A:i<b.length
   ·rw[M4 A,A2 za2];rfl
   grind[mO]
  intro d
  induction d with
  |zero=>
   intro i N U hN A;obtain⟨N,rfl⟩:∃m,N=m+1:=⟨N-1,za2⟩
   simp_all
  | succ d ih=>
   intro i N U hN A;obtain⟨N,rfl⟩:∃m,N=m+1:=⟨N-1,za2⟩
   by_cases h:i=b.length
   ·grind
   have T:i<a.length:=za2
   have A:i<b.length:=za2
   rw[M4 T,M4 A,mO];unfold loopN;rw[C i T A,D4 za2 za2]
   by_cases e:M6 (Jm a[i]) (Jm b[i])=0
   ·rw[A1 (show¬(cmp .neq (M6 (Jm a[i]) (Jm b[i])) 0=true)from K7 e),A1 za2]
    grind
   rw[A2 (show cmp .neq (M6 (Jm a[i]) (Jm b[i])) 0=true from O9 e),A2 e];exact W _
 simpa using key a.length 0 N za2 hN za2
def Po {N:Nat} (hN:Bgn N) {x y:D6} (M:x.dE.length<=1000000) (m:y.dE.length<=1000000):X1 N x y=some (mO x.dE y.dE):=by
 obtain⟨a⟩:=x;obtain⟨b⟩:=y
 dsimp only at M m ⊢
 unfold X1 N7
 dsimp only
 refine G2 (λo:OS Int=>o.bind λe=>some e) (Bk6 (a:=a) (b:=b) za2 M (λi O Z=>?_) (λi O Z h=>?_) λ_=>rfl)
 ·rw[A2 (T3 za2),E8,C8 O];simp only[A4];rw[A1 (by rw[U2,B4];simp;omega),E8,C8 Z];simp only[A4];rw[Bc6 hN];rfl
 by_cases T:i<a.length
 ·refine⟨.inr 1,?_,?_⟩
  ·rw[A2 (T3 za2),E8,C8 T];simp only[A4];rw[A2 (by rw[U2,B4];simp;omega)]
  grind
 refine⟨.inl (),by rw[A1 (Q6 (by rw[B4];omega))],?_⟩
 dsimp only
 by_cases A:a.length<b.length
 ·rw[A2 (AT (by rw[B4,B4];omega)),A2 A]
 rw[A1 (Q6 (by rw[B4,B4];omega)),A1 A,A1 (show¬b.length<a.length by omega)]
mutual
def HM:A5->Nat
 |⟨_,_,ks⟩=>IV ks+1
def IV:Up A5->Nat
 |[]=>0
 |a::r=>HM a+IV r
end
mutual
def PK:A5->Nat
 |⟨_,_,ks⟩=>Aw2 ks+1
def Aw2:Up A5->Nat
 |[]=>0
 |a::r=>max (PK a) (Aw2 r)
end
def Mz (d:A5):HM d=IV d.Kids+1:=by cases d;simp[HM]
def As (d:A5):PK d=Aw2 d.Kids+1:=by cases d;simp[PK]
def Ra:∀l:Up A5,IV l=(l.map HM).sum
 |[]=>rfl
 |a::l=>by simp[IV,Ra l]
def Bf7 (d:A5):1<=HM d:=by rw[Mz];omega
def JX:∀l:Up A5,l.length<=IV l
 |[]=>B1 _
 |a::l=>by have:=JX l;have:=Bf7 a;grind[IV]
def Gj:∀{l:Up A5} {a:A5},a∈l->HM a<=IV l
 |b::l,a,h=>by
  simp only[IV]
  rcases List.mem_cons.1 h with rfl|h
  ·omega
  have:=Gj h;omega
def BU:∀{l:Up A5} {a:A5},a∈l->PK a<=Aw2 l
 |b::l,a,h=>by
  simp only[Aw2]
  rcases List.mem_cons.1 h with rfl|h
  ·omega
  have:=BU h;omega
mutual
def Yd:∀d:A5,PK d<=HM d
 |⟨_,_,ks⟩=>by have:=Bb3 ks;simp_all[PK,HM]
def Bb3:∀l:Up A5,Aw2 l<=IV l
 |[]=>B1 _
 |a::l=>by have:=Yd a;have:=Bb3 l;grind[Aw2,IV]
end
def Vo {R α:Type} {f:α->OS Int} {c:α->Nat}:∀(l:Up α) (s:Nat),(∀a∈l,f a=some (c a:Int))->s+(l.map c).sum<=1000000000000->
 (M8 (λ(s:Int) x=>(f x).bind λr=>some (.inl (ar .add .i64 s r))) l (s:Int):OS (Int⊕R))=some (.inl ((s+(l.map c).sum:Nat):Int))
 |[],s,_,_=>by simp[M8]
 |x::l,s,h,A=>by
  simp only[D9,KJ]at A ⊢
  simp only[M8,h x (.head _),A4];rw[D4 za2 za2];have:=Vo (R:=R) l (s+c x) (λa T=>h a (.tail _ T)) za2;rw[show((s:Int)+(c x:Int))=((s+c x:Nat):Int) by omega,this]
  grind
def Wf {N:Nat} (hN:Bgn N):∀(n:Nat) (d:A5),PK d<=n->HM d<=30000000->X2 N n d=some (HM d:Int)
 |0,d,h,_=>by rw[As]at h;omega
 |n+1,d,h,C=>by
  have g:=Mz d;have b:=As d;have hl:=JX d.Kids;unfold X2;rw[O1 d.Kids za2 (mk:=λ(s:Int) i=>(s,i)) (body:=λ(s:Int) x=>(X2 N n x).bind λr=>some (.inl (ar .add .i64 s r))) (fin:=λs=>s) (s:=(1:Int)) za2 ?_ ?_]
  ·rw[show(1:Int)=((1:Nat):Int)from rfl,Vo (c:=HM) d.Kids 1 (λa T=>Wf hN n a (by have:=BU T;omega) (by have:=Gj T;omega)) (by rw[<-Ra];omega)];simp only[A4,E7];rw[<-Ra];omega
  ·intro s i x M U;have e:ar .add .i64 (i:Int) 1=i+1:=D4 za2 za2;simp only[E4,B4,U,I9,D8,E8,M,A4,e];cases X2 N n x<;>rfl
  intro s;simp[E4,B4]
mutual
def dO:A5->A5->Int
 |⟨r,c,ks⟩,⟨b,c',a⟩=>if M6 (T8 r) (T8 b)≠0 then M6 (T8 r) (T8 b)else if ZV c c'≠0 then ZV c c' else Yg ks a
def Yg:Up A5->Up A5->Int
 |[],[]=>0
 |[],_::_=> -1
 |_::_,[]=>1
 |a::l,b::m=>if dO a b≠0 then dO a b else Yg l m
end
def BC7 (a b:A5):dO a b=if M6 (T8 a.Ref) (T8 b.Ref)≠0 then M6 (T8 a.Ref) (T8 b.Ref)else if ZV a.Choice b.Choice≠0 then ZV a.Choice b.Choice else Yg a.Kids b.Kids:=by
 cases a;cases b;simp only[dO]
mutual
def AM9:A5->Up Int
 |⟨r,c,ks⟩=>T8 r++(c::TH ks)
def TH:Up A5->Up Int
 |[]=>[0]
 |a::l=>1::(AM9 a++TH l)
end
mutual
def Bb7:∀(a b:A5) (u v:Up Int),M6 (AM9 a++u) (AM9 b++v)=if dO a b≠0 then dO a b else M6 u v
 |⟨r,c,ks⟩,⟨g,c',e⟩,u,v=>by
  simp only[AM9,dO,D2,V1];rw[Zp _ _ (by simp[T8])]
  by_cases h:M6 (T8 r) (T8 g)=0
  ·simp only[h,ne_eq,not_true,H7,M6,ZV];rw[AE9 ks e u v];omega
  simp[h]
def AE9:∀(l m:Up A5) (u v:Up Int),M6 (TH l++u) (TH m++v)=if Yg l m≠0 then Yg l m else M6 u v
 |[],[],u,v=>by simp[M6,TH,Yg]
 |[],_::_,u,v=>by simp[M6,TH,Yg]
 |_::_,[],u,v=>by simp[M6,TH,Yg]
 |a::l,b::m,u,v=>by
  simp only[TH,Yg,V1,D2,M6,Nw,H7];rw[Bb7 a b,AE9 l m];omega
end
def SL (a b:A5):dO a b=M6 (AM9 a) (AM9 b):=by
 have:=Bb7 a b [] []
 simp_all[M6]
def AY1 {N:Nat} {a b:Up A5} {step:Int->OS (Int⊕(Unit⊕Int))} {k:Unit⊕Int->OS Int} (hN:a.length<N) (hl:a.length<=30000000)
 (C:∀(i:Nat) (O:i<a.length) (Z:i<b.length),step (i:Int)=if cmp .neq (dO a[i] b[i]) 0=true then some (.inr (.inr (dO a[i] b[i])))else some (.inl (ar .add .i64 (i:Int) 1)))
 (Y:∀i:Nat,i<=a.length->i<=b.length->i=a.length\/i=b.length->∃r,step (i:Int)=some (.inr r)/\k r=some (if a.length<b.length then -1 else if b.length<a.length then 1 else 0)) (W:∀c,k (.inr c)=some c):(loopN step N 0).bind k=some (Yg a b):=by
 have key:∀(d i N:Nat),i+d=a.length->d<N->i<=b.length->(loopN step N (i:Int)).bind k=some (Yg (a.drop i) (b.drop i)):=by
  have g:∀(i N:Nat),i<=a.length->i<=b.length->i=a.length\/i=b.length->(loopN step (N+1) (i:Int)).bind k=some (Yg (a.drop i) (b.drop i)):=λi N O Z h=>by
   obtain⟨r,w,e2⟩:=Y i O Z h;simp only[loopN,w,A4,e2]
   by_cases T:i<a.length
   ·rw[M4 T,BM (show b.length<=i by omega),A1 za2,A2 za2];simp[Yg]
   rw[BM (show a.length<=i by omega)]
   by_cases A:i<b.length
   ·rw[M4 A,A2 za2];simp[Yg]
   grind[Yg]
  intro d
  induction d with
  |zero=>
   intro i N U hN A;obtain⟨N,rfl⟩:∃m,N=m+1:=⟨N-1,za2⟩
   simp_all
  | succ d ih=>
   intro i N U hN A;obtain⟨N,rfl⟩:∃m,N=m+1:=⟨N-1,za2⟩
   by_cases h:i=b.length
   ·grind
   have T:i<a.length:=za2
   have A:i<b.length:=za2
   rw[M4 T,M4 A,Yg];unfold loopN;rw[C i T A,D4 za2 za2]
   by_cases e:dO a[i] b[i]=0
   ·rw[A1 (show¬(cmp .neq (dO a[i] b[i]) 0=true)from K7 e),A1 za2]
    grind
   rw[A2 (show cmp .neq (dO a[i] b[i]) 0=true from O9 e),A2 e];exact W _
 simpa using key a.length 0 N za2 hN za2
def RE {N:Nat} (hN:Bgn N):∀(n:Nat) (x y:A5),PK x<=n->HM x<=30000000->R3 N n x y=some (dO x y)
 |0,d,_,h,_=>by rw[As]at h;omega
 | n+1,x,y,h,C=>by
  have g:=Mz x;have e:=As x;have hl:=JX x.Kids;unfold R3;rw[Wc hN,BC7];simp only[A4]
  change (if cmp .neq (M6 (T8 x.Ref) (T8 y.Ref)) 0=true then some (M6 (T8 x.Ref) (T8 y.Ref))else _)=_
  by_cases L:M6 (T8 x.Ref) (T8 y.Ref)=0
  ·rw[A1 (K7 L),A1 (show¬(M6 (T8 x.Ref) (T8 y.Ref)≠0) by omega)]
   by_cases O:x.Choice<y.Choice
   ·rw[A2 (AT O)];simp[ZV,O]
   rw[A1 (Q6 O)]
   by_cases Z:y.Choice<x.Choice
   ·rw[A2 (Bn Z)];simp[ZV,O,Z]
   rw[A1 (T9 Z),A1 (by grind[ZV])];unfold K6
   generalize x.Kids=a at *
   generalize y.Kids=b at *
   refine G2 (λo:OS Int=>o.bind λk=>some k) (AY1 (a:=a) (b:=b) za2 za2 (λi O Z=>?_) (λi O Z h=>?_) λ_=>rfl)
   ·rw[A2 (T3 za2),E8,C8 O];simp only[A4];rw[A1 (by rw[U2,B4];simp;omega),E8,C8 Z];simp only[A4];rw[RE hN n _ _ (by have:=BU (F4 O);omega) (by have:=Gj (F4 O);omega)];rfl
   by_cases T:i<a.length
   ·refine⟨.inr 1,?_,?_⟩
    ·rw[A2 (T3 za2),E8,C8 T];simp only[A4];rw[A2 (by rw[U2,B4];simp;omega)]
    grind
   refine⟨.inl (),by rw[A1 (Q6 (by rw[B4];omega))],?_⟩
   dsimp only
   by_cases A:a.length<b.length
   ·rw[A2 (AT (by rw[B4,B4];omega)),A2 A]
   rw[A1 (Q6 (by rw[B4,B4];omega)),A1 A,A1 (show¬b.length<a.length by omega)]
  rw[A2 (O9 L),A2 (show M6 (T8 x.Ref) (T8 y.Ref)≠0 from L)]
def Aj (e:A9):Up Int:=[e.Time,e.Source,e.Seq]
def Lz (e:A9):Bool:=(an (an (an (an (an (cmp .geq e.Time 0) (cmp .leq e.Time 1099511627776)) (cmp .geq e.Source 0)) (cmp .lss e.Source 8)) (cmp .geq e.Seq 0)) (cmp .leq e.Seq 1099511627776))
def Hm (a b:A9):Bool:=decide (a.Source=b.Source)&&decide (a.Seq=b.Seq)
def PL (l:Up A9)(i:Nat):Int:=
 match l[i]? with
 |none=>0
 |some e=>if Lz e=false then 2 else if 0<i/\0<=M6 (Aj ((l[i-1]?).getD e)) (Aj e)then 14 else if(l.take i).any (λx=>Hm x e)=true then 7 else 0
def BP (l:Up A9):Int:=if 4096<l.length then 5 else CC (PL l) (List.range l.length)
def AS1 {N : Nat} (hN:Bgn N) {l:Up A9} (hl:l.length<=4096) {i:Nat} (U:i<l.length):(loopN
                    (λ(a:Int)=>
                     (
                      if cmp .lss a (i:Int)=true then
                       (C7 l a).bind λk=>
                       (Ka N k l[i]).bind λh=>
                       if h=true then
                        some (.inr (.inr ()))
                       else
                        some (.inl (ar .add .i64 a 1))
                      else
                       some (.inr (.inl ()))
                      :OS ((Int)⊕(Unit⊕Unit))))
                    N 0)=some (if(l.take i).any (λx=>Hm x l[i])=true then .inr ()else .inl ()):=by
 have b:(l.take i).length=i:=by rw[X8];omega
 rw [Pq (l:=l.take i) (λx=>Hm x l[i]) za2 za2 (λj x M u=>by
     have g:j<i:=za2
     have e:ar .add .i64 (j:Int) 1=j+1:=D4 za2 za2
     rw[List.getElem?_take_of_lt g]at M
     rw[A2 (AT za2),E8,M];simp only[A4,e,Ka,F5,O5]
     grind[Hm]) (by rw[b,A1 (Q6 (Nw _))])]
def Bh3 {N:Nat} (hN:Bgn N) {l:Up A9}:Lu N l=some (BP l):=by
 unfold Lu BP
 by_cases O:4096<l.length
 ·rw[A2 (Bn (by rw[B4];omega)),A2 O]
 rw[A1 (T9 (by rw[B4];omega)),A1 O];have n:(List.range l.length).length=l.length:=DM;rw[O1 (List.range l.length) za2 (mk:=λ(_:Unit) i=>i) (body:=Dl λi=>some (PL l i)) (fin:=λ_=>.inl ()) (s:=()) za2 ?_ ?_]
 ·rw[Cj (F:=λi=>some (PL l i)) (f:=PL l) λx _=>rfl]
  grind
 ·intro s i x M U
  have a:i<l.length:=za2
  rw[EU a]at M
  cases M;have e:ar .add .i64 (i:Int) 1=i+1:=D4 za2 za2;rw[A2 (T3 za2),OQ a];simp only[A4];rw[AS1 hN za2 a]
  have g:PL l i=if Lz l[i]=false then 2 else if 0<i/\0<=M6 (Aj ((l[i-1]?).getD l[i])) (Aj l[i])then 14 else if(l.take i).any (λx=>Hm x l[i])=true then 7 else 0:=by
   unfold PL;rw[C8 a]
  unfold MF Pa Dl;simp only[A4,e];rw[g];have k:(an (an (an (an (an (cmp .geq l[i].Time 0) (cmp .leq l[i].Time 1099511627776)) (cmp .geq l[i].Source 0)) (cmp .lss l[i].Source 8)) (cmp .geq l[i].Seq 0)) (cmp .leq l[i].Seq 1099511627776))=Lz l[i]:=rfl;rw[k]
  cases Lz l[i]with
  |false=>rfl
  | true=>
   rw[A1 (show¬(nt true=true) by decide),A1 (show¬(true=false) by decide)]
   by_cases L:0<i
   ·rw[A2 (Bn za2)]
    have w:ar .sub .i64 (i:Int) 1=((i-1:Nat):Int):=by rw[CL za2 za2];omega
    have b:i-1<l.length:=za2
    rw[w,OQ b,C8 b];simp only[A4,AV6,O2];have W:M6 (T8 ⟨l[i-1].Time,l[i-1].Source,l[i-1].Seq⟩) (T8 ⟨l[i].Time,l[i].Source,l[i].Seq⟩)=M6 (Aj l[i-1]) (Aj l[i]):=rfl;rw[W]
    by_cases Z:0<=M6 (Aj l[i-1]) (Aj l[i])
    ·rw[A2 (show cmp .geq (M6 (Aj l[i-1]) (Aj l[i])) 0=true by rw[U2];simp_all),A2 (show 0<i/\0<=M6 (Aj l[i-1]) (Aj l[i])from⟨L,Z⟩)];rfl
    rw[A1 (show¬(cmp .geq (M6 (Aj l[i-1]) (Aj l[i])) 0=true) by rw[U2];grind),A1 (show¬(0<i/\0<=M6 (Aj l[i-1]) (Aj l[i]))from λh=>Z h.2)];cases(l.take i).any λx=>Hm x l[i]<;>rfl
   rw[A1 (T9 za2),A1 (show¬(0<i/\0<=M6 (Aj ((l[i-1]?).getD l[i])) (Aj l[i]))from λh=>L h.1)];cases(l.take i).any λx=>Hm x l[i]<;>rfl
 intro s;rw[n,A1 AO]
def LZ (p:Up A9):Up (J5×Bool):=p.map λe=>(⟨e.Source,e.Seq⟩,true)
def AN6 (p:Up A9) (e:A9):∃b,Nn (LZ p) ⟨e.Source,e.Seq⟩ false=some (p.any λx=>Hm x e,b):=by
 unfold Nn LZ
 induction p with
 |nil=>simp_all
 | cons x p ih=>
  obtain⟨b,ih⟩:=ih;rw[D9,NB,GO]
  by_cases h:(⟨x.Source,x.Seq⟩:J5)=⟨e.Source,e.Seq⟩
  ·have j:Hm x e=true:=by
    simp_all[Hm]
   simp_all
  have j:Hm x e=false:=by
   simp_all[Hm]
  grind
def AK1 {p:Up A9}{e:A9}(h:(p.any λx=>Hm x e)=false):MC (LZ p) ⟨e.Source,e.Seq⟩ true=some (LZ (p++[e])):=by
 simp_all[MC,LZ,Hm]
def AY3 {B:Type} {N n:Nat} {M:Nat->B} {step:(Int×B)->OS ((Int×B)⊕(B⊕(Int×B)))} (f:Nat->Int) {k:B⊕(Int×B)->OS Int} (hN:n<N) (a:n<1000000000)
 (C:∀i:Nat,i<n->ar .add .i64 (i:Int) 1=i+1->step ((i:Int),M i)=some (if f i=0 then .inl ((i:Int)+1,M (i+1))else .inr (.inr (f i,M i)))) (Y:step ((n:Int),M n)=some (.inr (.inl (M n)))) (L:∀m,k (.inl m)=some 0) (O:∀c m,k (.inr (c,m))=some c):(loopN step N (0,M 0)).bind k=some (CC f (List.range n)):=by
 have key:∀(d i N:Nat),i+d=n->d<N->(loopN step N ((i:Int),M i)).bind k=some (CC f (List.range' i d)):=by
  intro d
  induction d with
  |zero=>
   intro i N U hN;obtain⟨N,rfl⟩:∃m,N=m+1:=⟨N-1,za2⟩
   simp_all[loopN,CC]
  | succ d ih=>
   intro i N U hN;obtain⟨N,rfl⟩:∃m,N=m+1:=⟨N-1,za2⟩;rw[Fd]
   by_cases o:f i=0
   ·simp only[loopN,C i za2 (D4 za2 za2),CC,o,D8]
    grind
   simp only[loopN,C i za2 (D4 za2 za2),CC,o,H7,A4,O]
 rw[IN]
 grind
def Uo {N:Nat} (hN:Bgn N) {l:Up A9}:BY N l=some (BP l):=by
 unfold BY BP
 by_cases O:4096<l.length
 ·rw[A2 (Bn (by rw[B4];omega)),A2 O]
 rw[A1 (T9 (by rw[B4];omega)),A1 O];refine AY3 (M:=λi=>LZ (l.take i)) (PL l) za2 za2 (λi a e=>?_) (by dsimp only;rw[A1 AO]) (λ_=>rfl) (λ_ _=>rfl);obtain⟨b,A⟩:=AN6 (l.take i) l[i];have t:LS N l[i]=some (Lz l[i]):=rfl;have k:JL N l[i]=some ⟨l[i].Source,l[i].Seq⟩:=rfl
 dsimp only
 rw[A2 (T3 za2),OQ a];simp only[A4];unfold PL;rw[t,k,C8 a];simp only[A4,A,e]
 cases Lz l[i]with
 |false=>rfl
 | true=>
  rw[A1 (show¬(nt true=true) by decide),A1 (show¬(true=false) by decide)]
  have j:(if(l.take i).any (λx=>Hm x l[i])=true then some (.inr (.inr (7,LZ (l.take i))))else(MC (LZ (l.take i)) ⟨l[i].Source,l[i].Seq⟩ true).bind λn=>some (.inl ((i:Int)+1,n)):OS ((Int×(Up (J5×Bool)))⊕(((Up (J5×Bool)))⊕(Int×(Up (J5×Bool))))))=some (if(if(l.take i).any (λx=>Hm x l[i])=true then(7:Int)else 0)=0 then .inl ((i:Int)+1,LZ (l.take (i+1)))else .inr (.inr (if(l.take i).any (λx=>Hm x l[i])=true then(7:Int)else 0,LZ (l.take i)))):=by
   by_cases r:(l.take i).any (λx=>Hm x l[i])=true
   ·simp_all
   rw[A1 r,A1 r,AK1 za7,Gz a];rfl
  by_cases L:0<i
  ·have g:i-1<l.length:=za2
   rw[A2 (Bn za2),show ar .sub .i64 (i:Int) 1=((i-1:Nat):Int) by rw[CL za2 za2];omega,OQ g,C8 g];simp only[A4,Wc hN,O2];have W:M6 [l[i-1].Time,l[i-1].Source,l[i-1].Seq] [l[i].Time,l[i].Source,l[i].Seq]=M6 (Aj l[i-1]) (Aj l[i]):=rfl;rw[W]
   by_cases Z:0<=M6 (Aj l[i-1]) (Aj l[i])
   ·rw[A2 (show cmp .geq (M6 (Aj l[i-1]) (Aj l[i])) 0=true by rw[U2];simp_all),A2 (show 0<i/\0<=M6 (Aj l[i-1]) (Aj l[i])from⟨L,Z⟩)];rfl
   rw[A1 (show¬(cmp .geq (M6 (Aj l[i-1]) (Aj l[i])) 0=true) by rw[U2];grind),A1 (show¬(0<i/\0<=M6 (Aj l[i-1]) (Aj l[i]))from λh=>Z h.2)];exact j
  rw[A1 (T9 za2),A1 (show¬(0<i/\0<=M6 (Aj ((l[i-1]?).getD l[i])) (Aj l[i]))from λh=>L h.1)];exact j
def AF3 {l:Up A9} (hl:l.length<=10) (h:BP l=0):∀(d i:Nat),i+d+1<l.length->∀(O:i<l.length) (Z:i+d+1<l.length),M6 (Aj l[i]) (Aj l[i+d+1])<0:=by
 have X:∀i,i<l.length->PL l i=0:=by
  unfold BP at h
  rw[A1 za2]at h
  exact λi U=>Eu.1 h i (List.mem_range.2 U)
 have O:∀i,∀(Z:i+1<l.length),M6 (Aj l[i]) (Aj l[i+1])<0:=λi Z=>by
  have:=X (i+1) Z
  grind[PL]
 intro d
 induction d with
 |zero=>simp_all
 |succ d ih=>
  intro i _ U Z;exact Fv (ih i za2 U za2) (O (i+d+1) Z)
def Ce (l:Up A9)(i:Int):Bb:=match l[i.toNat]? with|some e=>⟨e.Time,e.Source,e.Seq⟩|none=>⟨0,0,0⟩
def V2 (l:Up A9)(s:Up PR):D6:=⟨s.map λx=>⟨x.Var,Ce l x.At⟩⟩
def At7 (l:Up A9)(s:Up PR):(V2 l s).dE.length=s.length:=by simp[V2]
def Bh2 {l:Up A9}{i:Int}(L:0<=i)(O:i<l.length):∃e,C7 l i=some e/\(⟨e.Time,e.Source,e.Seq⟩:Bb)=Ce l i:=by
 simp_all[C7,Ce]
def Bh1 {l:Up A9} (hl:l.length<=10) (X:BP l=0) {i j:Int} (U:0<=i/\i<l.length) (u:0<=j/\j<l.length) (h:Ce l i=Ce l j):i=j:=by
 obtain⟨i,rfl⟩:=Da U.1;obtain⟨j,rfl⟩:=Da u.1
 have a:i<l.length:=za2
 have b:j<l.length:=za2
 have W:Aj l[i]=Aj l[j]:=by
  simp_all[Aj,Ce]
 rcases Fg i j with e|e|e
 ·obtain⟨d,rfl⟩:∃d,j=i+d+1:=⟨j-i-1,za2⟩;have:=AF3 hl X d i b a b
  rw[W,Et]at this;omega
 ·omega
 obtain⟨d,rfl⟩:∃d,i=j+d+1:=⟨i-j-1,za2⟩;have:=AF3 hl X d j a b a
 rw[W,Et]at this;omega
def VD {l:Up A9} (hl:l.length<=10) (X:BP l=0):∀{a b:Up PR},WfS l a->WfS l b->(V2 l a).dE=(V2 l b).dE->a=b
 |[],[],_,_,_=>rfl
 |[],_::_,_,_,h=>by simp[V2]at h
 |_::_,[],_,_,h=>by simp[V2]at h
 | x::a,y::b,T,A,h=>by
  simp only[V2,D9,V0,B0.mk.injEq]at h
  have e:=Bh1 hl X (T x za4).2 (A y za4).2 h.1.2
  have g:x=y:=by
   cases x;simp_all
  rw[g,VD hl X (λz i=>T z (by simp[i])) (λz i=>A z (by simp[i])) h.2]
def Aj0:∀{a b:Up B0},Xb a=Xb b->a=b
 |[],[],_=>rfl
 |[],_::_,h=>by simp[Xb,Jm]at h
 |_::_,[],h=>by simp[Xb,Jm]at h
 | x::a,y::b,h=>by
  simp only[Xb,X9,Jm,V1,I1,V0]at h
  obtain⟨O,Z,J,i,g⟩:=h
  have e:x=y:=by
   obtain⟨v,t,s,q⟩:=x
   simp_all
  rw[e,Aj0 g]
def Ro {a b:Up B0}(h:mO a b=0):a=b:=Aj0 (JF (by rw[<-XI];exact h))
def Rp (a:Up B0):mO a a=0:=by rw[XI,Et]
def Zk (a b:Up B0):mO b a= - mO a b:=by rw[XI,XI,Rr]
def VF {a b c:Up B0}(O:mO a b<0)(Z:mO b c<0):mO a c<0:=by rw[XI]at *;exact Fv O Z
def Uj (r:Up D6):Prop:=r.Pairwise λa b=>mO a.dE b.dE<0
def UP {N:Nat} (hN:Bgn N) {r:Up D6} (T:Uj r) (A:∀x∈r,x.dE.length<=1000000):Bj (λe g=>X1 N e g) r=true:=by
 refine Bs.2 ⟨λa h=>?_,?_⟩
 ·unfold geC
  dsimp only
  rw[Po hN (A a h) (A a h),Rp];rfl
 refine DT (λ{x y} M m b=>?_) T
 constructor
 ·unfold Nm
  dsimp only
  rw[Po hN (A x M) (A y m)]
  simp_all
 unfold geC
 dsimp only
 rw[Po hN (A y m) (A x M),Zk]
 grind
def Br1 {N:Nat}(hN:Bgn N){x y:D6}(M:x.dE.length<=1000000)(m:y.dE.length<=1000000):Nm (λa b=>X1 N a b) x y=false<->¬mO x.dE y.dE<0:=by
 unfold Nm
 dsimp only
 rw[Po hN M m];simp
def Bt1 {N:Nat}(hN:Bgn N){L r:Up D6}(a:r.Perm L)(T:Uj r)(A:∀x∈r,x.dE.length<=1000000)(hl:L.length<=1000000):PS (λe g=>X1 N e g) L=some r:=
 Ac6 a (UP hN T A) (λx M=>a.mem_iff.2 M) (DT (λ{x y} M m b=>(Br1 hN (A y m) (A x M)).2 (by rw[Zk];omega)) T) za2
def Bf9 {N:Nat}(hN:Bgn N){L r:Up D6}(T:Uj r)(A:∀x∈r,x.dE.length<=1000000)(E:∀x∈L,x∈r)(hl:L.length<=1000000):∃m,PS (λg i=>X1 N g i) L=some m/\m.Perm L/\m.Pairwise λa b=>¬mO b.dE a.dE<0:=by
 have e:=CT (Nm λg i=>X1 N g i) L;have C:=Mp (UP hN T A) E;refine⟨_,Ac6 e (UP hN T A) E C za2,e,DT (λ{x y} M k h=>?_) C⟩;exact(Br1 hN (A y (E y (e.mem_iff.1 k))) (A x (E x (e.mem_iff.1 M)))).1 h
def VX {α:Type}{f:α->B0}:∀(s:Up α) (m:D6),s.foldl (λm x=>⟨m.dE++[f x]⟩) m=⟨m.dE++s.map f⟩
 |[],⟨a⟩=>za4
 |x::s,m=>by rw[KP,VX s];simp
def Aq5 {α:Type}{l:Up α}{k:Nat}(h:k<=l.length):R6 l none (some (k:Int)) none=some (l.take k):=by
 simp_all[R6]
def Bn4 (a:A5):dO a a=0:=by rw[SL,Et]
def Aw5 (a b:A5):dO b a= - dO a b:=by rw[SL,SL,Rr]
def Bb6 {a b c:A5} (O:dO a b<=0) (Z:dO b c<=0):dO a c<=0/\(dO a b<0->dO a c<0):=by
 rw[SL a b]at O ⊢
 rw[SL b c]at Z
 rw[SL a c]
 rcases Int.lt_or_eq_of_le O with O|O
 ·rcases Int.lt_or_eq_of_le Z with Z|Z
  ·have:=Fv O Z;omega
  rw[<-JF Z];omega
 rw[JF O]at *;omega
abbrev DP:=A7
def dpr (b:DP):PR:=⟨b.v,b.at_⟩
def Q8 (b:PR):DP:=⟨b.Var,b.At⟩
def Bb4 (b:PR):dpr (Q8 b)=b:=rfl
def Al3 (b:DP):Q8 (dpr b)=b:=rfl
abbrev P6 (s:Up DP):Up PR:=s.map dpr
def J6 (s:Up PR):P6 (s.map Q8)=s:=by rw[P6,M3];exact(Y0 λx _=>Bb4 x).trans (Iz s)
def Bm8 (s:Up DP):(P6 s).map Q8=s:=by rw[M3];exact(Y0 λx _=>Al3 x).trans (Iz s)
def Aw7 {N:Nat} (hN:Bgn N) {a b:Up DP} (T:a.length<=1000000) (A:b.length<=1000000):U4 N [a,b]=some (a++b):=by
 unfold U4;rw[O1 [a,b] za4 (mk:=λ(s:Int) i=>(s,i)) (body:=λ(s:Int) (x:List DP)=>if cmp .lss (ar .add .i64 s (Ar.len x)) 0=true then none else some (.inl (ar .add .i64 s (Ar.len x)))) (fin:=λs=>s) (s:=(0:Int)) za6 ?_ ?_]
 ·have w:ar .add .i64 0 (Ar.len a)=(a.length:Int):=by rw[B4,D4 za2 za2];omega
  have e2:ar .add .i64 (a.length:Int) (Ar.len b)=((a.length+b.length:Nat):Int):=by rw[B4,D4 za2 za2];omega
  simp only[M8,w];rw[A1 (Q6 za2)];simp only[e2];rw[A1 (Q6 za2)];simp only[A4]
  have g:AH N [] ((a.length+b.length:Nat):Int)=some []:=by
   unfold AH AD7;rw[A2 za6]
  rw[g];simp only[A4];rw[O1 [a,b] za4 (mk:=λ(s:List DP) i=>(i,s)) (body:=λ(s:List DP) (x:List DP)=>(V7 s x).bind λr=>some (.inl r)) (fin:=λs=>s) (s:=([]:List DP)) za6 ?_ ?_]
  ·simp only[M8];rw[AW za6];simp only[A4,I1];rw[AW za2];rfl
  ·intro s i x M U;have e:ar .add .i64 (i:Int) 1=i+1:=D4 za2 za7;rw[A2 (AT (by rw[B4];exact U)),E8,M,e]
   grind
  intro s;rw[A1 (Q6 (by rw[B4];omega))]
 ·intro s i x M U;have e:ar .add .i64 (i:Int) 1=i+1:=D4 za2 za7;rw[A2 (AT (by rw[B4];exact U)),E8,M,e]
  grind
 intro s;rw[A1 (Q6 (by rw[B4];omega))]
def Al5 {N:Nat} (hN:Bgn N) {a b:Up DP} {n:Int} (K:n<=1000000) (g:a.length<=1000000) (h:b.length<=1000000) (T:WK (P6 a)) (A:WK (P6 b)) (hd:S9 (P6 a) (P6 b)) (k:InS n (P6 a)) (r:InS n (P6 b)):
 J4 N a b=some ((mrg (P6 a) (P6 b)).map Q8):=by
 unfold J4;rw[Aw7 hN g h];simp only[A4];have E:=JD _ (B1 _) T A hd;have e:∀x∈mrg (P6 a) (P6 b),0<=x.At/\x.At<n:=λx M=>(N4.1 M).elim (k x) (r x)
 have C:Ll (λt H=>GH N t H) (a++b)=some ((mrg (P6 a) (P6 b)).map Q8):=by
  refine UT ?_ (Bs.2 ⟨?_,?_⟩) za6
  ·have:=(Ft _ (P6 a) (P6 b) (B1 _)).map Q8;refine this.trans (List.Perm.of_eq ?_);rw[<-P9,M3];exact(Y0 λx _=>Al3 x).trans (Iz _)
  ·intro x _
   show(match some (ar .sub .i64 x.at_ x.at_)with|some c=>decide (0<=c)|none=>false)=true
   rw[CL za2 za2];simp
  rw[O3];refine DT (λ{x y} M m i=>?_) E;have:=e x M;have:=e y m
  constructor
  ·show(match some (ar .sub .i64 x.At y.At)with|some c=>decide (c<0)|none=>false)=true
   rw[CL za2 za2];simp;omega
  show(match some (ar .sub .i64 y.At x.At)with|some c=>decide (0<=c)|none=>false)=true
  rw[CL za2 za2];simp;omega
 rw[C];rfl
def MU {N:Nat} (hN:Bgn N) {s:Up DP} (hl:s.length<=1000000) {f:DP->OS Bool} {P:DP->Bool} (o:∀x∈s,f x=some (P x)):L7 N s f=some (s.any P):=by
 unfold L7 Ca
 obtain⟨j,h,u⟩:=VH (N:=N) (l:=s) za2 za2 (A:=Unit) (B:=Int) (step:=(λ(I:Int)=>
  (
   if cmp .lss I (Ar.len s)=true then
    (C7 s I).bind λb=>
    (f b).bind λa=>
    if a=true then
     some (.inr (.inr I))
    else
     some (.inl (ar .add .i64 I 1))
   else
    some (.inr (.inl ()))
   :OS ((Int)⊕(Unit⊕Int))))) P () (λi=>i) (λi x M U=>by
  have e:ar .add .i64 (i:Int) 1=i+1:=D4 za2 za2;simp only[E4,B4,U,I9,D8,E8,M,A4,e,o x (DO M)]
  split<;>rfl) (by simp[E4,B4])
 rw[h]
 by_cases T:s.any P=true
 ·rw[A2 T,T];simp only[A4,U2,N2 u]
 rw[A1 T];simp only[A4,U2]
 rw[BF]at T
 rw[T];rfl
def Wm {N:Nat} (hN:Bgn N) {a b:Up DP} (T:a.length<=1000000) (A:b.length<=1000000):BV N a b=some (!Ai (P6 a) (P6 b)):=by
 unfold BV
 rw[MU hN T (P:=λx=>SE (P6 b) x.at_) λx _=>by
  unfold Cy
  rw[MU hN A (P:=λy=>decide (y.at_=x.at_)) λy _=>by
   unfold BA
   rw[F5,show(decide (x.at_=y.at_))=decide (y.at_=x.at_)from decide_eq_decide.2 ⟨Eq.symm,Eq.symm⟩]]
  simp only[A4,SE,P6,GN]
  rfl]
 simp only[A4,Ai,P6,GN,X5];rfl
def Bn0 {N:Nat}(hN:Bgn N){s:Up DP}(hl:s.length<=1000000)(i:Int):L7 N s (λa=>X0 N a i)=some (SE (P6 s) i):=by
 rw[MU hN hl (f:=λa=>X0 N a i) (P:=λy=>decide (y.at_=i)) λy _=>rfl];simp only[SE,P6,GN];rfl
def Bm9 {s:Up DP}(h:s≠[]):P6 s≠[]:=λe=>h (List.map_eq_nil_iff.1 e)
def XT {s:Up DP}(h:s≠[])(hl:s.length<=1000000):∃x,C7 s (ar .sub .i64 (Ar.len s) 1)=some x/\x.at_=V3 (P6 s):=by
 rw[Aj2 h hl]
 cases a:s.getLast? with
 |none=>simp_all
 |some x=>exact⟨x,rfl,by simp[V3,P6,List.getLast?_map,a,dpr]⟩
def QG {N:Nat}{s:Up DP}(h:s≠[])(hl:s.length<=1000000)(f:0<=V3 (P6 s)/\V3 (P6 s)<1000000):V6 N s=some (V3 (P6 s)+1):=by
 unfold V6;obtain⟨x,M,e⟩:=XT h hl;rw[M];simp only[A4];rw[e,D4 za2 za2]
def AE6 {N:Nat} (hN:Bgn N) {l:Up A9} {s:Up DP} (C:s.length<=1000000) (R:WfS l (P6 s)) (c b:Int):Z4 N ⟨l,c⟩ s b=some (Xe l (P6 s) b):=by
 unfold Z4;have O:ZW 16 16 ([]:Up A9)=some (List.replicate 16 []):=rfl;rw[O];simp only[A4];rw[O1 s za2 (mk:=λ(a:List (List A9)) i=>(i,a)) (body:=λa x=>if cmp .lss (dpr x).At b=true then(C7 a (dpr x).Var).bind λn=>(C7 l (dpr x).At).bind λk=>(V7 n [k]).bind λh=>(Ev a (dpr x).Var (λ_=>h)).bind λg=>some (.inl g)else some (.inl a)) (fin:=λs=>s) (s:=List.replicate 16 []) za2 ?_ ?_]
 ·rw[Vm dpr l b C R];rfl
 ·intro a i x M U;have e:ar .add .i64 (i:Int) 1=i+1:=D4 za2 za2;simp only[E4,B4,U,I9,D8,E8,M,A4,e]
  show(if decide (x.at_<b)=true then _ else _)=Option.bind (if decide (x.at_<b)=true then _ else _) _
  by_cases A:x.at_<b
  ·rw [A2 (N2 A),A2 (N2 A)]
   show((C7 a x.v).bind _)=((C7 a x.v).bind _).bind _
   cases C7 a x.v with
   |none=>rfl
   | some r=>
    simp only[A4]
    show((C7 l x.at_).bind _)=((C7 l x.at_).bind _).bind _
    cases C7 l x.at_ with
    |none=>rfl
    | some y=>
     simp only[A4]
     cases V7 r [y]with
     |none=>rfl
     |some q=>
      simp only[A4]
      show((Ev a x.v _).bind _)=((Ev a x.v _).bind _).bind _
      cases Ev a x.v λ_=>q<;>rfl
  grind
 intro s;simp[E4,B4]
def SH (l:Up A9)(p:A0)(b:Up PR)(i:Nat):Bool:=match l[i]? with|some e=>decide (e.Typ=p.Typ)&&Qd (Xe l b i) p.Var e p.dF|none=>false
def UK {N:Nat}(hN:Bgn N){l:Up A9}{s:Up DP}(C:s.length<1000000)(R:WfS l (P6 s))(c:Int){p:A0}(X:p.dF.bulk<=16777216){i:Nat}(U:i<l.length):
 P2 N ⟨l,c⟩ p s i=some (SH l p (P6 s) i):=by
 unfold P2 SH
 dsimp only
 rw[OQ U,C8 U];simp only[A4]
 by_cases j:l[i].Typ=p.Typ
 ·rw[A2 (S2 j),AE6 hN za2 R];simp only[A4];rw[QZ hN (Pz l za7 _) _ _ X];simp[j]
 rw[A1 (by rw[Py j];simp)];simp[j]
def Yr {N:Nat} (hN:Bgn N) {l:Up A9} (hl:l.length<=100000) {p:A0} (X:p.dF.bulk<=16777216) (D:5<=p.Op/\p.Op<=7) {b s:Up DP} (t:Gd l (P6 b)) (h:Gd l (P6 s)) (v:s≠[]) (hd:S9 (P6 b) (P6 s)) (f:Int):
 U6 N ⟨l,f⟩ p b s=some (Fx l p (P6 b) (P6 s)):=by
 have E:=t.len;have F:=h.len
 rw[E1]at E F
 have o:=t.mrg h hd;have M:=o.len;have r:=Bm9 v;have g:=h.lst r;obtain⟨L,O,Z,B⟩:=h.hd r
 obtain⟨I,V,e0⟩:∃x,C7 s 0=some x/\x.at_=hdA (P6 s):=by
  cases s with
  |nil=>simp_all
  |cons x s=>exact⟨x,rfl,rfl⟩
 obtain⟨Q,d,w⟩:=XT v za2;have q:=Al5 (n:=l.length) hN za2 za2 za2 t.asc h.asc hd t.wf.ins h.wf.ins;have k:=J6 (mrg (P6 b) (P6 s))
 generalize (mrg (P6 b) (P6 s)).map Q8=c at q k
 have J:c.length<=100000:=by have:=G2 List.length k;rw[E1]at this;omega
 have z:WfS l (P6 c):=by rw[k];exact o.wf
 unfold U6 Fx;rw[V,d,q];simp only[A4]
 by_cases y:p.Op=6
 ·rw[A2 (S2 y),A2 y];obtain⟨S,m,G⟩:=Uk (l:=l) (i:=V3 (P6 s)) za2 za2;obtain⟨R,j,t0⟩:=Uk (l:=l) (i:=I.at_) za2 za2;rw[w,m,j];simp only[A4,Dp,G,t0,e0]
 rw[A1 y,A1 (by rw[Py y];simp)]
 by_cases H:p.Op=7
 ·rw[A2 (S2 H),A2 H,AE6 hN za2 z];simp only[A4];rw[QZ hN (Pz l (show(P6 c).length<1000000 by rw[E1];omega) _) _ _ X,k];rfl
 rw[A1 H,A1 (by rw[Py H];simp)];obtain⟨n,C⟩:=Da g.1;obtain⟨a,T⟩:=Da L;rw[e0,T,D4 (a:=((a:Nat):Int)) za2 za2,show((a:Int)+1)=((a+1:Nat):Int) by omega];rw[Qw (A:=Unit) (n:=n) (P:=WC l p (P6 b) (P6 s)) (u:=()) 0 ?_ ?_ n (a+1) N za2 za2 za2,XR za2 za2 za2 B g.2]
 ·cases Ws l p (P6 b) (P6 s)<;>rfl
 ·intro i _ U
  have K:i<l.length:=za2
  have e:ar .add .i64 (i:Int) 1=i+1:=D4 za2 za2;rw[A2 (AT za2),Bn0 hN za2,UK hN za2 z _ X K,k];simp only[A4,X5,e];unfold WC SH
  grind
 intro i U;rw[A1 (Q6 za2)]
def LN (p:A0):(A0.pres p.dD).length+1=p.pre.length:=by rw[A0.pre_eq p];simp
def AO6 {N:Nat} (hN:Bgn N):∀(n:Nat) (p:A0),p.pre.length<=n->p.pre.length<=16777216->Cb N n p=some (AU p:Int):=by
 intro n
 induction n with
 |zero=>intro p h;have:=LN p;omega
 | succ n ih=>
  intro p h A;have k:=LN p;have a:=X7 p;unfold Cb
  have L:((if cmp .eql p.Op 0=true then some 1 else some 0:OS Int))=some (if p.Op=0 then 1 else 0):=by
   rw[F5]
   by_cases h:p.Op=0<;>simp[h]
  rw[L];simp only[A4];rw[O1 p.dD za2 (mk:=λ(s:Int) i=>(s,i)) (body:=λs q=>(Cb N n q).bind λr=>some (.inl (ar .add .i64 s r))) (fin:=λs=>s) (s:=if p.Op=0 then 1 else 0) za2 ?_ ?_]
  ·obtain⟨t,O,q,Z,J⟩:=Ds (R:=Int) (step:=λ(s:Int) q=>(Cb N n q).bind λr=>some (.inl (ar .add .i64 s r)))
    (λr s=>∃q,q++r=p.dD/\s=((if p.Op=0 then 1 else 0:Int)+((A0.pres q).countP λy=>decide (y.Op=0):Nat))) (λx r s ⟨q,w,e2⟩=>by
     have M:x∈p.dD:=by rw[<-w];simp
     have g:=H9 M
     have Q:(A0.pres q).length<=(A0.pres p.dD).length:=by rw[<-w,Hc];simp
     have X:=GX (p:=λy:A0=>decide (y.Op=0)) (l:=A0.pres q);have b:=GX (p:=λy:A0=>decide (y.Op=0)) (l:=x.pre);rw[ih x za2 za2];refine⟨_,rfl,q++[x],za7,?_⟩;have Y:(AU x:Int)=((x.pre.countP λy=>decide (y.Op=0):Nat):Int):=rfl;rw[e2,Hc,GU]
     have:A0.pres [x]=x.pre:=by simp[A0.pres]
     rw[this,Y,D4 (by split<;>omega) (by split<;>omega)]
     omega) (l:=p.dD) (s:=if p.Op=0 then 1 else 0) ⟨[],rfl,by simp[A0.pres]⟩
   rw[O];simp only[A4]
   rw[E5]at Z
   rw[J,Z,Ij]
   by_cases h:p.Op=0<;>simp[h]
  ·intro s i x M U;have e:ar .add .i64 (i:Int) 1=i+1:=D4 za2 za2;simp only[E4,B4,U,I9,D8,E8,M,A4,e];cases Cb N n x<;>rfl
  intro s;simp[E4,B4]
def Af9 (f:A0->Bool):∀r:Up A0,(A0.pres r).any f=r.any λx=>x.pre.any f
 |[]=>rfl
 |a::r=>by simp only[A0.pres,List.any_append,GO,Af9 f r]
def Bl4 {N:Nat} (hN:Bgn N):∀(n:Nat) (p:A0),p.pre.length<=n->p.pre.length<=16777216->Dq N n p=some (p.pre.any λy=>decide (y.Op=4)):=by
 intro n
 induction n with
 |zero=>intro p h;have:=LN p;omega
 | succ n ih=>
  intro p h A;have g:=LN p;have a:=X7 p;unfold Dq;rw[A0.pre_eq p,GO]
  by_cases s:p.Op=4
  ·rw[A2 (by rw[F5];simp_all)];simp[s]
  rw[A1 (by rw[F5];grind)]
  rw [Pq (l:=p.dD) (λx=>x.pre.any λy=>decide (y.Op=4)) za2 za2 (λi x M U=>by
      have E:=DO M;have b:=H9 E;have e:ar .add .i64 (i:Int) 1=i+1:=D4 za2 za2;simp only[E4,B4,U,I9,D8,E8,M,A4,e,ih x za2 za2]
      split<;>rfl) (by simp[E4,B4])]
  rw[Af9]
  grind
def Ag0 {N:Nat} (hN:Bgn N) {b n:Nat} (A:b<=20000000) (x:n<=20000000):∃r,Ja N (b:Int) (n:Int) 1500=some r/\(r<=1500->r=((b ^ n:Nat):Int)):=by
 unfold Ja
 have key:∀(k i M:Nat) (out:Int),i+k=n->k<M->out=((b ^ i:Nat):Int)->out<=30000000000->∃r,loopN
  (λ(I:Int×Int)=>
   (
    if an (cmp .lss I.2 (n:Int)) (cmp .leq I.1 1500)=true then
     some (.inl (ar .mul .i64 I.1 (b:Int),ar .add .i64 I.2 1))
    else
     some (.inr I.1)
    :OS ((Int×Int)⊕(Int))))
  M (out,(i:Int))=some r/\(r<=1500->r=((b ^ n:Nat):Int)):=by
  intro k
  induction k with
  |zero=>
   intro i M out U t z _;obtain⟨M,rfl⟩:∃m,M=m+1:=⟨M-1,za2⟩;refine⟨out,?_,λ_=>by rw[z,show i=n by omega]⟩;unfold loopN
   dsimp only
   rw[A1 (by simp only[O5,E4];simp;omega)]
  | succ k ih=>
   intro i M out U t z C;obtain⟨M,rfl⟩:∃m,M=m+1:=⟨M-1,za2⟩
   have L:0<=out:=by rw[z];omega
   by_cases hle:out<=1500
   ·have g:out*(b:Int)<=1500*20000000:=Int.mul_le_mul hle za2 za2 za2;have a:0<=out*(b:Int):=Int.mul_nonneg L za2;have em:ar .mul .i64 out (b:Int)=out*(b:Int):=Ee za2 za2;have e:ar .add .i64 (i:Int) 1=i+1:=D4 za2 za2;obtain⟨r,O,Z⟩:=ih (i+1) M (out*(b:Int)) za2 za2 (by rw[z,Ns];simp) za2;refine⟨r,?_,Z⟩;unfold loopN
    dsimp only
    rw[A2 (by simp only[O5,E4,Dp];simp;omega),em,e,show((i:Int)+1)=((i+1:Nat):Int) by omega];exact O
   refine⟨out,?_,λh=>absurd h hle⟩;unfold loopN
   dsimp only
   rw[A1 (by simp only[O5,E4,Dp];simp;omega)]
 obtain⟨r,O,Z⟩:=key n 0 N 1 za2 za2 za4 za2;have L:((0:Nat):Int)=0:=rfl
 rw[L]at O
 grind
def AT1 {N:Nat} (hN:Bgn N) {p:A0} (A:p.bulk<=16777216) {l:Up A9} (H:l.length<=16777216):∃b,Jb N p l=some b/\(b=true->l.length<=10/\((AU p+1) ^ l.length<=1500\/(CE p/\l.length ^ AU p<=1500))):=by
 obtain⟨few,o⟩:=few9 hN A;have P:=Ib p;have t:AU p<=p.pre.length:=GX;unfold Jb;rw[o];simp only[A4]
 by_cases O:Ar.or (nt few) (cmp .gtr (Ar.len l) 10)=true
 ·rw[A2 O];simp_all
 rw[A1 O]
 have hl:l.length<=10:=by
  simp only[W9,X5,EK,B4]at O
  grind
 rw[Pq (l:=l) (λx=>cmp .gtr (Ar.len x.Values) 9) za2 za2 (λi x M U=>by
  have e:ar .add .i64 (i:Int) 1=i+1:=D4 za2 za2;rw[A2 (T3 U),E8,M]
  grind) (by rw[A1 AO])]
 simp only[A4]
 by_cases Z:(l.any λx=>cmp .gtr (Ar.len x.Values) 9)=true
 ·rw[A2 Z];simp_all
 rw[A1 Z]
 dsimp only
 rw[AO6 hN N p za2 za2,Bl4 hN N p za2 za2];simp only[A4];obtain⟨g,J,s⟩:=Ag0 hN (b:=AU p+1) (n:=l.length) za2 za2;obtain⟨v,k,V⟩:=Ag0 hN (b:=l.length) (n:=AU p) za2 za2;rw[D4 (a:=(AU p:Int)) za2 za2,show((AU p:Int)+1)=((AU p+1:Nat):Int) by omega,B4,J];simp only[A4]
 by_cases r:g<=1500
 ·rw[A2 (show cmp .leq g 1500=true from N2 r)]
  grind
 rw[A1 (show¬(cmp .leq g 1500=true) by rw[Dp];grind)]
 cases K:p.pre.any λy=>decide (y.Op=4)with
 |true=>
  rw[A1 (show¬nt true=true by decide)]
  simp_all
 | false=>
  rw[A2 (show nt false=true from rfl),k];refine⟨decide (v<=1500),rfl,λh=>⟨hl,.inr ⟨λy m e=>?_,?_⟩⟩⟩
  ·rw[IH]at K
   simp_all
  grind
def AT0 {p:A0}{l:Up A9}(b:p.pre.length<=64)(C:(AU p+1) ^ l.length<=1500\/(CE p/\l.length ^ AU p<=1500)):UC l.length p:=by
 rcases C with h|⟨O,Z⟩
 ·exact .inl h
 by_cases J:2<=l.length
 ·simp_all[UC]
 left
 have a:AU p<=p.pre.length:=GX
 have:l.length=0\/l.length=1:=za2
 rcases this with h|h<;>rw[h]<;>simp<;>omega
def Ah9 {p:A0}{l:Up A9}(a:p.pre.length<=64)(hl:l.length<=10):mu l p 0<=1000:=by
 unfold mu;have:=Ax a (show l.length+2<=12 by omega);omega
def AK9 (l:Up A9):Jq l [] ((0:Nat):Int):=⟨Gd.nil l,λ_ h=>absurd h Cq,za2,za2⟩
def WB (m:Up B0)(i:Nat):Int:=
 match m[i]? with
 |none=>0
 |some x=>if(decide (0<=x.Var)&&decide (x.Var<=15)&&(decide (0<=x.Ref.Time)&&decide (x.Ref.Time<=1099511627776)&&(decide (0<=x.Ref.Source)&&decide (x.Ref.Source<=7))&&(decide (0<=x.Ref.Seq)&&decide (x.Ref.Seq<=1099511627776))))=false then 2 else if 0<i/\0<=M6 (T8 ((m[i-1]?).getD x).Ref) (T8 x.Ref)then 14 else 0
def Bc0 (m:Up B0):Int:=if m.length=0 then 15 else if 4096<m.length then 5 else CC (WB m) (List.range m.length)
def AM4 {N:Nat} (hN:Bgn N) {m:Up B0} (E:m.length<=4096) {step:Int->OS (Int⊕(Unit⊕Int))} (C:∀i,i<m.length->step (i:Int)=some (if WB m i=0 then .inl ((i:Int)+1)else .inr (.inr (WB m i)))) (Y:step (m.length:Int)=some (.inr (.inl ()))):
 ((loopN step N 0).bind λd=>match d with| .inl _=>some 0| .inr y=>some y)=some (CC (WB m) (List.range m.length)):=by
 have b:(List.range m.length).length=m.length:=DM;rw[O1 (List.range m.length) za2 (mk:=λ(_:Unit) i=>i) (body:=Dl λi=>some (WB m i)) (fin:=λ_=>.inl ()) (s:=()) za2 ?_ ?_]
 ·rw[Cj (F:=λi=>some (WB m i)) (f:=WB m) λx _=>rfl]
  grind
 ·intro s i x M U
  have a:i<m.length:=za2
  rw[EU a]at M
  cases M;rw[C i a];unfold Dl;simp only[A4]
  by_cases h:WB m i=0
  ·rw[A2 h,A1 (K7 h)];rfl
  rw[A1 h,A2 (O9 h)];rfl
 simp_all
def AC1 {N:Nat} (hN:Bgn N) {m:Up B0} (E:m.length<=1000000):Fu N ⟨m⟩=some (Bc0 m):=by
 unfold Fu Bc0
 dsimp only
 by_cases L:m.length=0
 ·rw[A2 (by rw[F5,B4];simp_all),A2 L]
 rw[A1 (by rw[F5,B4];simp_all),A1 L]
 by_cases O:4096<m.length
 ·rw[A2 (Bn (by rw[B4];omega)),A2 O]
 rw[A1 (T9 (by rw[B4];omega)),A1 O];refine AM4 hN za2 (λi U=>?_) (by rw[A1 (Q6 (by rw[B4];omega))]);have e:ar .add .i64 (i:Int) 1=i+1:=D4 za2 za2
 have A:WB m i=if(decide (0<=m[i].Var)&&decide (m[i].Var<=15)&&(decide (0<=m[i].Ref.Time)&&decide (m[i].Ref.Time<=1099511627776)&&(decide (0<=m[i].Ref.Source)&&decide (m[i].Ref.Source<=7))&&(decide (0<=m[i].Ref.Seq)&&decide (m[i].Ref.Seq<=1099511627776))))=false then 2 else if 0<i/\0<=M6 (T8 ((m[i-1]?).getD m[i]).Ref) (T8 m[i].Ref)then 14 else 0:=by
  grind[WB]
 rw[A2 (AT (by rw[B4];omega)),E8,C8 U];simp only[A4,Eb,e,O5,U2,Dp,X5];rw[A]
 have a:(if cmp .gtr (i:Int) 0=true then
  (C7 m (ar .sub .i64 (i:Int) 1)).bind λn=>(GE N n.Ref m[i].Ref).bind λk=>if decide (0<=k)=true then some (Sum.inr (Sum.inr 14))else some (.inl ((i:Int)+1))
  else some (.inl ((i:Int)+1)):OS (Int⊕(Unit⊕Int)))=some (if 0<i/\0<=M6 (T8 ((m[i-1]?).getD m[i]).Ref) (T8 m[i].Ref)then .inr (.inr 14)else .inl ((i:Int)+1)):=by
  by_cases b:0<i
  ·have w:ar .sub .i64 (i:Int) 1=((i-1:Nat):Int):=by rw[CL za2 za2];omega
   have g:i-1<m.length:=za2
   rw[A2 (Bn za2),w,E8,C8 g];simp only[A4,O2];rw[AA6 hN]
   grind
  rw[A1 (T9 za2),A1 (λh=>b h.1)]
 rw[a]
 grind
def Bm0 {a b:Nat} (h:a+b<1000000):Ar.wr .i64 (Ar.sh .shr .u64 (Ar.wr .u64 (ar .add .i64 (a:Int) (b:Int))) 1)=(((a+b) / 2:Nat):Int):=by
 have R:∀{n:Int},0<=n->n<1000000->IntKind.wrap .u64 n=n:=λ{n} L O=>by
  have e:IntKind.wrap .u64 n=n % 18446744073709551616:=by
   unfold IntKind.wrap;simp[IntKind.bits,IntKind.signed]
  rw[e];omega
 rw[D4 za2 za2]
 show IntKind.wrap .i64 (shI .shr .u64 (IntKind.wrap .u64 ((a:Int)+b)) 1)=_
 rw[R za2 za2]
 have e:shI .shr .u64 ((a:Int)+b) 1=((a:Int)+b) / 2:=by
  show((a:Int)+b).fdiv (2 ^ (min (1:Int).toNat 64))=_
  rw[show(2:Int) ^ (min (1:Int).toNat 64)=2 from rfl,Int.fdiv_eq_ediv_of_nonneg _ za5]
 rw[e,Ee za2 za2];omega
def Bw2 {n:Nat} {c:Nat->Bool} (X:∀i j,i<j->j<n->c j=true->c i=true) {step:Int×Int->OS ((Int×Int)⊕Int)}
 (C:∀i j:Nat,i<j->j<=n->step ((i:Int),(j:Int))=some (.inl (if c ((i+j) / 2)=true then((((i+j) / 2+1:Nat):Int),(j:Int))else((i:Int),(((i+j) / 2:Nat):Int)))))
 (Y:∀i:Nat,step ((i:Int),(i:Int))=some (.inr (i:Int))):∀(k i j M:Nat),j-i<=k->i<=j->j<=n->k<M->(∀m,m<i->c m=true)->(∀m,j<=m->m<n->c m=false)->
 ∃r:Nat,r<=n/\(∀m,m<r->c m=true)/\(∀m,r<=m->m<n->c m=false)/\loopN step M ((i:Int),(j:Int))=some (r:Int):=by
 intro k
 induction k with
 |zero=>
  intro i j M O Z J s t x;obtain⟨M,rfl⟩:∃m,M=m+1:=⟨M-1,za2⟩
  have:i=j:=za2
  grind[loopN]
 | succ k ih=>
  intro i j M O Z J s t x;obtain⟨M,rfl⟩:∃m,M=m+1:=⟨M-1,za2⟩
  by_cases h:i<j
  ·have key:∀(g b:Nat),step ((i:Int),(j:Int))=some (.inl ((g:Int),(b:Int)))->b-g<=k->g<=b->b<=n->(∀m,m<g->c m=true)->(∀m,b<=m->m<n->c m=false)->
    ∃r:Nat,r<=n/\(∀m,m<r->c m=true)/\(∀m,r<=m->m<n->c m=false)/\loopN step (M+1) ((i:Int),(j:Int))=some (r:Int):=by
    simp_all[loopN]
   have a:=C i j h J
   by_cases E:c ((i+j) / 2)=true
   ·rw[A2 E]at a
    refine key _ _ a za2 za2 J (λm hl=>?_) x
    by_cases e:m=(i+j) / 2
    ·rw[e];exact E
    exact X m _ za2 za2 E
   rw[A1 E]at a
   refine key _ _ a za2 za2 za2 t λm hl y=>?_
   rw[BF]at E
   by_cases e:m=(i+j) / 2
   ·rw[e];exact E
   grind
  have:i=j:=za2
  subst this
  grind[loopN]
def BD1 {n:Nat} {c:Nat->Bool} (X:∀i j,i<j->j<n->c j=true->c i=true) {step:Int×Int->OS ((Int×Int)⊕Int)} {M:Nat} (a:n<M)
 (C:∀i j:Nat,i<j->j<=n->step ((i:Int),(j:Int))=some (.inl (if c ((i+j) / 2)=true then((((i+j) / 2+1:Nat):Int),(j:Int))else((i:Int),(((i+j) / 2:Nat):Int)))))
 (Y:∀i:Nat,step ((i:Int),(i:Int))=some (.inr (i:Int))):loopN step M (0,(n:Int))=some ((Classical.epsilon λk:Nat=>k<=n/\(∀m,m<k->c m=true)/\∀m,k<=m->m<n->c m=false:Nat):Int)/\
  ∃k:Nat,(Classical.epsilon λk:Nat=>k<=n/\(∀m,m<k->c m=true)/\∀m,k<=m->m<n->c m=false)=k/\k<=n/\(∀m,m<k->c m=true)/\∀m,k<=m->m<n->c m=false:=by
 obtain⟨r,b,v,e,x⟩:=Bw2 X C Y n 0 n M za2 za2 (B1 _) a (λm h=>absurd h za2) λm O Z=>absurd Z za2;have t:=Classical.epsilon_spec (p:=λk:Nat=>k<=n/\(∀m,m<k->c m=true)/\∀m,k<=m->m<n->c m=false) ⟨r,b,v,e⟩
 generalize (Classical.epsilon λk:Nat=>k<=n/\(∀m,m<k->c m=true)/\∀m,k<=m->m<n->c m=false)=k at *
 obtain⟨I,d,g⟩:=t
 have:k=r:=by
  rcases Fg k r with h|h|h
  ·have:=g k (B1 _) za2;rw[v k h]at this;cases this
  ·exact h
  grind
 simp_all
end
end Go.Ab
open Go.Ab.Ar (an ar cmp sh wr)
namespace Go.Ab
open Classical
noncomputable section
def Id (l:Up A9)(r:Bb):OS Nat:=l.findIdx? λe=>decide (Aj e=T8 r)
def scmp_eq {N:Nat}(hN:Bgn N)(e:A9)(r:Bb):Cs N e r=some (M6 (Aj e) (T8 r)):=by
 unfold Cs;rw[Hh,Hh,Hh];simp only[A4];rw[or_eq hN za4,Aj,T8,Bv4];rfl
def Bb9 {l:Up A9} (hl:l.length<=4096) (h:BP l=0):∀(d i:Nat),i+d+1<l.length->∀(O:i<l.length) (Z:i+d+1<l.length),M6 (Aj l[i]) (Aj l[i+d+1])<0:=by
 have X:∀i,i<l.length->PL l i=0:=by
  unfold BP at h
  rw[A1 za2]at h
  exact λi U=>Eu.1 h i (List.mem_range.2 U)
 have O:∀i,∀(Z:i+1<l.length),M6 (Aj l[i]) (Aj l[i+1])<0:=λi Z=>by
  have:=X (i+1) Z
  grind[PL]
 intro d
 induction d with
 |zero=>simp_all
 |succ d ih=>
  intro i _ U Z;exact Fv (ih i za2 U za2) (O (i+d+1) Z)
def WD {l:Up A9}(hl:l.length<=4096)(h:BP l=0){i j:Nat}(a:i<j)(u:j<l.length):M6 (Aj (l[i]' za2)) (Aj l[j])<0:=by
 have:=Bb9 hl h (j-i-1) i za2 za2 za2
 grind
def Ic {l:Up A9}{r:Bb}{i:Nat}(h:Id l r=some i):∃U:i<l.length,Aj l[i]=T8 r:=by
 unfold Id at h
 obtain⟨U,O,_⟩:=List.findIdx?_eq_some_iff_getElem.1 h
 simp_all
def YZ {l:Up A9}(hl:l.length<=4096)(X:BP l=0){r:Bb}{i:Nat}(U:i<l.length)(h:Aj l[i]=T8 r):Id l r=some i:=by
 unfold Id;rw[List.findIdx?_eq_some_iff_getElem];refine⟨U,N2 h,λj a b=>?_⟩;have:=WD hl X a U
 rw[h,<-Fe b,Et]at this
 omega
def AE0 {N:Nat} (hN:Bgn N) {l:Up A9} (hl:l.length<=4096) (X:BP l=0) (r:Bb):∃k:Nat,Fk N l r=some ((k:Int),(Id l r).isSome,0)/\∀i,Id l r=some i->k=i:=by
 unfold Fk;rw[Uo hN,X];simp only[A4];rw[A1 (K7 rfl)];unfold O8
 have a:∀{i:Nat} (h:i<l.length),(match l[i]? with|some x=>decide (M6 (Aj x) (T8 r)<0)|none=>false)=decide (M6 (Aj l[i]) (T8 r)<0):=λ{i} h=>by rw[C8 h]
 have z:∀i j,i<j->j<l.length->(match l[j]? with|some x=>decide (M6 (Aj x) (T8 r)<0)|none=>false)=true->(match l[i]? with|some x=>decide (M6 (Aj x) (T8 r)<0)|none=>false)=true:=λi j b u h=>by
  rw[a u]at h
  rw[a za2];exact N2 (Fv (WD hl X b u) (Fe h))
 rw[B4]
 have W:=λC Y=>BD1 (n:=l.length) (c:=λi=>match l[i]? with|some x=>decide (M6 (Aj x) (T8 r)<0)|none=>false) z (M:=N) za2 (step:=λ(I:Int×Int)=>
  (
   if cmp .lss I.1 I.2=true then
    (C7 l (wr .i64 (sh .shr .u64 (wr .u64 (ar .add .i64 I.1 I.2)) 1))).bind λp=>
    (Cs N p r).bind λo=>
    if cmp .lss o 0=true then
     some (.inl (ar .add .i64 (wr .i64 (sh .shr .u64 (wr .u64 (ar .add .i64 I.1 I.2)) 1)) 1,I.2))
    else
     some (.inl (I.1,wr .i64 (sh .shr .u64 (wr .u64 (ar .add .i64 I.1 I.2)) 1)))
   else
    some (.inr I.1)
   :OS ((Int×Int)⊕(Int)))) C Y
 obtain⟨e,k,V,s,d,f⟩:=W (λi j b u=>by
  have H:(i+j) / 2<l.length:=za2
  dsimp only
  rw[A2 (AT za2),Bm0 za2,E8,C8 H];simp only[A4];rw[scmp_eq hN];simp only[A4]
  by_cases X:M6 (Aj l[(i+j) / 2]) (T8 r)<0
  ·rw[A2 (AT X),A2 (N2 X),D4 za2 za2];rfl
  rw[A1 (Q6 X),A1 za7]) (λi=>by dsimp only;rw[A1 (Q6 za2)])
 rw[V]at e
 rw[e];simp only[A4];have P:∀m (E:m<l.length),m<k->M6 (Aj l[m]) (T8 r)<0:=λm E h=>Fe (by have:=d m h;rw[a E]at this;exact this);have q:∀m (E:m<l.length),k<=m->¬M6 (Aj l[m]) (T8 r)<0:=λm E h=>of_decide_eq_false (by have:=f m h E;rw[a E]at this;exact this)
 have K:∀i,Id l r=some i->k=i:=λi U=>by
  obtain⟨g,Y⟩:=Ic U
  rcases Fg k i with h|h|h
  ·have:=WD hl X h g
   rw[Y]at this
   grind
  ·exact h
  have:=P i g h
  rw[Y,Et]at this;omega
 refine⟨k,?_,K⟩
 by_cases t:k<l.length
 ·rw[A2 (AT za2),E8,C8 t];simp only[A4];rw[scmp_eq hN];simp only[A4,F5];refine G2 (λx=>some ((k:Int),x,(0:Int))) ?_
  by_cases L:M6 (Aj l[k]) (T8 r)=0
  ·rw[YZ hl X t (JF L)];simp[L]
  cases y:Id l r with
  |none=>simp[L]
  |some i=>
   have:=K i y;subst this;obtain⟨_,Y⟩:=Ic y
   rw[Y,Et]at L;omega
 rw[A1 (Q6 za2)];simp only[A4];refine G2 (λx=>some ((k:Int),x,(0:Int))) ?_
 cases y:Id l r with
 |none=>rfl
 |some i=>
  have:=K i y;subst this;obtain⟨h,_⟩:=Ic y;omega
def Bk2:(List.range 5000).all (λn=>match Kv 0 1 (n:Int)with|some (a,b)=>(a==0)&&(b==(n:Int))|none=>false)=true:=za3
def mul_one {N n:Nat}(h:n<5000):RO N 1 (n:Int)=some (0,(n:Int)):=by
 have O:=List.all_eq_true.1 Bk2 n (List.mem_range.2 h);have e:Kv 0 1 (n:Int)=Kv N 1 (n:Int):=rfl
 rw[e]at O
 grind[RO]
def Aa5 {n:Int} (L:0<=n) (O:n<1000000000000):wr .u64 n=n:=by
 show IntKind.wrap .u64 n=n
 have e:IntKind.wrap .u64 n=n % 18446744073709551616:=by
  unfold IntKind.wrap;simp[IntKind.bits,IntKind.signed]
 rw[e];omega
def Ai7 {N:Nat} {q:A0} {n:Nat} (b:n<=1000000) {step:Int×Up A0->OS ((Int×Up A0)⊕Up A0)}
 (C:∀(m:Nat) l,l.length=n->m<n->1<=m->step ((m:Int),l)=some (.inl (((m+min (n-m) m:Nat):Int),l.take m++(l.take m).take (n-m)++l.drop (m+(l.take m).length))))
 (Y:∀l,l.length=n->step ((n:Int),l)=some (.inr l)):∀(d m:Nat) (l:Up A0) (M:Nat),m+d=n->d<M->1<=m->l.length=n->l.take m=List.replicate m q->loopN step M ((m:Int),l)=some (List.replicate n q):=by
 intro d
 induction d using Nat.strongRecOn with
 | ind d ih=>
  intro m l M O Z J s a;obtain⟨M,rfl⟩:∃k,M=k+1:=⟨M-1,za2⟩
  by_cases E:m<n
  ·unfold loopN;rw[C m l s E J]
   have hl:(l.take m).length=m:=by rw[X8];omega
   refine ih (n-(m+min (n-m) m)) za2 _ _ M za2 za2 za2 ?_ ?_
   ·simp only[K8,X8,Fc];omega
   simp_all
  have:m=n:=za2
  grind[loopN]
def Bh0 {N:Nat} (hN:Bgn N) (q:A0) {n:Nat} (O:1<=n) (Z:n<5000):X4 N [q] (n:Int)=some (List.replicate n q):=by
 unfold X4;rw[A1 (Q6 za2)];simp only[A4,B4,BL];rw[Aa5 za2 za2,Aa5 za2 za2,show((1:Nat):Int)=1 from rfl,mul_one Z];simp only[A4];rw[A1 (by simp only[W9,EK];simp;omega)];simp only[A4];have R:wr .i64 (n:Int)=n:=Ee za2 za2;rw[R,ZW,A2 za2];simp only[A4,W4];rw[Wp,A2 za2];simp only[A4,Tc,Int.toNat_zero,Nat.sub_zero,NA,I1,BL]
 have w:(if(n:Int)-0<((1:Nat):Int)then(n:Int)-0 else((1:Nat):Int))=((1:Nat):Int):=by rw[A1 za2]
 rw[w];rw[Ai7 (N:=N) (q:=q) (n:=n) za2 ?_ ?_ (n-1) 1 _ N za2 za2 (B1 _) ?_ ?_]
 ·rfl
 ·intro m l hl E L
  have a:(l.take m).length=m:=by rw[X8];omega
  dsimp only
  rw[A2 (AT za2)]
  have I:R6 l (some (m:Int)) none none=some (l.drop m):=by
   unfold R6;rw[A2 za6];simp only[O2,Be,W4];rw[AB (by rw[Fc];omega)]
  rw[I,Aq5 za2];simp only[A4];rw[Wp,A2 za2];simp only[A4,W4,hl];refine G2 (λx=>some (Sum.inl (x,l.take m++(l.take m).take (n-m)++l.drop (m+(l.take m).length)))) ?_;rw[a]
  by_cases X:(n:Int)-(m:Int)<(m:Int)
  ·rw[A2 X,D4 za2 za2];omega
  rw[A1 X,D4 za2 za2];omega
 ·intro l hl
  dsimp only
  rw[A1 (Q6 za2)]
 ·simp;omega
 grind
def L8 (p:A0)(c:Int)(i:Nat):A0:=if p.Op=1\/p.Op=3 then(p.dD[i]?).getD p else if p.Op=2 then(p.dD[c.toNat]?).getD p else(p.dD[0]?).getD p
def HP (p:A0)(n:Nat):Prop:=if p.Op=0 then n≠0 else if p.Op=1\/p.Op=3 then n≠p.dD.length else if p.Op=4 then n=0 else n≠1
mutual
def HR:A5->A0->Int
 |⟨r,c,ks⟩,p=>if(p.Op≠0/\¬(r.Time=0/\r.Source=0/\r.Seq=0))\/(p.Op≠2/\c≠0)then 3 else if p.Op=2/\(c<0\/(p.dD.length:Int)<=c)then 2 else if HP p ks.length then 15 else Dj ks p c 0
def Dj:Up A5->A0->Int->Nat->Int
 |[],_,_,_=>0
 |k::ks,p,c,i=>if HR k (L8 p c i)=0 then Dj ks p c (i+1)else HR k (L8 p c i)
end
def JY (d:A5)(p:A0):HR d p=if(p.Op≠0/\¬(d.Ref.Time=0/\d.Ref.Source=0/\d.Ref.Seq=0))\/(p.Op≠2/\d.Choice≠0)then 3 else if p.Op=2/\(d.Choice<0\/(p.dD.length:Int)<=d.Choice)then 2 else if HP p d.Kids.length then 15 else Dj d.Kids p d.Choice 0:=by
 cases d;simp only[HR]
def Bk5 {N:Nat} {ks:Up A5} {p:A0} {c:Int} {step:Int->OS (Int⊕(Unit⊕Int))} {k:Unit⊕Int->OS Int} (hl:ks.length<N) (hN:ks.length<1000000000)
 (C:∀(i:Nat) (h:i<ks.length),step (i:Int)=if cmp .neq (HR ks[i] (L8 p c i)) 0=true then some (.inr (.inr (HR ks[i] (L8 p c i))))else some (.inl (ar .add .i64 (i:Int) 1)))
 (Y:step (ks.length:Int)=some (.inr (.inl ()))) (n:k (.inl ())=some 0) (g:∀e,k (.inr e)=some e):(loopN step N 0).bind k=some (Dj ks p c 0):=by
 have key:∀(d i N:Nat),i+d=ks.length->d<N->(loopN step N (i:Int)).bind k=some (Dj (ks.drop i) p c i):=by
  intro d
  induction d with
  |zero=>
   intro i N U hN;obtain⟨N,rfl⟩:∃m,N=m+1:=⟨N-1,za2⟩
   have:i=ks.length:=za2
   simp_all[loopN,Dj]
  | succ d ih=>
   intro i N U hN;obtain⟨N,rfl⟩:∃m,N=m+1:=⟨N-1,za2⟩
   have a:i<ks.length:=za2
   rw[M4 a,Dj];unfold loopN;rw[C i a,D4 za2 za2]
   by_cases b:HR ks[i] (L8 p c i)=0
   ·rw[A1 (K7 b),A2 b]
    grind
   rw[A2 (O9 b),A1 b];exact g _
 grind
def J0 {p:A0} (R:WfN p) {c:Int} {i n:Nat} (h:¬HP p n) (U:i<n) (X:p.Op=2->0<=c/\c<p.dD.length):L8 p c i∈p.dD/\(p.Op=1\/p.Op=3->p.dD[i]? =some (L8 p c i))/\(p.Op=2->p.dD[c.toNat]? =some (L8 p c i))/\(4<=p.Op->p.dD=[L8 p c i]):=by
 have z:=R.op
 unfold HP at h
 unfold L8
 by_cases L:p.Op=0
 ·rw[A2 L]at h;omega
 rw[A1 L]at h
 by_cases O:p.Op=1\/p.Op=3
 ·rw[A2 O]at h
  have a:i<p.dD.length:=za2
  rw[A2 O,C8 a]
  grind
 rw[A1 O]
 by_cases Z:p.Op=2
 ·have:=X Z
  have a:c.toNat<p.dD.length:=za2
  rw[A2 Z,C8 a]
  simp_all
 rw[A1 Z];obtain⟨q,Q⟩:=R.a2 za2;rw[Q]
 simp_all
def WJ {a b:Int}(h:¬a=b):¬(cmp .eql a b=true):=by rw[Py h];simp
def Ak0 (p:A0)(d:A5):Ar.or (an (cmp .neq p.Op 0) (Ar.nt (an (cmp .eql d.Ref.Time 0) (an (cmp .eql d.Ref.Source 0) (an (cmp .eql d.Ref.Seq 0) true))))) (an (cmp .neq p.Op 2) (cmp .neq d.Choice 0))=true<->
 (p.Op≠0/\¬(d.Ref.Time=0/\d.Ref.Source=0/\d.Ref.Seq=0))\/(p.Op≠2/\d.Choice≠0):=by
 simp only[W9,O5,X5,R8,F5]
 grind
def Yb {N:Nat} (hN:Bgn N):∀(n:Nat) (p:A0) (d:A5),PK d<=n->HM d<=4096->FT p->p.pre.length<=64->Bi N n p d=some (HR d p)
 |0,p,d,h,_,_,_=>by rw[As]at h;omega
 | n + 1,p,d,h,C,R,v=>by
  have j:=X7 p;have w:=Mz d;have u:=As d;have hl:=JX d.Kids;have z:=R.self.op;unfold Bi;rw[JY]
  by_cases o:(p.Op≠0/\¬(d.Ref.Time=0/\d.Ref.Source=0/\d.Ref.Seq=0))\/(p.Op≠2/\d.Choice≠0)
  ·rw[A2 ((Ak0 p d).2 o),A2 o]
  rw[A1 (λe=>o ((Ak0 p d).1 e)),A1 o]
  have rest:∀b:Up A0,(HP p d.Kids.length<->d.Kids.length≠b.length)->(∀i,i<b.length->¬HP p d.Kids.length->b[i]? =some (L8 p d.Choice i))->(p.Op=2->0<=d.Choice/\d.Choice<p.dD.length)->
   (if cmp .neq (Ar.len d.Kids) (Ar.len b)=true then
    some 15
   else
    (loopN
     (λ(r:Int)=>
      (
       if cmp .lss r (Ar.len d.Kids)=true then
        (C7 d.Kids r).bind λD=>
        (C7 b r).bind λP=>
        (Bi N n P D).bind λk=>
        if cmp .neq k 0=true then
         some (.inr (.inr k))
        else
         some (.inl (ar .add .i64 r 1))
       else
        some (.inr (.inl ()))
       :OS ((Int)⊕(Unit⊕Int))))
     N 0).bind λB=>
    match B with
    | .inl F=>
     some 0
    | .inr V=>
     some V)=some (if HP p d.Kids.length then 15 else Dj d.Kids p d.Choice 0):=by
   intro b A m X
   by_cases a:HP p d.Kids.length
   ·rw[A2 (O9 (by rw[B4,B4];have:=A.1 a;omega)),A2 a]
   have f:d.Kids.length=b.length:=by
    simp_all
   rw[A1 (K7 (by rw[B4,B4];omega)),A1 a];refine Bk5 za2 za2 (λi U=>?_) (by rw[A1 AO]) rfl λe=>rfl;have E:=F4 U;rw[A2 (T3 za2),E8,E8,C8 U,m i za2 a];simp only[A4];rw[Yb hN n _ _ (by have:=BU E;omega) (by have:=Gj E;omega) (R.arg (J0 R.self a U X).1) (by have:=H9 (J0 R.self a U X).1;omega)];rfl
  by_cases Z:p.Op=2
  ·rw[A2 (S2 Z)]
   by_cases X:d.Choice<0\/(p.dD.length:Int)<=d.Choice
   ·rw[A2 (by simp only[W9,E4,U2,B4];grind),A2 ⟨Z,X⟩];rfl
   rw[A1 (by simp only[W9,E4,U2,B4];grind),A1 (λh=>X h.2)]
   have g:0<=d.Choice/\d.Choice<p.dD.length:=za2
   obtain⟨c,t⟩:=Da g.1
   have x:c<p.dD.length:=za2
   have K:R6 p.dD (some d.Choice) (some (ar .add .i64 d.Choice 1)) none=some [p.dD[c]]:=by
    have A:=R.self;rw[t,D4 za2 za2,show((c:Int)+1)=((c+1:Nat):Int) by omega];unfold R6;rw[A2 za6];simp only[O2,Be,W4];rw[show c+1-c=1 by omega,M4 x];rfl
   rw[K];simp only[A4];refine rest [p.dD[c]] ?_ ?_ λ_=>g
   ·simp_all[HP]
   simp_all[L8]
  rw[A1 (WJ Z),A1 (show¬(p.Op=2/\(d.Choice<0\/(p.dD.length:Int)<=d.Choice))from λh=>Z h.1)]
  by_cases s:p.Op=4
  ·rw[A2 (S2 s)];obtain⟨q,Q⟩:=R.self.a2 za2
   by_cases W:d.Kids.length=0
   ·rw[A2 (S2 (by rw[B4];omega)),A2 (by simp_all[HP])];rfl
   rw[A1 (WJ (by rw[B4];omega)),Q,B4,Bh0 hN q za2 za2];simp only[A4];refine rest _ ?_ ?_ λh=>absurd h Z
   ·simp_all[HP]
   simp_all[L8]
  rw[A1 (WJ s)];simp only[A4];refine rest p.dD ?_ ?_ λh=>absurd h Z
  ·unfold HP
   by_cases L:p.Op=0
   ·rw[A2 L,R.self.a0 L];simp
   rw[A1 L]
   by_cases O:p.Op=1\/p.Op=3
   ·rw[A2 O]
   obtain⟨q,Q⟩:=R.self.a2 za2;rw[A1 O,A1 s,Q];simp
  intro i U a
  have H:i<d.Kids.length:=by
   unfold HP at a
   by_cases L:p.Op=0
   ·rw[R.self.a0 L]at U;simp at U
   rw[A1 L]at a
   by_cases O:p.Op=1\/p.Op=3
   ·rw[A2 O]at a;omega
   obtain⟨q,Q⟩:=R.self.a2 za2
   rw[A1 O,A1 s]at a;rw[Q]at U;simp_all
  have E:=J0 R.self (c:=d.Choice) (i:=i) a H λh=>absurd h Z
  by_cases O:p.Op=1\/p.Op=3
  ·grind
  by_cases L:p.Op=0
  ·rw[R.self.a0 L]at U;simp at U
  have:=E.2.2.2 za2
  rw[this]at U ⊢
  have y:i=0:=za7
  rw[y];simp
def Bp8:∀{ks:Up A5} {p:A0} {c:Int} {j:Nat},Dj ks p c j=0->∀i (h:i<ks.length),HR ks[i] (L8 p c (j+i))=0
 |[],_,_,_,_,i,h=>absurd h za4
 | k::ks,p,c,j,C,i,h=>by
  rw[Dj]at C
  by_cases a:HR k (L8 p c j)=0
  ·rw[A2 a]at C
   cases i with
   |zero=>exact a
   |succ i=>
    have:=Bp8 C i za7
    rw[show j+1+i=j+(i+1) by omega]at this
    exact this
  omega
structure Su (d:A5) (p:A0):Prop where
 n:¬HP p d.Kids.length
 c:p.Op=2->0<=d.Choice/\d.Choice<p.dD.length
 k:∀i (h:i<d.Kids.length),HR d.Kids[i] (L8 p d.Choice i)=0
def Fj {d:A5} {p:A0} (h:HR d p=0):Su d p:=by
 rw[JY]at h
 split at h
 ·cases h
 split at h
 ·cases h
 split at h
 ·cases h
 next h1 h2 h3=>
 exact⟨h3,λe=>by
  omega,λi U=>by have:=Bp8 h i U;rwa[K4]at this⟩
def Su.pos {d:A5} {p:A0} (h:Su d p) (R:WfN p) (L:p.Op≠0):1<=d.Kids.length:=by
 have a:=h.n;have z:=R.op
 unfold HP at a
 rw[A1 L]at a
 by_cases O:p.Op=1\/p.Op=3
 ·rw[A2 O]at a
  have:=List.length_pos_iff.2 (R.a1 za2 za2);omega
 rw[A1 O]at a
 grind
theorem Su.one {d:A5}{p:A0}(h:Su d p)(L:p.Op≠0)(O:¬(p.Op=1\/p.Op=3))(s:p.Op≠4):d.Kids.length=1:=by
 have a:=h.n
 simp_all[HP]
def Sk {a b:Int}(L:0<=a)(h:a<b):ar .rem .i64 a b=a:=by
 have e:ar .rem .i64 a b=a.tmod b:=rfl;rw[e,Int.tmod_eq_of_lt L h]
def AA4 (a:Int):ar .rem .i64 a 1=0:=by
 have e:ar .rem .i64 a 1=a.tmod 1:=rfl;rw[e,Int.tmod_one]
def ZP {p:A0} (R:FT p) (e:p.pre.length<=64) {d:A5} (C:Su d p) (L:p.Op≠0) (Z:p.Op≠2) {i:Nat} (U:i<d.Kids.length):C7 p.dD (ar .rem .i64 (i:Int) (Ar.len p.dD))=some (L8 p d.Choice i):=by
 have E:=J0 R.self C.n U C.c;have a:=X7 p;have z:=R.self.op
 by_cases O:p.Op=1\/p.Op=3
 ·have:=E.2.1 O
  have b:i<p.dD.length:=by
   grind
  rw[B4,Sk za2 za2,E8];exact this
 have:=E.2.2.2 za2;rw[this,B4,BL,show((1:Nat):Int)=1 from rfl,AA4];rfl
def Eh (p:A0):Prop:=p.Op=1\/p.Op=4
def GB (p:A0)(b s:Up PR):Up PR:=if Eh p then mrg b s else b
def CA (p:A0)(f:Int)(s:Up PR):Int:=if Eh p/\s≠[]then V3 s+1 else f
mutual
def Oc (l:Up A9):A5->A0->Up PR->Int->OS (Up PR)
 |⟨r,c,ks⟩,p,b,f=>if p.Op=0 then(match Id l r with|some i=>if f<=(i:Int)/\SH l p b i=true then some [⟨p.Var,(i:Int)⟩]else none|none=>none)
  else(EP l ks p c 0 b f []).bind λs=>if 5<=p.Op/\¬Fx l p b s=true then none else some s
def EP (l:Up A9):Up A5->A0->Int->Nat->Up PR->Int->Up PR->OS (Up PR)
 |[],_,_,_,_,_,s=>some s
 |k::ks,p,c,i,b,f,s=>(Oc l k (L8 p c i) (GB p b s) (CA p f s)).bind λx=>if Ai s x=true then none else EP l ks p c (i+1) b f (mrg s x)
end
def JW (l:Up A9)(d:A5)(p:A0)(b:Up PR)(f:Int):Oc l d p b f=if p.Op=0 then(match Id l d.Ref with|some i=>if f<=(i:Int)/\SH l p b i=true then some [⟨p.Var,(i:Int)⟩]else none|none=>none)
 else(EP l d.Kids p d.Choice 0 b f []).bind λs=>if 5<=p.Op/\¬Fx l p b s=true then none else some s:=by
 cases d;simp only[Oc]
def WY (l:Up A9)(p:A0)(c:Int)(b:Up PR)(f:Int)(k:A5)(i:Nat)(s:Up PR):OS (Up PR):=(Oc l k (L8 p c i) (GB p b s) (CA p f s)).bind λx=>if Ai s x=true then none else some (mrg s x)
def AP (l:Up A9) (k:A5) (ks:Up A5) (p:A0) (c:Int) (i:Nat) (b:Up PR) (f:Int) (s:Up PR):EP l (k::ks) p c i b f s=(WY l p c b f k i s).bind λt=>EP l ks p c (i+1) b f t:=by
 rw[EP,WY]
 cases Oc l k (L8 p c i) (GB p b s) (CA p f s)with
 |none=>rfl
 |some x=>
  grind
def AM3 {S T R:Type} {ks:Up A5} {step:S->OS (S⊕(R⊕Unit))} {rep:Nat->T->S} {e:A5->Nat->T->OS T} {G:Up A5->Nat->T->OS T} {I:Nat->T->Prop} {res:T->R}
 (g0:∀i t,G [] i t=some t) (g:∀k ks i t,G (k::ks) i t=(e k i t).bind (G ks (i+1)))
 (C:∀i (h:i<ks.length) t,I i t->(e ks[i] i t=none/\step (rep i t)=some (.inr (.inr ())))\/∃a,e ks[i] i t=some a/\step (rep i t)=some (.inl (rep (i+1) a))/\I (i+1) a)
 (Y:∀t,I ks.length t->step (rep ks.length t)=some (.inr (.inl (res t)))) {N:Nat} (hN:ks.length<N) {t0:T} (L:I 0 t0):
 (G ks 0 t0=none/\loopN step N (rep 0 t0)=some (.inr ()))\/∃t,G ks 0 t0=some t/\I ks.length t/\loopN step N (rep 0 t0)=some (.inl (res t)):=by
 have key:∀(d i N:Nat) (t:T),i+d=ks.length->d<N->I i t->(G (ks.drop i) i t=none/\loopN step N (rep i t)=some (.inr ()))\/∃a,G (ks.drop i) i t=some a/\I ks.length a/\loopN step N (rep i t)=some (.inl (res a)):=by
  intro d
  induction d with
  |zero=>
   intro i N t U hN j;obtain⟨N,rfl⟩:∃m,N=m+1:=⟨N-1,za2⟩
   have:i=ks.length:=za2
   simp_all[loopN]
  |succ d ih=>
   intro i N t U hN j;obtain⟨N,rfl⟩:∃m,N=m+1:=⟨N-1,za2⟩
   have b:i<ks.length:=za2
   rw[M4 b,g]
   grind[loopN]
 grind
def AR9 {S T R X:Type}{ks:Up A5}{step:S->OS (S⊕(R⊕Unit))}{s0:S}{k:R⊕Unit->OS X}{Q:X->Prop}(rep:Nat->T->S)(a:A5->Nat->T->OS T)(G:Up A5->Nat->T->OS T)(I:Nat->T->Prop)(res:T->R){t0:T}(e0:s0=rep 0 t0)
 (g0:∀i t,G [] i t=some t) (e:∀k ks i t,G (k::ks) i t=(a k i t).bind (G ks (i+1))) {N:Nat} (hN:ks.length<N) (L:I 0 t0)
 (C:∀i (h:i<ks.length) t,I i t->(a ks[i] i t=none/\step (rep i t)=some (.inr (.inr ())))\/∃b,a ks[i] i t=some b/\step (rep i t)=some (.inl (rep (i+1) b))/\I (i+1) b)
 (Y:∀t,I ks.length t->step (rep ks.length t)=some (.inr (.inl (res t))))
 (g:G ks 0 t0=none->∃r,k (.inr ())=some r/\Q r) (n:∀t,G ks 0 t0=some t->I ks.length t->∃r,k (.inl (res t))=some r/\Q r):∃r,(loopN step N s0).bind k=some r/\Q r:=by
 subst e0
 rcases AM3 g0 e C Y hN L with⟨O,Z⟩|⟨t,O,Z,J⟩
 ·rw[Z];exact g O
 simp_all
def At8 {s x:Up PR}(h:x≠[]):V3 (s++x)=V3 x:=by
 unfold V3;rw[List.getLast?_append]
 cases M:x.getLast? with
 |none=>simp_all
 |some y=>rfl
def VG {l:Up A9}{s x:Up PR}{f:Int}(C:s=[]\/Hi l f s)(M:Hi l (if s≠[]then V3 s+1 else f) x):V3 (mrg s x)=V3 x:=by
 rcases C with rfl|C
 ·rw[ED]
 rw[A2 C.ne]at M
 rw[VB λa T b A=>by have:=Kw C.gd.asc a T;have:=M.ge b A;omega,At8 M.ne]
def Ri {l:Up A9} {p:A0} {b s:Up PR} {f:Int} (z:Jq l b f) (C:s=[]\/Hi l f s):Jq l (GB p b s) (CA p f s):=by
 unfold GB CA
 by_cases X:Eh p
 ·rw[A2 X]
  rcases C with rfl|C
  ·rw[A1 (λh=>h.2 rfl),AN];exact z
  rw[A2 ⟨X,C.ne⟩];exact z.next C
 simp_all
def Rf {l:Up A9} {p:A0} {s x:Up PR} {f:Int} (C:s=[]\/Hi l f s) (M:Hi l (CA p f s) x) (E:Ai s x=false):Hi l f (mrg s x):=by
 rcases C with rfl|C
 ·rw[ED]
  simp_all[CA]
 unfold CA at M
 by_cases X:Eh p
 ·rw[A2 ⟨X,C.ne⟩]at M
  exact(C.seq M).1
 rw[A1 λh=>X h.1]at M
 exact C.all M (W0.1 E)
def Ba1 {l:Up A9} {p:A0} {s x:Up PR} {f:Int} (C:s=[]\/Hi l f s) (M:Hi l (CA p f s) x) (X:Eh p):CA p f (mrg s x)=V3 x+1:=by
 have b:Hi l (if s≠[]then V3 s+1 else f) x:=by
  simp_all[CA]
 have a:mrg s x≠[]:=λe=>by
  have O:=G2 List.length e
  rw[ML,Ay]at O
  have:=List.length_pos_iff.2 M.ne;omega
 unfold CA;rw[A2 ⟨X,a⟩,VG C b]
def ZI (p:A0):Ar.or (cmp .eql p.Op 1) (cmp .eql p.Op 4)=true<->Eh p:=by
 simp only[W9,F5,Eh];simp
def AZ7 {l:Up A9}{s:Up PR}(h:Gd l s):InS l.length s:=λx M=>(h.wf x M).2
def Pw {N:Nat}(hN:Bgn N){l:Up A9}(hl:l.length<=4096){a b:Up DP}(T:Gd l (P6 a))(A:Gd l (P6 b))(hd:S9 (P6 a) (P6 b)):J4 N a b=some ((mrg (P6 a) (P6 b)).map Q8):=by
 have e:=T.len;have g:=A.len
 rw[E1]at e g
 exact Al5 hN (n:=l.length) za2 za2 za2 T.asc A.asc hd (AZ7 T) (AZ7 A)
def okd (r:Up DP×Bool):OS (Up PR):=if r.2=true then some (P6 r.1)else none
def UG {N:Nat} (hN:Bgn N) {l:Up A9} (hl:l.length<=4096) (H:BP l=0) (c:Int):∀(n:Nat) (p:A0) (d:A5) (o:Up DP) (f:Int),PK d<=n->HM d<=4096->FT p->p.pre.length<=64->HR d p=0->Jq l (P6 o) f->
 ∃r,P1 N n ⟨l,c⟩ p d o f=some r/\okd r=Oc l d p (P6 o) f/\(r.2=true->Hi l f (P6 r.1))
 |0,p,d,o,f,h,_,_,_,_,_=>by rw[As]at h;omega
 | n +1,p,d,o,f,h,C,R,ai,aj,z=>by
  have ao:=Mz d;have am:=As d;have an:=JX d.Kids;have ah:=R.self.op;have af:=z.gd.len
  rw[E1]at af
  unfold P1;rw[JW]
  by_cases L:p.Op=0
  ·rw [A2 (S2 L),A2 L];obtain⟨k,hf,W⟩:=AE0 hN hl H d.Ref
   dsimp only
   rw[hf];simp only[A4]
   cases hp:Id l d.Ref with
   |none=>
    refine⟨([⟨p.Var,(k:Int)⟩],false),?_,rfl,λh=>by cases h⟩;rw[A1 (by simp[O5])]
   | some i=>
    have Y:=W i hp;subst Y;obtain⟨S,_⟩:=Ic hp
    by_cases K:f<=(k:Int)
    ·rw[A2 (by rw[O5,U2];grind),UK hN za2 z.gd.wf c R.self.cond S];refine⟨([⟨p.Var,(k:Int)⟩],SH l p (P6 o) k),rfl,?_,λ_=>⟨⟨λx M=>?_,IQ _ _⟩,λx M=>?_,za4⟩⟩
     ·unfold okd
      by_cases j:SH l p (P6 o) k=true<;>simp[j,K,dpr]
     ·rw[List.mem_singleton.1 M];exact⟨R.self.var L,by simp_all[dpr]⟩
     rw[List.mem_singleton.1 M];exact K
    rw[A1 (by rw[O5,U2];grind)];exact⟨([⟨p.Var,(k:Int)⟩],false),rfl,by simp[okd,K],λh=>by cases h⟩
  rw[A1 (WJ L),A1 L];have b:=Fj aj;have al:=b.pos R.self L
  have kid:∀(i:Nat) (U:i<d.Kids.length) (o':Up DP) (V:Int),Jq l (P6 o') V->∃r,P1 N n ⟨l,c⟩ (L8 p d.Choice i) d.Kids[i] o' V=some r/\okd r=Oc l d.Kids[i] (L8 p d.Choice i) (P6 o') V/\(r.2=true->Hi l V (P6 r.1)):=by
   intro i U o' V ae;have E:=F4 U;have q:=(J0 R.self b.n U b.c).1;have O:=BU E;have Z:=Gj E;have J:=H9 q;exact UG hN hl H c n _ _ o' V za2 za2 (R.arg q) za2 (b.k i U) ae
  by_cases Z:p.Op=2
  ·rw[A2 (S2 Z)];have X:=b.c Z;have v:=b.one L za2 za2
   obtain⟨k0,P⟩:∃k0,d.Kids=[k0]:=by
    match W:d.Kids,v with
    |[k0],_=>simp_all
   have U:0<d.Kids.length:=za2
   obtain⟨r,w,e2,e3⟩:=kid 0 U o f z;have F:=(J0 R.self b.n U b.c).2.2.1 Z
   have e4:d.Kids[0]=k0:=by simp[P]
   rw[e4]at w e2
   have I:C7 p.dD d.Choice=some (L8 p d.Choice 0):=by
    simp_all[C7]
   have W:C7 d.Kids 0=some k0:=by rw[P];rfl
   rw[I,W];simp only[A4];rw[w];refine⟨r,rfl,?_,e3⟩;rw[P,AP]
   have ab:¬Eh p:=by simp_all[Eh]
   simp only[WY,GB,CA,ab,H7,false_and];rw[<-e2];unfold okd;cases r.2
   ·rfl
   simp[EP,ED,Ai,Z]
  rw[A1 (WJ Z)]
  refine AR9 (ks:=d.Kids) (T:=Up PR) (λi s=>(CA p f s,s.map Q8,(i:Int))) (WY l p d.Choice (P6 o) f) (λks i s=>EP l ks p d.Choice i (P6 o) f s) (λi s=>(i=0/\s=[])\/Hi l f s) (λs=>s.map Q8) (t0:=[]) (by simp[CA])
   (λi t=>by rw[EP]) (λk ks i t=>AP l k ks p d.Choice i (P6 o) f t) za2 (.inl ⟨rfl,rfl⟩) ?_ ?_ (λO=>by rw[O];exact⟨([],false),rfl,rfl,λh=>by cases h⟩) ?_
  ·intro i U s hI;have g:s=[]\/Hi l f s:=hI.imp (λh=>h.2) id;have ag:=Ri (p:=p) z g;have B:Gd l s:=g.elim (λh=>h▸Gd.nil l) λh=>h.gd;have ls:=B.len;have G:S9 (P6 o) s:=g.elim (λh=>h▸λ_ _ y m=>absurd m (Cq)) λh=>z.apart h
   dsimp only
   rw[A2 (T3 za2),E8,C8 U];simp only[A4]
   have w:((if Ar.or (cmp .eql p.Op 1) (cmp .eql p.Op 4)=true then
    (J4 N o (s.map Q8)).bind λak=>
    some ak
    else
     some o:OS (Up A7)))=some ((GB p (P6 o) s).map Q8):=by
    unfold GB
    by_cases X:Eh p
    ·rw[A2 ((ZI p).2 X),A2 X,Pw hN hl z.gd (by rw[J6];exact B) (by rw[J6];exact G),J6];rfl
    rw[A1 (λh=>X ((ZI p).1 h)),A1 X,Bm8]
   rw[w];simp only[A4]
   have ac:p.dD≠[]:=λe=>by
    have:=(J0 R.self b.n U b.c).1
    rw[e]at this;cases this
   have Q:El (cmp .neq (Ar.len p.dD) 0)=some ():=by
    unfold El;rw[A2 (O9 (by rw[B4];have:=List.length_pos_iff.2 ac;omega))]
   rw[Q,ZP R ai b L Z U];simp only[A4];obtain⟨r,v1,v2,v3⟩:=kid i U ((GB p (P6 o) s).map Q8) (CA p f s) (by rw[J6];exact ag)
   rw[J6]at v2
   rw[v1];simp only[A4]
   by_cases a:r.2=true
   ·rw[A1 (by rw[X5,a];simp)];have M:=v3 a;have lx:=M.gd.len
    rw[E1]at lx
    have v4:Oc l d.Kids[i] (L8 p d.Choice i) (GB p (P6 o) s) (CA p f s)=some (P6 r.1):=by rw[<-v2,okd,A2 a]
    rw[Wm hN (by rw[E1];omega) za2,J6];simp only[A4]
    by_cases E:Ai s (P6 r.1)=true
    ·refine .inl ⟨by simp_all[WY],?_⟩;rw[E];rfl
    rw[BF]at E
    have ad:WY l p d.Choice (P6 o) f d.Kids[i] i s=some (mrg s (P6 r.1)):=by simp_all[WY]
    refine .inr ⟨_,ad,?_,.inr (Rf g M E)⟩;rw[E,A1 (by simp[X5])]
    have u:J4 N (s.map Q8) r.1=some ((mrg s (P6 r.1)).map Q8):=by
     rw[Pw hN hl (by rw[J6];exact B) M.gd (by rw[J6];exact W0.1 E),J6]
    have F:ar .add .i64 (i:Int) 1=((i+1:Nat):Int):=by rw[D4 za2 za2];omega
    by_cases X:Eh p
    ·have aa:=M.gd.lst M.ne;rw[A2 ((ZI p).2 X),QG (λe=>M.ne (by rw[e];rfl)) za2 ⟨aa.1,za2⟩,u];simp only[A4];rw[F,Ba1 g M X]
    rw[A1 (λh=>X ((ZI p).1 h)),u];simp only[A4];rw[F];simp only[CA,X,false_and,H7]
   refine .inl ⟨?_,by rw[A2 (by rw[BF]at a;rw[X5,a];rfl)]⟩;simp only[WY];rw[<-v2,okd,A1 a];rfl
  ·intro s hI
   dsimp only
   rw[A1 AO]
  intro t O J;rw[O]
  have A:Hi l f t:=J.resolve_left λe=>za2
  simp only[A4]
  by_cases D:5<=p.Op
  ·rw[A1 (by simp only[X5,W9,F5];simp;omega)];rw[Yr hN za2 R.self.cond ⟨D,ah.2⟩ z.gd (by rw[J6];exact A.gd) (by simpa using A.ne) (by rw[J6];exact z.apart A) c,J6];refine⟨_,rfl,?_,λ_=>by rw[J6];exact A⟩;unfold okd
   dsimp only
   rw[J6];cases Fx l p (P6 o) t<;>simp[D]
  rw[A2 (by simp only[X5,W9,F5];simp;omega),A1 (λh=>D h.1)];exact⟨_,rfl,by simp only[okd,D8,J6],λ_=>by rw[J6];exact A⟩
def AY2 {S T R:Type} {m:Nat} {step:S->OS (S⊕(R⊕Unit))} {rep:Nat->T->S} {I:Nat->T->Prop} {a:Prop} {res:T->R}
 (C:∀i,i<m->∀t,I i t->(a/\step (rep i t)=some (.inr (.inr ())))\/∃b,step (rep i t)=some (.inl (rep (i+1) b))/\I (i+1) b)
 (Y:∀t,I m t->step (rep m t)=some (.inr (.inl (res t)))) {N:Nat} (hN:m<N) {t0:T} (L:I 0 t0):
 (a/\loopN step N (rep 0 t0)=some (.inr ()))\/∃t,I m t/\loopN step N (rep 0 t0)=some (.inl (res t)):=by
 have key:∀(d i N:Nat) (t:T),i+d=m->d<N->I i t->(a/\loopN step N (rep i t)=some (.inr ()))\/∃b,I m b/\loopN step N (rep i t)=some (.inl (res b)):=by
  intro d
  induction d with
  |zero=>
   intro i N t U hN j;obtain⟨N,rfl⟩:∃m,N=m+1:=⟨N-1,za2⟩
   have:i=m:=za2
   grind[loopN]
  |succ d ih=>
   intro i N t U hN j;obtain⟨N,rfl⟩:∃m,N=m+1:=⟨N-1,za2⟩
   have e:i<m:=za2
   grind[loopN]
 simp_all
def Az0 {S T R X:Type}{m:Nat}{step:S->OS (S⊕(R⊕Unit))}{s0:S}{k:R⊕Unit->OS X}{Q:X->Prop}(rep:Nat->T->S)(I:Nat->T->Prop)(a:Prop)(res:T->R){t0:T}(e0:s0=rep 0 t0){N:Nat}(hN:m<N)(L:I 0 t0)
 (C:∀i,i<m->∀t,I i t->(a/\step (rep i t)=some (.inr (.inr ())))\/∃b,step (rep i t)=some (.inl (rep (i+1) b))/\I (i+1) b)
 (Y:∀t,I m t->step (rep m t)=some (.inr (.inl (res t)))) (e:a->∃r,k (.inr ())=some r/\Q r) (g:∀t,I m t->∃r,k (.inl (res t))=some r/\Q r):∃r,(loopN step N s0).bind k=some r/\Q r:=by
 subst e0
 rcases AY2 C Y hN L with⟨O,Z⟩|⟨t,O,J⟩
 ·rw[Z];exact e O
 simp_all
mutual
def SP:A5->A0->Up B0
 |⟨r,c,ks⟩,p=>if p.Op=0 then[⟨p.Var,r⟩]else Ku ks p c 0
def Ku:Up A5->A0->Int->Nat->Up B0
 |[],_,_,_=>[]
 |k::ks,p,c,i=>SP k (L8 p c i)++Ku ks p c (i+1)
end
def QI (d:A5)(p:A0):SP d p=if p.Op=0 then[⟨p.Var,d.Ref⟩]else Ku d.Kids p d.Choice 0:=by cases d;simp only[SP]
def Bc5:∀{ks:Up A5} {p:A0} {c:Int} {j i:Nat} (h:i<ks.length) {y:B0},y∈SP ks[i] (L8 p c (j+i))->y∈Ku ks p c j
 |[],_,_,_,i,h,_,_=>absurd h za4
 |k::ks,p,c,j,0,h,y,m=>by rw[Ku];simp_all
 |k::ks,p,c,j,i+1,h,y,m=>by
  rw[Ku];refine Le _ (Bc5 (i:=i) za7 ?_);rw[show j+1+i=j+(i+1) by omega];exact m
def Fnd (l:Up A9)(d:A5)(p:A0):Prop:=∀y∈SP d p,(Id l y.Ref).isSome=true
def Fnd.kid {l:Up A9}{d:A5}{p:A0}(h:Fnd l d p)(L:p.Op≠0){i:Nat}(U:i<d.Kids.length):Fnd l d.Kids[i] (L8 p d.Choice i):=λy m=>by
 refine h y ?_;rw[QI,A1 L];exact Bc5 U (by rwa[K4])
structure RV (l:List A9) (d:A5) (p:A0) (b:List PR) (r:List PR×Bool):Prop where
 gd:r.2=true->Gd l r.1/\r.1≠[]
 eq:∀f,Jq l b f->Oc l d p b f=if r.2=true/\f<=hdA r.1 then some r.1 else none
structure RI (l:List A9) (ks:List A5) (p:A0) (c:Int) (b:List PR) (i:Nat) (s:List PR):Prop where
 gd:(i=0/\s=[])\/(Gd l s/\s≠[])
 ap:Eh p->S9 b s
 eq:∀f,Jq l b f->EP l ks p c 0 b f []=if s=[]\/f<=hdA s then EP l (ks.drop i) p c i b f s else none
def Zm {S T R:Type} {m:Nat} {step:S->OS (S⊕R)} {rep:Nat->T->S} {I:Nat->T->Prop} {res:T->R}
 (C:∀i,i<m->∀t,I i t->∃a,step (rep i t)=some (.inl (rep (i+1) a))/\I (i+1) a)
 (Y:∀t,I m t->step (rep m t)=some (.inr (res t))) {N:Nat} (hN:m<N) {t0:T} (L:I 0 t0):
 ∃t,I m t/\loopN step N (rep 0 t0)=some (res t):=by
 have key:∀(d i N:Nat) (t:T),i+d=m->d<N->I i t->∃a,I m a/\loopN step N (rep i t)=some (res a):=by
  intro d
  induction d with
  |zero=>
   intro i N t U hN j;obtain⟨N,rfl⟩:∃m,N=m+1:=⟨N-1,za2⟩
   have:i=m:=za2
   grind[loopN]
  |succ d ih=>
   intro i N t U hN j;obtain⟨N,rfl⟩:∃m,N=m+1:=⟨N-1,za2⟩
   grind[loopN]
 simp_all
def LR {S T R X:Type}{m:Nat}{step:S->OS (S⊕R)}{s0:S}{k:R->OS X}{x:OS X}(rep:Nat->T->S)(I:Nat->T->Prop)(res:T->R){t0:T}(e0:s0=rep 0 t0){N:Nat}(hN:m<N)(L:I 0 t0)
 (C:∀i,i<m->∀t,I i t->∃a,step (rep i t)=some (.inl (rep (i+1) a))/\I (i+1) a) (Y:∀t,I m t->step (rep m t)=some (.inr (res t))) (b:∀t,I m t->k (res t)=x):(loopN step N s0).bind k=x:=by
 subst e0;obtain⟨t,O,Z⟩:=Zm C Y hN L;rw[Z];grind
mutual
def ZM:∀(d:A5) (p:A0),(SP d p).length<=HM d
 |⟨r,c,ks⟩,p=>by
  simp only[SP,HM]
  split
  ·simp
  have:=AF9 ks p c 0;omega
def AF9:∀(ks:Up A5) (p:A0) (c:Int) (i:Nat),(Ku ks p c i).length<=IV ks
 |[],_,_,_=>Cd _
 |k::ks,p,c,i=>by
  rw[Ku,K8,IV];have:=ZM k (L8 p c i);have:=AF9 ks p c (i+1);omega
end
def BI (ks:Up A5)(p:A0)(c:Int)(i:Nat)(t:Up B0):Prop:=t++Ku (ks.drop i) p c i=Ku ks p c 0/\t.length+IV (ks.drop i)<=4096
def BI.next {ks:Up A5}{p:A0}{c:Int}{i:Nat}{t:Up B0}(h:BI ks p c i t)(U:i<ks.length):V7 t (SP ks[i] (L8 p c i))=some (t++SP ks[i] (L8 p c i))/\BI ks p c (i+1) (t++SP ks[i] (L8 p c i)):=by
 obtain⟨O,Z⟩:=h
 rw[M4 U]at O Z
 rw[Ku]at O
 rw[IV]at Z
 have:=ZM ks[i] (L8 p c i)
 grind[V7,BI]
def BI.start {ks:Up A5}{p:A0}{c:Int}(h:IV ks<=4096):BI ks p c 0 []:=⟨rfl,za7⟩
def BI.stop {ks:Up A5}{p:A0}{c:Int}{t:Up B0}(h:BI ks p c ks.length t):t=Ku ks p c 0:=by
 have:=h.1
 rw[BM (B1 _),Ku,E5]at this
 exact this
def Wn {N:Nat} (hN:Bgn N):∀(n:Nat) (p:A0) (d:A5),PK d<=n->HM d<=4096->FT p->p.pre.length<=64->HR d p=0->P5 N n p d=some (SP d p)
 |0,p,d,h,_,_,_,_=>by rw[As]at h;omega
 | n+1,p,d,h,C,R,y,H=>by
  have c:=Mz d;have P:=As d;have V:=JX d.Kids;unfold P5;rw[QI]
  by_cases L:p.Op=0
  ·rw[A2 (S2 L),A2 L]
  rw[A1 (WJ L),A1 L];have a:=Fj H
  have kid:∀(i:Nat) (U:i<d.Kids.length),P5 N n (L8 p d.Choice i) d.Kids[i]=some (SP d.Kids[i] (L8 p d.Choice i)):=by
   intro i U;have E:=F4 U;have g:=(J0 R.self a.n U a.c).1;have O:=BU E;have Z:=Gj E;have J:=H9 g;exact Wn hN n _ _ za2 za2 (R.arg g) za2 (a.k i U)
  by_cases Z:p.Op=2
  ·rw[A2 (S2 Z)];have X:=a.c Z;have k:=a.one L za2 za2
   have U:0<d.Kids.length:=za2
   have T:=(J0 R.self a.n U a.c).2.2.1 Z
   have r:C7 p.dD d.Choice=some (L8 p d.Choice 0):=by
    simp_all[C7]
   have W:C7 d.Kids 0=some d.Kids[0]:=by
    rw[show(0:Int)=((0:Nat):Int)from rfl,E8,C8 U]
   rw[r,W];simp only[A4];rw[kid 0 U];simp only[A4]
   obtain⟨k0,b⟩:∃k0,d.Kids=[k0]:=by
    match W:d.Kids,k with
    |[k0],_=>simp_all
   have e4:d.Kids[0]=k0:=by simp[b]
   rw[e4,b,Ku,Ku,E5]
  rw[A1 (WJ Z)]
  exact LR (m:=d.Kids.length) (λi t=>(t,(i:Int))) (BI d.Kids p d.Choice) (λt=>t) (t0:=[]) rfl za2 (.start za2) (λi U t K=>by
   dsimp only
   have x:p.dD≠[]:=λe=>by
    have:=(J0 R.self a.n U a.c).1
    rw[e]at this;cases this
   have Q:El (cmp .neq (Ar.len p.dD) 0)=some ():=by
    unfold El;rw[A2 (O9 (by rw[B4];have:=List.length_pos_iff.2 x;omega))]
   obtain⟨w,e2⟩:=K.next U;refine⟨_,?_,e2⟩;rw[A2 (T3 za2),E8,C8 U,Q,ZP R y a L Z U];simp only[A4];rw[kid i U];simp only[A4];rw[w];simp only[A4]
   rw[D4 za2 za2];rfl) (λt _=>by dsimp only;rw[A1 AO]) (λt O=>by rw[O.stop])
def Bb2 {N:Nat} (hN:Bgn N) {p:A0} {d:A5} (hd:PK d<=N) (C:HM d<=4096) (R:FT p) (a:p.pre.length<=64) (b:HR d p=0):Eg N p d=some ((SP d p).map (·.Ref)):=by
 unfold Eg;rw[Wn hN N p d hd C R a b];simp only[A4];have hl:=ZM d p
 exact LR (m:=(SP d p).length) (λi t=>(t,(i:Int))) (λi t=>t=((SP d p).take i).map (·.Ref)) (λt=>t) (t0:=[]) rfl za2 za4 (λi U t e=>by
  dsimp only
  have g:t.length=i:=by rw[e];simp;omega
  refine⟨t++[(SP d p)[i].Ref],?_,by rw[e,Gz U,P9];rfl⟩;rw[A2 (T3 za2),E8,C8 U];simp only[A4];rw[AW za6];simp only[A4]
  rw[D4 za2 za2];rfl) (λt _=>by dsimp only;rw[A1 AO]) (λt O=>by rw[AB (B1 _)]at O;rw[O])
def ckD (N:Nat)(p:A0)(d:A5):Int:=if RH N p=0 then(if HM d<=4096 then HR d p else 5)else RH N p
def Ye {N:Nat} (hN:Bgn N) {p:A0} (A:p.bulk<=16777216) {d:A5} (hd:PK d<=30000000) (C:HM d<=30000000):Cn N p d=some (ckD N p d):=by
 unfold Cn ckD;rw[Sp hN A];simp only[A4]
 by_cases X:RH N p=0
 ·rw[A1 (K7 X),A2 X,Wf hN N d za2 C];simp only[A4]
  by_cases a:HM d<=4096
  ·obtain⟨R,b⟩:=JK hN A X;rw[A1 (T9 za2),A2 a,Yb hN N p d za2 a R b];rfl
  rw[A2 (Bn za2),A1 a]
 rw[A2 (O9 X),A1 X]
def few1 {N:Nat} (hN:Bgn N) (l:Up B5):∃b,Pb N l=some b/\True:=by
 unfold Pb;refine Az0 (m:=min l.length 40) (λi _=>(i:Int)) (λ_ _=>True) True (λ_=>()) (t0:=()) rfl za2 trivial (λi U t _=>?_) (λt _=>?_) (λ_=>⟨_,rfl,trivial⟩) (λt _=>⟨_,rfl,trivial⟩)
 ·have a:i<l.length:=za2
  rw[A2 (by rw[O5,T3 za2,AT za2];rfl),E8,C8 a];simp only[A4]
  split
  ·simp_all
  refine .inr ⟨(),?_,trivial⟩;rw[D4 za2 za2];rfl
 rw[A1];rw[O5];intro h
 rw[K0,E4,E4,H5,H5,B4]at h
 omega
def few4 {N:Nat} (hN:Bgn N) (l:Up A9):∃b,JC N l=some b/\(b=true->l.length<=20):=by
 unfold JC;refine Az0 (m:=min l.length 20) (λi _=>(i:Int)) (λ_ _=>True) True (λ_=>()) (t0:=()) rfl za2 trivial (λi U t _=>?_) (λt _=>?_) (λ_=>⟨false,rfl,λh=>by cases h⟩) (λt _=>⟨_,rfl,λh=>?_⟩)
 ·have a:i<l.length:=za2
  rw[A2 (by rw[O5,T3 za2,AT za2];rfl),E8,C8 a];simp only[A4];obtain⟨b,A,_⟩:=few1 hN l[i].Values;unfold Sn;rw[A];simp only[A4]
  split
  ·simp_all
  refine .inr ⟨(),?_,trivial⟩;rw[D4 za2 za2];rfl
 ·rw[A1];rw[O5];intro h
  rw[K0,E4,E4,H5,H5,B4]at h
  omega
 rw[Dp,H5,B4]at h
 omega
def ZD:∀L:Up A0,(A0.pres L).countP (λy=>decide (y.Op=0))=(L.map AU).sum
 |[]=>rfl
 |a::r=>by
  simp only[A0.pres,GU,D9,KJ];rw[ZD r];rfl
def Ba8 {p:A0}(h:p.Op≠0):AU p=(p.dD.map AU).sum:=by
 rw[Ij,A1 h,ZD,K4]
def GZ:∀(L:Up Nat) (i j:Nat),i<=j->(L.take i).sum<=(L.take j).sum
 |[],i,j,_=>za4
 |a::r,0,j,_=>za4
 |a::r,i+1,0,h=>za2
 |a::r,i+1,j+1,h=>by
  simp only[NO,KJ];have:=GZ r i j za2;omega
def Ha {L:Up Nat}{i:Nat}(h:i<L.length):(L.take (i+1)).sum=(L.take i).sum+L[i]:=by
 rw[Gz h,List.sum_append];simp
def Rb (L:Up Nat) (i:Nat):(L.take i).sum<=L.sum:=by
 rcases Nat.le_total i L.length with h|h
 ·have:=GZ L i L.length h
  rw[CY]at this;exact this
 rw[AB h];omega
def BS (p:A0)(c:Int)(i:Nat):Nat:=if p.Op=1\/p.Op=3 then((p.dD.map AU).take i).sum else if p.Op=2 then((p.dD.map AU).take c.toNat).sum else 0
mutual
def Ji (l:Up A9):A5->A0->Nat->Up (Nat×Nat)
 |⟨r,c,ks⟩,p,o=>if p.Op=0 then[((Id l r).getD 0,o)]else AP2 l ks p c 0 o
def AP2 (l:Up A9):Up A5->A0->Int->Nat->Nat->Up (Nat×Nat)
 |[],_,_,_,_=>[]
 |k::ks,p,c,i,o=>Ji l k (L8 p c i) (o+BS p c i)++AP2 l ks p c (i+1) o
end
def QH (l:Up A9)(d:A5)(p:A0)(o:Nat):Ji l d p o=if p.Op=0 then[((Id l d.Ref).getD 0,o)]else AP2 l d.Kids p d.Choice 0 o:=by cases d;simp only[Ji]
def Am9 {l:Up A9}:∀{ks:Up A5} {p:A0} {c:Int} {j o:Nat} {x:Nat×Nat},x∈AP2 l ks p c j o<->∃i,∃h:i<ks.length,x∈Ji l ks[i] (L8 p c (j+i)) (o+BS p c (j+i))
 |[],p,c,j,o,x=>by simp[AP2]
 | k::ks,p,c,j,o,x=>by
  rw[AP2,Cp,Am9]
  constructor
  ·rintro(h|⟨i,h,M⟩)
   ·exact⟨0,za4,h⟩
   exact⟨i+1,za7,by rw[show j+(i+1)=j+1+i by omega];exact M⟩
  grind
def HG {l:Up A9}{d:A5}{p:A0}{o:Nat}(L:p.Op≠0){x:Nat×Nat}:x∈Ji l d p o<->∃i,∃h:i<d.Kids.length,x∈Ji l d.Kids[i] (L8 p d.Choice i) (o+BS p d.Choice i):=by
 rw[QH,A1 L,Am9]
 simp_all
def Jz {d:A5} {p:A0} (h:HR d p=0):(p.Op≠0->d.Ref=⟨0,0,0⟩)/\(p.Op≠2->d.Choice=0):=by
 rw[JY]at h
 split at h
 ·cases h
 next hf=>
 constructor
 ·intro L
  have O:d.Ref.Time=0/\d.Ref.Source=0/\d.Ref.Seq=0:=by
   omega
  obtain⟨⟨a,b,c⟩,_,_⟩:=d
  simp_all
 omega
def Bu1 {p:A0} (R:FT p) {d:A5} (C:Su d p) (e:p.Op≠0) {i:Nat} (U:i<d.Kids.length):BS p d.Choice i+AU (L8 p d.Choice i)<=AU p:=by
 have E:=J0 R.self C.n U C.c;have z:=R.self.op;rw[Ba8 e];unfold BS
 have b:∀k:Nat,p.dD[k]? =some (L8 p d.Choice i)->((p.dD.map AU).take k).sum+AU (L8 p d.Choice i)<=(p.dD.map AU).sum:=by
  intro k W;obtain⟨g,a⟩:=List.getElem?_eq_some_iff.1 W;have:=Ha (L:=p.dD.map AU) (i:=k) za7
  rw[ID,a]at this
  rw[<-this];exact Rb _ _
 grind
def HF {l:Up A9}:∀(n:Nat) (p:A0) (d:A5) (o:Nat),PK d<=n->HR d p=0->FT p->(∀x∈Ji l d p o,o<=x.2/\x.2<o+AU p)/\Ji l d p o≠[]
 |0,p,d,o,h,_,_=>by rw[As]at h;omega
 | n+1,p,d,o,h,g,R=>by
  have k:=As d
  by_cases L:p.Op=0
  ·rw[QH,A2 L];refine⟨λx M=>?_,za4⟩;rw[List.mem_singleton.1 M]
   have:1<=AU p:=by rw[Ij,A2 L];omega
   omega
  have b:=Fj g
  have ih:∀(i:Nat) (U:i<d.Kids.length),(∀x∈Ji l d.Kids[i] (L8 p d.Choice i) (o+BS p d.Choice i),o+BS p d.Choice i<=x.2/\x.2<o+BS p d.Choice i+AU (L8 p d.Choice i))/\Ji l d.Kids[i] (L8 p d.Choice i) (o+BS p d.Choice i)≠[]:=by
   intro i U;have E:=F4 U;have O:=BU E;exact HF n _ _ _ za2 (b.k i U) (R.arg (J0 R.self b.n U b.c).1)
  constructor
  ·intro x M;obtain⟨i,U,M⟩:=(HG L).1 M;have O:=(ih i U).1 x M;have Z:=Bu1 R b L U;omega
  have a:=b.pos R.self L;obtain⟨x,M⟩:=Dc _ (ih 0 a).2;intro e;have:=(HG (o:=o) (l:=l) L).2 ⟨0,a,M⟩
  rw[e]at this;cases this
def Mo {l:Up A9} {p:A0} {d e:A5} {o:Nat} (K:HR d p=0) (t:HR e p=0) (R:FT p) (r:p.Op≠0) (s:p.Op≠4) (X:∀x∈Ji l d p o,x∈Ji l e p o):
 d.Ref=e.Ref/\d.Choice=e.Choice/\d.Kids.length=e.Kids.length/\∀i (U:i<d.Kids.length) (C:i<e.Kids.length),∀x∈Ji l d.Kids[i] (L8 p d.Choice i) (o+BS p d.Choice i),x∈Ji l e.Kids[i] (L8 p d.Choice i) (o+BS p d.Choice i):=by
 have n:=Fj K;have g:=Fj t;obtain⟨S,W⟩:=Jz K;obtain⟨v,Y⟩:=Jz t;have k:=n.pos R.self r
 have rg:∀(i:Nat) (U:i<d.Kids.length),(∀x∈Ji l d.Kids[i] (L8 p d.Choice i) (o+BS p d.Choice i),o+BS p d.Choice i<=x.2/\x.2<o+BS p d.Choice i+AU (L8 p d.Choice i))/\Ji l d.Kids[i] (L8 p d.Choice i) (o+BS p d.Choice i)≠[]:=λi U=>
  HF (PK d.Kids[i]) _ _ _ (B1 _) (n.k i U) (R.arg (J0 R.self n.n U n.c).1)
 have P:∀(i:Nat) (U:i<e.Kids.length),(∀x∈Ji l e.Kids[i] (L8 p e.Choice i) (o+BS p e.Choice i),o+BS p e.Choice i<=x.2/\x.2<o+BS p e.Choice i+AU (L8 p e.Choice i))/\Ji l e.Kids[i] (L8 p e.Choice i) (o+BS p e.Choice i)≠[]:=λi U=>
  HF (PK e.Kids[i]) _ _ _ (B1 _) (g.k i U) (R.arg (J0 R.self g.n U g.c).1)
 have apart:∀(a b x:Nat) (T:a<p.dD.length) (A:b<p.dD.length),((p.dD.map AU).take a).sum<=x->x<((p.dD.map AU).take a).sum+AU p.dD[a]->((p.dD.map AU).take b).sum<=x->x<((p.dD.map AU).take b).sum+AU p.dD[b]->a=b:=by
  intro a b x T A V c g3 g4;have w:=Ha (L:=p.dD.map AU) (i:=a) za7;have e2:=Ha (L:=p.dD.map AU) (i:=b) za7
  rw[ID]at w e2
  rcases Fg a b with h|h|h
  ·have:=GZ (p.dD.map AU) (a+1) b h;omega
  ·exact h
  have:=GZ (p.dD.map AU) (b+1) a h;omega
 have B:d.Choice=e.Choice:=by
  by_cases Z:p.Op=2
  ·obtain⟨x,M⟩:=Dc _ (rg 0 k).2;obtain⟨j,u,y⟩:=(HG r).1 (X x ((HG r).2 ⟨0,k,M⟩));have V:=(rg 0 k).1 x M;have c:=(P j u).1 x y;have cc:=n.c Z;have J:=g.c Z;have D:=(J0 R.self n.n k n.c).2.2.1 Z;have E:=(J0 R.self g.n u g.c).2.2.1 Z;obtain⟨f,m⟩:=List.getElem?_eq_some_iff.1 D;obtain⟨q,z⟩:=List.getElem?_eq_some_iff.1 E
   have F:BS p d.Choice 0=((p.dD.map AU).take d.Choice.toNat).sum:=by grind[BS]
   have o2:BS p e.Choice j=((p.dD.map AU).take e.Choice.toNat).sum:=by grind[BS]
   rw[F,<-m]at V
   rw[o2,<-z]at c
   have:=apart d.Choice.toNat e.Choice.toNat (x.2-o) f q za2 za2 za2 za2;omega
  omega
 have H:d.Kids.length=e.Kids.length:=by
  have G:=n.n;have I:=g.n
  unfold HP at G I
  rw[A1 r]at G I
  grind
 refine⟨by rw[S r,v r],B,H,λi U C x M=>?_⟩;obtain⟨j,u,y⟩:=(HG r).1 (X x ((HG r).2 ⟨i,U,M⟩));have V:=(rg i U).1 x M;have c:=(P j u).1 x y
 have Q:i=j:=by
  by_cases O:p.Op=1\/p.Op=3
  ·have D:=(J0 R.self n.n U n.c).2.1 O;have E:=(J0 R.self g.n u g.c).2.1 O;obtain⟨f,m⟩:=List.getElem?_eq_some_iff.1 D;obtain⟨q,z⟩:=List.getElem?_eq_some_iff.1 E
   have F:BS p d.Choice i=((p.dD.map AU).take i).sum:=by grind[BS]
   have o2:BS p e.Choice j=((p.dD.map AU).take j).sum:=by grind[BS]
   rw[F,<-m]at V
   rw[o2,<-z]at c
   exact apart i j (x.2-o) f q za2 za2 za2 za2
  have:=n.one r O s;omega
 grind
def ZJ {l:Up A9}:∀(n:Nat) (p:A0) (d d':A5) (o:Nat),PK d<=n->HR d p=0->HR d' p=0->FT p->CE p->Fnd l d p->Fnd l d' p->(∀x∈Ji l d p o,x∈Ji l d' p o)->d=d'
 |0,p,d,d',o,h,_,_,_,_,_,_,_=>by rw[As]at h;omega
 | n+1,p,d,d',o,h,k,e,R,K,V,t,X=>by
  have A:=As d;have P:=Fj k;have r:=Fj e;obtain⟨G,f⟩:=Jz k;obtain⟨v,m⟩:=Jz e
  have ext:d.Ref=d'.Ref->d.Choice=d'.Choice->d.Kids=d'.Kids->d=d':=by
   intro a b c;cases d;cases d'
   simp_all
  by_cases L:p.Op=0
  ·have B:d.Kids=[]:=by
    have:=P.n;unfold HP at this;rw[A2 L]at this
    simp_all
   have C:d'.Kids=[]:=by
    have:=r.n;unfold HP at this;rw[A2 L]at this
    simp_all
   refine ext ?_ (by rw[f za2,m za2]) (by rw[B,C]);have w:=V ⟨p.Var,d.Ref⟩ (by rw[QI,A2 L];simp);have e2:=t ⟨p.Var,d'.Ref⟩ (by rw[QI,A2 L];simp);obtain⟨i,U⟩:=Option.isSome_iff_exists.1 w;obtain⟨j,u⟩:=Option.isSome_iff_exists.1 e2
   simp only at U u
   rw[QH,A2 L,QH,A2 L,U,u]at X
   have:=X (i,o) za4
   rw[BK,GQ]at this
   obtain⟨y,_⟩:=this
   simp only[O2]at y
   subst y;obtain⟨_,D⟩:=Ic U;obtain⟨_,F⟩:=Ic u;have q:=D.symm.trans F
   unfold T8 at q
   simp only[V0,P7]at q
   obtain⟨a,b,c⟩:=q;cases hd:d.Ref;simp_all
  have s:p.Op≠4:=K p (IZ p);obtain⟨w,e2,z,e4⟩:=Mo k e R L s X;refine ext w e2 (ES z λi U g=>?_);have H:=(J0 R.self P.n U P.c).1;have E:=F4 U;have O:=BU E;exact ZJ n (L8 p d.Choice i) _ _ (o+BS p d.Choice i) za2 (P.k i U) (by rw[e2];exact r.k i g) (R.arg H) (K.arg H) (V.kid L U) (by rw[e2];exact t.kid L g) (e4 i U g)
def YG {l:Up A9}(hl:l.length<=4096)(a:BP l=0){p:A0}{d:A5}{b:Up PR}{f:Int}{s:Up PR}(C:HM d<=4096)(R:FT p)(e:p.pre.length<=64)(g:HR d p=0)(z:Jq l b f)(h:Oc l d p b f=some s):Hi l f s:=by
 obtain⟨r,_,Z,J⟩:=UG (N:=40000000) (B1 _) hl a 0 (PK d) p d (b.map Q8) f (B1 _) C R e g (by rw[J6];exact z)
 rw[J6,h]at Z
 unfold okd at Z
 simp_all
def Tr (l:Up A9)(d:A5)(p:A0)(s:Up PR):Prop:=HM d<=4096/\HR d p=0/\∃b f,Jq l b f/\Oc l d p b f=some s
def Xo {l:Up A9} (hl:l.length<=4096) (r:BP l=0) {p:A0} {c:Int} {b:Up PR} {f:Int} (B:Jq l b f):
 ∀(ks:Up A5) (j:Nat) (s0 s:Up PR),(∀k∈ks,HM k<=4096)->(∀i (h:i<ks.length),HR ks[i] (L8 p c (j+i))=0/\FT (L8 p c (j+i))/\(L8 p c (j+i)).pre.length<=64)->(s0=[]\/Hi l f s0)->EP l ks p c j b f s0=some s->
 ∃X:Nat->Up PR,(∀i (h:i<ks.length),Tr l ks[i] (L8 p c (j+i)) (X i))/\(∀i,i<ks.length->∀y∈X i,y∈s)/\(∀y∈s0,y∈s)/\(Eh p->∀i,i<ks.length->∀y∈s0,∀z∈X i,y.At<z.At)/\(Eh p->∀i g,i<g->g<ks.length->∀y∈X i,∀z∈X g,y.At<z.At)/\(∀i,i<ks.length->∀y∈s0,∀z∈X i,y.At≠z.At)/\(∀i g,i<g->g<ks.length->∀y∈X i,∀z∈X g,y.At≠z.At)
 |[],j,s0,s,_,_,_,h=>by
  rw[EP]at h
  simp_all
 | k::ks,j,s0,s,v,W,L,h=>by
  rw[AP]at h
  obtain⟨t,O,Z⟩:=Option.bind_eq_some_iff.1 h
  unfold WY at O
  obtain⟨x,w,d⟩:=Option.bind_eq_some_iff.1 O;have n:=W 0 za4
  simp only[Td,BC]at n
  have K:=Ri (p:=p) B L;have M:=YG hl r (v k za4) n.2.1 n.2.2 n.1 K w
  split at d
  ·cases d
  next hm=>
  rw[BF]at hm
  cases d;have P:=Rf L M hm
  obtain⟨X,G,I,C,D,J,E,Q⟩:=Xo hl r B ks (j+1) (mrg s0 x) s (λk' u=>v k' (by simp[u])) (λi U=>by
   have:=W (i+1) za7
   grind) (.inr P) Z
  have lo:Eh p->∀y∈s0,∀z∈x,y.At<z.At:=by
   intro H y m z a
   have V:s0≠[]:=λe=>by rw[e]at m;cases m
   have F:=L.resolve_left V;have:=Kw F.gd.asc y m;have A:=M.ge z a
   unfold CA at A
   rw[A2 ⟨H,V⟩]at A
   omega
  refine⟨λi=>match i with|0=>x|i+1=>X i,?_,?_,?_,?_,?_,?_,?_⟩
  ·intro i U
   cases i with
   |zero=>exact⟨v k za4,n.1,_,_,K,w⟩
   |succ i=>
    have:=G i za7
    rw[show j+1+i=j+(i+1) by omega]at this
    exact this
  ·intro i U y m
   cases i with
   |zero=>exact C y (N4.2 (.inr m))
   |succ i=>grind
  ·intro y m;exact C y (N4.2 (.inl m))
  ·intro H i U y m z a
   cases i with
   |zero=>simp_all
   |succ i=>exact D H i za7 y (N4.2 (.inl m)) z a
  ·intro H i g q o y m z a
   cases g with
   |zero=>omega
   |succ g=>
    cases i with
    |zero=>exact D H g za7 y (N4.2 (.inr m)) z a
    |succ i=>grind
  ·intro i U y m z a
   cases i with
   |zero=>exact W0.1 hm y m z a
   |succ i=>exact E i za7 y (N4.2 (.inl m)) z a
  intro i g q o y m z a
  cases g with
  |zero=>omega
  |succ g=>
   cases i with
   |zero=>exact E g za7 y (N4.2 (.inr m)) z a
   |succ i=>grind
def Tr.kids {l:Up A9} (hl:l.length<=4096) (e:BP l=0) {d:A5} {p:A0} {s:Up PR} (R:FT p) (H:p.pre.length<=64) (L:p.Op≠0) (h:Tr l d p s):
 ∃X:Nat->Up PR,(∀i (h:i<d.Kids.length),Tr l d.Kids[i] (L8 p d.Choice i) (X i))/\(∀i,i<d.Kids.length->∀y∈X i,y∈s)/\(Eh p->∀i a,i<a->a<d.Kids.length->∀y∈X i,∀z∈X a,y.At<z.At)/\(∀i a,i<a->a<d.Kids.length->∀y∈X i,∀z∈X a,y.At≠z.At):=by
 obtain⟨m,r,b,f,x,q⟩:=h;have n:=Fj r;have K:=Mz d
 rw[JW,A1 L]at q
 obtain⟨t,O,Z⟩:=Option.bind_eq_some_iff.1 q
 split at Z
 ·cases Z
 cases Z
 obtain⟨X,P,V,_,_,c,_,j⟩:=Xo hl e x d.Kids 0 [] s (λk W=>by have:=Gj W;omega) (λi U=>by
  have g:=(J0 R.self n.n U n.c).1;have:=H9 g;rw[K4]
  exact⟨n.k i U,R.arg g,za2⟩) (.inl rfl) O
 exact⟨X,λi U=>by have:=P i U;rwa[K4]at this,V,c,j⟩
def HU {l:Up A9} (hl:l.length<=4096) (a:BP l=0):∀(n:Nat) (p:A0) (d:A5) (o:Nat) (s:Up PR),PK d<=n->FT p->p.pre.length<=64->Tr l d p s->(∀x∈Ji l d p o,∃y∈s,y.At=(x.1:Int))/\Fnd l d p
 |0,p,d,o,s,h,_,_,_=>by rw[As]at h;omega
 | n +1,p,d,o,s,h,R,t,H=>by
  have u:=As d
  by_cases L:p.Op=0
  ·obtain⟨A,v,b,f,z,q⟩:=H
   rw[JW,A2 L]at q
   cases r:Id l d.Ref with
   |none=>rw[r]at q;cases q
   | some i=>
    rw[r]at q
    dsimp only at q
    split at q
    ·cases q;refine⟨λx M=>?_,λy m=>?_⟩
     ·rw[QH,A2 L,r,BK]at M
      simp_all
     rw[QI,A2 L,BK]at m
     simp_all
    cases q
  obtain⟨X,w,B,_⟩:=H.kids hl a R t L;have P:=Fj H.2.1
  have ih:∀(i:Nat) (U:i<d.Kids.length),(∀x∈Ji l d.Kids[i] (L8 p d.Choice i) (o+BS p d.Choice i),∃y∈X i,y.At=(x.1:Int))/\Fnd l d.Kids[i] (L8 p d.Choice i):=by
   intro i U;have E:=F4 U;have e:=(J0 R.self P.n U P.c).1;have O:=BU E;have:=H9 e;exact HU hl a n _ _ _ (X i) za2 (R.arg e) za2 (w i U)
  constructor
  ·intro x M;obtain⟨i,U,M⟩:=(HG L).1 M
   grind
  have V:∀(ks:Up A5) (c:Int) (j:Nat) (y:B0),y∈Ku ks p c j->∃i,∃h:i<ks.length,y∈SP ks[i] (L8 p c (j+i)):=by
   intro ks
   induction ks with
   |nil=>simp[Ku]
   |cons k ks K=>
    intro c j y m
    rw[Ku,Cp]at m
    rcases m with m|m
    ·exact⟨0,za4,m⟩
    obtain⟨i,U,g⟩:=K c (j+1) y m;exact⟨i+1,za7,by rw[show j+(i+1)=j+1+i by omega];exact g⟩
  intro y m
  rw[QI,A1 L]at m
  obtain⟨i,U,g⟩:=V _ _ _ y m
  rw[K4]at g
  exact(ih i U).2 y g
def XB {C:A5->Up (Nat×Nat)}:∀(ks e:Up A5),(∀k∈ks,C k≠[])->(∀k∈e,C k≠[])->
 (∀k∈ks,∀k'∈e,(∀x∈C k,x∈C k')->k=k')->(∀k'∈e,∀k∈ks,(∀x∈C k',x∈C k)->k'=k)->
 ks.Pairwise (λk k'=>∀x∈C k,∀y∈C k',x.1<y.1)->e.Pairwise (λk k'=>∀x∈C k,∀y∈C k',x.1<y.1)->
 (∀x,(∃k∈ks,x∈C k)<->∃k∈e,x∈C k)->ks=e
 |[],[],_,_,_,_,_,_,_=>rfl
 |[],k'::e,_,H,_,_,_,_,Y=>by
  obtain⟨x,M⟩:=Dc _ (H k' za4)
  simp_all
 |k::ks,[],t,_,_,_,_,_,Y=>by
  obtain⟨x,M⟩:=Dc _ (t k za4)
  simp_all
 | k::ks,k'::e,t,H,i1,i2,P,V,Y=>by
  rw[DU]at P V
  have g:k=k':=by
   rcases Classical.em (∀x∈C k,x∈C k')with h|h
   ·grind
   rcases Classical.em (∀x∈C k',x∈C k)with K|K
   ·grind
   obtain⟨x,M⟩:=Classical.not_forall.1 h;obtain⟨n,f⟩:=Classical.not_imp.1 M;obtain⟨y,m⟩:=Classical.not_forall.1 K;obtain⟨r,j⟩:=Classical.not_imp.1 m;obtain⟨a,T,c⟩:=(Y x).1 ⟨k,za4,n⟩;obtain⟨b,A,d⟩:=(Y y).2 ⟨k',za4,r⟩
   grind
  subst g;refine G2 _ (XB ks e (λa T=>t a (by simp[T])) (λa T=>H a (by simp[T])) (λa T b A=>i1 a (by simp[T]) b (by simp[A])) (λa T b A=>i2 a (by simp[T]) b (by simp[A])) P.2 V.2 λx=>?_)
  constructor
  ·rintro⟨a,T,M⟩;obtain⟨b,A,i⟩:=(Y x).1 ⟨a,by simp[T],M⟩
   grind
  rintro⟨a,T,M⟩;obtain⟨b,A,i⟩:=(Y x).2 ⟨a,by simp[T],M⟩
  grind
def L1 (p:A0):Prop:=∀y∈p.pre,y.Op=4->∀a∈y.dD,CE a
def L1.arg {p q:A0}(h:L1 p)(Q:q∈p.dD):L1 q:=λy m=>h y (by rw[A0.pre_eq];exact List.mem_cons_of_mem _ (Ae.2 ⟨q,Q,m⟩))
def CE.l1 {p:A0}(h:CE p):L1 p:=λy m s=>absurd s (h y m)
def Mm {p:A0}(R:FT p){d:A5}(C:Su d p)(s:p.Op=4):∃q,p.dD=[q]/\∀i,L8 p d.Choice i=q/\BS p d.Choice i=0:=by
 obtain⟨q,Q⟩:=R.self.a2 za2
 simp_all[L8,BS]
def RK {l:Up A9} (hl:l.length<=4096) (g:BP l=0):∀(n:Nat) (p:A0) (d d':A5) (o:Nat) (s s':Up PR),PK d<=n->Tr l d p s->Tr l d' p s'->FT p->p.pre.length<=64->L1 p->(∀x,x∈Ji l d p o<->x∈Ji l d' p o)->d=d'
 |0,p,d,d',o,s,s',h,_,_,_,_,_,_=>by rw[As]at h;omega
 | n+1,p,d,d',o,s,s',h,I,H,R,V,O,hc=>by
  have ad:=As d
  by_cases L:p.Op=0
  ·refine ZJ (PK d) p d d' o (B1 _) I.2.1 H.2.1 R (λy m=>?_) (HU hl g _ p d o s (B1 _) R V I).2 (HU hl g _ p d' o s' (B1 _) R V H).2 λx M=>(hc x).1 M
   rw[A0.pre_eq,R.self.a0 L]at m
   have e:y=p:=by simpa[A0.pres]using m
   rw[e];omega
  have hS:=Fj I.2.1;have ab:=Fj H.2.1;obtain⟨r1,c1⟩:=Jz I.2.1;obtain⟨v,c2⟩:=Jz H.2.1
  have ext:d.Ref=d'.Ref->d.Choice=d'.Choice->d.Kids=d'.Kids->d=d':=by
   intro a b c;cases d;cases d'
   simp_all
  obtain⟨X,q1,q2,q3,_⟩:=I.kids hl g R V L;obtain⟨X',f,ag,ac,_⟩:=H.kids hl g R V L
  by_cases z:p.Op=4
  ·
   refine ext (by rw[r1 L,v L]) (by rw[c1 za2,c2 za2]) ?_;obtain⟨q,Q,T⟩:=Mm R hS z;obtain⟨q',aa,A⟩:=Mm R ab z
   rw[Q]at aa
   obtain rfl:q=q':=(Nv aa).1
   have G:q∈p.dD:=by rw[Q];simp
   have r:=R.arg G;have af:=H9 G;have Z:CE q:=O p (IZ p) z q G
   have kd:∀k∈d.Kids,HR k q=0/\Fnd l k q/\Ji l k q o≠[]:=by
    intro k W;obtain⟨i,U,rfl⟩:=List.mem_iff_getElem.1 W;have t:=q1 i U
    rw[(T i).1]at t
    exact⟨t.2.1,(HU hl g _ q _ o (X i) (B1 _) r za2 t).2,(HF _ q _ o (B1 _) t.2.1 r).2⟩
   have P:∀k∈d'.Kids,HR k q=0/\Fnd l k q/\Ji l k q o≠[]:=by
    intro k W;obtain⟨i,U,rfl⟩:=List.mem_iff_getElem.1 W;have t:=f i U
    rw[(A i).1]at t
    exact⟨t.2.1,(HU hl g _ q _ o (X' i) (B1 _) r za2 t).2,(HF _ q _ o (B1 _) t.2.1 r).2⟩
   refine XB (C:=λk=>Ji l k q o) d.Kids d'.Kids (λk W=>(kd k W).2.2) (λk W=>(P k W).2.2)
    (λk W k' K M=>ZJ (PK k) q k k' o (B1 _) (kd k W).1 (P k' K).1 r Z (kd k W).2.1 (P k' K).2.1 M)
    (λk' K k W M=>ZJ (PK k') q k' k o (B1 _) (P k' K).1 (kd k W).1 r Z (P k' K).2.1 (kd k W).2.1 M) ?_ ?_ λx=>?_
   ·rw[AC];intro i j U S D x M y m;have t:=q1 i U;have u:=q1 j S
    rw[(T i).1]at t;rw[(T j).1]at u
    obtain⟨a,a1,a2⟩:=(HU hl g _ q _ o (X i) (B1 _) r za2 t).1 x M;obtain⟨b,b1,b2⟩:=(HU hl g _ q _ o (X j) (B1 _) r za2 u).1 y m;have:=q3 (.inr z) i j D S a a1 b b1;omega
   ·rw[AC];intro i j U S D x M y m;have t:=f i U;have u:=f j S
    rw[(A i).1]at t;rw[(A j).1]at u
    obtain⟨a,a1,a2⟩:=(HU hl g _ q _ o (X' i) (B1 _) r za2 t).1 x M;obtain⟨b,b1,b2⟩:=(HU hl g _ q _ o (X' j) (B1 _) r za2 u).1 y m;have:=ac (.inr z) i j D S a a1 b b1;omega
   have m1:∀(e:A5),(∀i,L8 p e.Choice i=q/\BS p e.Choice i=0)->(x∈Ji l e p o<->∃k∈e.Kids,x∈Ji l k q o):=by
    intro e Y;rw[HG L]
    constructor
    ·grind
    rintro⟨k,W,M⟩;obtain⟨i,U,rfl⟩:=List.mem_iff_getElem.1 W
    grind
   grind
  obtain⟨w,e2,e3,e4⟩:=Mo I.2.1 H.2.1 R L z (λx M=>(hc x).1 M);obtain⟨_,_,_,e5⟩:=Mo H.2.1 I.2.1 R L z (λx M=>(hc x).2 M);refine ext w e2 (ES e3 λi U B=>?_);have F:=(J0 R.self hS.n U hS.c).1;have E:=F4 U;have h9:=BU E;have ae:=H9 F;have t':=f i B
  rw[<-e2]at t'
  have J:=e5 i B U
  rw[<-e2]at J
  exact RK hl g n (L8 p d.Choice i) _ _ (o+BS p d.Choice i) (X i) (X' i) za2 (q1 i U) t' (R.arg F) za2 (O.arg F) λx=>⟨e4 i U B x,J x⟩
def AX6 {α:Type} (m:α->Nat):∀L:Up α,L≠[]->∃y∈L,∀w∈L,m y<=m w
 |[],h=>absurd rfl h
 |[a],_=>⟨a,za4,λw R=>by rw[List.mem_singleton.1 R];omega⟩
 |a::b::r,_=>by
  obtain⟨y,e,h⟩:=AX6 m (b::r) za4
  grind
abbrev FC:=Nat×Nat×Bool
def flg (C:Up (Nat×Nat)):Up FC:=C.map λx=>(x.1,x.2,decide (∀y∈C,x.1<=y.1))
def Hx {C:Up (Nat×Nat)}{z:FC}:z∈flg C<->(z.1,z.2.1)∈C/\z.2.2=decide (∀y∈C,z.1<=y.1):=by
 unfold flg;rw[DF]
 grind
def SG {C:Up (Nat×Nat)}{x:Nat×Nat}(h:x∈C):(x.1,x.2,decide (∀y∈C,x.1<=y.1))∈flg C:=Hx.2 ⟨h,rfl⟩
def Vf {C:A5->Up (Nat×Nat)}:∀(ks g:Up A5),(∀k∈ks,C k≠[])->(∀k∈g,C k≠[])->
 (∀k∈ks,∀k'∈g,(∀x,x∈C k<->x∈C k')->k=k')->
 ks.Pairwise (λk k'=>∀x∈C k,∀y∈C k',x.1<y.1)->g.Pairwise (λk k'=>∀x∈C k,∀y∈C k',x.1<y.1)->
 (∀z,(∃k∈ks,z∈flg (C k))<->∃k∈g,z∈flg (C k))->ks=g
 |[],[],_,_,_,_,_,_=>rfl
 |[],k'::g,_,K,_,_,_,Y=>by
  obtain⟨x,M⟩:=Dc _ (K k' za4);obtain⟨k,W,_⟩:=(Y _).2 ⟨k',za4,SG M⟩;cases W
 |k::ks,[],d,_,_,_,_,Y=>by
  obtain⟨x,M⟩:=Dc _ (d k za4);obtain⟨k,W,_⟩:=(Y _).1 ⟨k,za4,SG M⟩;cases W
 | k::ks,k'::g,d,K,i1,V,P,Y=>by
  rw[DU]at V P
  have n:∀(k k':A5) (ks g:Up A5),(∀a∈ks,∀x∈C k,∀y∈C a,x.1<y.1)->(∀a∈g,∀x∈C k',∀y∈C a,x.1<y.1)->(∀a∈g,C a≠[])->C k'≠[]->(∀z,(∃a∈k::ks,z∈flg (C a))<->∃a∈k'::g,z∈flg (C a))->∀x∈C k,x∈C k':=by
   intro k k' ks g V P K q Y x M;obtain⟨a,T,i⟩:=(Y _).1 ⟨k,za4,SG M⟩;have i:=(Hx.1 i).1
   rcases List.mem_cons.1 T with rfl|T
   ·exact i
   exfalso;obtain⟨y,m,r⟩:=AX6 (λw:Nat×Nat=>w.1) (C a) (K a T);obtain⟨b,A,H⟩:=(Y _).2 ⟨a,by simp[T],SG m⟩;obtain⟨H,h⟩:=Hx.1 H
   simp only at H h
   rw[N2 r]at h
   have h:=Fe h.symm;have p:=r x i
   rcases List.mem_cons.1 A with rfl|A
   ·obtain⟨w,R⟩:=Dc _ q;have o:=P a T w R y m;obtain⟨e,j,c⟩:=(Y _).2 ⟨k',za4,SG R⟩;have c:=(Hx.1 c).1
    grind
   grind
  have f:k=k':=i1 k za4 k' za4 λx=>⟨n k k' ks g V.1 P.1 (λa T=>K a (by simp[T])) (K k' za4) Y x,n k' k g ks P.1 V.1 (λa T=>d a (by simp[T])) (d k za4) (λz=>(Y z).symm) x⟩;subst f;refine G2 _ (Vf ks g (λa T=>d a (by simp[T])) (λa T=>K a (by simp[T])) (λa T b A=>i1 a (by simp[T]) b (by simp[A])) V.2 P.2 λz=>?_)
  constructor
  ·rintro⟨a,T,M⟩;obtain⟨b,A,t⟩:=(Y z).1 ⟨a,by simp[T],M⟩
   rcases List.mem_cons.1 A with rfl|A
   ·have:=V.1 a T _ (Hx.1 t).1 _ (Hx.1 M).1;omega
   grind
  rintro⟨a,T,M⟩;obtain⟨b,A,t⟩:=(Y z).2 ⟨a,by simp[T],M⟩
  rcases List.mem_cons.1 A with rfl|A
  ·have:=P.1 a T _ (Hx.1 t).1 _ (Hx.1 M).1;omega
  grind
mutual
def cd2 (l:Up A9):A5->A0->Nat->Up FC
 |⟨r,c,ks⟩,p,o=>if L1 p then(Ji l ⟨r,c,ks⟩ p o).map (λx=>(x.1,x.2,false))else if p.Op=4 then ks.flatMap (λk=>flg (Ji l k (L8 p c 0) o))else AP3 l ks p c 0 o
def AP3 (l:Up A9):Up A5->A0->Int->Nat->Nat->Up FC
 |[],_,_,_,_=>[]
 |k::ks,p,c,i,o=>cd2 l k (L8 p c i) (o+BS p c i)++AP3 l ks p c (i+1) o
end
def ZK (l:Up A9)(d:A5)(p:A0)(o:Nat):cd2 l d p o=if L1 p then(Ji l d p o).map (λx=>(x.1,x.2,false))else if p.Op=4 then d.Kids.flatMap (λk=>flg (Ji l k (L8 p d.Choice 0) o))else AP3 l d.Kids p d.Choice 0 o:=by cases d;simp only[cd2]
def Mu {l:Up A9}:∀{ks:Up A5} {p:A0} {c:Int} {j o:Nat} {x:FC},x∈AP3 l ks p c j o<->∃i,∃h:i<ks.length,x∈cd2 l ks[i] (L8 p c (j+i)) (o+BS p c (j+i))
 |[],p,c,j,o,x=>by simp[AP3]
 | k::ks,p,c,j,o,x=>by
  rw[AP3,Cp,Mu]
  constructor
  ·rintro(h|⟨i,h,M⟩)
   ·exact⟨0,za4,h⟩
   exact⟨i+1,za7,by rw[show j+(i+1)=j+1+i by omega];exact M⟩
  grind
def Gu {l:Up A9}:∀(n:Nat) (p:A0) (d:A5) (o:Nat),PK d<=n->HR d p=0->FT p->∀y:Nat×Nat,(∃b,(y.1,y.2,b)∈cd2 l d p o)<->y∈Ji l d p o
 |0,p,d,o,h,_,_=>by rw[As]at h;omega
 | n+1,p,d,o,h,g,R=>by
  intro y;have t:=As d;have a:=Fj g;rw[ZK]
  by_cases O:L1 p
  ·rw[A2 O]
   simp_all
  rw[A1 O]
  have L:p.Op≠0:=by
   intro L;refine O λz r=>?_
   rw[A0.pre_eq,R.self.a0 L]at r
   have e:z=p:=by simpa[A0.pres]using r
   rw[e,L];omega
  by_cases s:p.Op=4
  ·rw[A2 s];obtain⟨q,Q,T⟩:=Mm R a s;rw[HG L]
   constructor
   ·rintro⟨b,A⟩;obtain⟨k,W,M⟩:=List.mem_flatMap.1 A;obtain⟨i,U,rfl⟩:=List.mem_iff_getElem.1 W;have:=(Hx.1 M).1
    rw[(T 0).1]at this
    grind
   rintro⟨i,U,M⟩
   rw[(T i).1,(T i).2]at M
   exact⟨_,List.mem_flatMap.2 ⟨_,F4 U,by rw[(T 0).1];exact SG M⟩⟩
  rw[A1 s,HG L]
  have ih:∀(i:Nat) (U:i<d.Kids.length),(∃b,(y.1,y.2,b)∈cd2 l d.Kids[i] (L8 p d.Choice i) (o+BS p d.Choice i))<->y∈Ji l d.Kids[i] (L8 p d.Choice i) (o+BS p d.Choice i):=by
   intro i U;have x:=BU (F4 U);exact Gu n _ _ _ za2 (a.k i U) (R.arg (J0 R.self a.n U a.c).1) y
  constructor
  ·rintro⟨b,A⟩;obtain⟨i,U,M⟩:=Mu.1 A
   grind
  rintro⟨i,U,M⟩;obtain⟨b,A⟩:=(ih i U).2 M;exact⟨b,Mu.2 ⟨i,U,za8⟩⟩
end
end Go.Ab
open List (Nodup)
open Go.Ab.Ar (ar cmp)
namespace Go.Ab
open Classical
noncomputable section
def Ax1 {l:Up A9} (hl:l.length<=4096) (g:BP l=0):∀(n:Nat) (p:A0) (d:A5) (o:Nat) (s:Up PR),PK d<=n->Tr l d p s->FT p->p.pre.length<=64->∀x∈Ji l d p o,∀y∈Ji l d p o,x.1=y.1->x=y
 |0,p,d,o,s,h,_,_,_=>by rw[As]at h;omega
 | n+1,p,d,o,s,h,V,R,K=>by
  intro x M y m e;have f:=As d
  by_cases L:p.Op=0
  ·rw[QH,A2 L,BK]at M m
   rw[M,m]
  have k:=Fj V.2.1;obtain⟨X,P,E,_,F⟩:=V.kids hl g R K L;obtain⟨i,U,r⟩:=(HG L).1 M;obtain⟨j,u,t⟩:=(HG L).1 m;have c:=R.arg (J0 R.self k.n U k.c).1;have q:=R.arg (J0 R.self k.n u k.c).1;have C:=H9 (J0 R.self k.n U k.c).1;have D:=H9 (J0 R.self k.n u k.c).1;obtain⟨a,v,w⟩:=(HU hl g _ _ _ _ (X i) (B1 _) c za2 (P i U)).1 x r;obtain⟨b,z,A⟩:=(HU hl g _ _ _ _ (X j) (B1 _) q za2 (P j u)).1 y t
  have H:i=j:=by
   grind
  subst H;have B:=BU (F4 U);exact Ax1 hl g n _ _ _ (X i) za2 (P i U) c za2 x r y t e
def VN {l:Up A9} {p:A0} {d:A5} {o:Nat} (b:HR d p=0) (R:FT p) (t:p.Op≠0) (s:p.Op≠4) {i j:Nat} (U:i<d.Kids.length) (u:j<d.Kids.length) {x y:Nat×Nat} (M:x∈Ji l d.Kids[i] (L8 p d.Choice i) (o+BS p d.Choice i)) (m:y∈Ji l d.Kids[j] (L8 p d.Choice j) (o+BS p d.Choice j)) (e:x.2=y.2):i=j:=by
 have a:=Fj b;have n:=(HF (l:=l) (PK d.Kids[i]) _ _ (o+BS p d.Choice i) (B1 _) (a.k i U) (R.arg (J0 R.self a.n U a.c).1)).1 x M;have r:=(HF (l:=l) (PK d.Kids[j]) _ _ (o+BS p d.Choice j) (B1 _) (a.k j u) (R.arg (J0 R.self a.n u a.c).1)).1 y m
 by_cases O:p.Op=1\/p.Op=3
 ·have H:=(J0 R.self a.n U a.c).2.1 O;have K:=(J0 R.self a.n u a.c).2.1 O;obtain⟨V,g⟩:=List.getElem?_eq_some_iff.1 H;obtain⟨c,k⟩:=List.getElem?_eq_some_iff.1 K
  have P:BS p d.Choice i=((p.dD.map AU).take i).sum:=by simp_all[BS]
  have o2:BS p d.Choice j=((p.dD.map AU).take j).sum:=by simp_all[BS]
  rw[P,<-g]at n
  rw[o2,<-k]at r
  have w:=Ha (L:=p.dD.map AU) (i:=i) za7;have e2:=Ha (L:=p.dD.map AU) (i:=j) za7
  rw[ID]at w e2
  rcases Fg i j with h|h|h
  ·have:=GZ (p.dD.map AU) (i+1) j h;omega
  ·exact h
  have:=GZ (p.dD.map AU) (j+1) i h;omega
 have:=a.one t O s;omega
def L2 (p:A0):Prop:=∀y∈p.pre,y.Op=4->∀a∈y.dD,L1 a
def L2.arg {p q:A0}(h:L2 p)(Q:q∈p.dD):L2 q:=λy m=>h y (by rw[A0.pre_eq];exact List.mem_cons_of_mem _ (Ae.2 ⟨q,Q,m⟩))
def AF5 {l:Up A9} (hl:l.length<=4096) (g:BP l=0):∀(n:Nat) (p:A0) (d d':A5) (o:Nat) (s s':Up PR),PK d<=n->Tr l d p s->Tr l d' p s'->FT p->p.pre.length<=64->L2 p->(∀x,x∈cd2 l d p o<->x∈cd2 l d' p o)->d=d'
 |0,p,d,d',o,s,s',h,_,_,_,_,_,_=>by rw[As]at h;omega
 | n +1,p,d,d',o,s,s',h,F,r,R,aa,Z,hc=>by
  have ai:=As d
  have S:∀x,x∈Ji l d p o<->x∈Ji l d' p o:=λx=>by
   rw[<-Gu _ p d o (B1 _) F.2.1 R x,<-Gu _ p d' o (B1 _) r.2.1 R x]
   simp_all
  by_cases O:L1 p
  ·exact RK hl g _ p d d' o s s' (B1 _) F r R aa O S
  have L:p.Op≠0:=by
   intro L;refine O λz D=>?_
   rw[A0.pre_eq,R.self.a0 L]at D
   have e:z=p:=by simpa[A0.pres]using D
   rw[e,L];omega
  have I:=Fj F.2.1;have f:=Fj r.2.1;obtain⟨r1,c1⟩:=Jz F.2.1;obtain⟨v,G⟩:=Jz r.2.1
  have ext:d.Ref=d'.Ref->d.Choice=d'.Choice->d.Kids=d'.Kids->d=d':=by
   intro a b c;cases d;cases d'
   simp_all
  obtain⟨X,q1,q2,q3,_⟩:=F.kids hl g R aa L;obtain⟨X',E,al,ah,_⟩:=r.kids hl g R aa L
  by_cases V:p.Op=4
  ·refine ext (by rw[r1 L,v L]) (by rw[c1 za2,G za2]) ?_;obtain⟨q,Q,T⟩:=Mm R I V;obtain⟨q',ad,J⟩:=Mm R f V
   rw[Q]at ad
   obtain rfl:q=q':=(Nv ad).1
   have ab:q∈p.dD:=by rw[Q];simp
   have P:=R.arg ab;have ak:=H9 ab;have ag:L1 q:=Z p (IZ p) V q ab
   have tk:∀k∈d.Kids,∃x,Tr l k q x:=by
    intro k W;obtain⟨i,U,rfl⟩:=List.mem_iff_getElem.1 W;have t:=q1 i U
    rw[(T i).1]at t
    grind
   have ae:∀k∈d'.Kids,∃x,Tr l k q x:=by
    intro k W;obtain⟨i,U,rfl⟩:=List.mem_iff_getElem.1 W;have t:=E i U
    rw[(J i).1]at t
    grind
   have ne:∀k,(∃x,Tr l k q x)->Ji l k q o≠[]:=λk ⟨x,t⟩=>(HF _ q k o (B1 _) t.2.1 P).2
   refine Vf (C:=λk=>Ji l k q o) d.Kids d'.Kids (λk W=>ne k (tk k W)) (λk W=>ne k (ae k W))
    (λk W k' af M=>by
     obtain⟨x,t⟩:=tk k W;obtain⟨x',t'⟩:=ae k' af
     exact RK hl g _ q k k' o x x' (B1 _) t t' P za2 ag M) ?_ ?_ λz=>?_
   ·rw[AC];intro i j U K A x M y m;have t:=q1 i U;have u:=q1 j K
    rw[(T i).1]at t;rw[(T j).1]at u
    obtain⟨a,a1,a2⟩:=(HU hl g _ q _ o (X i) (B1 _) P za2 t).1 x M;obtain⟨b,b1,b2⟩:=(HU hl g _ q _ o (X j) (B1 _) P za2 u).1 y m;have:=q3 (.inr V) i j A K a a1 b b1;omega
   ·rw[AC];intro i j U K A x M y m;have t:=E i U;have u:=E j K
    rw[(J i).1]at t;rw[(J j).1]at u
    obtain⟨a,a1,a2⟩:=(HU hl g _ q _ o (X' i) (B1 _) P za2 t).1 x M;obtain⟨b,b1,b2⟩:=(HU hl g _ q _ o (X' j) (B1 _) P za2 u).1 y m;have:=ah (.inr V) i j A K a a1 b b1;omega
   have m1:∀e:A5,(∀i,L8 p e.Choice i=q/\BS p e.Choice i=0)->(z∈cd2 l e p o<->∃k∈e.Kids,z∈flg (Ji l k q o)):=by
    intro e Y;rw[ZK,A1 O,A2 V,List.mem_flatMap,(Y 0).1]
   grind
  obtain⟨w,e2,e3,e4⟩:=Mo F.2.1 r.2.1 R L V (λx M=>(S x).1 M);obtain⟨_,_,_,e5⟩:=Mo r.2.1 F.2.1 R L V (λx M=>(S x).2 M)
  have m2:∀(e:A5) (z:FC),z∈cd2 l e p o<->∃i,∃h:i<e.Kids.length,z∈cd2 l e.Kids[i] (L8 p e.Choice i) (o+BS p e.Choice i):=by
   intro e z;rw[ZK,A1 O,A1 V,Mu]
   grind
  refine ext w e2 (ES e3 λi U H=>?_);have B:=(J0 R.self I.n U I.c).1;have h9:=BU (F4 U);have aj:=H9 B;have t':=E i H
  rw[<-e2]at t'
  refine AF5 hl g n (L8 p d.Choice i) _ _ (o+BS p d.Choice i) (X i) (X' i) za2 (q1 i U) t' (R.arg B) za2 (Z.arg B) λz=>⟨λD=>?_,λD=>?_⟩
  ·obtain⟨j,K,ac⟩:=(m2 d' z).1 ((hc z).1 ((m2 d z).2 ⟨i,U,D⟩));have c1:=(Gu _ _ _ _ (B1 _) (I.k i U) (R.arg B) (z.1,z.2.1)).1 ⟨z.2.2,D⟩;have G:=e4 i U H _ c1;have c3:=(Gu _ _ _ _ (B1 _) (f.k j K) (R.arg (J0 R.self f.n K f.c).1) (z.1,z.2.1)).1 ⟨z.2.2,ac⟩
   rw[e2]at G
   have A:=VN r.2.1 R L V H K G c3 rfl
   grind
  rw[e2]at D
  obtain⟨j,K,ac⟩:=(m2 d z).1 ((hc z).2 ((m2 d' z).2 ⟨i,H,D⟩));have c1:=(Gu _ _ _ _ (B1 _) (f.k i H) (by rw[<-e2];exact R.arg B) (z.1,z.2.1)).1 ⟨z.2.2,D⟩;have G:=e5 i H U _ c1;have c3:=(Gu _ _ _ _ (B1 _) (I.k j K) (R.arg (J0 R.self I.n K I.c).1) (z.1,z.2.1)).1 ⟨z.2.2,ac⟩
  rw[<-e2]at G
  have A:=VN F.2.1 R L V U K G c3 rfl
  grind
def Nl (B:Nat)(w:Nat->Nat):Nat->Nat
 |0=>0
 |m+1=>Nl B w m*B+w m
def AB4 {B:Nat} {w:Nat->Nat}:∀{m:Nat},(∀i,i<m->w i<B)->Nl B w m<B ^ m
 |0,_=>by simp[Nl]
 | m+1,h=>by
  have O:=AB4 (m:=m) λi U=>h i za2;have Z:=h m za2;rw[Nl,Ns]
  calc Nl B w m*B+w m<Nl B w m*B+B:=za2
   _=(Nl B w m+1)*B:=by rw[E2,W3]
   _<=B ^ m*B:=G7 B O
def Ag9 {B:Nat} {w v:Nat->Nat}:∀{m:Nat},(∀i,i<m->w i<B)->(∀i,i<m->v i<B)->Nl B w m=Nl B v m->∀i,i<m->w i=v i
 |0,_,_,_,i,U=>absurd U (Nat.not_lt_zero i)
 | m+1,R,q,h,i,U=>by
  rw[Nl,Nl]at h
  have O:=R m za2;have Z:=q m za2
  have b:0<B:=za2
  have g:(Nl B w m*B+w m) / B=Nl B w m:=by
   rw[KH,NS _ _ b,KS O,K4]
  have e2:(Nl B v m*B+v m) / B=Nl B v m:=by
   rw[KH,NS _ _ b,KS Z,K4]
  have e:Nl B w m=Nl B v m:=by rw[<-g,<-e2,h]
  rcases R9 i m with a|a
  ·exact Ag9 (λi U=>R i za2) (λi U=>q i za2) e i a
  grind
def Ah0 {α:Type} {L:Up α} {g:α->Nat} {B:Nat} (i:L.Nodup) (U:∀a∈L,∀b∈L,g a=g b->a=b) (A:∀a∈L,g a<B):L.length<=B:=by
 have O:(L.map g).Nodup:=by
  unfold Nodup at *
  rw[O3];exact i.imp_of_mem λ{a b} T A h e=>h (U a T b A e)
 have:=NZ O (l₂:=List.range B) λx M=>by
  grind
 simp_all
def YF {α:Type}(pos let_:α->Nat)(C:Up α)(i:Nat):Nat:=match C.find? (λx=>decide (pos x=i))with|some x=>let_ x+1|none=>0
def YE {α:Type}{pos let_:α->Nat}{C:Up α}{B:Nat}(A:∀x∈C,let_ x<B)(i:Nat):YF pos let_ C i<B+1:=by
 grind[YF]
def OM {α β:Type}{L:Up β}{C:β->Up α}{pos let_:α->Nat}{m B:Nat}(a:L.Nodup)(k:∀x y:α,pos x=pos y->let_ x=let_ y->x=y)(o:∀d∈L,∀x∈C d,∀y∈C d,pos x=pos y->x=y)(b:∀d∈L,∀x∈C d,pos x<m)(hl:∀d∈L,∀x∈C d,let_ x<B)
 (U:∀d∈L,∀e∈L,(∀x,x∈C d<->x∈C e)->d=e):L.length<=(B+1) ^ m:=by
 refine Ah0 (g:=λd=>Nl (B+1) (YF pos let_ (C d)) m) a (λd hd e Y h=>?_) λd hd=>AB4 λi _=>YE (hl d hd) i;have:=Ag9 (λi _=>YE (hl d hd) i) (λi _=>YE (hl e Y) i) h
 grind[YF]
def AF4 {l:Up A9}:∀(n:Nat) (p:A0) (d:A5) (o:Nat),PK d<=n->HR d p=0->FT p->CE p->∀x∈Ji l d p o,∀y∈Ji l d p o,x.2=y.2->x=y
 |0,p,d,o,h,_,_,_=>by rw[As]at h;omega
 | n+1,p,d,o,h,g,R,b=>by
  intro x M y m e;have K:=As d
  by_cases L:p.Op=0
  ·rw[QH,A2 L,BK]at M m
   rw[M,m]
  have t:=Fj g;obtain⟨i,U,k⟩:=(HG L).1 M;obtain⟨j,u,r⟩:=(HG L).1 m;have H:=VN g R L (b p (IZ p)) U u k r e;subst H;have a:=(J0 R.self t.n U t.c).1;have P:=BU (F4 U);exact AF4 n _ _ _ za2 (t.k i U) (R.arg a) (b.arg a) x k y r e
def AF6 {l:Up A9} (hl:l.length<=4096) (g:BP l=0):∀(n:Nat) (p:A0) (d:A5) (o:Nat) (s:Up PR),PK d<=n->Tr l d p s->FT p->p.pre.length<=64->∀x∈cd2 l d p o,∀y∈cd2 l d p o,x.1=y.1->x=y
 |0,p,d,o,s,h,_,_,_=>by rw[As]at h;omega
 | n+1,p,d,o,s,h,D,R,w=>by
  intro x M y m e;have Z:=As d;have r:=Fj D.2.1;have sub:=λ(z:FC) (E:z∈cd2 l d p o)=>(Gu _ p d o (B1 _) D.2.1 R (z.1,z.2.1)).1 ⟨z.2.2,E⟩;have V:=Ax1 hl g _ p d o s (B1 _) D R w _ (sub x M) _ (sub y m) e
  simp only[GQ]at V
  suffices A:x.2.2=y.2.2 from Prod.ext V.1 (Prod.ext V.2 A)
  rw[ZK]at M m
  by_cases O:L1 p
  ·rw[A2 O]at M m
   grind
  rw[A1 O]at M m
  have L:p.Op≠0:=by
   intro L;refine O λz E=>?_
   rw[A0.pre_eq,R.self.a0 L]at E
   have e:z=p:=by simpa[A0.pres]using E
   rw[e,L];omega
  obtain⟨X,J,q2,_,q4⟩:=D.kids hl g R w L
  have H:∀(i j:Nat) (U:i<d.Kids.length) (t:j<d.Kids.length) (u v:Nat×Nat),u∈Ji l d.Kids[i] (L8 p d.Choice i) (o+BS p d.Choice i)->v∈Ji l d.Kids[j] (L8 p d.Choice j) (o+BS p d.Choice j)->u.1=v.1->i=j:=by
   intro i j U t u v hu hv aa;have wi:=R.arg (J0 R.self r.n U r.c).1;have wj:=R.arg (J0 R.self r.n t r.c).1;have pi:=H9 (J0 R.self r.n U r.c).1;have pj:=H9 (J0 R.self r.n t r.c).1;obtain⟨a,a1,a2⟩:=(HU hl g _ _ _ _ (X i) (B1 _) wi za2 (J i U)).1 u hu;obtain⟨b,b1,b2⟩:=(HU hl g _ _ _ _ (X j) (B1 _) wj za2 (J j t)).1 v hv
   grind
  by_cases F:p.Op=4
  ·rw[A2 F]at M m
   obtain⟨q,Q,T⟩:=Mm R r F;obtain⟨k,W,B⟩:=List.mem_flatMap.1 M;obtain⟨k',G,C⟩:=List.mem_flatMap.1 m;obtain⟨i,U,rfl⟩:=List.mem_iff_getElem.1 W;obtain⟨j,t,rfl⟩:=List.mem_iff_getElem.1 G
   rw[(T 0).1]at B C
   have m1:=Hx.1 B;have m2:=Hx.1 C;have f:=H i j U t (x.1,x.2.1) (y.1,y.2.1) (by rw[(T i).1,(T i).2];exact m1.1) (by rw[(T j).1,(T j).2];exact m2.1) e
   simp_all
  rw[A1 F]at M m
  obtain⟨i,U,P⟩:=Mu.1 M;obtain⟨j,t,c⟩:=Mu.1 m
  simp only[K4]at P c
  have K:=(J0 R.self r.n U r.c).1;have I:=(J0 R.self r.n t r.c).1;have S:=(Gu _ _ _ _ (B1 _) (r.k i U) (R.arg K) (x.1,x.2.1)).1 ⟨x.2.2,P⟩;have Y:=(Gu _ _ _ _ (B1 _) (r.k j t) (R.arg I) (y.1,y.2.1)).1 ⟨y.2.2,c⟩;have f:=H i j U t _ _ S Y e;subst f;have h9:=BU (F4 U);have:=H9 K;rw[AF6 hl g n _ _ _ (X i) za2 (J i U) (R.arg K) za2 x P y c e]
def KE (m:Nat)(p:A0):Prop:=UC m p/\(L1 p\/(L2 p/\(2*AU p+1) ^ m<=4000))
def KE.arg {m:Nat}{p q:A0}(h:KE m p)(Q:q∈p.dD):KE m q:=by
 refine⟨h.1.arg Q,?_⟩
 rcases h.2 with h|⟨O,Z⟩
 ·exact .inl (h.arg Q)
 refine .inr ⟨O.arg Q,P8 (La ?_ m) Z⟩;have:=MS Q;omega
def Bi3:∀m,m<11->∀e,e<11->2<=m->m ^ e<=1500->(m+1) ^ e<=4096\/(e+1) ^ m<=4096:=za5
def Am1 {l:Up A9} (hl:l.length<=10) (g:BP l=0) {p:A0} (R:FT p) (k:p.pre.length<=64) (j:KE l.length p) {L:Up A5} (K:L.Nodup) (h:∀d∈L,∃s,Tr l d p s):L.length<=4096:=by
 have i:l.length<=4096:=za2
 have pos:∀d∈L,∀x∈Ji l d p 0,x.1<l.length/\x.2<AU p:=by
  intro d hd x M;obtain⟨s,t⟩:=h d hd;obtain⟨y,m,e⟩:=(HU i g _ p d 0 s (B1 _) R k t).1 x M;obtain⟨u,n,b,f,z,q⟩:=t;have o:=YG i g u R k n z q;have O:=(o.gd.wf y m).2;have Z:=(HF _ p d 0 (B1 _) n R).1 x M;omega
 have fn:∀d∈L,∀x∈Ji l d p 0,∀y∈Ji l d p 0,x.1=y.1->x=y:=by
  intro d hd;obtain⟨s,t⟩:=h d hd;exact Ax1 i g _ p d 0 s (B1 _) t R k
 have one:L1 p->L.length<=(AU p+1) ^ l.length:=by
  intro O;refine OM (C:=λd=>Ji l d p 0) (pos:=λx=>x.1) (let_:=λx=>x.2) K (λx y a b=>Prod.ext a b) fn (λd hd x M=>(pos d hd x M).1) (λd hd x M=>(pos d hd x M).2) λd hd e Y X=>?_;obtain⟨s,t⟩:=h d hd;obtain⟨r,H⟩:=h e Y;exact RK i g _ p d e 0 s r (B1 _) t H R k O X
 rcases j.2 with O|⟨Z,J⟩
 ·rcases j.1 with c|⟨P,E,c⟩
  ·have:=one O;omega
  have Y:AU p<11:=by
   rcases R9 (AU p) 11 with h|h
   ·exact h
   have v:2 ^ 11<=2 ^ AU p:=Gv za2 h;have w:2 ^ AU p<=l.length ^ AU p:=La E _
   have A:(2:Nat) ^ 11=2048:=za5
   omega
  rcases Bi3 l.length za2 (AU p) Y E c with V|V
  ·refine P8 ?_ V;refine OM (C:=λd=>Ji l d p 0) (pos:=λx=>x.2) (let_:=λx=>x.1) K (λx y a b=>Prod.ext b a) (λd hd=>?_) (λd hd x M=>(pos d hd x M).2) (λd hd x M=>(pos d hd x M).1) λd hd e Y X=>?_
   ·obtain⟨s,t⟩:=h d hd;exact AF4 _ p d 0 (B1 _) t.2.1 R P
   obtain⟨s,t⟩:=h d hd;obtain⟨r,H⟩:=h e Y;exact RK i g _ p d e 0 s r (B1 _) t H R k O X
  grind
 refine P8 ?_ (P8 J za2);refine OM (C:=λd=>cd2 l d p 0) (pos:=λx=>x.1) (let_:=λx=>2*x.2.1+(if x.2.2=true then 1 else 0)) K (λx y a b=>?_) (λd hd=>?_) (λd hd x M=>?_) (λd hd x M=>?_) λd hd e Y X=>?_
 ·grind
 ·obtain⟨s,t⟩:=h d hd;exact AF6 i g _ p d 0 s (B1 _) t R k
 ·obtain⟨s,t⟩:=h d hd;exact(pos d hd (x.1,x.2.1) ((Gu _ p d 0 (B1 _) t.2.1 R _).1 ⟨x.2.2,M⟩)).1
 ·obtain⟨s,t⟩:=h d hd;have:=(pos d hd (x.1,x.2.1) ((Gu _ p d 0 (B1 _) t.2.1 R _).1 ⟨x.2.2,M⟩)).2
  grind
 obtain⟨s,t⟩:=h d hd;obtain⟨r,H⟩:=h e Y;exact AF5 i g _ p d e 0 s r (B1 _) t H R k Z X
def Bd0 (L:Up D6) (n:L.Nodup):∃r:Up D6,r.Perm L/\Uj r:=by
 have k:=List.mergeSort_perm L λa b=>decide (mO a.dE b.dE<=0);refine⟨_,k,?_⟩
 have O:=NX (le:=λa b:D6=>decide (mO a.dE b.dE<=0)) (λa b c g i=>by
  have g:=Fe g;have i:=Fe i;apply N2
  by_cases w:mO a.dE b.dE=0
  ·rw[Ro w];exact i
  ·by_cases e2:mO b.dE c.dE=0
   ·rw[<-Ro e2];exact g
   have:=VF (a:=a.dE) (b:=b.dE) (c:=c.dE) za2 za2
   omega) (λa b=>by
  have:=Zk a.dE b.dE
  grind) L
 have Z:(L.mergeSort λa b=>decide (mO a.dE b.dE<=0)).Nodup:=k.nodup_iff.2 n;refine(O.and Z).imp λ{a b} h=>?_;have J:=Fe h.1;have s:mO a.dE b.dE≠0:=λe=>h.2 (by cases a;cases b;have:=Ro e;simp_all);omega
def Bi1 {N:Nat} (hN:Bgn N) {p:A0} (A:p.bulk<=16777216) {l:Up A9} (hl:l.length<=10) (C:(AU p+1) ^ l.length<=1500\/(CE p/\l.length ^ AU p<=1500)) (O:RH N p=0) (Z:BP l=0):
 ∃r,Ez N p l=some (r,0)/\Uj r/\(∃L:Up (Up PR),L.Nodup/\(∀s,s∈L<->Sm l p [] 0 s)/\r.Perm (L.map (V2 l)))/\(∀x∈r,x.dE.length<=10)/\r.length<=1500:=by
 unfold Ez;rw[Sp hN A];simp only[A4];rw[A1 (K7 O),Uo hN];simp only[A4];rw[A1 (K7 Z)];obtain⟨R,c⟩:=JK hN A O;have n:=AT0 c C;have V:=Ah9 c hl;obtain⟨L1,u,w,K⟩:=AK3 hN hl 1000 p [] 0 N V za2 c R n (AK9 l);have F:=Mc R n (AK9 l) w λs h=>(K s).1 h
 have z:(L1.map Q7).Nodup:=by
  rw[Nodup,O3];exact w.imp λg e=>g (Pc e)
 have B:∀s,s∈L1.map Q7<->Sm l p [] 0 s:=λs=>by
  rw[DF]
  constructor
  ·grind
  intro h;exact⟨s.map QY,(K _).2 (by rw[AQ];exact h),AQ s⟩
 have b:∀s∈L1.map Q7,Hi l 0 s:=λs h=>((B s).1 h).res R (AK9 l)
 obtain⟨r,H,v⟩:=Bd0 ((L1.map Q7).map (V2 l)) (by
  rw[Nodup,O3]
  exact DT (λ{x y} M G g e=>g (VD hl Z (b x M).gd.wf (b y G).gd.wf (G2 D6.dE e))) z)
 have d:r.length<=1500:=by have:=H.length_eq;simp_all
 have k:∀x∈r,x.dE.length<=10:=λx M=>by
  obtain⟨t,j,rfl⟩:=List.mem_map.1 (H.mem_iff.1 M);have:=(b t j).gd.len;rw[At7];omega
 have P:((0:Nat):Int)=0:=rfl
 rw[P]at u
 refine⟨r,?_,v,⟨L1.map Q7,z,B,H⟩,k,d⟩;rw[u];simp only[A4]
 rw[(XK (L:=L1) (N:=N) (λ(m:List D6) i=>(i,m)) (λm s=>m++[V2 l (Q7 s)]) (λm=>m) (λi m=>m.length=i) za2 za2 rfl (λm i s f U E e hl=>by
  have D:=(((K s).1 E).res R (AK9 l)).gd;have q:=D.len
  rw[E1]at q
  rw[A2 (T3 U),E8,f];simp only[A4]
  rw[(XK (L:=s) (N:=N) (λ(m:D6) i=>(i,m)) (λm x=>⟨m.dE++[⟨x.dJ,Ce l x.at_⟩]⟩) (λm=>m) (λi m=>m.dE.length=i) za2 za2 rfl (λm i x M U E e hl=>by
   have R:=D.wf (pr x) (List.mem_map.2 ⟨x,E,rfl⟩);obtain⟨I,O,Z⟩:=Bh2 (l:=l) (i:=x.at_) R.2.1 R.2.2;rw[A2 (T3 U),E8,M];simp only[A4];rw[O]
   grind[Dw,V7]) (λm=>by dsimp only;rw[A1 AO])).1,VX]
  simp only[A4,I1];rw[AW za6,e];refine⟨?_,by simp[hl]⟩;simp only[A4,V2,Q7,M3]
  rfl) (λm=>by dsimp only;rw[A1 AO])).1]
 have o:∀(L:Up (Up BD)) (m:Up D6),L.foldl (λm s=>m++[V2 l (Q7 s)]) m=m++L.map λs=>V2 l (Q7 s):=λL=>by
  induction L with
  |nil=>grind
  |cons a L ih=>simp_all
 rw[o,I1];simp only[A4];rw[Bt1 hN (r:=r) ?_ v (λx M=>by have:=k x M;omega) za6]
 ·rfl
 rw[M3]at H
 exact H
mutual
def A0.lp:A0->Nat
 |⟨a,args,_,_,_,_,_⟩=>A0.lps args+(if a=4 then 1 else 0)
def A0.lps:Up A0->Nat
 |[]=>0
 |a::r=>max (A0.lp a) (A0.lps r)
end
def XJ (p:A0):p.lp=A0.lps p.dD+(if p.Op=4 then 1 else 0):=by cases p;simp[A0.lp]
def Uu:∀{L:Up A0} {a:A0},a∈L->a.lp<=A0.lps L
 |b::L,a,h=>by
  simp only[A0.lps]
  rcases List.mem_cons.1 h with rfl|h
  ·omega
  have:=Uu h;omega
def AC2:∀(L:Up A0) (a:A0),A0.lps (L++[a])=max (A0.lps L) a.lp
 |[],a=>by simp[A0.lps]
 |b::L,a=>by
  simp only[V1,A0.lps,AC2 L a];omega
def Zl:∀(n:Nat) (p y:A0),p.pre.length<=n->y∈p.pre->y.lp<=p.lp
 |0,p,y,h,_=>by have:=X7 p;omega
 |n+1,p,y,h,m=>by
  rw[A0.pre_eq]at m
  rcases List.mem_cons.1 m with rfl|m
  ·omega
  obtain⟨a,T,b⟩:=Ae.1 m;have O:=H9 T;have Z:=Zl n a y za2 b;have J:=Uu T;have s:=XJ p;omega
def BA8 {p:A0}(h:p.lp=0):CE p:=by
 intro y m s;have O:=Zl _ p y (B1 _) m;have Z:=XJ y
 rw[A2 s]at Z
 omega
def Br3 {p:A0}(h:p.lp<=1):L1 p:=by
 intro y m s a T;have O:=Zl _ p y (B1 _) m;have Z:=XJ y
 rw[A2 s]at Z
 have J:=Uu T;exact BA8 za2
def BB9 {p:A0}(h:p.lp<=2):L2 p:=by
 intro y m s a T;have O:=Zl _ p y (B1 _) m;have Z:=XJ y
 rw[A2 s]at Z
 have J:=Uu T;exact Br3 za2
def Ai4 {N:Nat} (hN:Bgn N):∀(n:Nat) (p:A0),p.pre.length<=n->p.pre.length<=16777216->Fo N n p=some (p.lp:Int)
 |0,p,h,_=>by have:=X7 p;omega
 | n + 1,p,h,E=>by
  have x:=X7 p
  have hle:p.lp<=p.pre.length:=by
   have :∀(n:Nat) (p:A0),p.pre.length<=n->p.lp<=p.pre.length:=by
    intro n
    induction n with
    |zero=>intro p h;have:=X7 p;omega
    | succ n ih=>
     intro p h
     have C:A0.lps p.dD+1<=p.pre.length:=by
      have key:∀L:Up A0,(∀a∈L,a∈p.dD)->A0.lps L+1<=p.pre.length:=by
       intro L
       induction L with
       |nil=>intro _;simp only[A0.lps];have:=X7 p;omega
       |cons a L k=>
        intro r;have O:=H9 (r a za4);have Z:=ih a za2;have J:=k λb A=>r b (by simp[A])
        grind[A0.lps]
      simp_all
     rw[XJ];split<;>omega
   grind
  have e:=XJ p;unfold Fo;refine LR (m:=p.dD.length) (λi (t:Nat)=>((t:Int),(i:Int))) (λi t=>t=A0.lps (p.dD.take i)) (λt=>(t:Int)) (t0:=0) rfl za2 (by simp[A0.lps]) (λi U t j=>?_) (λt _=>by dsimp only;rw[A1 AO]) λt j=>?_
  ·have g:=F4 U;have O:=H9 g;refine⟨max t (p.dD[i]).lp,?_,by rw[j,Gz U,AC2]⟩
   dsimp only
   rw[A2 (T3 za2),E8,C8 U];simp only[A4];rw[Ai4 hN n _ za2 za2];simp only[A4];rw[D4 za2 za2,show Ar.mx (t:Int) ((p.dD[i]).lp:Int)=((max t (p.dD[i]).lp:Nat):Int) by rw[MK];split<;>omega];rfl
  rw[CY]at j
  subst j
  by_cases s:p.Op=4
  ·rw[A2 s]at e
   rw[A2 (S2 s),D4 za2 za2,e];rfl
  rw[A1 s]at e
  rw[A1 (WJ s),e];rfl
def TM {N:Nat} (hN:Bgn N):∀(n:Nat) (p:A0),p.pre.length<=n->p.pre.length<=16777216->FJ N n p=some (AU p:Int)
 |0,p,h,_=>by have:=X7 p;omega
 | n+1,p,h,E=>by
  have g:=X7 p;have k:AU p<=p.pre.length:=GX;unfold FJ
  have e0:(if cmp .eql p.Op 0=true then some 1 else some 0:OS Int)=some (((if p.Op=0 then 1 else 0:Nat):Nat):Int):=by
   by_cases b:p.Op=0
   ·rw[A2 (S2 b),A2 b];rfl
   rw[A1 (WJ b),A1 b];rfl
  rw[e0];simp only[A4];have a:=Ij p
  rw[ZD]at a
  refine LR (m:=p.dD.length) (λi (t:Nat)=>((t:Int),(i:Int))) (λi t=>t=(if p.Op=0 then 1 else 0)+((p.dD.map AU).take i).sum) (λt=>(t:Int)) (t0:=if p.Op=0 then 1 else 0) rfl za2 za4 (λi U t j=>?_) (λt _=>by dsimp only;rw[A1 AO]) λt j=>?_
  ·have e:=F4 U;have O:=H9 e;have Z:=Ha (L:=p.dD.map AU) (i:=i) za7
   rw[ID]at Z
   have J:=Rb (p.dD.map AU) (i+1);refine⟨t+AU p.dD[i],?_,by rw[Z,j];omega⟩
   dsimp only
   rw[A2 (T3 za2),E8,C8 U];simp only[A4];rw[TM hN n _ za2 za2];simp only[A4];rw[D4 za2 za2,D4 za2 za2];rfl
  rw[AB za4]at j
  rw[j,<-a]
def AR8 {X:Type} {step:Int×Int->OS ((Int×Int)⊕Int)} {k:Int->OS X} {Q:X->Prop} {c:Prop} {B m N:Nat} (t:1<=B) (e:B<=33554435) (hN:m<N)
 (C:∀s i:Nat,i<m->s<=134217740000->step ((s:Int),(i:Int))=some (if c/\s<=4000 then .inl (((s*B:Nat):Int),((i+1:Nat):Int))else .inr (s:Int)))
 (Y:∀s:Nat,step ((s:Int),(m:Int))=some (.inr (s:Int))) (W:∀r:Nat,(c->r<=4000->B ^ m<=4000)->∃x,k (r:Int)=some x/\Q x):∃x,(loopN step N (1,0)).bind k=some x/\Q x:=by
 have key:∀(d i K s:Nat),i+d=m->d<K->1<=s->s<=134217740000->∃r:Nat,loopN step K ((s:Int),(i:Int))=some (r:Int)/\(c->r<=4000->s*B ^ d<=4000):=by
  intro d
  induction d with
  |zero=>
   intro i K s U y O a;obtain⟨K,rfl⟩:∃q,K=q+1:=⟨K-1,za2⟩
   grind[loopN]
  | succ d ih=>
   intro i K s U y O a;obtain⟨K,rfl⟩:∃q,K=q+1:=⟨K-1,za2⟩;unfold loopN;rw[C s i za2 a]
   by_cases h:c/\s<=4000
   ·rw[A2 h];have H:s*B<=4000*33554435:=Ax h.2 e;obtain⟨r,g,n⟩:=ih (i+1) K (s*B) za2 za2 (Nat.mul_pos O t) za2
    grind
   grind
 obtain⟨r,g,n⟩:=key m 0 N 1 za2 hN (B1 _) za2;have b:loopN step N (1,0)=some (r:Int):=g;rw[b]
 simp_all
def Bg0 {N:Nat} (hN:Bgn N) {p:A0} (A:p.bulk<=16777216) (a:p.pre.length<=16777216) {l:Up A9} (g:l.length<=16777216):
 ∃b,Lo N p l=some b/\(b=true->l.length<=10/\((AU p+1) ^ l.length<=1500\/(CE p/\l.length ^ AU p<=1500))/\(L1 p\/(L2 p/\(2*AU p+1) ^ l.length<=4000))):=by
 unfold Lo;obtain⟨b,O,Z⟩:=AT1 hN A g;rw[O];simp only[A4]
 cases b with
 |false=>exact⟨false,rfl,λh=>by cases h⟩
 | true=>
  obtain⟨J,k⟩:=Z rfl;rw[A1 (by simp[X5]),Ai4 hN N p za2 a];simp only[A4]
  by_cases t:p.lp<=2
  ·rw [A1 (T9 za2)];have n:AU p<=p.pre.length:=GX;refine AR8 (c:=p.lp=2) (B:=2*AU p+1) (m:=l.length) za2 za2 za2 (λs i U C=>?_) (λs=>by rw[A1 (Q6 (by rw[B4];omega))]) λr f=>⟨_,rfl,λh=>⟨J,k,?_⟩⟩
   ·rw[A2 (T3 za2)]
    by_cases X:p.lp=2/\s<=4000
    ·rw[A2 (by rw[O5,S2 za2,Dp,N2 za2];rfl),A2 X,TM hN N p za2 a];simp only[A4]
     have w:ar .add .i64 (ar .mul .i64 2 (AU p:Int)) 1=((2*AU p+1:Nat):Int):=by
      have:ar .mul .i64 2 (AU p:Int)=IntKind.wrap .i64 (2*(AU p:Int)):=rfl;rw[this,Ee za2 za2,D4 za2 za2];omega
     have x:s*(2*AU p+1)<=4000*33554435:=Ax X.2 za2
     have e2:ar .mul .i64 (s:Int) ((2*AU p+1:Nat):Int)=((s*(2*AU p+1):Nat):Int):=by
      have:ar .mul .i64 (s:Int) ((2*AU p+1:Nat):Int)=IntKind.wrap .i64 ((s:Int)*((2*AU p+1:Nat):Int)):=rfl;rw[this,<-Int.natCast_mul,Ee za2 za2]
     rw[w,e2,D4 za2 za2];rfl
    rw[A1 (by
     rw[O5];intro h
     rw[K0,F5,Dp,H5,H5]at h
     omega),A1 X]
   rw[Dp,H5]at h
   by_cases e:p.lp=2
   ·exact .inr ⟨BB9 t,f e za2⟩
   exact .inl (Br3 za2)
  rw[A2 (Bn za2)]
  simp_all
abbrev TD:=Up PR×A5
def Mf (t:TD):A8:=⟨t.2,t.1.map Q8⟩
structure TL (l:List A9) (p:A0) (b:List PR) (f:Int) (L:List TD):Prop where
 tr:∀t∈L,HR t.2 p=0/\Oc l t.2 p b f=some t.1/\HM t.2<=t.1.length*p.pre.length/\Hi l f t.1
 nd:(L.map (·.2)).Nodup
 sm:∀s,(∃t∈L,t.1=s)<->Sm l p b f s
def TL.tree {l:Up A9}(hl:l.length<=10){p:A0}(a:p.pre.length<=64){b:Up PR}{f:Int}(z:Jq l b f){L:Up TD}(h:TL l p b f L):∀t∈L,Tr l t.2 p t.1:=by
 intro t j;obtain⟨O,Z,J,s⟩:=h.tr t j;have e:=s.gd.len;have:t.1.length*p.pre.length<=10*64:=Ax za2 a;exact⟨za2,O,b,f,z,Z⟩
def TL.few {l:Up A9} (hl:l.length<=10) (a:BP l=0) {p:A0} (R:FT p) (e:p.pre.length<=64) (C:KE l.length p) {b:Up PR} {f:Int} (z:Jq l b f) {L:Up TD} (h:TL l p b f L):L.length<=4096:=by
 have:=Am1 hl a R e C h.nd λd hd=>by
  obtain⟨t,j,rfl⟩:=List.mem_map.1 hd;exact⟨_,h.tree hl e z t j⟩
 simp_all
structure ST (N:Nat) (l:List A9) (p:A0) (b:List PR) (f:Int) (m:Nat) (L:List TD):Prop where
 prg:∀n,m<=n->F6 N n ⟨l,0⟩ p (b.map Q8) f=some (L.map Mf)
def Rg {α R:Type} {step:Int->α->OS (Up α×(Int⊕R))} {m:Nat} (C:∀(s:Nat) (y:α),s<m->step (s:Int) y=some ([y],.inl ((s+1:Nat):Int))):∀(L:Up α) (s:Nat),s+L.length<=m->AS step L (s:Int)=some (L,.inl ((s+L.length:Nat):Int))
 |[],s,_=>rfl
 |y::L,s,h=>by
  rw[N3]at h
  unfold AS;rw[C s y za2];have:=Rg C L (s+1) za2
  grind
def WX {α R:Type}{step:Int->α->OS (Up α×(Int⊕R))}{m:Nat}{L:Up α}(a:L.length<=m)(C:∀(s:Nat) (y:α),s<m->step (s:Int) y=some ([y],.inl ((s+1:Nat):Int))):AS step L 0=some (L,.inl (L.length:Int)):=by
 have:=Rg C L 0 za2
 rwa[K4]at this
def PC {N:Nat} (hN:Bgn N) {x:F2} (M:x.count=0) {p:A0} {o:Up DP} {f:Int} {n:Nat} {L:Up A8} (h:N1 N n x p o f=some L) (a:L.length<=4096):F6 N (n+2) x p o f=some L:=by
 rw[F6,Aa,h];simp only[A4]
 rw[WX (m:=4096) a (λs y C=>by
  have e:ar .add .i64 (s:Int) 1=((s+1:Nat):Int):=by rw[D4 za2 za2];omega
  rw[e,A1 (T9 za2)];simp only[L5,A4];rw[A2 (S2 M)]
  simp)]
 simp[L5]
def QX {β γ:Type} (T:Nat->Bool) (g:Nat->β) (h:β->γ):∀k i,(upT T g k i).map h=upT T (λi=>h (g i)) k i
 |0,i=>rfl
 |k+1,i=>by
  rw[Od,Od]
  by_cases j:T i=true
  ·rw[A2 j,A2 j,D9,QX T g h k (i+1)]
  rw[A1 j,A1 j,QX T g h k (i+1)]
def Az3 {β:Type} (T:Nat->Bool) (g:Nat->β):∀k i,(upT T g k i).length<=k
 |0,i=>B1 _
 |k+1,i=>by
  rw[Od];have:=Az3 T g k (i+1)
  grind
def Au3 {N:Nat} (hN:Bgn N) {l:Up A9} (hl:l.length<=10) (r:BP l=0) {p:A0} (R:FT p) (y:p.Op=0) {b:Up PR} {f:Nat} (z:Jq l b f):∃L,TL l p b f L/\ST N l p b f 3 L:=by
 have o:=z.f1;have G:=z.gd.len
 have K:∀j,j<l.length->Id l (Ce l (j:Int))=some j:=by
  intro j H;refine YZ za2 r H ?_
  simp_all[Aj,T8,Ce]
 have V:∀j (H:j<l.length),Ce l (j:Int)=⟨l[j].Time,l[j].Source,l[j].Seq⟩:=by
  simp_all[Ce]
 refine⟨upT (λi=>SH l p b i) (λi=>([⟨p.Var,(i:Int)⟩],⟨Ce l i,0,[]⟩)) (l.length-f) f,⟨?_,?_,?_⟩,⟨?_⟩⟩
 ·intro t d;obtain⟨j,O,Z,J,rfl⟩:=LD.1 d
  have H:j<l.length:=za2
  refine⟨?_,?_,?_,⟨⟨λx M=>?_,IQ _ _⟩,λx M=>?_,za4⟩⟩
  ·dsimp only
   rw[JY]
   simp_all[HP,Dj]
  ·rw[JW,A2 y,K j H]
   simp_all
  ·have:=X7 p;simp[Mz,IV];omega
  ·rw[List.mem_singleton.1 M];exact⟨R.self.var y,za8⟩
  simp_all
 ·rw[QX,<-QX (λi=>SH l p b i) (λi=>i) (λi=>(⟨Ce l (i:Int),0,[]⟩:A5))];have v:=Sv (T:=λi=>SH l p b i) (g:=λi:Nat=>i) (λi j h=>h) (k:=l.length-f) (i:=f)
  unfold Nodup at *
  rw[O3];refine v.imp_of_mem λ{a c} F X P e=>P ?_;obtain⟨j,O,Z,_,I⟩:=LD.1 F;obtain⟨Q,D,E,_,A⟩:=LD.1 X
  have w:Ce l (a:Int)=Ce l (c:Int):=by injection e
  have B:=K a za2;have C:=K c za2
  rw[w,C]at B
  simp_all
 ·intro s;rw[Sm.i0 y]
  constructor
  ·rintro⟨t,d,rfl⟩;obtain⟨j,O,Z,J,rfl⟩:=LD.1 d;exact⟨j,za2,za2,J,rfl⟩
  rintro⟨j,O,Z,J,rfl⟩;exact⟨_,LD.2 ⟨j,za2,za2,J,rfl⟩,rfl⟩
 intro n v;obtain⟨n,rfl⟩:∃m,n=m+3:=⟨n-3,za2⟩;refine PC hN rfl ?_ (by rw[E1];have:=Az3 (λi=>SH l p b i) (λi=>(([⟨p.Var,(i:Int)⟩],⟨Ce l i,0,[]⟩):TD)) (l.length-f) f;omega);rw[N1,A2 (S2 y)]
 dsimp only
 rw[VI (n:=l.length) (T:=λi=>SH l p b i) (g:=λi=>Mf ([⟨p.Var,(i:Int)⟩],⟨Ce l i,0,[]⟩)) (u:=()) (λi U=>by
  rw[A2 (T3 za2),UK hN (by rw[E1];omega) (by rw[J6];exact z.gd.wf) 0 R.self.cond U,J6];simp only[A4];rw[show ar .add .i64 (i:Int) 1=(i:Int)+1 from D4 za2 za2]
  by_cases q:SH l p b i=true
  ·rw[A2 q,A2 q,E8,C8 U];simp only[A4,Dw,L5];rw[V i U];rfl
  simp_all) (by rw[A1 AO]) (l.length-f) f N za2 za2]
 simp only[L5,A4,E5];rw[QX]
def Ay8 {l:Up A9} {p q:A0} {b:Up PR} {f:Int} {s:Up PR} {d:A5} {c:Int} (k:p.Op=2\/(5<=p.Op/\p.Op<=7)) (Q:q∈p.dD) (X:p.Op=2->0<=c/\c<p.dD.length/\p.dD[c.toNat]? =some q) (i:p.Op≠2->c=0/\p.dD=[q]) (W:5<=p.Op->Fx l p b s=true)
 (h:HR d q=0/\Oc l d q b f=some s/\HM d<=s.length*q.pre.length/\Hi l f s):
 HR ⟨⟨0,0,0⟩,c,[d]⟩ p=0/\Oc l ⟨⟨0,0,0⟩,c,[d]⟩ p b f=some s/\HM ⟨⟨0,0,0⟩,c,[d]⟩<=s.length*p.pre.length/\Hi l f s:=by
 obtain⟨O,Z,J,g⟩:=h;have e:=H9 Q
 have T:L8 p c 0=q:=by
  grind[L8]
 have a:¬Eh p:=by grind[Eh]
 refine⟨?_,?_,?_,g⟩
 ·rw[JY]
  grind[HP,Dj]
 ·rw[JW,A1 za2]
  dsimp only
  rw[AP];simp only[WY,GB,CA,a,H7,false_and,T];rw[Z];simp only[A4];rw[A1 (by simp[Ai]),ED]
  simp_all[EP]
 have C:=List.length_pos_iff.2 g.ne;have:s.length*(q.pre.length+1)<=s.length*p.pre.length:=NN _ e
 rw[DE,KF]at this
 simp only[HM,IV];omega
def IHT (N:Nat)(l:Up A9)(k:Nat):Prop:=∀(q:A0) (b:Up PR) (f:Nat),mu l q f<=k->q.pre.length<=64->FT q->KE l.length q->Jq l b f->∃L,TL l q b f L/\ST N l q b f (8*k+8) L
def wr (c:Int)(t:TD):TD:=(t.1,⟨⟨0,0,0⟩,c,[t.2]⟩)
def AD9 {α β:Type} (P:α->Bool) (g:α->β):∀L:Up α,L.flatMap (λx=>if P x=true then[g x]else[])=(L.filter P).map g
 |[]=>rfl
 |a::L=>by
  rw[X9,AD9 P g L,List.filter_cons]
  grind
def Aa7 {l:Up A9} {p q:A0} {b:Up PR} {f:Int} {L:Up TD} (a:5<=p.Op/\p.Op<=7) (Q:p.dD=[q]) (h:TL l q b f L):TL l p b f ((L.filter λt=>Fx l p b t.1).map (wr 0)):=by
 constructor
 ·intro t j;obtain⟨u,e,rfl⟩:=List.mem_map.1 j;obtain⟨O,Z⟩:=List.mem_filter.1 e;exact Ay8 (q:=q) (.inr a) (by rw[Q];simp) (λh=>za2) (λ_=>⟨rfl,Q⟩) (λ_=>Z) (h.tr u O)
 ·have O:((L.filter λt=>Fx l p b t.1).map (·.2)).Nodup:=List.Nodup.sublist ((List.filter_sublist).map _) h.nd;rw[M3]
  unfold Nodup at *
  rw[O3]at O ⊢
  simp_all[wr]
 intro s;rw[Sm.i5 a.1 a.2 Q,<-h.sm s]
 constructor
 ·rintro⟨t,j,rfl⟩;obtain⟨u,e,rfl⟩:=List.mem_map.1 j;obtain⟨O,Z⟩:=List.mem_filter.1 e;exact⟨⟨u,O,rfl⟩,Z⟩
 rintro⟨⟨t,j,rfl⟩,W⟩;exact⟨wr 0 t,DN (List.mem_filter.2 ⟨j,W⟩),rfl⟩
def AG8 {N:Nat} (hN:Bgn N) {l:Up A9} (hl:l.length<=10) (a:BP l=0) {p q:A0} (R:FT p) (i:p.pre.length<=64) (C:KE l.length p) (e:5<=p.Op/\p.Op<=7) (Q:p.dD=[q]) {b:Up PR} {f:Int} (z:Jq l b f) {L:Up TD} {m:Nat} (h:TL l q b f L) (H:ST N l q b f m L):
 ∀n,m+3<=n->F6 N n ⟨l,0⟩ p (b.map Q8) f=some (((L.filter λt=>Fx l p b t.1).map (wr 0)).map Mf):=by
 intro n P;obtain⟨n,rfl⟩:∃k,n=k+3:=⟨n-3,za2⟩;have x:=Aa7 e Q h;refine PC hN rfl ?_ (by rw[E1];exact x.few hl a R i C z);rw[N1,A1 (WJ za2),A1 (WJ za2),A1 (WJ za2),A1 (WJ za2)];simp only[L5,A4];rw[A1 (WJ za2),Q];have U:C7 [q] 0=some q:=rfl;rw[U];simp only[A4];rw[H.prg n za2];simp only[A4]
 rw[Kb (f:=λy:A8=>if Fx l p b (P6 y.s)=true then[(⟨⟨⟨0,0,0⟩,0,[y.d]⟩,y.s⟩:A8)]else[]) (λy K=>by
  obtain⟨t,j,rfl⟩:=List.mem_map.1 K;obtain⟨_,_,_,r⟩:=h.tr t j;have w:(Mf t).s=t.1.map Q8:=rfl;rw[w,Yr hN za2 R.self.cond e (by rw[J6];exact z.gd) (by rw[J6];exact r.gd) (by simpa using r.ne) (by rw[J6,J6];exact z.apart r) 0,J6,J6]
  grind)]
 simp only[A4];rw[A2 (S2 rfl),AD9 (λy:A8=>Fx l p b (P6 y.s))];simp only[A4,E5,List.filter_map,M3,I1]
 congr 1
 rw[Y0 (g:=Mf∘wr 0) (λt _=>by rfl)]
 congr 1
 apply List.filter_congr;intro t _;simp only[Function.comp,Mf,J6]
def Bd8 (F:Nat->Up TD)(m:Nat):Up TD:=(List.range m).flatMap λi=>(F i).map (wr (i:Int))
def Bd7 {l:Up A9} {p:A0} {b:Up PR} {f:Int} {F:Nat->Up TD} (a:p.Op=2) (h:∀i (U:i<p.dD.length),TL l p.dD[i] b f (F i)):TL l p b f (Bd8 F p.dD.length):=by
 constructor
 ·intro t g;obtain⟨i,U,g⟩:=List.mem_flatMap.1 g
  rw[CX]at U
  obtain⟨u,k,rfl⟩:=List.mem_map.1 g;exact Ay8 (q:=p.dD[i]) (.inl a) (F4 U) (λ_=>⟨za2,za2,by rw[W4,C8 U]⟩) (λh=>absurd a h) (λh=>za2) ((h i U).tr u k)
 ·unfold Bd8 Nodup;rw[O3,Ld]
  constructor
  ·intro i U
   rw[CX]at U
   have O:=(h i U).nd
   unfold Nodup at O
   rw[O3]at O ⊢
   simp_all[wr]
  refine DT (λ{i j} _ _ n=>?_) NV;intro x M y m e;obtain⟨u,_,rfl⟩:=List.mem_map.1 M;obtain⟨v,_,rfl⟩:=List.mem_map.1 m
  simp only[wr]at e
  grind
 intro s;rw[Sm.i2 a]
 constructor
 ·rintro⟨t,g,rfl⟩;obtain⟨i,U,g⟩:=List.mem_flatMap.1 g
  rw[CX]at U
  obtain⟨u,k,rfl⟩:=List.mem_map.1 g;exact⟨p.dD[i],F4 U,((h i U).sm _).1 ⟨u,k,rfl⟩⟩
 rintro⟨q,Q,C⟩;obtain⟨i,U,rfl⟩:=K1 Q;obtain⟨u,k,rfl⟩:=((h i U).sm _).2 C;exact⟨wr (i:Int) u,List.mem_flatMap.2 ⟨i,List.mem_range.2 U,DN k⟩,rfl⟩
def Bn9 {N:Nat} (hN:Bgn N) {l:Up A9} (hl:l.length<=10) (e:BP l=0) {p:A0} (R:FT p) (r:p.pre.length<=64) (C:KE l.length p) (g:p.Op=2) {b:Up PR} {f:Int} (z:Jq l b f) {F:Nat->Up TD} {m:Nat} (h:∀i (U:i<p.dD.length),TL l p.dD[i] b f (F i)) (x:∀i (U:i<p.dD.length),ST N l p.dD[i] b f m (F i)):
 ∀n,m+3<=n->F6 N n ⟨l,0⟩ p (b.map Q8) f=some ((Bd8 F p.dD.length).map Mf):=by
 intro n K;obtain⟨n,rfl⟩:∃k,n=k+3:=⟨n-3,za2⟩;have t:=Bd7 g h;have H:=X7 p;refine PC hN rfl ?_ (by rw[E1];exact t.few hl e R r C z);rw[N1,A1 (WJ za2),A2 (S2 g)]
 rw[AM5 (s0:=(0:Int)) (k:=p.dD.length) (λi=>(i:Int)) (λi=>((F i).map (wr (i:Int))).map Mf) [] () rfl za2 (λi U=>by
  rw[A2 (T3 za2),E8,C8 U];simp only[A4];rw[(x i U).prg n za2];simp only[A4];rw[Kb (f:=λy:A8=>[(⟨⟨⟨0,0,0⟩,(i:Int),[y.d]⟩,y.s⟩:A8)]) (λy P=>rfl)];simp only[L5,A4,E5];rw[show ar .add .i64 (i:Int) 1=((i+1:Nat):Int) by rw[D4 za2 za2];omega]
  congr 2
  rw[M3,NF]
  have:∀L:Up TD,L.flatMap (λa=>[(⟨⟨⟨0,0,0⟩,(i:Int),[(Mf a).d]⟩,(Mf a).s⟩:A8)])=L.map (Mf∘wr (i:Int)):=by
   intro L
   induction L with
   |nil=>rfl
   |cons a L ih=>rw[X9,ih];rfl
  simp_all) (by rw[A1 AO])]
 simp only[L5,A4];rw[A2 (S2 rfl)];simp only[A4,E5,Bd8,GT]
def ST.mono {N:Nat}{l:Up A9}{p:A0}{b:Up PR}{f:Int}{m a:Nat}{L:Up TD}(h:ST N l p b f m L)(E:m<=a):ST N l p b f a L:=⟨λn e=>h.prg n za2⟩
def AY7 {N:Nat} (hN:Bgn N) {l:Up A9} (hl:l.length<=10) (a:BP l=0) {k:Nat} (ih:IHT N l k) {p:A0} (R:FT p) (r:p.pre.length<=64) (C:KE l.length p) (y:p.Op=2\/(5<=p.Op/\p.Op<=7)) {b:Up PR} {f:Nat} (z:Jq l b f) (P:mu l p f<=k+1):∃L,TL l p b f L/\ST N l p b f (8*k+16) L:=by
 have x:∀i:Nat,∃L,∀U:i<p.dD.length,TL l p.dD[i] b f L/\ST N l p.dD[i] b f (8*k+8) L:=by
  intro i
  by_cases U:i<p.dD.length
  ·have Q:=F4 U;have t:=H9 Q;have:=LB (l:=l) (f:=f) (g:=f) t;obtain⟨L,O,Z⟩:=ih p.dD[i] b f za2 za2 (R.arg Q) (C.arg Q) z;exact⟨L,λ_=>⟨O,Z⟩⟩
  exact⟨[],λh=>absurd h U⟩
 obtain⟨F,e⟩:=Lf x
 have few:∀i,i<p.dD.length->(F i).length<=4096:=by
  intro i U;have Q:=F4 U;have t:=H9 Q;exact(e i U).1.few hl a (R.arg Q) za2 (C.arg Q) z
 rcases y with Z|H
 ·refine⟨Bd8 F p.dD.length,Bd7 Z λi U=>(e i U).1,⟨λn V=>?_⟩⟩
  ·exact Bn9 hN hl a R r C Z z (λi U=>(e i U).1) (λi U=>(e i U).2) n za2
 obtain⟨q,Q⟩:=R.self.a2 za2
 have K:0<p.dD.length:=by rw[Q];simp
 have e0:p.dD[0]=q:=by simp[Q]
 have t0:=e 0 K
 rw[e0]at t0
 refine⟨_,Aa7 H Q t0.1,⟨λn V=>?_⟩⟩;exact AG8 hN hl a R r C H Q z t0.1 t0.2 n za2
def Aa9 (l:Up A9) (p:A0) (c:Int) (b:Up PR) (f:Int):∀(ks a:Up A5) (i:Nat) (s:Up PR),EP l (ks++a) p c i b f s=(EP l ks p c i b f s).bind λt=>EP l a p c (i+ks.length) b f t
 |[],a,i,s=>by rw[I1,EP];rfl
 | k::ks,a,i,s=>by
  rw[V1,AP,AP]
  cases WY l p c b f k i s with
  |none=>rfl
  |some t=>
   simp only[A4];rw[Aa9 l p c b f ks a (i+1) t,N3,show i+1+ks.length=i+(ks.length+1) by omega]
def Ac2 (p:A0) (c:Int):∀(ks a:Up A5) (i:Nat),Dj (ks++a) p c i=if Dj ks p c i=0 then Dj a p c (i+ks.length)else Dj ks p c i
 |[],a,i=>by rw[I1,Dj,A2 rfl];rfl
 |k::ks,a,i=>by
  rw[V1,Dj,Dj]
  by_cases h:HR k (L8 p c i)=0
  ·rw[A2 h,A2 h,Ac2 p c ks a (i+1),N3,show i+1+ks.length=i+(ks.length+1) by omega]
  omega
def Bc9 {a b:Up PR}(T:WK a)(A:WK b)(p:a.Perm b):a=b:=by
 refine IS (le:=λx y:PR=>x.At<y.At) (λx y _ _ O Z=>za2) T A p
def He {a b c:Up PR}(T:WK a)(A:WK b)(X:WK c)(O:S9 a b)(Z:S9 a c)(J:S9 b c):mrg (mrg a b) c=mrg a (mrg b c):=by
 have e:=JD _ (B1 _) T A O;have g:=JD _ (B1 _) A X J;have i:S9 (mrg a b) c:=λx M y m=>(N4.1 M).elim (λh=>Z x h y m) λh=>J x h y m;have k:S9 a (mrg b c):=λx M y m=>(N4.1 m).elim (λh=>O x M y h) λh=>Z x M y h;refine Bc9 (JD _ (B1 _) e X i) (JD _ (B1 _) T g k) ?_;refine(Ft _ _ _ (B1 _)).trans (((Ft _ a b (B1 _)).append_right c).trans ?_);rw[D2];exact(((Ft _ b c (B1 _)).append_left a).symm).trans (Ft _ _ _ (B1 _)).symm
structure CK (l:List A9) (p:A0) (b:List PR) (f:Int) (j:Nat) (s s':List PR) (ks:List A5):Prop where
 su:Dj ks p 0 j=0
 vl:EP l ks p 0 j b f s=some (mrg s s')
 sz:IV ks<=s'.length*(p.pre.length-1)
 res:Hi l (CA p f s) s'
 ap:S9 s s'
abbrev CD:=Up PR×Up A5
def Am7 {N:Nat}{L:Up A5}(h:L.length<=1000000):S5 N L=some L:=by
 unfold S5;rw[AW za6];rfl
def XO {N:Nat}{n:Nat}{x:F2}{p:A0}{o:Up DP}{f:Int}{kids:Up A5}{s:Up DP}(a:p.Op≠4)(W:kids.length=p.dD.length)(hl:kids.length<=1000000):E9 N (n+1) x p o f kids s=some [⟨⟨⟨0,0,0⟩,0,kids⟩,s⟩]:=by
 rw[E9,A2 (by rw[W9,O5,O9 a,S2 (by rw[B4,B4,W])];rfl),Am7 hl];simp only[L5,A4];rw[A2 (O9 a)];simp
def Ps {N :Nat} (hN:Bgn N) {l:Up A9} (hl:l.length<=10) {n:Nat} {p q:A0} {b:Up PR} {f:Int} {kids:Up A5} {s:Up PR} {L:Up TD} {E:TD->Up A8} (c:Gd l b) (h:Gd l s) (i:p.Op≠3->S9 b s) (v:kids.length<=100000) (a:p.dD≠[])
 (B:¬((p.Op≠4/\kids.length=p.dD.length)\/(p.Op=4/\0<kids.length))) (Q:C7 p.dD (ar .rem .i64 (kids.length:Int) (Ar.len p.dD))=some q)
 (o:F6 N n ⟨l,0⟩ q ((if p.Op≠3 then mrg b s else b).map Q8) f=some (L.map Mf)) (u:∀t∈L,Gd l t.1/\t.1≠[])
 (D:∀t∈L,S9 s t.1->E9 N n ⟨l,0⟩ p (b.map Q8) (if p.Op≠3 then V3 t.1+1 else f) (kids++[t.2]) ((mrg s t.1).map Q8)=some (E t)):
 E9 N (n+1) ⟨l,0⟩ p (b.map Q8) f kids (s.map Q8)=some (L.flatMap λt=>if Ai s t.1=true then[]else E t):=by
 rw[E9,A1 (by
  rw[W9,O5,O5,BE,K0,K0,R8,F5,F5,EK,B4,B4]
  grind)]
 simp only[L5,A4]
 have w :  ((if cmp .neq p.Op 3=true then
           (J4 N (b.map Q8) (s.map Q8)).bind λk=>
           some (([]:Up A8),k)
  else
   some ([],b.map Q8)):OS (Up A8×(((Up A7)))))=some ([],(if p.Op≠3 then mrg b s else b).map Q8):=by
  by_cases J:p.Op=3
  ·rw[A1 (K7 J),A1 za2]
  rw[A2 (O9 J),A2 J,Pw hN (l:=l) za2 (by rw[J6];exact c) (by rw[J6];exact h) (by rw[J6,J6];exact i J),J6,J6];rfl
 rw[w];simp only[A4]
 have C:El (cmp .neq (Ar.len p.dD) 0)=some ():=by
  unfold El;rw[A2 (O9 (by rw[B4];have:=List.length_pos_iff.2 a;omega))]
 rw[C];simp only[A4];rw[B4 kids,Q];simp only[A4];rw[o];simp only[A4]
 rw [Kb (f := λy:A8=>if Ai s (P6 y.s)=true then[]else E (P6 y.s,y.d)) (λy m=>by
  obtain⟨t,j,rfl⟩:=List.mem_map.1 m;obtain⟨g,V⟩:=u t j;have A:=g.len;have z:=h.len;have e2:(Mf t).s=t.1.map Q8:=rfl;have H:(Mf t).d=t.2:=rfl;have e4:P6 (t.1.map Q8)=t.1:=J6 _;have x:=g.lst V
  have K : (( if cmp .neq p.Op 3=true then
              (V6 N (t.1.map Q8)).bind λr=>
              some (([]:Up A8),r)
   else
    some ([],f)):OS (Up A8×(Int)))=some ([],if p.Op≠3 then V3 t.1+1 else f):=by
   by_cases J:p.Op=3
   ·rw[A1 (K7 J),A1 za2]
   rw[A2 (O9 J),A2 J,QG za7 (by rw[E1];omega) (by rw[e4];omega),e4];rfl
  rw[e2,H,K,Wm hN (by rw[E1];omega) (by rw[E1];omega),J6,e4];simp only[A4]
  by_cases e:Ai s t.1=true
  ·rw[A2 e,e];rfl
  rw[A1 e]
  rw[BF]at e
  have d:=W0.1 e;rw[e,A1 (by simp[X5])]
  have P:R6 kids none (some (Ar.len kids)) (some (Ar.len kids))=some kids:=by
   unfold R6;rw[A2 (by simp[B4])];simp[B4]
  rw[<-B4 kids,P];simp only[A4];rw[AW za6,Pw hN (l:=l) za2 (by rw[J6];exact h) (by rw[e4];exact g) (by rw[J6,e4];exact d),J6,e4]
  simp_all)]
 simp only[A4];rw[A2 (S2 rfl)];simp only[A4,E5,I1,NF]
 congr 2
 funext t
 have e4:P6 (Mf t).s=t.1:=J6 _;rw[e4];rfl
def PD {p q:A0}{rest:Up A0}(O:p.Op=1)(T:p.dD=q::rest){i:Nat}(U:i<rest.length):L8 p 0 (i+1)=L8 {p with dD:=rest} 0 i:=by
 simp_all[L8]
def Ut {a b:Up PR}(h:a≠[]):mrg a b≠[]:=λe=>by
 have O:=G2 List.length e
 rw[ML,Ay]at O
 have:=List.length_pos_iff.2 h;omega
def UF {l:Up A9} (hl:l.length<=4096) (n:BP l=0) {p q:A0} {rest:Up A0} (O:p.Op=1) (T:p.dD=q::rest) {b t:Up PR} {f:Int} (V:Jq l b f) (e:Hi l f t):
 ∀(ks:Up A5) (i:Nat) (u:Up PR),i+ks.length<=rest.length->(∀k∈ks,HM k<=4096)->(∀j (h:j<ks.length),HR ks[j] (L8 p 0 (i+1+j))=0/\FT (L8 p 0 (i+1+j))/\(L8 p 0 (i+1+j)).pre.length<=64)->(u=[]\/Hi l (V3 t+1) u)->
  EP l ks p 0 (i+1) b f (mrg t u)=(EP l ks {p with dD:=rest} 0 i (mrg b t) (V3 t+1) u).map (mrg t ·)
 |[],i,u,_,_,_,_=>by rw[EP,EP];rfl
 | k::ks,i,u,U,G,W,H=>by
  have v:=V.apart e;have B:Jq l (mrg b t) (V3 t+1):=V.next e;have D:WK u:=H.elim (λh=>h▸List.Pairwise.nil) λh=>h.gd.asc;have K:S9 (mrg b t) u:=H.elim (λh=>h▸λ_ _ y m=>absurd m Cq) λh=>B.apart h;have L:S9 b u:=λx M y m=>K x (N4.2 (.inl M)) y m;have I:S9 t u:=λx M y m=>K x (N4.2 (.inr M)) y m;have s:Eh p:=.inl O;have Q:Eh {p with dD:=rest}:=.inl O
  have c:Hi l f (mrg t u):=by
   rcases H with rfl|H
   ·rw[AN];exact e
   exact(e.seq H).1
  have P:V3 (mrg t u)=if u≠[]then V3 u else V3 t:=by
   by_cases r:u=[]
   ·rw[A1 (λh=>h r),r,AN]
   rw[A2 r];exact VG (.inr e) (f:=f) (by rw[A2 e.ne];simp_all)
  have R:GB p b (mrg t u)=GB {p with dD:=rest} (mrg b t) u:=by
   unfold GB;rw[A2 s,A2 Q,He V.gd.asc e.gd.asc D v L I]
  have E:CA p f (mrg t u)=CA {p with dD:=rest} (V3 t+1) u:=by
   unfold CA;rw[A2 ⟨s,Ut e.ne⟩,P]
   grind
  rw[N3]at U
  have g:=W 0 za4
  simp only[Td,BC]at g
  rw[AP,AP,WY,WY,<-PD O T za2,<-R,<-E]
  cases S:Oc l k (L8 p 0 (i+1)) (GB p b (mrg t u)) (CA p f (mrg t u))with
  |none=>rfl
  | some x=>
   simp only[A4];have M:=YG hl n (G k za4) g.2.1 g.2.2 g.1 (Ri V (.inr c)) S
   have w:∀y∈mrg t u,∀z∈x,y.At<z.At:=by
    intro y m z a;have:=Kw c.gd.asc y m;have F:=M.ge z a
    unfold CA at F
    rw[A2 ⟨s,Ut e.ne⟩]at F
    omega
   have d:S9 (mrg t u) x:=λy m z a=>by have:=w y m z a;omega
   have o:S9 u x:=λy m z a=>d y (N4.2 (.inr m)) z a;have J:S9 t x:=λy m z a=>d y (N4.2 (.inl m)) z a;rw[A1 (by rw[W0.2 d];simp),A1 (by rw[W0.2 o];simp)];simp only[A4];rw[He e.gd.asc D M.gd.asc I J o];refine UF hl n O T V e ks (i+1) (mrg u x) za2 (λk' A=>G k' (by simp[A])) (λj X=>?_) (.inr ?_)
   ·have:=W (j+1) za7
    grind
   have C:Hi l (CA {p with dD:=rest} (V3 t+1) u) x:=by rw[<-E];exact M
   exact Rf H C (W0.2 o)
def UO {p q:A0} {rest:Up A0} (O:p.Op=1) (T:p.dD=q::rest):∀(ks:Up A5) (i:Nat),i+ks.length<=rest.length->Dj ks p 0 (i+1)=Dj ks {p with dD:=rest} 0 i
 |[],i,_=>by rw[Dj,Dj]
 |k::ks,i,h=>by
  rw[N3]at h
  rw[Dj,Dj,PD O T za2,UO O T ks (i+1) za2]
def Bt3 {l:Up A9} (hl:l.length<=10) (a:BP l=0) {p q:A0} {rest:Up A0} (R:FT p) (F:p.pre.length<=64) (O:p.Op=1) (T:p.dD=q::rest) {b:Up PR} {f:Int} (z:Jq l b f) {t:TD} {s:Up PR} {ks:Up A5}
 (J:HR t.2 q=0/\Oc l t.2 q b f=some t.1/\HM t.2<=t.1.length*q.pre.length/\Hi l f t.1)
 (X:HR ⟨⟨0,0,0⟩,0,ks⟩ {p with dD:=rest}=0/\Oc l ⟨⟨0,0,0⟩,0,ks⟩ {p with dD:=rest} (mrg b t.1) (V3 t.1+1)=some s/\HM ⟨⟨0,0,0⟩,0,ks⟩<=s.length*({p with dD:=rest}:A0).pre.length/\Hi l (V3 t.1+1) s):
 HR ⟨⟨0,0,0⟩,0,t.2::ks⟩ p=0/\Oc l ⟨⟨0,0,0⟩,0,t.2::ks⟩ p b f=some (mrg t.1 s)/\HM ⟨⟨0,0,0⟩,0,t.2::ks⟩<=(mrg t.1 s).length*p.pre.length/\Hi l f (mrg t.1 s):=by
 obtain⟨S,Q,U,V⟩:=J;obtain⟨n,A,c3,c4⟩:=X;have i:=Fj n;have P:({p with dD:=rest}:A0).Op=1:=O;have d:=i.n
 unfold HP at d
 rw[A1 za2,A2 (.inl P)]at d
 have B:ks.length=rest.length:=by
  simp_all
 have K:q∈p.dD:=by rw[T];simp
 have G:=H9 K
 have g:p.pre.length=q.pre.length+({p with dD:=rest}:A0).pre.length:=by
  rw[A0.pre_eq p,A0.pre_eq {p with dD:=rest},T]
  grind[A0.pres]
 have v:L8 p 0 0=q:=by simp_all[L8]
 have I:=V.seq c4;have D:=V.gd.len;have C:=c4.gd.len;have m:t.1.length*q.pre.length<=10*64:=Ax za2 za2;have o:s.length*({p with dD:=rest}:A0).pre.length<=10*64:=Ax za2 za2
 have y:∀k∈ks,HM k<=4096:=λk W=>by have:=Gj W;grind[HM]
 have c:=Jz n
 have L:Dj ks p 0 (0+1)=0:=by
  rw[UO O T ks 0 za2]
  rw[JY]at n
  grind
 refine⟨?_,?_,?_,I.1⟩
 ·rw[JY]
  simp_all[HP,Dj]
 ·rw[JW,A1 za2]
  dsimp only
  rw[AP,WY,v]
  have w:GB p b []=b:=by unfold GB;rw[A2 (.inl O),AN]
  have e2:CA p f []=f:=by simp[CA]
  rw[w,e2,Q];simp only[A4];rw[A1 (by simp[Ai]),ED];simp only[A4]
  have h:=UF za2 a O T z V ks 0 [] za2 y (λj u=>by
   have E:=J0 (R.sub (r:=rest) za2 za2 (λx M=>by rw[T];simp[M]) za7).self i.n u i.c;have H:=E.1
   rw[<-PD O T za2]at H
   have e:L8 p 0 (j+1)∈p.dD:=by rw[T];simp_all
   have:=H9 e;rw[show 0+1+j=j+1 by omega]
   exact⟨by rw[PD O T za2];exact i.k j u,R.arg e,za2⟩) (.inl rfl)
  rw[AN]at h
  rw[h]
  rw[JW,A1 za2]at A
  simp_all
 simp only[HM,IV]at *
 rw[ML,g,E2,DE,DE];omega
def AH5 {m:Nat} {p:A0} {r:Up A0} (h:KE m p) (s:p.Op≠4) (f:∀q∈r,q∈p.dD) (Y:AU {p with dD:=r}<=AU p) (C:UC m {p with dD:=r}):KE m {p with dD:=r}:=by
 have g:∀y∈({p with dD:=r}:A0).pre,y.Op=4->y∈p.pre:=by
  intro y b e
  rw[A0.pre_eq]at b ⊢
  rcases List.mem_cons.1 b with rfl|b
  ·simp_all
  obtain⟨a,T,b⟩:=Ae.1 b;exact Gw _ (Ae.2 ⟨a,f a T,b⟩)
 refine⟨C,?_⟩
 rcases h.2 with h|⟨O,Z⟩
 ·grind[L1]
 exact .inr ⟨λy b e=>O y (g y b e) e,P8 (La za2 m) Z⟩
def KE.tail {m:Nat}{p q:A0}{r:Up A0}(h:KE m p)(s:p.Op≠4)(T:p.dD=q::r):KE m {p with dD:=r}:=by
 refine AH5 h s (λx M=>by rw[T];simp_all) ?_ (h.1.tail T);rw[RA,Ij,T];simp[A0.pres]
def IsK (t:TD):Prop:=t.2=⟨⟨0,0,0⟩,0,t.2.Kids⟩
def sk (kids:Up A5)(s:Up PR)(t:TD):TD:=(mrg s t.1,⟨⟨0,0,0⟩,0,kids++t.2.Kids⟩)
def jn (t u:TD):TD:=(mrg t.1 u.1,⟨⟨0,0,0⟩,0,t.2::u.2.Kids⟩)
def AV9 {l:Up A9} {p q:A0} (O:p.Op=1\/p.Op=4\/p.Op=3) (T:p.dD=[q]) {b:Up PR} {f:Int} {t:TD} (h:HR t.2 q=0/\Oc l t.2 q b f=some t.1/\HM t.2<=t.1.length*q.pre.length/\Hi l f t.1):
 HR (wr 0 t).2 p=0/\Oc l (wr 0 t).2 p b f=some (wr 0 t).1/\HM (wr 0 t).2<=(wr 0 t).1.length*p.pre.length/\Hi l f (wr 0 t).1:=by
 obtain⟨i,k,n,g⟩:=h;have a:=H9 (show q∈p.dD by rw[T];simp)
 have e:L8 p 0 0=q:=by
  simp_all[L8]
 refine⟨?_,?_,?_,g⟩
 ·show HR ⟨⟨0,0,0⟩,0,[t.2]⟩ p=0
  rw[JY]
  dsimp only
  rw[A1 (by
   omega),A1 za2,A1 (by
   unfold HP;rw[A1 za2,T]
   simp_all),Dj,e,A2 i,Dj]
 ·show Oc l ⟨⟨0,0,0⟩,0,[t.2]⟩ p b f=some t.1
  rw[JW,A1 za2]
  dsimp only
  have w:GB p b []=b:=by unfold GB;rw[AN];split<;>rfl
  have e2:CA p f []=f:=by simp[CA]
  rw[AP,WY,e,w,e2,k];simp only[A4];rw[A1 (by simp[Ai]),ED];simp only[A4,EP];rw[A1 (λh=>by have:=h.1;omega)]
 have C:=List.length_pos_iff.2 g.ne;have:t.1.length*(q.pre.length+1)<=t.1.length*p.pre.length:=NN _ a
 rw[DE,KF]at this
 simp only[wr,HM,IV];omega
def AW0 {l:Up A9} {p q:A0} (O:p.Op=1\/p.Op=3) (T:p.dD=[q]) {b:Up PR} {f:Int} {L:Up TD} (h:TL l q b f L):TL l p b f (L.map (wr 0)):=by
 constructor
 ·intro t j;obtain⟨u,a,rfl⟩:=List.mem_map.1 j;exact AV9 (O.elim .inl λh=>.inr (.inr h)) T (h.tr u a)
 ·have O:=h.nd;rw[M3]
  unfold Nodup at *
  rw[O3]at O ⊢
  simp_all[wr]
 intro s;rw[show Sm l p b f s<->Sm l q b f s from O.elim (λe=>Sm.i1 e T) λe=>Sm.i3 e T,<-h.sm s]
 constructor
 ·rintro⟨t,j,rfl⟩;obtain⟨u,a,rfl⟩:=List.mem_map.1 j;exact⟨u,a,rfl⟩
 rintro⟨u,a,rfl⟩;exact⟨wr 0 u,DN a,rfl⟩
def Br4 {L:Up TD} {F:TD->Up TD} (h:(L.map (·.2)).Nodup) (i:∀t∈L,((F t).map (·.2)).Nodup/\∀u∈F t,IsK u):((L.flatMap λt=>(F t).map (jn t)).map (·.2)).Nodup:=by
 unfold Nodup at *
 rw[O3]at h
 rw[O3,Ld]
 constructor
 ·intro t j;obtain⟨O,Z⟩:=i t j
  rw[O3]at O ⊢
  refine O.imp_of_mem λ{a c} T X b e=>b ?_
  simp only[jn]at e
  injection e with _ _ g
  rw[Z a T,Z c X,(Nv g).2]
 refine h.imp λ{a c} b=>?_;intro x M y m e;obtain⟨u,_,rfl⟩:=List.mem_map.1 M;obtain⟨v,_,rfl⟩:=List.mem_map.1 m
 simp_all[jn]
def MO {α β:Type}{g h:α->Up β}:∀{L:Up α},(∀a∈L,g a=h a)->L.flatMap g=L.flatMap h
 |[],_=>rfl
 |a::L,k=>by rw[X9,X9,k a za4,MO λx M=>k x (by simp[M])]
structure Ys (N:Nat) (l:List A9) (p:A0) (b:List PR) (f:Nat) (m:Nat) (L:List TD):Prop where
 tl:TL l p b f L
 k:∀t∈L,IsK t
 prg:∀(p0:A0) (pre:List A0) (kids:List A5) (b0 s0:List PR),p0.Op=1->p0.dD=pre++p.dD->kids.length=pre.length->p0.dD.length<=100->Gd l b0->Gd l s0->S9 b0 s0->b=mrg b0 s0->∀n,m+1<=n->E9 N n ⟨l,0⟩ p0 (b0.map Q8) f kids (s0.map Q8)=some ((L.map (sk kids s0)).map Mf)
def AA5 {pre args:Up A0}{q:A0}{r:Up A0}(T:args=q::r)(h:(pre++args).length<=100):C7 (pre++args) (ar .rem .i64 (pre.length:Int) (Ar.len (pre++args)))=some q:=by
 have hl:pre.length<(pre++args).length:=by rw[K8,T,N3];omega
 have e:ar .rem .i64 (pre.length:Int) (Ar.len (pre++args))=((pre.length:Nat):Int):=Sk za2 (by rw[B4];omega);rw[e,E8,HW (B1 _),Nat.sub_self,T];rfl
def Bg7 {N:Nat} (hN:Bgn N) {l:Up A9} (hl:l.length<=10) (i:BP l=0) {p q:A0} (O:p.Op=1) (T:p.dD=[q]) (R:FT p) (B:p.pre.length<=64) (C:KE l.length p) {b:Up PR} {f:Nat} (z:Jq l b f) {L:Up TD} {m:Nat} (h:TL l q b f L) (v:ST N l q b f m L):Ys N l p b f (m+1) (L.map (wr 0)):=by
 have g:q∈p.dD:=by rw[T];simp
 have D:=H9 g;have P:=h.few hl i (R.arg g) za2 (C.arg g) z;refine⟨AW0 (.inl O) T h,λt j=>?_,?_⟩
 ·obtain⟨u,_,rfl⟩:=List.mem_map.1 j;rfl
 intro G pre kids I s0 o e W H c d K A n J;obtain⟨n,rfl⟩:∃k,n=k+2:=⟨n-2,za2⟩
 have w:G.dD.length=pre.length+1:=by rw[e,T];simp
 rw[Ps hN hl (q:=q) (L:=L) (E:=λt=>[Mf (sk kids s0 (wr 0 t))]) c d (λ_=>K) za2 za8 (by rintro(⟨_,h⟩|⟨h,_⟩)<;>omega) (by rw[W,e,T];exact AA5 rfl (by rw[<-T,<-e];exact H)) (by rw[A2 za2,<-A];exact v.prg _ za2) (λt j=>by
  obtain⟨_,_,_,r⟩:=h.tr t j
  exact⟨r.gd,r.ne⟩) (λt j _=>by
  rw[XO za2 (by rw[K8,BL];omega) (by rw[K8,BL];omega)]
  rfl)]
 congr 1
 rw[M3,M3]
 have:∀L':Up TD,(∀t∈L',t∈L)->L'.flatMap (λt=>if Ai s0 t.1=true then[]else[Mf (sk kids s0 (wr 0 t))])=L'.map (Mf∘sk kids s0∘wr 0):=by
  intro L'
  induction L' with
  |nil=>intro _;rfl
  |cons a L' ih=>
   intro V;obtain⟨_,_,_,r⟩:=h.tr a (V a za4);have s:S9 s0 a.1:=λx M y F=>z.apart r x (by rw[A];exact N4.2 (.inr M)) y F;rw[X9,ih λt j=>V t (by simp[j]),A1 (by rw[W0.2 s];simp)];rfl
 simp_all
def AU2 {N:Nat} (hN:Bgn N) {l:Up A9} (hl:l.length<=10) (w:BP l=0) {p q:A0} {rest:Up A0} (O:p.Op=1) (J:rest≠[]) (T:p.dD=q::rest) (R:FT p) (ac:p.pre.length<=64) (C:KE l.length p) {b:Up PR} {f:Nat} (z:Jq l b f) {L:Up TD} {m:Nat} (h:TL l q b f L) (hL:ST N l q b f m L) {F:TD->Up TD}
 (hF:∀t∈L,∀g:Nat,V3 t.1+1=(g:Int)->Ys N l {p with dD:=rest} (mrg b t.1) g m (F t)):Ys N l p b f (m+1) (L.flatMap λt=>(F t).map (jn t)):=by
 have D:q∈p.dD:=by rw[T];simp
 have ah:=H9 D;have ai:=Pd T;have af:=X7 p;have ad:=h.few hl w (R.arg D) za2 (C.arg D) z;have al:FT {p with dD:=rest}:=R.sub za2 za2 (λx M=>by rw[T];simp[M]) J;have ak:KE l.length {p with dD:=rest}:=C.tail za2 T
 have K:∀t∈L,∃g:Nat,V3 t.1+1=(g:Int)/\Ys N l {p with dD:=rest} (mrg b t.1) g m (F t)/\Jq l (mrg b t.1) (g:Int):=by
  intro t j;obtain⟨_,_,_,P⟩:=h.tr t j;obtain⟨g,K,_,_⟩:=Pp P z.f0;exact⟨g,K,hF t j g K,by rw[<-K];exact z.next P⟩
 refine⟨⟨λt j=>?_,Br4 h.nd λt j=>?_,λs=>?_⟩,λt j=>?_,?_⟩
 ·obtain⟨t,H,j⟩:=List.mem_flatMap.1 j;obtain⟨u,d,rfl⟩:=List.mem_map.1 j;obtain⟨g,i,e,_⟩:=K t H;have c:=e.tl.tr u d
  rw[e.k u d,<-i]at c
  exact Bt3 hl w R ac O T z (h.tr t H) c
 ·obtain⟨g,i,e,_⟩:=K t j;exact⟨e.tl.nd,e.k⟩
 ·obtain⟨q',r,rfl⟩:∃q' r,rest=q'::r:=by cases rest<;>simp_all
  rw[Sm.i1c O T]
  constructor
  ·rintro⟨x,M,rfl⟩;obtain⟨t,H,M⟩:=List.mem_flatMap.1 M;obtain⟨u,d,rfl⟩:=List.mem_map.1 M;obtain⟨g,i,e,_⟩:=K t H;exact⟨t.1,u.1,(h.sm _).1 ⟨t,H,rfl⟩,by rw[i];exact(e.tl.sm _).1 ⟨u,d,rfl⟩,rfl⟩
  rintro⟨a,c,ab,X,rfl⟩;obtain⟨t,H,rfl⟩:=(h.sm _).2 ab;obtain⟨g,i,e,_⟩:=K t H
  rw[i]at X
  obtain⟨u,d,rfl⟩:=(e.tl.sm _).2 X;exact⟨jn t u,List.mem_flatMap.2 ⟨t,H,DN d⟩,rfl⟩
 ·obtain⟨t,H,j⟩:=List.mem_flatMap.1 j;obtain⟨u,d,rfl⟩:=List.mem_map.1 j;rfl
 intro p0 pre kids b0 s0 aa V W v Z U B A n hn;obtain⟨n,rfl⟩:∃k,n=k+1:=⟨n-1,za2⟩;have aj:=List.length_pos_iff.2 J
 have ag:p0.dD.length=pre.length+rest.length+1:=by rw[V,T];simp;omega
 have hA:∀t∈L,S9 s0 t.1/\S9 b0 t.1/\Gd l t.1:=by
  intro t j;obtain⟨_,_,_,P⟩:=h.tr t j;exact⟨λx M y o=>z.apart P x (by rw[A];exact N4.2 (.inr M)) y o,λx M y o=>z.apart P x (by rw[A];exact N4.2 (.inl M)) y o,P.gd⟩
 rw[Ps hN hl (q:=q) (L:=L) (E:=λt=>((F t).map (sk (kids++[t.2]) (mrg s0 t.1))).map Mf) Z U (λ_=>B) za2 za8 (by rintro(⟨_,h⟩|⟨h,_⟩)<;>omega) (by rw[W,V,T];exact AA5 rfl (by rw[<-T,<-V];exact v)) (by rw[A2 za2,<-A];exact hL.prg _ za2) (λt j=>by
  obtain⟨_,_,_,P⟩:=h.tr t j
  exact⟨P.gd,P.ne⟩) (λt j ae=>by
  obtain⟨g,i,e,I⟩:=K t j;obtain⟨G,Y,S⟩:=hA t j;rw[A2 za2,i]
  exact e.prg p0 (pre++[q]) (kids++[t.2]) b0 (mrg s0 t.1) aa (by rw[V,T];simp) (by simp[W]) v Z (U.mrg S G) (λx M y o=>(N4.1 o).elim (λh=>B x M y h) λh=>Y x M y h) (by rw[A,He Z.asc U.asc S.asc B Y G]) n za2)]
 congr 1
 rw[GT,GT];refine MO λt j=>?_;obtain⟨G,Y,S⟩:=hA t j;rw[A1 (by rw[W0.2 G];simp),M3,M3,M3];refine Y0 λu d=>?_;obtain⟨g,i,e,I⟩:=K t j;obtain⟨_,_,_,P⟩:=h.tr t j;obtain⟨_,_,_,Q⟩:=e.tl.tr u d;have a4:=I.apart Q;simp only[Function.comp,sk,jn,Mf];rw[He U.asc S.asc Q.gd.asc G (λx M y o=>a4 x (N4.2 (.inl (by rw[A];exact N4.2 (.inr M)))) y o) (λx M y o=>a4 x (N4.2 (.inr M)) y o)];simp
def Ae1 {N:Nat} (hN:Bgn N) {l:Up A9} (hl:l.length<=10) (e:BP l=0) {k:Nat} (ih:IHT N l k):∀(args:Up A0) (p:A0) (b:Up PR) (f:Nat),p.Op=1->p.dD=args->args≠[]->FT p->p.pre.length<=64->KE l.length p->Jq l b f->(∀q∈args,∀g,mu l q g<=k)->∃L,Ys N l p b f (8*k+8+args.length) L
 |[],p,b,f,_,_,h,_,_,_,_,_=>absurd rfl h
 |[q],p,b,f,O,T,_,R,i,C,z,W=>by
  have a:q∈p.dD:=by rw[T];simp
  have P:=H9 a;obtain⟨L,y,H⟩:=ih q b f (W q za4 f) za2 (R.arg a) (C.arg a) z;exact⟨_,Bg7 hN hl e O T R i C z y H⟩
 | q ::n::r,p,b,f,O,T,_,R,i,C,z,W=>by
  have a:q∈p.dD:=by rw[T];simp
  have P:=H9 a;have s:=Pd T;obtain⟨L,y,H⟩:=ih q b f (W q za4 f) za2 (R.arg a) (C.arg a) z
  have K:∀t:TD,∃F,t∈L->∀g:Nat,V3 t.1+1=(g:Int)->Ys N l {p with dD:=n::r} (mrg b t.1) g (8*k+8+(n::r).length) F:=by
   intro t
   by_cases j:t∈L
   ·obtain⟨_,_,_,c⟩:=y.tr t j;obtain⟨g,d,_,_⟩:=Pp c z.f0;obtain⟨F,V⟩:=Ae1 hN hl e ih (n::r) {p with dD:=n::r} (mrg b t.1) g O rfl za4 (R.sub za2 za2 (λx M=>by rw[T];simp_all) za4) za2 (C.tail za2 T) (by rw[<-d];exact z.next c) (λx M g=>W x (Gw _ M) g)
    exact⟨F,λ_ g' o=>by
     grind⟩
   simp_all
  obtain⟨F,V⟩:=Lf K;exact⟨_,AU2 (m:=8*k+8+(n::r).length) hN hl e O za4 T R i C z y (H.mono za2) V⟩
def Tt {l:Up A9} (hl:l.length<=4096) (e:BP l=0) {p q:A0} (s:p.Op=4) (Q:∀i,L8 p 0 i=q) (c:FT q) (V:q.pre.length<=64) {b t:Up PR} {f:Int} (P:Jq l b f) (j:Hi l f t):
 ∀(ks:Up A5) (i:Nat) (u:Up PR),(∀k∈ks,HM k<=4096)->(∀k∈ks,HR k q=0)->(u=[]\/Hi l (V3 t+1) u)->
  EP l ks p 0 (i+1) b f (mrg t u)=(EP l ks p 0 i (mrg b t) (V3 t+1) u).map (mrg t ·)
 |[],i,u,_,_,_=>by rw[EP,EP];rfl
 | k::ks,i,u,J,W,r=>by
  have A:=P.apart j;have D:Jq l (mrg b t) (V3 t+1):=P.next j;have F:WK u:=r.elim (λh=>h▸List.Pairwise.nil) λh=>h.gd.asc;have H:S9 (mrg b t) u:=r.elim (λh=>h▸λ_ _ y m=>absurd m Cq) λh=>D.apart h;have R:S9 b u:=λx M y m=>H x (N4.2 (.inl M)) y m;have L:S9 t u:=λx M y m=>H x (N4.2 (.inr M)) y m;have o:Eh p:=.inr s
  have d:Hi l f (mrg t u):=by
   rcases r with rfl|r
   ·rw[AN];exact j
   exact(j.seq r).1
  have K:V3 (mrg t u)=if u≠[]then V3 u else V3 t:=by
   by_cases n:u=[]
   ·rw[A1 (λh=>h n),n,AN]
   rw[A2 n];exact VG (.inr j) (f:=f) (by rw[A2 j.ne];simp_all)
  have S:GB p b (mrg t u)=GB p (mrg b t) u:=by
   unfold GB;rw[A2 o,A2 o,He P.gd.asc j.gd.asc F A R L]
  have G:CA p f (mrg t u)=CA p (V3 t+1) u:=by
   unfold CA;rw[A2 ⟨o,Ut j.ne⟩,K]
   grind
  have C:=W k za4;rw[AP,AP,WY,WY,Q,Q,<-S,<-G]
  cases T:Oc l k q (GB p b (mrg t u)) (CA p f (mrg t u))with
  |none=>rfl
  | some x=>
   simp only[A4];have M:=YG hl e (J k za4) c V C (Ri P (.inr d)) T
   have B:∀y∈mrg t u,∀z∈x,y.At<z.At:=by
    intro y m z a;have:=Kw d.gd.asc y m;have I:=M.ge z a
    unfold CA at I
    rw[A2 ⟨o,Ut j.ne⟩]at I
    omega
   have v:S9 (mrg t u) x:=λy m z a=>by have:=B y m z a;omega
   have w:S9 u x:=λy m z a=>v y (N4.2 (.inr m)) z a;have O:S9 t x:=λy m z a=>v y (N4.2 (.inl m)) z a;rw[A1 (by rw[W0.2 v];simp),A1 (by rw[W0.2 w];simp)];simp only[A4];rw[He j.gd.asc F M.gd.asc L O w];refine Tt hl e s Q c V P j ks (i+1) (mrg u x) (λk' g=>J k' (by simp[g])) (λk' g=>W k' (by simp[g])) (.inr ?_)
   have E:Hi l (CA p (V3 t+1) u) x:=by rw[<-G];exact M
   exact Rf r E (W0.2 w)
def Ac3 {p q:A0} (Q:∀i,L8 p 0 i=q):∀(ks:Up A5) (i:Nat),Dj ks p 0 i=0<->∀k∈ks,HR k q=0
 |[],i=>by rw[Dj];simp
 |k::ks,i=>by
  rw[Dj,Q]
  by_cases h:HR k q=0
  ·rw[A2 h,Ac3 Q ks (i+1)];simp[h]
  simp_all
def Bi4 {l:Up A9} (hl:l.length<=10) (a:BP l=0) {p q:A0} (R:FT p) (m:p.pre.length<=64) (y:p.Op=4) (T:p.dD=[q]) {b:Up PR} {f:Int} (z:Jq l b f) {t:TD} {s:Up PR} {ks:Up A5}
 (j:HR t.2 q=0/\Oc l t.2 q b f=some t.1/\HM t.2<=t.1.length*q.pre.length/\Hi l f t.1)
 (X:HR ⟨⟨0,0,0⟩,0,ks⟩ p=0/\Oc l ⟨⟨0,0,0⟩,0,ks⟩ p (mrg b t.1) (V3 t.1+1)=some s/\HM ⟨⟨0,0,0⟩,0,ks⟩<=s.length*p.pre.length/\Hi l (V3 t.1+1) s):
 HR ⟨⟨0,0,0⟩,0,t.2::ks⟩ p=0/\Oc l ⟨⟨0,0,0⟩,0,t.2::ks⟩ p b f=some (mrg t.1 s)/\HM ⟨⟨0,0,0⟩,0,t.2::ks⟩<=(mrg t.1 s).length*p.pre.length/\Hi l f (mrg t.1 s):=by
 obtain⟨A,v,B,x⟩:=j;obtain⟨P,V,c3,c4⟩:=X
 have e:q∈p.dD:=by rw[T];simp
 have o:=H9 e
 have h:∀i,L8 p 0 i=q:=λi=>by simp_all[L8]
 have u:=x.seq c4;have d:=x.gd.len;have c:=c4.gd.len;have H:t.1.length*q.pre.length<=t.1.length*p.pre.length:=NN _ za2;have K:s.length*p.pre.length<=10*64:=Ax za2 za2
 have n:∀k∈ks,HM k<=4096:=λk W=>by have:=Gj W;grind[HM]
 have r:∀k∈ks,HR k q=0:=by
  intro k W;obtain⟨i,U,rfl⟩:=List.mem_iff_getElem.1 W;have:=(Fj P).k i U
  rwa[h]at this
 refine⟨?_,?_,?_,u.1⟩
 ·rw[JY]
  dsimp only
  rw[A1 (by
   omega),A1 za2,A1 (by simp_all[HP])]
  rw[Ac3 h]
  simp_all
 ·rw[JW,A1 za2]
  dsimp only
  rw[AP,WY,h]
  have w:GB p b []=b:=by unfold GB;rw[A2 (.inr y),AN]
  have e2:CA p f []=f:=by simp[CA]
  rw[w,e2,v];simp only[A4];rw[A1 (by simp[Ai]),ED];simp only[A4];have g:=Tt za2 a y h (R.arg e) za2 z x ks 0 [] n r (.inl rfl)
  rw[AN]at g
  rw[g]
  rw[JW,A1 za2]at V
  simp_all
 simp only[HM,IV]at *
 rw[ML,E2];omega
def e0T:TD:=([],⟨⟨0,0,0⟩,0,[]⟩)
def Bt4 (L:Up TD)(F:TD->Up TD):Up TD:=L.flatMap λt=>(e0T::F t).map (jn t)
def Au2 {N:Nat} (hN:Bgn N) {l:Up A9} (hl:l.length<=10) {n:Nat} {p q:A0} {b:Up PR} {f:Int} {kids:Up A5} {s:Up PR} {L:Up TD} {E:TD->Up A8} (d:Gd l b) (h:Gd l s) (i:p.Op≠3->S9 b s) (A:kids.length<=100000) (a:p.dD≠[])
 (x:p.Op=4) (z:0<kids.length) (Q:C7 p.dD (ar .rem .i64 (kids.length:Int) (Ar.len p.dD))=some q)
 (u:F6 N n ⟨l,0⟩ q ((if p.Op≠3 then mrg b s else b).map Q8) f=some (L.map Mf)) (v:∀t∈L,Gd l t.1/\t.1≠[])
 (F:∀t∈L,S9 s t.1->E9 N n ⟨l,0⟩ p (b.map Q8) (if p.Op≠3 then V3 t.1+1 else f) (kids++[t.2]) ((mrg s t.1).map Q8)=some (E t)):
 E9 N (n+1) ⟨l,0⟩ p (b.map Q8) f kids (s.map Q8)=some (⟨⟨⟨0,0,0⟩,0,kids⟩,s.map Q8⟩::L.flatMap λt=>if Ai s t.1=true then[]else E t):=by
 rw[E9,A2 (by
  rw[W9,O5,O5,S2 x,Bn (show(0:Int)<Ar.len kids by rw[B4];omega)]
  simp),Am7 za2]
 simp only[L5,A4];rw[A1 (K7 x)];simp only[A4]
 have w :  ((if cmp .neq p.Op 3=true then
           (J4 N (b.map Q8) (s.map Q8)).bind λk=>
           some (([]:Up A8),k)
  else
   some ([],b.map Q8)):OS (Up A8×(((Up A7)))))=some ([],(if p.Op≠3 then mrg b s else b).map Q8):=by
  by_cases J:p.Op=3
  ·rw[A1 (K7 J),A1 za2]
  rw[A2 (O9 J),A2 J,Pw hN (l:=l) za2 (by rw[J6];exact d) (by rw[J6];exact h) (by rw[J6,J6];exact i J),J6,J6];rfl
 rw[w];simp only[A4]
 have D:El (cmp .neq (Ar.len p.dD) 0)=some ():=by
  unfold El;rw[A2 (O9 (by rw[B4];have:=List.length_pos_iff.2 a;omega))]
 rw[D];simp only[A4];rw[B4 kids,Q];simp only[A4];rw[u];simp only[A4]
 rw [Kb (f := λy:A8=>if Ai s (P6 y.s)=true then[]else E (P6 y.s,y.d)) (λy m=>by
  obtain⟨t,j,rfl⟩:=List.mem_map.1 m;obtain⟨g,c⟩:=v t j;have C:=g.len;have B:=h.len;have e2:(Mf t).s=t.1.map Q8:=rfl;have K:(Mf t).d=t.2:=rfl;have e4:P6 (t.1.map Q8)=t.1:=J6 _;have H:=g.lst c
  have P : (( if cmp .neq p.Op 3=true then
              (V6 N (t.1.map Q8)).bind λr=>
              some (([]:Up A8),r)
   else
    some ([],f)):OS (Up A8×(Int)))=some ([],if p.Op≠3 then V3 t.1+1 else f):=by
   by_cases J:p.Op=3
   ·rw[A1 (K7 J),A1 za2]
   rw[A2 (O9 J),A2 J,QG za7 (by rw[E1];omega) (by rw[e4];omega),e4];rfl
  rw[e2,K,P,Wm hN (by rw[E1];omega) (by rw[E1];omega),J6,e4];simp only[A4]
  by_cases e:Ai s t.1=true
  ·rw[A2 e,e];rfl
  rw[A1 e]
  rw[BF]at e
  have o:=W0.1 e;rw[e,A1 (by simp[X5])]
  have V:R6 kids none (some (Ar.len kids)) (some (Ar.len kids))=some kids:=by
   unfold R6;rw[A2 (by simp[B4])];simp[B4]
  rw[<-B4 kids,V];simp only[A4];rw[AW za6,Pw hN (l:=l) za2 (by rw[J6];exact h) (by rw[e4];exact g) (by rw[J6,e4];exact o),J6,e4]
  simp_all)]
 simp only[A4];rw[A2 (S2 rfl)];simp only[A4,E5,I1,V1,NF]
 congr 3
 funext t
 have e4:P6 (Mf t).s=t.1:=J6 _;rw[e4];rfl
structure TZ (N:Nat) (l:List A9) (p:A0) (b:List PR) (f:Nat) (m:Nat) (L:List TD):Prop where
 tl:TL l p b f L
 k:∀t∈L,IsK t
 prg:∀(kids:List A5) (b0 s0:List PR),kids.length+(l.length-f)<=1000->Gd l b0->Gd l s0->S9 b0 s0->b=mrg b0 s0->∀n,m+1<=n->E9 N n ⟨l,0⟩ p (b0.map Q8) f kids (s0.map Q8)=some ((if kids=[]then[]else[Mf (s0,⟨⟨0,0,0⟩,0,kids⟩)])++(L.map (sk kids s0)).map Mf)
def As1 {N:Nat} (hN:Bgn N) {l:Up A9} (hl:l.length<=10) (B:BP l=0) {p q:A0} (Q:p.Op=4) (T:p.dD=[q]) (R:FT p) (ae:p.pre.length<=64) (C:KE l.length p) {b:Up PR} {f:Nat} (z:Jq l b f) {L:Up TD} {m:Nat} (h:TL l q b f L) (hL:ST N l q b f (m+1) L) {F:TD->Up TD}
 (hF:∀t∈L,∀g:Nat,V3 t.1+1=(g:Int)->TZ N l p (mrg b t.1) g m (F t)):TZ N l p b f (m+1) (Bt4 L F):=by
 have D:q∈p.dD:=by rw[T];simp
 have ai:=H9 D;have af:=h.few hl B (R.arg D) za2 (C.arg D) z
 have V:∀t∈L,∃g:Nat,V3 t.1+1=(g:Int)/\TZ N l p (mrg b t.1) g m (F t)/\Jq l (mrg b t.1) (g:Int)/\f<g/\g<=l.length:=by
  intro t j;obtain⟨_,_,_,d⟩:=h.tr t j;obtain⟨g,V,O,Z⟩:=Pp d z.f0;exact⟨g,V,hF t j g V,by rw[<-V];exact z.next d,za2,za2⟩
 have aa:∀t∈L,∀u∈F t,u.2.Kids≠[]:=by
  intro t j u K e;obtain⟨g,H,i,_⟩:=V t j;have:=(Fj (i.tl.tr u K).1).n
  rw[e]at this
  unfold HP at this
  rw[A1 za2,A1 za2,A2 Q]at this
  simp at this
 refine⟨⟨λt j=>?_,Br4 h.nd λt j=>?_,λs=>?_⟩,λt j=>?_,?_⟩
 ·obtain⟨t,r,j⟩:=List.mem_flatMap.1 j;obtain⟨u,K,rfl⟩:=List.mem_map.1 j
  rcases List.mem_cons.1 K with rfl|K
  ·have:=AV9 (.inr (.inl Q)) T (h.tr t r);unfold jn e0T
   dsimp only
   rw[AN];exact this
  obtain⟨g,H,i,_⟩:=V t r;have c:=i.tl.tr u K
  rw[i.k u K,<-H]at c
  exact Bi4 hl B R ae Q T z (h.tr t r) c
 ·obtain⟨g,H,i,_⟩:=V t j;refine⟨?_,λu K=>?_⟩
  ·rw[D9,List.nodup_cons];refine⟨λE=>?_,i.tl.nd⟩;obtain⟨u,K,e⟩:=List.mem_map.1 E;exact aa t j u K (by rw[e];rfl)
  rcases List.mem_cons.1 K with rfl|K
  ·rfl
  exact i.k u K
 ·rw[Sm.i4 Q T]
  constructor
  ·rintro⟨x,M,rfl⟩;obtain⟨t,r,M⟩:=List.mem_flatMap.1 M;obtain⟨u,K,rfl⟩:=List.mem_map.1 M
   rcases List.mem_cons.1 K with rfl|K
   ·refine .inl ((h.sm _).1 ⟨t,r,?_⟩);unfold jn e0T
    dsimp only
    rw[AN]
   obtain⟨g,H,i,_⟩:=V t r;exact .inr ⟨t.1,u.1,(h.sm _).1 ⟨t,r,rfl⟩,by rw[H];exact(i.tl.sm _).1 ⟨u,K,rfl⟩,rfl⟩
  rintro(C|⟨a,c,ad,X,rfl⟩)
  ·obtain⟨t,r,rfl⟩:=(h.sm _).2 C;refine⟨jn t e0T,List.mem_flatMap.2 ⟨t,r,DN za4⟩,?_⟩;unfold jn e0T
   dsimp only
   rw[AN]
  obtain⟨t,r,rfl⟩:=(h.sm _).2 ad;obtain⟨g,H,i,_⟩:=V t r
  rw[H]at X
  obtain⟨u,K,rfl⟩:=(i.tl.sm _).2 X;exact⟨jn t u,List.mem_flatMap.2 ⟨t,r,DN (by simp[K])⟩,rfl⟩
 ·obtain⟨t,r,j⟩:=List.mem_flatMap.1 j;obtain⟨u,K,rfl⟩:=List.mem_map.1 j;rfl
 intro kids I s0 W gb J o A n hn;obtain⟨n,rfl⟩:∃k,n=k+1:=⟨n-1,za2⟩
 have hA:∀t∈L,S9 s0 t.1/\S9 I t.1/\Gd l t.1:=by
  intro t j;obtain⟨_,_,_,d⟩:=h.tr t j;exact⟨λx M y w=>z.apart d x (by rw[A];exact N4.2 (.inr M)) y w,λx M y w=>z.apart d x (by rw[A];exact N4.2 (.inl M)) y w,d.gd⟩
 have ab:C7 p.dD (ar .rem .i64 (kids.length:Int) (Ar.len p.dD))=some q:=by
  rw[T,show Ar.len [q]=1 from rfl,AA4];rfl
 have P:p.dD≠[]:=by rw[T];simp
 have S:F6 N n ⟨l,0⟩ q ((if p.Op≠3 then mrg I s0 else I).map Q8) f=some (L.map Mf):=by rw[A2 za2,<-A];exact hL.prg _ za2
 have Y:∀t∈L,Gd l t.1/\t.1≠[]:=λt j=>by
  obtain⟨_,_,_,d⟩:=h.tr t j;exact⟨d.gd,d.ne⟩
 have hE:∀t∈L,S9 s0 t.1->E9 N n ⟨l,0⟩ p (I.map Q8) (if p.Op≠3 then V3 t.1+1 else f) (kids++[t.2]) ((mrg s0 t.1).map Q8)=some (Mf (mrg s0 t.1,⟨⟨0,0,0⟩,0,kids++[t.2]⟩)::((F t).map (sk (kids++[t.2]) (mrg s0 t.1))).map Mf):=by
  intro t j _;obtain⟨g,H,i,U,ag,ah⟩:=V t j;obtain⟨G,a2,a3⟩:=hA t j;rw[A2 za2,H];have:=i.prg (kids++[t.2]) I (mrg s0 t.1) (by rw[K8,BL];omega) gb (J.mrg a3 G) (λx M y w=>(N4.1 w).elim (λh=>o x M y h) λh=>a2 x M y h) (by rw[A,He gb.asc J.asc a3.asc o a2 G]) n za2
  rw[A1 za4]at this
  exact this
 have fin:(L.flatMap λt=>if Ai s0 t.1=true then[]else(Mf (mrg s0 t.1,⟨⟨0,0,0⟩,0,kids++[t.2]⟩)::((F t).map (sk (kids++[t.2]) (mrg s0 t.1))).map Mf))=((Bt4 L F).map (sk kids s0)).map Mf:=by
  unfold Bt4;rw[GT,GT];refine MO λt j=>?_;obtain⟨G,a2,a3⟩:=hA t j;rw[A1 (by rw[W0.2 G];simp),D9,D9,D9]
  congr 1
  ·unfold sk jn e0T
   dsimp only
   rw[AN]
  rw[M3,M3,M3];refine Y0 λu K=>?_;obtain⟨g,H,i,U,_⟩:=V t j;obtain⟨_,_,_,d⟩:=h.tr t j;obtain⟨_,_,_,ac⟩:=i.tl.tr u K;have a4:=U.apart ac;simp only[Function.comp,sk,jn,Mf];rw[He J.asc a3.asc ac.gd.asc G (λx M y w=>a4 x (N4.2 (.inl (by rw[A];exact N4.2 (.inr M)))) y w) (λx M y w=>a4 x (N4.2 (.inr M)) y w)];simp
 by_cases v:kids=[]
 ·rw[Ps hN hl (q:=q) (L:=L) gb J (λ_=>o) za2 P (by rw[v];rintro(⟨h,_⟩|⟨_,h⟩)<;>simp at h<;>omega) ab S Y hE,A2 v,fin];rfl
 rw[Au2 hN hl (q:=q) (L:=L) gb J (λ_=>o) za2 P Q (List.length_pos_iff.2 v) ab S Y hE,A1 v,fin];rfl
def TZ.mono {N:Nat}{l:Up A9}{p:A0}{b:Up PR}{f:Nat}{m a:Nat}{L:Up TD}(h:TZ N l p b f m L)(E:m<=a):TZ N l p b f a L:=⟨h.tl,h.k,λkids e s0 O Z J s g n i=>h.prg kids e s0 O Z J s g n za2⟩
def As2 {N:Nat} (hN:Bgn N) {l:Up A9} (hl:l.length<=10) (e:BP l=0) {k:Nat} (ih:IHT N l k) {p q:A0} (s:p.Op=4) (T:p.dD=[q]) (R:FT p) (i:p.pre.length<=64) (C:KE l.length p) {f0:Nat} (W:∀g,f0<=g->mu l q g<=k):
 ∀(d:Nat) (b:Up PR) (f:Nat),f0<=f->l.length-f<=d->Jq l b f->∃L,TZ N l p b f (8*k+8+d) L:=by
 intro d
 induction d using Nat.strongRecOn with
 | _ d rec=>
  intro b f o hd z
  have a:q∈p.dD:=by rw[T];simp
  have c:=H9 a;obtain⟨L,n,y⟩:=ih q b f (W f o) za2 (R.arg a) (C.arg a) z
  have h:∀t:TD,∃F,t∈L->∀g:Nat,V3 t.1+1=(g:Int)->TZ N l p (mrg b t.1) g (8*k+7+d) F:=by
   intro t
   by_cases j:t∈L
   ·obtain⟨_,_,_,x⟩:=n.tr t j;obtain⟨g,K,V,H⟩:=Pp x z.f0;obtain⟨F,r⟩:=rec (d-1) za2 (mrg b t.1) g za2 za2 (by rw[<-K];exact z.next x)
    exact⟨F,λ_ g' P=>by
     grind⟩
   simp_all
  obtain⟨F,r⟩:=Lf h;have:=As1 hN hl e s T R i C z n (y.mono (show 8*k+8<=8*k+7+d+1 by omega)) r
  grind
def kT (c:CD):TD:=(c.1,⟨⟨0,0,0⟩,0,c.2⟩)
def mxP:Up (Up TD)->CD->Up CD
 |[],c=>[c]
 |T::a,c=>T.flatMap λt=>if Ai c.1 t.1=true then[]else mxP a (mrg c.1 t.1,c.2++[t.2])
def mxS (A:Up CD)(T:Up TD):Up CD:=A.flatMap λc=>T.flatMap λt=>if Ai c.1 t.1=true then[]else[(mrg c.1 t.1,c.2++[t.2])]
def AB7:∀(a:Up (Up TD)) (A:Up CD),a.foldl mxS A=A.flatMap (mxP a)
 | [],A=>by
  rw[List.foldl_nil]
  have:∀A:Up CD,A.flatMap (mxP [])=A:=by
   simp[mxP]
  simp_all
 |T::a,A=>by
  rw[KP,AB7 a];unfold mxS;rw[List.flatMap_assoc];refine MO λc _=>?_;rw[mxP,List.flatMap_assoc]
  grind
def mxM (T:Nat->Up TD)(j:Nat):Up CD:=((List.range j).map T).foldl mxS [([],[])]
def Ah7 (T:Nat->Up TD)(j:Nat):mxM T (j+1)=mxS (mxM T j) (T j):=by
 unfold mxM;rw[List.range_succ,P9,List.foldl_append];rfl
def Bu6 (T:Nat->Up TD)(j:Nat):mxM T j=mxP ((List.range' 0 j).map T) ([],[]):=by
 unfold mxM;rw[AB7,IN];simp
def Aa8 {l:Up A9} {p p':A0} (h:p.Op=p'.Op) {c:Int} {b:Up PR} {f:Int}:∀(ks:Up A5) (i:Nat) (s:Up PR),(∀j,i<=j->j<i+ks.length->L8 p c j=L8 p' c j)->EP l ks p c i b f s=EP l ks p' c i b f s
 |[],i,s,_=>by rw[EP,EP]
 | k::ks,i,s,T=>by
  have e:GB p b s=GB p' b s:=by unfold GB Eh;rw[h]
  have a:CA p f s=CA p' f s:=by unfold CA Eh;rw[h]
  rw[AP,AP,WY,WY,T i (B1 _) za4,e,a]
  cases(Oc l k (L8 p' c i) (GB p' b s) (CA p' f s)).bind λx=>if Ai s x=true then none else some (mrg s x)with
  |none=>rfl
  |some t=>
   simp only[A4];exact Aa8 h ks (i+1) t λj O Z=>T j za2 (by rw[N3];omega)
def Ac1 {p p':A0} {c:Int}:∀(ks:Up A5) (i:Nat),(∀j,i<=j->j<i+ks.length->L8 p c j=L8 p' c j)->Dj ks p c i=Dj ks p' c i
 |[],i,_=>by rw[Dj,Dj]
 |k::ks,i,T=>by
  rw[Dj,Dj,T i (B1 _) za4,Ac1 ks (i+1) λj O Z=>T j za2 (by rw[N3];omega)]
def AS3 (a b:Up A5):IV (a++b)=IV a+IV b:=by simp[Ra]
def Bu7 {l:Up A9} {p q:A0} {r:Up A0} (J:p.Op=3) (T:p.dD=r++[q]) {b:Up PR} {f:Int} {t:TD} {s:Up PR} {ks:Up A5} (a:S9 s t.1)
 (c:HR t.2 q=0/\Oc l t.2 q b f=some t.1/\HM t.2<=t.1.length*q.pre.length/\Hi l f t.1)
 (X:HR ⟨⟨0,0,0⟩,0,ks⟩ {p with dD:=r}=0/\Oc l ⟨⟨0,0,0⟩,0,ks⟩ {p with dD:=r} b f=some s/\HM ⟨⟨0,0,0⟩,0,ks⟩<=s.length*({p with dD:=r}:A0).pre.length/\Hi l f s):
 HR ⟨⟨0,0,0⟩,0,ks++[t.2]⟩ p=0/\Oc l ⟨⟨0,0,0⟩,0,ks++[t.2]⟩ p b f=some (mrg s t.1)/\HM ⟨⟨0,0,0⟩,0,ks++[t.2]⟩<=(mrg s t.1).length*p.pre.length/\Hi l f (mrg s t.1):=by
 obtain⟨d,m,v,o⟩:=c;obtain⟨P,k,c3,c4⟩:=X;have x:({p with dD:=r}:A0).Op=3:=J;have V:=(Fj P).n
 unfold HP at V
 rw[A1 za2,A2 (.inr x)]at V
 have e:ks.length=r.length:=by
  simp_all
 have g:p.pre.length=({p with dD:=r}:A0).pre.length+q.pre.length:=by
  rw[A0.pre_eq p,A0.pre_eq {p with dD:=r},T,Hc]
  grind[A0.pres]
 have K:L8 p 0 r.length=q:=by
  simp_all[L8]
 have H:∀j,0<=j->j<0+ks.length->L8 p 0 j=L8 {p with dD:=r} 0 j:=by
  grind[L8]
 have y:Dj ks {p with dD:=r} 0 0=0:=by
  rw[JY]at P
  grind
 refine⟨?_,?_,?_,c4.all o a⟩
 ·rw[JY]
  dsimp only
  rw[A1 (by
   omega),A1 za2,A1 (by simp_all[HP]),Ac2,Ac1 ks 0 H,y,A2 rfl,K4,e,Dj,K,A2 d,Dj]
 ·rw[JW,A1 za2]at k ⊢
  dsimp only at k ⊢
  obtain⟨u,n,i⟩:=Option.bind_eq_some_iff.1 k
  rw[A1 (λh=>by have:=h.1;omega)]at i
  cases DL i
  have w:GB p b s=b:=by unfold GB Eh;rw[A1 za2]
  have e2:CA p f s=f:=by unfold CA Eh;rw[A1 za2]
  rw[Aa9,Aa8 (p:=p) (p':={p with dD:=r}) rfl ks 0 [] H,n];simp only[A4];rw[K4,e,AP,WY,K,w,e2,m];simp only[A4];rw[A1 (by rw[W0.2 a];simp)]
  simp_all[EP]
 simp only[HM,IV,AS3]at *
 rw[ML,g,E2,DE,DE];omega
end
end Go.Ab
