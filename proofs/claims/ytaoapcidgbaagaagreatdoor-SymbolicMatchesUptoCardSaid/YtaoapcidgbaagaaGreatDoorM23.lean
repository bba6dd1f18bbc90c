/- . -/
import Derived.Test.YtaoapcidgbaagaaGreatDoorM21
import Derived.Test.YtaoapcidgbaagaaGreatDoorRows
import Derived.WalkKit
import Derived.ProofKit
import Derived.OpenShut
import Derived.Deep.DeepHandedRow
import Derived.Carry
import Derived.Test.YtaoapcidgbaagaaGreatDoorTie
set_option linter.all false
open Go.Ab.Ar (ar cmp lst lst_eq nt)
namespace Go.Ab
open Classical
set_option maxRecDepth 100000
noncomputable section
variable{N:Nat}
def BB0 (b:Bool):decide ((DR b).Num=1)=b:=by cases b<;>rfl
def UC (b:Bool):(DR b).Kind=1:=by cases b<;>rfl
def BD2{v:B2}(h:R5 v=0)(S:v.Kind=1):v=DR (decide (v.Num=1)):=by
 have⟨k,n,t⟩:=v
 simp only at S;subst S
 unfold R5 at h
 rw[A2 (.inr rfl)]at h
 by_cases o:t=⟨#[]⟩
 ·subst o
  rw[A1 (λc=>c rfl)]at h
  by_cases E:n=0\/n=1
  ·rcases E with rfl|rfl<;>rfl
  simp_all
 simp_all
def WL(g:TB N){l:Up A8}{a b:A8}(h:l=[a,b]){K:A8->OS (Up A6×Int)}{s u:Up A6}{v w:Bool}(A:K a=some (if v=true then(s,0)else([],3)))(r:K b=some (if w=true then(u,0)else([],3))):
 loopN (λ(k:(Up (Up A6))×Int)=>
       (
        if cmp .lss k.2 (Ar.len l)=true then
         (C4 l k.2).bind λx=>
         (K x).bind λe=>
         if cmp .neq e.2 0=true then
          some (.inr (.inr e.2))
         else
          (K2 k.1 ([e.1])).bind λn=>
          some (.inl (n,ar .add .i64 k.2 1))
        else
         some (.inr (.inl k.1))
        :OS (((Up (Up A6))×Int)⊕(((Up (Up A6)))⊕Int)))) N ([],0)=some (if(v&&w)=true then .inl [s,u]else .inr 3):=by
 rw[R6 l (by rw[h];simp) (mk:=λ(s:List (List A6)) i=>(s,i)) (body:=λq y=>(K y).bind λe=>if cmp .neq e.2 0=true then some (.inr (.inr e.2))else(K2 q ([e.1])).bind λn=>some (.inl n)) (fin:=λs=>.inl s) (s:=[]) (by rw[h];simp;omega) ?_ ?_]
 ·rw[h];have P:K2 ([]:Up (Up A6)) [s]=some [s]:=T6 OC;have V:K2 [s] [u]=some [s,u]:=T6 OC
  cases v with
  | true=>
   simp only[B4]at A
   cases w with
   |true=>
    simp only[B4]at r
    simp only[E8,A,r,A4,show cmp .neq (0:Int) 0=false from rfl,D4,B6,P,V];rfl
   |false=>
    simp only[D4,B6]at r
    simp only[E8,A,r,A4,show cmp .neq (0:Int) 0=false from rfl,show cmp .neq (3:Int) 0=true from rfl,D4,B6,B4,P];rfl
  |false=>
   simp only[D4,B6]at A
   simp only[E8,A,A4,show cmp .neq (3:Int) 0=true from rfl,B4];rfl
 ·intro q i y I U;have c:ar .add .i64 (i:Int) 1=i+1:=E6 (by rw[h]at U;omega) (by rw[h]at U;grind);simp only[B8,A9,U,H8,B4,F3,I,A4,c]
  grind
 intro q;simp only[B8,A9,B3];rw[A1 AY]
def Cc5 (field own:Int)(x:A8)(P:OS (Up A6×Int)):Prop:=
 ∃(a:Up A6) (ok:Bool) (L:Up Int),P=some (if ok=true then(a,0)else([],3))/\FT a/\3*L.length<=4*x.pre.length/\Ih L a/\(ok=true->∀R v,Rd R field own v->Fj R x=(DR (decide (Bs a v)),0))
def TX{field own:Int}{x:A8}:Cc5 field own x (some ([],3)):=⟨[],false,[],rfl,trivial,OC,Wg,λe=>by cases e⟩
def Ah1{field own:Int}{x a b:A8}{s u r:Up A6}{e h:Bool}{L:Up Int}{g:Bool->Bool->Bool}(i:x.dT=[a,b])(M:JZ x.Op [1,1]=0)(k:∀p q,JU x.Op [DR p,DR q]=DR (g p q))(Q:FT r)(B:3*L.length<=4*x.pre.length)(G:Ih L r)
 (j:∀v, -1099511627776<=v/\v<=1099511627776->(Bs r v<->g (decide (Bs s v)) (decide (Bs u v))=true))(l:e=true->∀R v,Rd R field own v->Fj R a=(DR (decide (Bs s v)),0))(n:h=true->∀R v,Rd R field own v->Fj R b=(DR (decide (Bs u v)),0))
 {P:OS (Up A6×Int)}(O:(e&&h)=true->P=some (r,0))(Z:(e&&h)=false->P=some ([],3)):Cc5 field own x P:=by
 cases z:e&&h with
 |false=>rw[Z z];exact TX
 |true=>
  refine⟨r,true,L,O z,Q,B,G,λ_ R v C=>?_⟩
  rw[G9]at z
  rw[Tm i (l z.1 R v C) (n z.2 R v C),UC,UC,A1 (by rw[M];simp),k]
  congr 2
  rw[AE,<-j v C.b,B3]
def BW4{field own:Int}(D:TB N):∀(n:Nat) (x:A8),x.bulk<=n->x.bulk<=16777216->(∀y∈x.pre,BJ y=0)->x.pre.length<=64->Cc5 field own x (V5 N n x field own):=by
 intro n
 induction n with
 |zero=>intro x h;have:=Fp x;omega
 | succ n ih=>
  intro x M hb i B;have O:=i x (by rw[A8.pre_eq];simp);have nx:=Aj3 O;have X:=nx.op;have G:=nx.ar;unfold V5
  by_cases h0:x.Op=0
  ·simp only[show cmp .eql x.Op 0=true from by simp[D8,h0],B4]
   by_cases S:x.Value.Kind=1
   ·simp only[show cmp .neq x.Value.Kind 1=false from by simp[H7,S],D4,B6]
    have Q:∀R v,Rd R field own v->Fj R x=(DR (decide (x.Value.Num=1)),0):=λR v C=>by
     rw[Ny,A2 (Uv O AY),C.c x h0,<-BD2 (nx.val (.inr h0)) S]
    by_cases E:x.Value.Num=1
    ·simp only[show cmp .eql x.Value.Num 1=true from by simp[D8,E],B4,A4];refine⟨_,true,[],rfl,Bc7.ord.1,OC,Bd4,λ_ R v C=>?_⟩;have:Bs [⟨-1099511627776,1099511627776⟩] v:=W2.2 (.inl C.b);rw[Q R v C];grind
    simp only[show cmp .eql x.Value.Num 1=false from by simp[D8,E],D4,B6,A4];refine⟨[],true,[],rfl,trivial,OC,Wg,λ_ R v C=>?_⟩;rw[Q R v C];simp[E,Kt]
   simp only[show cmp .neq x.Value.Kind 1=true from by simp[H7,S],B4,A4];exact TX
  simp only[show cmp .eql x.Op 0=false from by simp[D8,h0],D4,B6];rw[Ca8];simp only[A4,B3]
  by_cases k:x.Op=12
  ·rw[A1 AY,A2 k]at G
   have⟨a,e,i0,U,T⟩:=Cj9 (x:=x) AY;have ab:=Ag U;have⟨s,ok,L,A,Y,s4,Z,s6⟩:=ih a AY AY (SN U i) AY;have⟨z,r1,r3,r4,r5⟩:=not1 D Y Z AY;simp only[k,show¬((12:Int)=7\/(12:Int)=8\/(12:Int)=9)from by decide,B6,show cmp .eql (12:Int) 10=false from rfl,show cmp .eql (12:Int) 11=false from rfl,show cmp .eql (12:Int) 12=true from rfl,D4,B4,A4];rw[AI1 (N:=N) (l:=x.dT) (K:=λy=>V5 N n y field own) (f:=λ_=>s) (g:=λ_=>ok) (λy I=>by rw[e]at I;simp_all) AY AY]
   cases ok with
   | true=>
    refine⟨z,true,L,?_,r3,AY,r4,λ_ R v C=>?_⟩
    ·have e0:C4 [s] 0=some s:=rfl
     simp_all
    rw[BB7 e (s6 rfl R v C),UC,A1 (by rw[k];decide)]
    have aa:JU x.Op [DR (decide (Bs s v))]=DR (!decide ((DR (decide (Bs s v))).Num=1)):=by rw[k];rfl
    rw[aa,BB0]
    congr 2
    rw[<-decide_not];apply decide_eq_decide.2;rw[r5];exact⟨λh=>⟨C.b.1,C.b.2,h⟩,λh=>h.2.2⟩
   |false=>
    have:(x.dT.all λ_=>false)=false:=by rw[e];rfl
    rw[this];exact TX
  rw[show(if x.Op=12 then(1:Int)else 2)=2 from A1 k]at G
  have F:cmp .eql x.Op 12=false:=by simp[D8,k]
  by_cases h5:x.Op<5
  ·have n1:¬(x.Op=7\/x.Op=8\/x.Op=9):=AY
   have n4:cmp .eql x.Op 10=false:=by simp only[D8,O2];omega
   have n5:cmp .eql x.Op 11=false:=by simp only[D8,O2];omega
   simp only[A1 n1,F,n4,n5,D4,B6,A4];exact TX
  rw[A1 h5]at G
  have⟨a,b,e,i0,i1,U,mb,T⟩:=BU7 (x:=x) AY;have ab:=Ag U;have ac:=Ag mb;have pa:=SN U i;have pb:=SN mb i;have⟨s,os,Ls,A,Y,s4,Z,s6⟩:=ih a AY AY pa AY;have⟨u,ou,Lu,u1,u3,u4,u5,u6⟩:=ih b AY AY pb AY;have e0:C4 [s,u] 0=some s:=rfl;have e1:C4 [s,u] 1=some u:=rfl
  by_cases J:x.Op=7\/x.Op=8\/x.Op=9
  ·have⟨t,p,o1,k1,k3,k4,k6⟩:=AX9 (N:=N) (field:=field) (own:=own) N a AY pa AY;have⟨t',p',o2,j1,j3,j4,j6⟩:=AX9 (N:=N) (field:=field) (own:=own) N b AY pb AY
   have ad:1<=a.pre.length:=by rw[A8.pre_eq];simp
   have ae:1<=b.pre.length:=by rw[A8.pre_eq];simp
   simp only[A2 J,i0,i1,k1,j1,A4,F,D4,B6]
   by_cases d:Ar.an o1 o2=true
   ·have⟨r,L,q1,q2,q3,q4,q5⟩:=Cj3 D (t:=t) (p:=p) (t':=t') (p':=p') AY AY J;rw[A2 d,q1]
    rw[Q4,G9]at d
    refine⟨r,true,L,rfl,q2,AY,q4,λ_ R v C=>?_⟩;have key:=q5 v C.b;rw[Tm e (k6 d.1 R v C) (j6 d.2 R v C)]
    have eo:JZ x.Op [(JN (t*v+p)).Kind,(JN (t'*v+p')).Kind]=0:=by rcases J with h|h|h<;>rw[h]<;>rfl
    rw[A1 (by rw[eo];simp)]
    congr 1
    rcases J with h|h|h
    ·rw[h]at key ⊢
     rw[A2 rfl]at key
     have:JU 7 [JN (t*v+p),JN (t'*v+p')]=DR (decide (t*v+p<t'*v+p')):=rfl;rw[this];simp_all
    ·rw[h]at key ⊢
     rw[A1 Sz,A2 rfl]at key
     have:JU 8 [JN (t*v+p),JN (t'*v+p')]=DR (decide (t*v+p<=t'*v+p')):=rfl;rw[this];simp_all
    rw[h]at key ⊢
    rw[A1 Sz,A1 Sz]at key
    have:JU 9 [JN (t*v+p),JN (t'*v+p')]=DR (decide (JN (t*v+p)=JN (t'*v+p'))):=rfl;rw[this];congr 1;apply decide_eq_decide.2;rw[key];simp[JN]
   rw[A1 d]
   by_cases P:x.Op=9
   ·have n9:cmp .neq x.Op 9=false:=by simp[H7,P]
    have V:cmp .eql x.Op 10=false:=by simp[D8,P]
    have o:cmp .eql x.Op 11=false:=by simp[D8,P]
    have⟨w,w1,w2,w3,w4⟩:=BW9 D Y u3 Z u5 AY;simp only[n9,D4,B6,A4,WL (K:=λy=>V5 N n y field own) D e A u1];refine Ah1 (g:=λp q=>p==q) e (by rw[P];rfl) (λp q=>by rw[P];cases p<;>cases q<;>rfl) w2 Ts w3 (λv j=>?_) s6 u6 (λz=>?_) λz=>?_
    ·rw[w4,DL,ON]
     simp_all
    ·simp_all
    grind
   have n9:cmp .neq x.Op 9=true:=by simp only[H7,P9,O2];exact P
   simp only[n9,B4,A4];exact TX
  simp only[A1 J]
  by_cases c:x.Op=10
  ·have V:cmp .eql x.Op 10=true:=by simp[D8,c]
   have⟨w,w1,w2,w3,w4⟩:=and1 D Y u3 Z u5 AY;simp only[V,B4,A4,WL (K:=λy=>V5 N n y field own) D e A u1];refine Ah1 (g:=λp q=>p&&q) e (by rw[c];rfl) (λp q=>by rw[c];cases p<;>cases q<;>rfl) w2 Ts w3 (λv j=>?_) s6 u6 (λz=>?_) λz=>?_
   ·rw[w4,G9,B3,B3]
   ·simp_all
   grind
  by_cases m:x.Op=11
  ·have V:cmp .eql x.Op 10=false:=by simp[D8,c]
   have o:cmp .eql x.Op 11=true:=by simp[D8,m]
   have⟨w,w1,w2,w3,w4⟩:=or1 D Y u3 Z u5 AY;simp only[V,o,D4,B6,B4,A4,WL (K:=λy=>V5 N n y field own) D e A u1];refine Ah1 (g:=λp q=>p||q) e (by rw[m];rfl) (λp q=>by rw[m];cases p<;>cases q<;>rfl) w2 Ts w3 (λv j=>?_) s6 u6 (λz=>?_) λz=>?_
   ·rw[w4,L7,B3,B3]
   ·simp_all
   grind
  have V:cmp .eql x.Op 10=false:=by simp[D8,c]
  have o:cmp .eql x.Op 11=false:=by simp[D8,m]
  simp only[V,o,F,D4,B6,A4];exact TX
def Au0{i:Nat}{n:Nat}(U:i<n)(E:n<1000000000000):ar .add .i64 (i:Int) 1=((i+1:Nat):Int):=Cm AY
noncomputable def Ki (types:Up F6) (e:B0):Int:=
 if e.Source<0\/8<=e.Source then 32
 else if((e.Seq<0\/1099511627776<e.Seq)\/e.Time<0)\/1099511627776<e.Time then 2
 else if e.Typ<0\/(types.length:Int)<=e.Typ then 6
 else match types[e.Typ.toNat]? with
  |none=>6
  |some s=>if e.Values.length≠s.Fields.length then 15 else fb (vlF s.Fields) 0 e.Values
def Bl1{types:Up F6}{e:B0}(B:e.Values.length<=1000)(g:1000<N):Mz N types e=some (Ki types e):=by
 unfold Mz MU Ki;simp only[B8,O0,N5,H7,Q8,A9,L7,B3,P9,O2]
 by_cases O:e.Source<0\/8<=e.Source
 ·simp_all
 simp only[A1 O]
 by_cases Z:((e.Seq<0\/1099511627776<e.Seq)\/e.Time<0)\/1099511627776<e.Time
 ·simp_all
 simp only[A1 Z,A4];rw[A1 Sz]
 by_cases T:e.Typ<0\/(types.length:Int)<=e.Typ
 ·simp_all
 simp only[A1 T];have⟨s,G,a⟩:=Ku (l:=types) (i:=e.Typ) AY;rw[G,a];simp only[A4]
 by_cases h:e.Values.length=s.Fields.length
 ·rw[A1 AY,A1 AY];refine FM (Gg (l:=e.Values) (f:=vlF s.Fields) (N:=N) (e:=.inl ()) (b:=λr=>.inr r) (λi x M U=>?_) ?_ AY) ?_
  ·have q:=D9 (show i<s.Fields.length by omega);simp only[F3,M,q,A4,Pu,B3];rw[A2 AY,Au0 U AY];unfold vlF;rw[q]
   grind
  ·rw[A1 AY]
  grind
 grind
def AU7{types:Up F6}{e:B0}(b:LA)(B:e.Values.length<=1000)(g:1000<N)(own:Int)(L:PE N types=0)(O:Ki types e=0):
 ∃s v,types[e.Typ.toNat]? =some s/\0<=e.Typ/\e.Typ<(types.length:Int)/\W0 N types e=some (⟨e.Typ,v⟩,0)/\Rd (Qa b own e) (Um s) own v:=by
 have r:MA N types e=some 0:=by
  unfold MA;rw[An1 g];simp only[A4,L,show cmp .neq (0:Int) 0=false from rfl,D4,B6,Bl1 B g,O]
 have j:=As0 L
 unfold Ki at O
 split at O
 ·cases O
 split at O
 ·cases O
 split at O
 ·cases O
 have⟨s,G,a⟩:=Ku (l:=types) (i:=e.Typ) AY
 rw[a]at O
 simp only at O
 split at O
 ·cases O
 have t:e.Values.length=s.Fields.length:=AY
 have D:=(j.2 s (K4 a)).1;have E:=Bv0 s
 have n:∀y:A8,y.Op=0->Qa b own e y=(y.Value,0):=λy h=>by unfold Qa;rw[A2 h]
 unfold W0;rw[r];simp only[A4,show cmp .neq (0:Int) 0=false from rfl,D4,B6,G,RF (show s.Fields.length<=1000 by omega) g,O0,B3]
 by_cases S:0<=Um s
 ·have⟨w,m,P⟩:=Ku (l:=e.Values) (i:=Um s) AY;rw[A2 S,m]
  have u:∃f,s.Fields[(Um s).toNat]? =some f/\f.Kind=0:=by
   unfold Um Zt at S ⊢
   cases h:Df (λf:Y5=>decide (f.Kind=0)) 0 s.Fields with
   |none=>rw[h]at S;simp at S
   |some q=>
    have⟨k,x⟩:=q;have⟨_,F,I,_⟩:=Ti h
    simp_all
  have⟨f,c,z⟩:=u;have Y:=FH.1 O _ _ P
  rw[P0]at Y
  unfold vlF at Y
  rw[c]at Y
  have V:R5 w=0:=by
   omega
  rw[A1 (by rw[V];simp)]at Y
  simp only at Y
  have K:w.Kind=0:=by
   omega
  refine⟨s,w.Num,a,AY,AY,rfl,n,λy A o p _=>?_,(Mh V K).2⟩
  have d:JS e (Um s)=(w,0):=by
   unfold JS;rw[A1 AY];rw[U2,P];rfl
  unfold Qa;rw[A1 AY,A1 AY,A1 AY];unfold XX;rw[A1 (by rw[o];simp)]
  simp only
  unfold Bt1;rw[A1 AY,p,d];simp only[ne_eq,Y2,B6,V];rw[<-Ap0 V K]
 rw[A1 S];exact⟨s,0,a,AY,AY,rfl,n,λy _ _ T C=>(S AY).elim,Sz⟩
def Bu8{types:Up F6}{index own:Int}{cond:A8}(P:cond.bulk<=16777216):∃r,CJ 40000000 types index cond own=some r/\
 (r.2=0->∃s a,V0 cond=0/\0<=index/\index<(types.length:Int)/\types.length<=16/\types[index.toNat]? =some s/\(∀R v,Rd R (Um s) own v->Fj R cond=(DR (decide (Bs a v)),0))/\r.1=⟨(List.replicate types.length []).set index.toNat a⟩/\FT a/\a.length<=256):=by
 unfold CJ;rw[An1 Sz];simp only[A4,H7,P9,O2]
 by_cases K:PE 40000000 types=0
 ·have h:=As0 K;simp only[K,Y2,B6]
  by_cases O:index<0\/(types.length:Int)<=index
  ·have t:Ar.or (cmp .lss index 0) (cmp .geq index (Ar.len types))=true:=by simp only[Q8,B8,O0,A9,L7,B3];exact O
   simp_all
  have t:Ar.or (cmp .lss index 0) (cmp .geq index (Ar.len types))=false:=by simp only[Q8,B8,O0,A9,Pb,O2];omega
  simp only[t,D4,B6]
  by_cases Z:own<0\/16<=own
  ·have e2:Ar.or (cmp .lss own 0) (cmp .geq own 16)=true:=by simp only[Q8,B8,O0,L7,B3];exact Z
   simp_all
  have e2:Ar.or (cmp .lss own 0) (cmp .geq own 16)=false:=by simp only[Q8,B8,O0,Pb,O2];omega
  simp only[e2,D4,B6];have⟨l,u⟩:=Bs8 (own:=own) AY ⟨⟨#[]⟩,index⟩;have⟨⟨k,e⟩,o,c⟩:=Ck5 (N:=40000000) (types:=types) (vars:=l) (x:=cond) Sz P
  simp only at c
  simp only[u,A4,o]
  by_cases T:e=0
  ·subst T;have M:=c rfl
   by_cases g:k=1
   ·subst g;have⟨s,A,f⟩:=Ku (l:=types) (i:=index) AY;have B:=(h.2 s (K4 f)).1
    have b:cond.pre.length<=64/\∀y∈cond.pre,BJ y=0:=by
     refine⟨?_,MS M⟩
     unfold V0 at M
     omega
    have⟨a,ok,L,n,d,C,p,q⟩:=BW4 (N:=40000000) (field:=Um s) (own:=own) Sz 40000000 cond AY P b.2 b.1;have V:=p.len d
    cases ok with
    | true=>
     simp only[B4]at n
     have w:YZ (Ar.len types) (Ar.len types) ([]:Up A6)=some (List.replicate types.length []):=by
      unfold YZ;rw[A2 (by simp only[A9];omega)];simp[A9]
     have j:IS (OB (List.replicate types.length ([]:Up A6)) index)=some ():=by
      unfold IS OB;rw[A2 Ts]
     have m:Ex (List.replicate types.length ([]:Up A6)) index (λ_=>a)=some ((List.replicate types.length []).set index.toNat a):=by
      have⟨y,z,_⟩:=Ku (l:=List.replicate types.length ([]:Up A6)) (i:=index) Ts;unfold Ex;rw[z];rfl
     refine⟨(⟨(List.replicate types.length []).set index.toNat a⟩,0),?_,λ_=>⟨s,a,M,AY,AY,h.1,f,q rfl,rfl,d,AY⟩⟩;rw[A1 Sz,A1 Sz,A];simp only[A4,RF (N:=40000000) (show s.Fields.length<=1000 by omega) Sz,n];rw[A1 Sz,w]
     simp_all
    |false=>
     simp only[D4,B6]at n
     refine⟨(⟨[]⟩,3),?_,λe=>by cases e⟩;rw[A1 Sz,A1 Sz,A];simp only[A4,RF (N:=40000000) (show s.Fields.length<=1000 by omega) Sz,n];rfl
   simp_all
  simp_all
 simp_all
end
end Go.Ab
namespace Go.Ab
noncomputable section
open Classical
def BC2 {types:Up F6} {x:B0} {e:C5} {i:D3} (M:x.Values.length<=1000) (L:PE 40000000 types=0) (O:Ki types x=0) (c:e.dU.bulk<=16777216) (X:CJ 40000000 types e.Typ e.dU e.Var=some (i,0)) {y:E9} (I:W0 40000000 types x=some (y,0)) (b:LA):Zj i y=true<->x.Typ=e.Typ/\Iv b e.Var x e.dU=true:=by
 have⟨s,v,A,m,q,P,C⟩:=AU7 (N:=40000000) (types:=types) (e:=x) b AY Sz e.Var L O
 rw[I]at P
 cases P;have⟨⟨p,k⟩,K,f⟩:=Bu8 (types:=types) (index:=e.Typ) (own:=e.Var) c
 rw[X]at K
 cases K;have⟨j,a,V,t,u,D,x5,g,w,E,F⟩:=f rfl;have w:i=⟨(List.replicate types.length []).set e.Typ.toNat a⟩:=w
 have d:e.dU.pre.length<=64:=by
  have M:=V
  unfold V0 at M
  omega
 rw[w,Ay6];unfold InP
 dsimp only
 by_cases o:x.Typ=e.Typ
 ·rw[o]at A
  rw[A]at x5;cases x5
  have R:=g _ _ C
  have r:Iv b e.Var x e.dU=decide (Bs a v):=by
   unfold Iv Ad0;rw[A2 V,R]
   by_cases z:Bs a v<;>simp[z,DR]
  have n:((List.replicate types.length ([]:Up A6)).set e.Typ.toNat a)[x.Typ.toNat]? =some a:=by
   rw[o,Pi Ts]
  rw[r,n,B3]
  simp_all
 constructor
 ·rintro⟨_,l,B,h⟩
  rw[List.getElem?_set_ne AY,Vb]at B
  split at B
  ·cases B;exact absurd h Kt
  cases B
 omega
def AO8 {N:Nat} (g:TB N) {x:A0} (m:x.bulk<=1048576) (f:x.pre.length<=9):∃(a:K6) (e:Int),Gu N x=some (a,e)/\(e=0->Oc N x=0/\∃l,Sn N x l/\a.eH.length=l.length/\a.eG=Ie N l l.length/\a.eG.length<=2048/\∀d∈a.eG,d.dU.bulk<=16777216):=by
 unfold Gu FL
 by_cases k:Oc N x=0
 ·have Q:=BX0 g m f k;have⟨n,o,r⟩:=za0 g Q k;rw[o];simp only[A4]
  rcases r with r|⟨r,v⟩
  ·rw[A2 (As AY)];exact⟨_,_,rfl,λh=>by rw[r]at h;cases h⟩
  rw[A1 (T4 r)];have⟨V,cb,P⟩:=BC7 g (x:=x) AY k;have b:ClD N n.1:=⟨v.len,v.ok,v.good⟩;rw[P];simp only[A4];rw[A1 (T4 rfl),show(Fm N n.1)=some ((List.range n.1.length).map λ(i:Nat)=>((i:Int),Zk N n.1 i (n.1.getD i AK3)))from Bd5 g b];simp only[A4];have⟨s,A,p,K⟩:=Bm4 g b V cb;rw[A];simp only[A4];have y:=v.len;have j:=TF g b n.1.length (C6 _)
  have w:∀d∈s.eG,d.dU.bulk<=16777216:=λd hd=>by
   rw[K]at hd
   have⟨i,U,hd⟩:=List.mem_flatMap.1 hd;have U:=List.mem_range.1 U
   rw[QM U]at hd
   obtain⟨e,R,rfl⟩:=List.mem_map.1 hd;have X:=b.ok _ (I9 U);exact((AE3 (Es X.2.1).2.1 X.1 X.2.2).2.1 e R).2.1
  by_cases h:cmp .gtr (Ar.len s.eG) 2048=true
  ·rw[A2 h];exact⟨_,_,rfl,λh=>by cases h⟩
  rw[A1 h];refine⟨_,_,rfl,λ_=>⟨k,n.1,v,p,K,?_,w⟩⟩
  simp only[N5,A9,B3]at h
  grind
 have c:=drE g (x:=x) AY k;rw[c];simp only[A4];rw[A2 (As k)];exact⟨_,_,rfl,λh=>absurd h k⟩
def BF2 (types:Up F6)(n:Int)(e:C5)(m:K7):Prop:=m.eA=e.eA/\m.To=(if e.To<0 then n else e.To)/\CJ 40000000 types e.Typ e.dU e.Var=some (m.On,0)
def Ci7 (types:Up F6) {E:Up C5} (y:∀d∈E,d.dU.bulk<=16777216) (B:E.length<=2048) (n:Int) (w:Up Bool):∃t:D1×Int,((loopN (AM6 types E n) 40000000 (0,(⟨Ar.len types,[],[]⟩:D1))).bind λk=>
 match k with
 | .inl l=>
  some ({l with dY:=w},(0:Int))
 | .inr v=>
  some ((⟨0,[],[]⟩:D1),v.1))=some t/\(t.2=0->t.1.eC=types.length/\t.1.dY=w/\t.1.dX.length=E.length/\∀(j:Nat) e m,E[j]? =some e->t.1.dX[j]? =some m->BF2 types n e m):=by
 refine BZ1 (λ(j:Nat) (s:Int×D1)=>s.1=(j:Int)/\s.2.eC=types.length/\s.2.dX.length=j/\∀(i:Nat) e m,E[i]? =some e->s.2.dX[i]? =some m->BF2 types n e m) E.length AY ⟨rfl,A9 types,rfl,λi e m _ h=>by simp at h⟩ (λj s z ⟨e,e0,a,e2⟩=>?_) (λs ⟨e,e0,a,e2⟩=>?_)
 ·have⟨i,s⟩:=s
  dsimp only at e e0 a e2
  subst e;have p:=I9 z;have⟨r,x,_⟩:=Bu8 (types:=types) (index:=(E[j]).Typ) (own:=(E[j]).Var) (y _ p);unfold AM6;rw[A2 (RP AY),F3,D9 z];simp only[A4,x]
  by_cases L:cmp .neq r.2 0=true
  ·rw[A2 L];refine⟨_,rfl,?_⟩;refine⟨_,rfl,λh=>?_⟩
   rw[H7]at L
   simp_all
  rw[A1 L]
  have G:(if cmp .lss (E[j]).To 0=true then some n else some (E[j]).To:OS Int)=some (if cmp .lss (E[j]).To 0=true then n else(E[j]).To):=by split<;>rfl
  rw[G];simp only[A4];rw[T6 (by rw[a];simp;omega)];refine⟨_,rfl,Cm AY,e0,?_,λi e m R p=>?_⟩
  ·simp_all
  have p:(s.dX++[(⟨(E[j]).eA,if cmp .lss (E[j]).To 0=true then n else(E[j]).To,r.1⟩:K7)])[i]? =some m:=p
  by_cases K:i<j
  ·rw[GA AY]at p
   grind
  rw[GB AY]at p
  have b:=(List.getElem?_eq_some_iff.1 p).1
  simp at b
  have:i=j:=AY
  subst this
  rw[D9 z]at R
  cases R
  rw[show i-s.dX.length=0 by omega]at p
  simp at p
  subst p
  have Q:r.2=0:=by
   rw[H7]at L
   grind
  refine⟨rfl,?_,by rw[x,<-Q]⟩;simp only[B8,B3]
 have⟨i,s⟩:=s
 dsimp only at e e0 a e2
 subst e;unfold AM6;rw[A1 RQ]
 grind
structure BF4 (types:List F6) (x:A0) (s:D1) (l:List A0):Prop where
 sca:PE 40000000 types=0
 chk:Oc 40000000 x=0
 smp:x.pre.all PG=true
 cl:Sn 40000000 x l
 ty:s.eC=types.length
 fin:s.dY=(List.replicate (l.length+1) false).set l.length true
 len:l.length+1<=256
 bulk:∀d∈Ie 40000000 l l.length,d.dU.bulk<=16777216
 mlen:s.dX.length=(Ie 40000000 l l.length).length
 ml:s.dX.length<=2048
 mv:∀(j:Nat) e m,(Ie 40000000 l l.length)[j]? =some e->s.dX[j]? =some m->BF2 types l.length e m
def BP0 (types:Up F6) {x:A0} (f:x.bulk<=1048576) (v:x.pre.length<=9):∃r:D1×Int,AO 40000000 types x=some r/\(r.2=0->∃l,BF4 types x r.1 l):=by
 have g:40000000<=40000000:=C6 _;unfold AO;rw[An1 Sz];simp only[A4]
 by_cases L:PE 40000000 types=0
 case neg=>
  rw[A2 (As L)]
  simp_all
 rw[A1 (T4 L)];have⟨a,e,N,c5⟩:=AO8 g f v;rw[N];simp only[A4]
 by_cases O:e=0
 case neg=>
  rw[A2 (As O)]
  simp_all
 have⟨d,l,i,P,V,k,b⟩:=c5 O;rw[A1 (T4 O),Bu0 g 9 x v AY 40000000 Sz];simp only[A4]
 by_cases Z:x.pre.all PG=true
 case neg=>
  rw[A2 (by rw[S4];grind)]
  simp_all
 rw[A1 (by rw[S4,Z];simp),A9,P];have w:=i.len
 by_cases T:cmp .gtr (ar .add .i64 (l.length:Int) 1) 256=true
 ·rw[A2 T]
  simp_all
 rw[A1 T];have n:ar .add .i64 (l.length:Int) 1=((l.length+1:Nat):Int):=Cm AY
 have em:YZ (ar .add .i64 (l.length:Int) 1) (ar .add .i64 (l.length:Int) 1) (false:Bool)=some (List.replicate (l.length+1) false):=by
  rw[n]
  grind[YZ]
 rw[em];simp only[A4];rw[Bs7 AY Ts]
 have c:Ex (List.replicate (l.length+1) false) (l.length:Int) (λ_:Bool=>true)=some ((List.replicate (l.length+1) false).set l.length true):=by
  grind[Ex,F3]
 rw[c];simp only[A4];have⟨t,o,p⟩:=Ci7 types b k (l.length:Int) ((List.replicate (l.length+1) false).set l.length true);refine⟨t,o,λh=>⟨l,?_⟩⟩;have⟨j,m,y,K⟩:=p h
 rw[V]at y K k b
 refine⟨L,d,Z,i,j,m,?_,b,y,AY,K⟩
 rw[n]at T
 simp only[N5,B3]at T
 omega
end
end Go.Ab
namespace Go.Ab
noncomputable section
def AZ8 {n i:Nat}:((List.replicate (n+1) false).set n true)[i]? =some true<->i=n:=by
 rw[Z4]
 by_cases h:n=i
 ·subst h;simp
 rw[A1 h]
 constructor
 ·intro Z
  rw[Vb]at Z
  split at Z<;>cases Z
 intro Z;exact absurd Z.symm h
def Ai9 {types:Up F6} {p:A0} {s:D1} {l:Up A0} (h:BF4 types p s l) {T:Ij} {sy:B0->E9}:∀(JK:Up B0),(∀x∈JK,∀e∈Ie 40000000 l l.length,∀m,BF2 types l.length e m->(T e.Typ e.Var e.dU x<->Zj m.On (sy x)=true))->∀i:Nat,(∃j,Pth s (JK.map sy) i j/\s.dY[j]? =some true)<->Bn5 T (Ie 40000000 l l.length) l.length JK i
 |[],_,i=>by
  show(∃j,i=j/\s.dY[j]? =some true)<->i=l.length
  rw[h.fin]
  constructor
  ·rintro⟨j,rfl,z⟩;exact AZ8.1 z
  rintro rfl;exact⟨_,rfl,AZ8.2 rfl⟩
 | x::JK,V,i=>by
  have ih:=Ai9 h (T:=T) (sy:=sy) JK λy I=>V y (M1 _ I);have M:=V x OC
  constructor
  ·rintro⟨j,⟨m,r,f,c,k,t,N⟩,z⟩;have⟨q,d⟩:=AF r;have n:=(List.getElem?_eq_some_iff.1 d).1;have R:=D9 (show q<(Ie 40000000 l l.length).length by rw[<-h.mlen];exact n);have b:=h.mv q _ m R d;have a:=K4 R
   generalize (Ie 40000000 l l.length)[q]'(by rw[<-h.mlen];exact n)=e at R b a
   have⟨w,K,P⟩:=b;refine⟨e,a,by rw[<-w];exact f,(M e a m ⟨w,K,P⟩).2 c,(ih _).1 ⟨j,?_,z⟩⟩
   have:(if e.To<0 then l.length else e.To.toNat)=k:=by
    split at K
    ·next hl=>rw[A2 hl];omega
    next hl=>rw[A1 hl];omega
   rw[this];exact N
  rintro⟨e,a,f,c,u⟩;have⟨j,N,z⟩:=(ih _).2 u;have⟨q,R⟩:=AF a;have n:=(List.getElem?_eq_some_iff.1 R).1;have r:=D9 (show q<s.dX.length by rw[h.mlen];exact n);have b:=h.mv q e _ R r;have v:=K4 r
  generalize s.dX[q]'(by rw[h.mlen];exact n)=m at r b v
  have⟨w,K,P⟩:=b;refine⟨j,⟨m,v,by rw[w];exact f,(M e a m ⟨w,K,P⟩).1 c,_,?_,N⟩,z⟩;rw[K]
  split<;>omega
end
end Go.Ab
namespace Go.Ab
set_option maxRecDepth 100000
noncomputable section
variable{N:Nat}
def Bl0(g:TB N):∀(n:Nat) (p:A0),p.pre.length<=n->p.pre.length<=16777216->BE N n p=some (JK p:Int):=by
 intro n
 induction n with
 |zero=>intro p h;have:=Kv p;omega
 | succ n ih=>
  intro p h w;have f:=Kv p;have a:=DG p;unfold BE
  have L:((if cmp .eql p.Op 0=true then some 1 else some 0:OS Int))=some (if p.Op=0 then 1 else 0):=by
   rw[D8]
   by_cases h:p.Op=0<;>simp[h]
  rw[L];simp only[A4];rw[R6 p.dT AY (mk:=λ(s:Int) i=>(s,i)) (body:=λs q=>(BE N n q).bind λr=>some (.inl (ar .add .i64 s r))) (fin:=λs=>s) (s:=if p.Op=0 then 1 else 0) AY ?_ ?_]
  ·have⟨K,O,q,Z,T⟩:=Dv (R:=Int) (step:=λ(s:Int) q=>(BE N n q).bind λr=>some (.inl (ar .add .i64 s r)))
    (λr s=>∃q,q++r=p.dT/\s=((if p.Op=0 then 1 else 0:Int)+((A0.pres q).countP λy=>decide (y.Op=0):Nat))) (λx r s ⟨q,t,e2⟩=>by
     have M:x∈p.dT:=by rw[<-t];simp
     have v:=W1 M
     have c:(A0.pres q).length<=(A0.pres p.dT).length:=by rw[<-t,Hb];simp
     have d:=LZ (p:=λy:A0=>decide (y.Op=0)) (l:=A0.pres q);have b:=LZ (p:=λy:A0=>decide (y.Op=0)) (l:=x.pre);rw[ih x AY AY];refine⟨_,rfl,q++[x],Pw,?_⟩;have k:(JK x:Int)=((x.pre.countP λy=>decide (y.Op=0):Nat):Int):=rfl;rw[e2,Hb,EX]
     have:A0.pres [x]=x.pre:=by simp[A0.pres]
     rw[this,k,E6 (by split<;>omega) (by split<;>omega)]
     omega) (l:=p.dT) (s:=if p.Op=0 then 1 else 0) ⟨[],rfl,by simp[A0.pres]⟩
   rw[O];simp only[A4]
   rw[F2]at Z
   rw[T,Z,MT]
   by_cases h:p.Op=0<;>simp[h]
  ·intro s i x M U;have e:ar .add .i64 (i:Int) 1=i+1:=E6 AY AY;simp only[B8,A9,U,H8,B4,F3,M,A4,e];cases BE N n x<;>rfl
  exact Kk
def BN9(g:TB N):∀(n:Nat) (p:A0),p.pre.length<=n->p.pre.length<=16777216->Du N n p=some (p.pre.any λy=>decide (y.Op=4)):=by
 intro n
 induction n with
 |zero=>intro p h;have:=Kv p;omega
 | succ n ih=>
  intro p h v;have f:=Kv p;have b:=DG p;unfold Du;rw[A0.pre_eq p,GP]
  by_cases a:p.Op=4
  ·rw[A2 (by rw[D8];simp_all)];simp[a]
  rw[A1 (by rw[D8];grind)]
  rw [Ab0 (l:=p.dT) (λx=>x.pre.any λy=>decide (y.Op=4)) AY AY (λi x M U=>by
      have k:=K4 M;have r:=W1 k;have e:ar .add .i64 (i:Int) 1=i+1:=E6 AY AY;simp only[B8,A9,U,H8,B4,F3,M,A4,e,ih x AY AY]
      split<;>rfl) (by simp[B8,A9])]
  rw[Au3]
  grind
def few8(g:TB N){x:A8}(a:x.bulk<=16777216):∃b,KB N x=some b:=by
 unfold KB;have⟨r,L,_⟩:=AB7 g 200 N x AY a;rw[L];simp only[A4]
 split
 ·rw[AO2 g N x AY a];simp_all
 simp_all
def few9(g:TB N){x:A0}(h:x.bulk<=16777216):∃b,QA N x=some b:=by
 unfold QA;have⟨r,L,_⟩:=Ap6 g 150 N x AY h;rw[L];simp only[A4]
 split
 ·simp_all
 rw[BC5 g N x AY h];simp only[A4]
 split
 ·simp_all
 rw[Av6 g N x AY h];simp only[A4];have f:=KU x;rw[R6 x.pre AY (mk:=λ(_:Unit) i=>i) (body:=λ(_:Unit) a=>(KB N a.dU).bind λr=>if nt r=true then some (.inr (.inr ()))else some (.inl ())) (fin:=λ_=>.inl ()) (s:=()) AY ?_ ?_]
 ·have⟨o,X⟩:=Ag6 (F:=λ(a:A0)=>KB N a.dU) x.pre λa u=>few8 g (by have:=(IW x a u).1;have:=A0.bulk_eq a;omega);rw[X]
  cases o with
  |inl _=>simp_all
  |inr o=>cases o<;>exact⟨_,rfl⟩
 ·intro s i a u U;have e:ar .add .i64 (i:Int) 1=i+1:=E6 AY AY;simp only[B8,A9,U,H8,B4,F3,u,A4,e]
  grind
 exact Kk
def Au5(g:TB N){b n:Nat}(w:b<=20000000)(E:n<=20000000):∃r,Jy N (b:Int) (n:Int) 1500=some r/\(r<=1500->r=((b ^ n:Nat):Int)):=by
 unfold Jy
 have key:∀(k i M:Nat) (out:Int),i+k=n->k<M->out=((b ^ i:Nat):Int)->out<=30000000000->∃r,loopN
  (λ(A:Int×Int)=>
   (
    if Ar.an (cmp .lss A.2 (n:Int)) (cmp .leq A.1 1500)=true then
     some (.inl (ar .mul .i64 A.1 (b:Int),ar .add .i64 A.2 1))
    else
     some (.inr A.1)
    :OS ((Int×Int)⊕(Int))))
  M (out,(i:Int))=some r/\(r<=1500->r=((b ^ n:Nat):Int)):=by
  intro k
  induction k with
  |zero=>
   intro i M out U v X _;obtain⟨M,rfl⟩:∃m,M=m+1:=⟨M-1,AY⟩;refine⟨out,?_,λ_=>by rw[X,show i=n by omega]⟩;unfold loopN
   dsimp only
   rw[A1 (by simp only[Q4,B8];simp;omega)]
  | succ k ih=>
   intro i M out U v X G;obtain⟨M,rfl⟩:∃m,M=m+1:=⟨M-1,AY⟩
   have L:0<=out:=by rw[X];omega
   by_cases hle:out<=1500
   ·have l:out*(b:Int)<=1500*20000000:=Int.mul_le_mul hle AY AY AY;have a:0<=out*(b:Int):=Int.mul_nonneg L AY;have em:ar .mul .i64 out (b:Int)=out*(b:Int):=Bt AY AY;have e:ar .add .i64 (i:Int) 1=i+1:=E6 AY AY;have⟨r,O,Z⟩:=ih (i+1) M (out*(b:Int)) AY AY (by rw[X,OH];simp) AY;refine⟨r,?_,Z⟩;unfold loopN
    dsimp only
    rw[A2 (by simp only[Q4,B8,Gv];simp;omega),em,e,show((i:Int)+1)=((i+1:Nat):Int) by omega];exact O
   refine⟨out,?_,λh=>absurd h hle⟩;unfold loopN
   dsimp only
   rw[A1 (by simp only[Q4,B8,Gv];simp;omega)]
 have⟨r,O,Z⟩:=key n 0 N 1 AY AY OC AY;have L:((0:Nat):Int)=0:=rfl
 rw[L]at O
 grind
def Br3(g:TB N){p:A0}(K:p.bulk<=16777216){l:Up B0}(V:l.length<=16777216):∃b,Mk N p l=some b/\(b=true->l.length<=10/\((JK p+1) ^ l.length<=1500\/(Ia p/\l.length ^ JK p<=1500))/\∀x∈l,x.Values.length<=9):=by
 have⟨k,q⟩:=few9 g K;have c:=KU p;have P:JK p<=p.pre.length:=LZ;unfold Mk;rw[q];simp only[A4]
 by_cases O:Ar.or (nt k) (cmp .gtr (Ar.len l) 10)=true
 ·rw[A2 O];simp_all
 rw[A1 O]
 have B:l.length<=10:=by
  simp only[Q8,S4,N5,A9]at O
  grind
 rw[Ab0 (l:=l) (λx=>cmp .gtr (Ar.len x.Values) 9) AY AY (λi x M U=>by
  have e:ar .add .i64 (i:Int) 1=i+1:=E6 AY AY;rw[A2 (RP U),F3,M]
  grind) (by rw[A1 RQ])]
 simp only[A4]
 by_cases Z:(l.any λx=>cmp .gtr (Ar.len x.Values) 9)=true
 ·rw[A2 Z];simp_all
 rw[A1 Z]
 have j:∀x∈l,x.Values.length<=9:=λx M=>by
  rw[EK,GT]at Z
  have:=Z x M
  simp only[N5,A9,B3]at this
  omega
 dsimp only
 rw[Bl0 g N p AY AY,BN9 g N p AY AY];simp only[A4];have⟨r,T,m⟩:=Au5 g (b:=JK p+1) (n:=l.length) AY AY;have⟨d,v,o⟩:=Au5 g (b:=l.length) (n:=JK p) AY AY;rw[E6 (a:=(JK p:Int)) AY AY,show((JK p:Int)+1)=((JK p+1:Nat):Int) by omega,A9,T];simp only[A4]
 by_cases w:r<=1500
 ·rw[A2 (show cmp .leq r 1500=true from I8 w)]
  grind
 rw[A1 (show¬(cmp .leq r 1500=true) by rw[Gv];grind)]
 cases f:p.pre.any λy=>decide (y.Op=4)with
 |true=>
  rw[A1 (show¬nt true=true by decide)]
  simp_all
 | false=>
  rw[A2 (show nt false=true from rfl),v];refine⟨decide (d<=1500),rfl,λh=>⟨B,.inr ⟨λy I e=>?_,?_⟩,j⟩⟩
  ·rw[GT]at f
   simp_all
  grind
def Aq2{α:Type}{l:Up α}{step:Int->OS (Int⊕(Unit⊕Int))}{k:Unit⊕Int->OS Int}(P:α->Bool)(B:l.length<N)(g:l.length<1000000000)
 (a:∀(i:Nat) x,l[i]? =some x->(i:Int)<l.length->step i=some (if P x=true then .inr (.inr (i:Int))else .inl ((i:Int)+1)))
 (b:step (l.length:Int)=some (.inr (.inl ())))(L:k (.inl ())=some (-1))(O:∀i,k (.inr i)=some i):(((loopN step N 0).bind k).bind λe=>some (cmp .geq e 0))=some (l.any P):=by
 have⟨j,h,z⟩:=XS B g P () (λi=>i) a b;rw[h]
 by_cases u:l.any P=true
 ·rw[A2 u,u];simp only[A4,O,O0,I8 z]
 rw[A1 u];simp only[A4,L,O0]
 rw[EK]at u
 rw[u];rfl
def hasM(g:TB N){s:Up P6}(B:s.length<=1000000){f:P6->OS Bool}{P:P6->Bool}(q:∀x∈s,f x=some (P x)):U4 N s f=some (s.any P):=by
 unfold U4 AP
 exact Aq2 P AY AY (λi x M U=>by
  have e:ar .add .i64 (i:Int) 1=i+1:=E6 AY AY;rw[A2 (RP U),F3,M]
  grind) (by rw[A1 RQ]) rfl λ_=>rfl
def hasV(g:TB N){s:Up B0}(B:s.length<=1000000){f:B0->OS Bool}{P:B0->Bool}(q:∀x∈s,f x=some (P x)):U5 N s f=some (s.any P):=by
 unfold U5 AR
 exact Aq2 P AY AY (λi x M U=>by
  have e:ar .add .i64 (i:Int) 1=i+1:=E6 AY AY;rw[A2 (RP U),F3,M]
  grind) (by rw[A1 RQ]) rfl λ_=>rfl
def Bg4{types:Up F6}{e:B0}(B:e.Values.length<=1000)(g:1000<N):Mm N types e=some (Ki types e):=by
 unfold Mm Ki;simp only[B8,O0,N5,H7,Q8,A9,L7,B3,P9,O2]
 by_cases O:e.Source<0\/8<=e.Source
 ·simp_all
 simp only[A1 O]
 by_cases Z:((e.Seq<0\/1099511627776<e.Seq)\/e.Time<0)\/1099511627776<e.Time
 ·simp_all
 simp only[A1 Z]
 by_cases T:e.Typ<0\/(types.length:Int)<=e.Typ
 ·simp_all
 simp only[A1 T];have⟨s,G,a⟩:=Ku (l:=types) (i:=e.Typ) AY;rw[G,a];simp only[A4]
 by_cases h:e.Values.length=s.Fields.length
 ·rw[A1 AY,A1 AY];refine FM (Gg (l:=e.Values) (f:=vlF s.Fields) (N:=N) (e:=.inl ()) (b:=λr=>.inr r) (λi x M U=>?_) ?_ AY) ?_
  ·have q:=D9 (show i<s.Fields.length by omega);simp only[F3,M,q,A4,Bd0,B3];rw[A2 AY,Au0 U AY];unfold vlF;rw[q]
   grind
  ·rw[A1 AY]
  grind
 grind
end
end Go.Ab
namespace Go.Ab
noncomputable section
set_option maxRecDepth 100000
variable{l:Up A0}{p:A0}
def Br2(h:p.pre.all PG=true):TM p:=λy I=>by
 have:=List.all_eq_true.1 h y I
 unfold PG at this
 rw[B3]at this
 omega
def Ci8{types:Up F6}{s:D1}(h:BF4 types p s l)(b:p.bulk<=1048576):Si p/\NM p/\TM p:=by
 have m:=(ZI (N:=40000000) AY AY h.chk).1;have T:=AG8 (N:=40000000) AY (show p.bulk<=16777216 by omega) h.chk;have a:=Br2 h.smp;exact⟨m,Ch0 _ (C6 _) m (λy I=>(T y I).1) a,a⟩
def Ca2{types:Up F6}{s:D1}(h:BF4 types p s l)(hb:p.bulk<=1048576):Hn s=0:=by
 have E:40000000<=40000000:=C6 _;have⟨t,o⟩:=h.cl.head
 have L:1<=l.length:=by rw[o];simp
 have i:=h.len
 have e0:l[0]? =some p:=by rw[o];rfl
 have one:∀m∈s.dX,((0<=m.eA/\m.eA<((l.length+1:Nat):Int))/\0<=m.To/\m.To<((l.length+1:Nat):Int))/\YJ types.length m.On=0/\1<=types.length/\types.length<=16:=λm P=>by
  have⟨q,u⟩:=AF P;have v:=(List.getElem?_eq_some_iff.1 u).1;have R:=D9 (show q<(Ie 40000000 l l.length).length by rw[<-h.mlen];exact v);have⟨A,B,C⟩:=h.mv q _ m R u;have b:=K4 R
  generalize (Ie 40000000 l l.length)[q]'(by rw[<-h.mlen];exact v)=e at R A B C b
  have x:=h.bulk e b
  unfold Ie at b
  have⟨j,n,b⟩:=List.mem_flatMap.1 b;have n:=List.mem_range.1 n
  rw[QM n,Tu (h.cl.good _ (I9 n))]at b
  have⟨y,I,f⟩:=b
  have F:e.eA=(j:Int):=by rw[f]
  have G:e.To=if y.2.done=true then -1 else NX l y.2.p:=by rw[f]
  have M:e.To<0\/∃k:Nat,e.To=k/\k<l.length:=by
   rw[G]
   by_cases hd:y.2.done=true
   ·rw[A2 hd];left;omega
   rw[A1 hd];have⟨k,k1,k2⟩:=Ak6 (AU4 h.cl (I9 n) I hd)
   grind
  refine⟨⟨by rw[A,F];omega,?_⟩,?_⟩
  ·rw[B]
   grind
  have⟨⟨On,c⟩,D,T⟩:=Bu8 (types:=types) (index:=e.Typ) (own:=e.Var) x
  rw[C]at D
  cases D;have⟨s',a,x1,x2,x3,U,x5,x6,w,Z,x9⟩:=T rfl;have w:m.On=⟨(List.replicate types.length []).set e.Typ.toNat a⟩:=w;refine⟨?_,AY,U⟩
  have i:m.On.dW.length=types.length:=by rw[w];simp
  have Y:VW m.On=0:=WG AY λz Y=>by
   rw[w]at Y
   rcases Po Y with Y|rfl
   ·rw[(List.mem_replicate.1 Y).2];exact FT.srt trivial OC
   exact Z.srt x9
  have:YJ (m.On.dW.length:Int) m.On=0:=Y
  rw[i]at this
  exact this
 have d:raw p≠[]:=by
  have Q:=h.cl.ok p (K4 e0);have g:=Es Q.2.1;exact BX3 p.dep p (C6 _) λy I=>AK4 E AY g.1 g.2.2 I
 have J:s.dX≠[]:=λe=>by
  cases Q:raw p with
  |nil=>exact d Q
  | cons y r=>
   have P:(Zk 40000000 l 0 p).length=0\/True:=.inr trivial
   have:({y.1 with eA:=((0:Nat):Int),To:=if y.2.done=true then -1 else NX l y.2.p}:C5)∈Ie 40000000 l l.length:=by
    unfold Ie;refine List.mem_flatMap.2 ⟨0,List.mem_range.2 AY,?_⟩
    have N:l.getD 0 AK3=p:=by rw[o];rfl
    rw[N,Tu (h.cl.good p (K4 e0))]
    simp_all
   have O:=UW this
   rw[<-h.mlen,e]at O
   simp at O
 have⟨S,V⟩:=Md _ J
 have K:s.dY.length=l.length+1:=by rw[h.fin];simp
 have X:=one S V;refine BY0 ⟨by rw[h.ty];omega,AY,h.ml,λm P=>?_⟩;rw[h.ty,K]
 simp_all
def fitE{types:Up F6}{s:D1}(h:BF4 types p s l){sy:B0->E9}{x:B0}(M:x.Values.length<=1000)(O:Ki types x=0)(I:W0 40000000 types x=some (sy x,0)){e:C5}(R:e∈Ie 40000000 l l.length){m:K7}(n:BF2 types l.length e m):(TE e.Typ e.Var e.dU x<->Zj m.On (sy x)=true)/\(TA e.Typ e.Var e.dU x<->Zj m.On (sy x)=true):=by
 have f:=λi=>BC2 M h.sca O (h.bulk e R) n.2.2 I i;refine⟨⟨λ⟨a,i,b⟩=>(f i).2 ⟨a,b⟩,λk=>⟨((f ⟨[]⟩).1 k).1,_,((f ⟨[]⟩).1 k).2⟩⟩,λ⟨a,b⟩=>(f ⟨[]⟩).2 ⟨a,b _⟩,λk=>⟨((f ⟨[]⟩).1 k).1,λi=>((f i).1 k).2⟩⟩
def Aq5(k:p.bulk<=1048576){l:Up B0}(B:l.length<=10)(G:(JK p+1) ^ l.length<=1500\/(Ia p/\l.length ^ JK p<=1500)):∃r,Bd 40000000 p l=some r/\(r.2=0->(∃L:Up (Up PR),(∀s,s∈L<->BI l p [] 0 s)/\r.1.Perm (L.map (GH l)))/\r.1.length<=1500):=by
 by_cases O:Oc 40000000 p=0
 case neg=>
  refine⟨([],Oc 40000000 p),?_,λh=>absurd h O⟩;unfold Bd Bc;rw[KD AY AY];simp only[A4];rw[A2 (As O)];rfl
 by_cases Z:Ol l=0
 case neg=>
  refine⟨([],Ol l),?_,λh=>absurd h Z⟩;unfold Bd Bc;rw[KD AY AY];simp only[A4];rw[A1 (T4 O),AU0 AY];simp only[A4];rw[A2 (As Z)];rfl
 have⟨r,e,_,⟨L,_,a,b⟩,_,i⟩:=BK2 (N:=40000000) AY (show p.bulk<=16777216 by omega) B G O Z;refine⟨(r,0),?_,λ_=>⟨⟨L,a,b⟩,i⟩⟩;unfold Bd;rw[e];rfl
def Ah0(g:BN 40000000=some true)(types:Up F6)(hb:p.bulk<=1048576){l:Up B0}(B:l.length<=1048576):Ez 40000000 types p l=some true:=by
 unfold Ez
 by_cases g1:cmp .gtr (Ar.len types) 4=true
 ·rw[A2 g1,g];rfl
 rw[A1 g1];have⟨b2,e2,Z⟩:=BW7 (N:=40000000) AY (x:=p) AY;rw[e2];simp only[A4]
 cases b2 with
 |false=>rw[A2 (show nt false=true from rfl),g];rfl
 |true=>
 rw[A1 (show¬nt true=true by decide)];have⟨b4,e4,h4⟩:=Br3 (N:=40000000) AY (p:=p) AY (l:=l) AY;rw[e4];simp only[A4]
 by_cases g4:Ar.or (nt b4) (cmp .gtr (Ar.len l) 6)=true
 ·rw[A2 g4,g];rfl
 rw[A1 g4]
 have ac:b4=true:=by cases b4<;>simp_all[Q8,S4]
 have⟨F,G,hv⟩:=h4 ac
 have K:∀x∈l,x.Values.length<=1000:=λx M=>by have:=hv x M;omega
 rw[hasV (N:=40000000) AY AY (f:=λy1=>Y8 40000000 y1 types) (P:=λx=>decide ((if PE 40000000 types≠0 then PE 40000000 types else Ki types x)≠0)) (λx M=>by
  unfold Y8 PI;rw[BJ5 AY];simp only[A4]
  by_cases Y:PE 40000000 types=0
  ·rw[A1 (T4 Y),Bg4 (K x M) AY];simp[Y,H7]
  rw[A2 (As Y)]
  simp[Y,H7])]
 simp only[A4]
 by_cases X:(l.any λx=>decide ((if PE 40000000 types≠0 then PE 40000000 types else Ki types x)≠0))=true
 ·rw[A2 X,g];rfl
 rw[A1 X];have⟨r8,e8,h8⟩:=BP0 types hb (Z rfl);have⟨r9,e9,h9⟩:=Aq5 hb F G;rw[e8,e9];simp only[A4]
 by_cases z:Ar.or (cmp .neq r8.2 0) (cmp .neq r9.2 0)=true
 ·rw[A2 z,g];rfl
 rw[A1 z]
 simp only[Q8,H7,L7,P9,O2,not_or,OU]at z
 have⟨q,a⟩:=h8 z.1;have⟨⟨L,hL,k⟩,ai⟩:=h9 z.2
 have V:∀x∈l,Ki types x=0:=λx M=>by
  rw[EK,GT]at X
  have:=X x M
  grind
 have⟨hw,E,c⟩:=Ci8 a hb
 have⟨sy,d⟩:∃sy:B0->E9,∀x∈l,W0 40000000 types x=some (sy x,0)/\YH types.length (sy x)=0:=by
  refine⟨λx=>match W0 40000000 types x with|some r=>r.1|none=>⟨0,0⟩,λx M=>?_⟩;have⟨_,v,A,s2,s3,s4,C⟩:=AU7 (N:=40000000) (types:=types) (e:=x) ⟨[]⟩ (K x M) Sz 0 a.sca (V x M)
  dsimp only
  rw[s4];refine⟨rfl,?_⟩;have:=C.b
  show YH types.length ⟨x.Typ,v⟩=0
  unfold YH
  grind
 have ⟨aj,aa,ab⟩:=Ut (N:=40000000) (l:=l) (Q:=λ(r:Up E9⊕Unit)=>r= .inl (l.map sy))
  (I:=λi (s:Up E9×Int)=>s.1=(l.take i).map sy/\s.2=(i:Int))
  (s0:=(([]:Up E9),(0:Int)))
  (step:=λ(n:(Up E9)×Int)=>
   (
    if cmp .lss n.2 (Ar.len l)=true then
     (C4 l n.2).bind λah=>
     (W0 40000000 types ah).bind λS=>
     if cmp .neq S.2 0=true then
      some (.inr (.inr ()))
     else
      (K2 n.1 ([S.1])).bind λag=>
      some (.inl (ag,ar .add .i64 n.2 1))
    else
     some (.inr (.inl n.1))
    :OS (((Up E9)×Int)⊕(((Up E9))⊕Unit))))
  (λi x s M U ⟨u,O⟩=>by
   have⟨W,j⟩:=s
   dsimp only at u O
   subst O;have af:=(d x (K4 M)).1
   dsimp only
   rw[A2 (RP AY),F3,M];simp only[A4];rw[af];simp only[A4];rw[A1 (T4 rfl),T6 (by rw[u];simp;omega)];refine⟨_,rfl,?_,Cm AY⟩
   dsimp only
   rw[u,Jr,M,P8];rfl)
  (λs ⟨u,O⟩=>by
   have⟨W,j⟩:=s
   dsimp only at u O
   subst O;refine⟨_,by rw[A1 RQ],?_⟩
   rw[u,OO]) ⟨rfl,rfl⟩ AY
 rw[aa,ab];simp only[A4];have J:=Ca2 a hb
 have⟨b,eb,ae⟩:=BR5 (s:=r8.1) (w:=l.map sy) J (by rw[H9];omega) (λy hy=>by
  obtain⟨x,M,rfl⟩:=List.mem_map.1 hy
  rw[a.ty];simp_all)
 rw[eb,hasM (N:=40000000) AY AY (f:=λy1=>Y7 40000000 y1 l) (P:=λm=>decide (m.eB.length=l.length)) (λm _=>by
  unfold Y7;simp only[D8,A9]
  congr 1
  grind)]
 simp only[A4];have⟨t,o⟩:=a.cl.head
 have e0:q[0]? =some p:=by rw[o];rfl
 have pE:=Ai9 a (T:=TE) (sy:=sy) l (λx M e R m c=>(fitE a (K x M) (V x M) (d x M).1 R c).1) 0;have pA:=Ai9 a (T:=TA) (sy:=sy) l (λx M e R m c=>(fitE a (K x M) (V x M) (d x M).1 R c).2) 0;have lE:=YU (T:=TE) a.cl l 0 p e0 E;have lA:=YU (T:=TA) a.cl l 0 p e0 E;have⟨a1,a2⟩:=BW8 hw E c (l:=l)
 have D:(r9.1.any λm=>decide (m.eB.length=l.length))=true<->∃s,BI l p [] 0 s/\s.length=l.length:=by
  rw[DS]
  constructor
  ·rintro⟨m,c,h⟩;obtain⟨s,G,rfl⟩:=List.mem_map.1 (k.mem_iff.1 c)
   rw[B3,RO]at h
   grind
  rintro⟨s,G,h⟩;exact⟨GH l s,k.mem_iff.2 (GW ((hL s).2 G)),by rw[B3,RO];exact h⟩
 have ad:b=(r9.1.any λm=>decide (m.eB.length=l.length)):=by
  rw[AE,ae,D];exact⟨λh=>a2 (lA.1 (pA.1 h)),λh=>pE.2 (lE.2 (a1 h))⟩
 rw[<-ad,A2 (by cases b<;>rfl),g];rfl
end
end Go.Ab
namespace Go.Ab
open Go.RowKit Go.ChangeShapes Go.WideShapes Go.ChangeAt Go.Proofs Go.Proofs.YtaoapcidgbaagaaGreatDoor
set_option maxRecDepth 100000
variable{P:If}{p:Up MemPlace}{α β:Type}
mutual
def Om:A8->V
 |⟨e,args,var,field,b,a⟩=>.agg [.int .i64 e,.sl (AA8 args) .ro,.int .i64 var,.int .i64 field,.int .i64 b,.int .i64 a.Kind,.int .i64 a.Num,.str a.Text]
def AA8:Up A8->Up V
 |[]=>[]
 |a::r=>Om a::AA8 r
end
def Ad8:∀l:Up A8,AA8 l=l.map Om
 |[]=>by simp[AA8]
 |a::r=>by simp[AA8,Ad8 r]
mutual
def BP8:A0->V
 |⟨b,args,a,var,scope,span,c⟩=>.agg [.int .i64 b,.sl (AA6 args) .ro,.int .i64 a,.int .i64 var,.int .i64 scope,.int .i64 span,.int .i64 c.Op,.sl (c.dT.map Om) .ro,.int .i64 c.Var,.int .i64 c.Field,.int .i64 c.Kind,.int .i64 c.Value.Kind,.int .i64 c.Value.Num,.str c.Value.Text]
def AA6:Up A0->Up V
 |[]=>[]
 |a::r=>BP8 a::AA6 r
end
def Ad3:∀l:Up A0,AA6 l=l.map BP8
 |[]=>by simp[AA6]
 |a::r=>by simp[AA6,Ad3 r]
noncomputable def Ad6 (x:Y5):V:=.agg [.str x.Name,.int .i64 x.Kind]
noncomputable def AN8 (x:F6):V:=.agg [.str x.Name,.sl (lst Ad6 x.Fields) .ro]
noncomputable def Ad4 (x:B2):V:=.agg [.int .i64 x.Kind,.int .i64 x.Num,.str x.Text]
noncomputable def Ad7 (x:B0):V:=.agg [.int .i64 x.Source,.int .i64 x.Seq,.int .i64 x.Typ,.int .i64 x.Time,.sl (lst Ad4 x.Values) .ro]
noncomputable def Tt (x:A6):V:=.agg [.int .i64 x.Low,.int .i64 x.dV]
noncomputable def MV (x:Up A6):V:=.sl (lst Tt x) .ro
noncomputable def Tru (x:D3):V:=.agg [.sl (lst MV x.dW) .ro]
noncomputable def BC0 (x:K7):V:=.agg [.int .i64 x.eA,.int .i64 x.To,.sl (lst MV x.On.dW) .ro]
noncomputable def VH (x:N2):V:=.agg [.int .i64 x.Var,.int .i64 x.Ref.Time,.int .i64 x.Ref.Source,.int .i64 x.Ref.Seq]
noncomputable def Bl7 (x:P6):V:=.agg [.sl (lst VH x.eB) .ro]
noncomputable def Yw (x:E9):V:=.agg [.int .i64 x.Typ,.int .i64 x.Num]
noncomputable def Ad5 (x:Ck):V:=.agg [.int .i64 x.dZ,.int .i64 x.Typ,.int .i64 x.Var,.int .i64 x.dU.Op,.sl (lst Om x.dU.dT) .ro,.int .i64 x.dU.Var,.int .i64 x.dU.Field,.int .i64 x.dU.Kind,.int .i64 x.dU.Value.Kind,.int .i64 x.dU.Value.Num,.str x.dU.Value.Text]
noncomputable def Bl6 (x:Oj):V:=.agg [.sl (lst Ad5 x.eR) .ro]
noncomputable def UF (x:Cq):V:=.agg [.int .i64 x.dZ,.int .i64 x.Span]
noncomputable def BC1 (x:C5):V:=.agg [.int .i64 x.eA,.int .i64 x.To,.int .i64 x.Var,.int .i64 x.Typ,.int .i64 x.dU.Op,.sl (lst Om x.dU.dT) .ro,.int .i64 x.dU.Var,.int .i64 x.dU.Field,.int .i64 x.dU.Kind,.int .i64 x.dU.Value.Kind,.int .i64 x.dU.Value.Num,.str x.dU.Value.Text,.sl (lst (V.int .i64) x.eL) .ro,.sl (lst (V.int .i64) x.eN) .ro,.sl (lst Om x.eI) .ro,.sl (lst UF x.eO) .ro,.sl (lst (V.int .i64) x.eM) .ro]
noncomputable def Al5 (x:R9):V:=.agg [.str x.Name,.int .i64 x.Typ]
noncomputable def jmp (x:A3):V:=.agg [.int .i64 x.eF,.int .i64 x.at_]
noncomputable def za9 (x:H6):V:=.agg [.int .i64 x.source,.int .i64 x.seq]
noncomputable def za6 (x:V4):V:=.agg [.int .i64 x.eJ,.int .i64 x.most,.bool x.eE,.bool x.cond,.bool x.scope,.bool x.span]
noncomputable def Bl5 (x:Up A8):V:=.sl (lst Om x) .ro
noncomputable def AN7 (x:Up B0):V:=.sl (lst Ad7 x) .ro
noncomputable def AA7 (x:Up E9):V:=.sl (lst Yw x) .ro
noncomputable def Cj0 (x:Up Int):V:=.sl (lst (V.int .i64) x) .ro
noncomputable def AN6 (x:Up Cq):V:=.sl (lst UF x) .ro
noncomputable def xop (x:Up A3):V:=.sl (lst jmp x) .ro
noncomputable def za4 (x:Up (Up A3)):V:=.sl (lst xop x) .ro
noncomputable instance encsInst :J6 where
 eCn6:=Ad6
 eCp2:=λ_=>rfl
 eCm0:=AN8
 eCo1:=λ_=>rfl
 eCm3:=Ad4
 eCn3:=λ_=>rfl
 eCl6:=Om
 eCn0:=λ⟨_,_,_,_,_,_⟩=>by simp only[Om,Ad8];rfl
 eCl1:=BP8
 eCl5:=λ⟨_,_,_,_,_,_,_⟩=>by simp only[BP8,Ad3];rfl
 eCl4:=Ad7
 eCn1:=λ_=>rfl
 eCl2:=Tt
 eCm7:=λ_=>rfl
 eCp8:=Tru
 eCp3:=λ_=>rfl
 eCm2:=BC0
 eCm1:=λ_=>rfl
 eCm9:=VH
 eCo8:=λ_=>rfl
 eCm4:=Bl7
 eCo9:=λ_=>rfl
 eCl9:=Yw
 eCo6:=λ_=>rfl
 eCn7:=Ad5
 eCq2:=λ_=>rfl
 eCn2:=Bl6
 eCq3:=λ_=>rfl
 eCm6:=UF
 eCp9:=λ_=>rfl
 eCl3:=BC1
 eCn4:=λ_=>rfl
 eCm5:=Al5
 eCp4:=λ_=>rfl
 eCl0:=jmp
 eCn8:=λ_=>rfl
 eCo2:=za9
 eCp0:=λ_=>rfl
 eCq0:=za6
 eCq5:=λ_=>rfl
 eCo3:=Bl5
 eCp5:=λ_=>rfl
 eCo7:=AN7
 eCq4:=λ_=>rfl
 eCq1:=AA7
 eCp1:=λ_=>rfl
 eLI:=Cj0
 eCo0:=λ_=>rfl
 eCo5:=AN6
 eCp6:=λ_=>rfl
 eCl7:=MV
 eCm8:=λ_=>rfl
 eCn9:=za4
 eCp7:=λ_=>rfl
 eCl8:=xop
 eCn5:=λ_=>rfl
def VX {α:Type}(f:α->Nat):Up α->Nat
 |[]=>1
 |a::l=>f a+VX f l
def AW9 {α:Type}{f:α->Nat}(q:∀a,1<=f a):∀l:Up α,l.length+1<=VX f l
 |[]=>by simp[VX]
 |b::l=>by have:=q b;have:=AW9 q l;simp only[VX,K8];omega
section
variable [O7]{H:Type}{enc:TypeId×Value->H}{W:World}{base:Nat}{spare:Nat->Bool}{held:Bool}
abbrev bk (d:DataW H):Nat:=Rows.uptoBulk d
noncomputable def Yl (P:If)(t:Do):SI Field:=match P.underlying t with|some (.struct fs)=>fs|_=> #[]
def O5{t ty off sz:Nat}{xs:Up (DataW H×Up MemPlace)}{cs:Up HO}{n:Nat}(B:xs.length=(Yl P t).size)
 (q:∀(i:Nat) (f:Field),(Yl P t)[i]? =some f->DataW.trod enc P W base spare held n f.type ((cs.drop f.offset).take (P.cellsOf f.type))=xs[i]?)(i:Nat)
 (h:((Yl P t)[i]?.map λf=>(f.type,f.offset,P.cellsOf f.type))=some (ty,off,sz)):∃y,xs[i]? =some y/\DataW.trod enc P W base spare held n ty ((cs.drop off).take sz)=some y:=by
 cases U:(Yl P t)[i]? with
 |none=>rw[U]at h;cases h
 |some f=>
  rw[U]at h
  simp only[K1,E5,LL]at h
  obtain⟨rfl,rfl,rfl⟩:=h;exact AM8 B q i U
def Opens.down{t:Do}{f:α->V}{R:α->DataW H->Prop}{n:Nat}(h:Opens enc P W base spare held t f R (n+1)):Opens enc P W base spare held t f R n:=λcs x M=>h cs x (DataW.trod_le (Nat.le_succ n) M)
def Opens.imp{t:Do}{f:α->V}{R R':α->DataW H->Prop}{n:Nat}(h:Opens enc P W base spare held t f R n)(U:∀a d,R a d->R' a d):Opens enc P W base spare held t f R' n:=λcs x M=>by
 obtain⟨a,r,q⟩:=h cs x M;exact⟨a,r,U _ _ q⟩
def Opens.congr{t:Do}{f g:α->V}{R:α->DataW H->Prop}{n:Nat}(h:Opens enc P W base spare held t f R n)(b:∀x,f x=g x):Opens enc P W base spare held t g R n:=λcs x M=>by
 obtain⟨a,r,q⟩:=h cs x M;exact⟨a,by rw[<-b];exact r,q⟩
def BT5 {α:Type} {f:α->Nat}:∀(l:Up α) (ds:Up (DataW H)),RL (λa d=>f a<=bk d) l ds->VX f l<=Rows.uptoBulkAll ds+1
 |[],ds,h=>by simp[VX]
 |a::l,[],h=>by have:=h.1;simp at this
 |a::l,d::ds,h=>by
  have O:f a<=bk d:=h.2 0 a d rfl rfl;have Z:=BT5 l ds ⟨by simpa using h.1,λi a d U hd=>h.2 (i+1) a d (by simpa using U) (by simpa using hd)⟩;simp only[VX,Rows.uptoBulkAll];have T:bk d=Rows.uptoBulk d:=rfl;omega
def ZS{f:α->Nat}{l:Up α}{d:DataW H}(h:RS (λa d=>f a<=bk d) l d):VX f l<=bk d:=by
 obtain⟨_,h⟩:=h
 rcases h with⟨rfl,rfl⟩|⟨b,e,rfl,h⟩
 ·simp[bk,Rows.uptoBulk,VX]
 have:=BT5 l b h;simp only[bk,Rows.uptoBulk];omega
def AD1:∀l:Up A8,A8.bulks l=VX A8.bulk l
 |[]=>by simp[A8.bulks,VX]
 |a::l=>by simp[A8.bulks,VX,AD1 l]
def BD1{l:Up A8}{d:DataW H}(h:RS (λa d=>A8.bulk a<=bk d) l d):A8.bulks l<=bk d:=by rw[AD1];exact ZS h
def Af0:∀l:Up A0,A0.bulks l=VX A0.bulk l
 |[]=>by simp[A0.bulks,VX]
 |a::l=>by simp[A0.bulks,VX,Af0 l]
def AD2{l:Up A0}{d:DataW H}(h:RS (λa d=>A0.bulk a<=bk d) l d):A0.bulks l<=bk d:=by rw[Af0];exact ZS h
def By1{xs:Up β}{a b:β}(B:xs.length=2)(L:xs[0]? =some a)(O:xs[1]? =some b):xs=[a,b]:=by
 match xs,B with
 |[e,h],_=>simp at L O;rw[L,O]
def BZ5{xs:Up β}{a b c:β}(B:xs.length=3)(L:xs[0]? =some a)(O:xs[1]? =some b)(Z:xs[2]? =some c):xs=[a,b,c]:=by
 match xs,B with
 |[e,h,i],_=>simp at L O Z;rw[L,O,Z]
def BZ4{xs:Up β}{a b c d e:β}(B:xs.length=5)(L:xs[0]? =some a)(O:xs[1]? =some b)(Z:xs[2]? =some c)(T:xs[3]? =some d)(h:xs[4]? =some e):xs=[a,b,c,d,e]:=by
 match xs,B with
 |[i,k,l,n,r],_=>simp at L O Z T h;rw[L,O,Z,T,h]
def BZ3{xs:Up β}{a b c d e f:β}(B:xs.length=6)(L:xs[0]? =some a)(O:xs[1]? =some b)(Z:xs[2]? =some c)(T:xs[3]? =some d)(h:xs[4]? =some e)(i:xs[5]? =some f):xs=[a,b,c,d,e,f]:=by
 match xs,B with
 |[k,l,n,r,v,x5],_=>simp at L O Z T h i;rw[L,O,Z,T,h,i]
def BZ2{xs:Up β}{a b c d e f g:β}(B:xs.length=7)(L:xs[0]? =some a)(O:xs[1]? =some b)(Z:xs[2]? =some c)(T:xs[3]? =some d)(h:xs[4]? =some e)(i:xs[5]? =some f)(k:xs[6]? =some g):xs=[a,b,c,d,e,f,g]:=by
 match xs,B with
 |[l,n,r,v,w,x5,x],_=>simp at L O Z T h i k;rw[L,O,Z,T,h,i,k]
def u28:Tryz.prog.underlying 28=some (.struct (Yl Tryz.prog 28)):=JO
def u24:Tryz.prog.underlying 24=some (.slice 28):=JO
def u3:Tryz.prog.underlying 3=some (.int .i64):=JO
def FP (n:Nat):Opens enc Tryz.prog W base spare held 3 (V.int .i64) (λa d=>(λ_:Int=>1) a<=bk d) n:=(Uk u3).imp λa d h=>by subst h;simp[bk,Rows.uptoBulk]
def u26:Tryz.prog.underlying 26=some (.struct (Yl Tryz.prog 26)):=JO
def u9:Tryz.prog.underlying 9=some .string:=JO
def AK2 (n:Nat):Opens enc Tryz.prog W base spare held 9 V.str (λa d=>(λs:Uf=>s.size+1) a<=bk d) n:=(Bh4 u9).imp λa d h=>by obtain⟨rfl,_⟩:=h;simp[bk,Rows.uptoBulk]
def B2.mu (x:B2):Nat:=(λ_:Int=>1) x.Kind+(λ_:Int=>1) x.Num+(λs:Uf=>s.size+1) x.Text+1
def AV3 (n:Nat):Opens enc Tryz.prog W base spare held 26 J6.eCm3 (λ(a:B2) d=>B2.mu a<=bk d) n:=by
 intro cs x h;obtain⟨xs,m,p,rfl,e,B,q⟩:=EW u26 h;subst p;obtain⟨t,v,j⟩:=O5 B q 0 (ty:=3) (off:=0) (sz:=1) JO;obtain⟨u,w,o⟩:=O5 B q 1 (ty:=3) (off:=1) (sz:=1) JO;obtain⟨z,y,s⟩:=O5 B q 2 (ty:=9) (off:=2) (sz:=1) JO;have i:=BZ5 (B.trans JO) v w y;obtain⟨k,c,K⟩:=FP _ _ _ j;obtain⟨l,f,N⟩:=FP _ _ _ o;obtain⟨r,g,P⟩:=AK2 _ _ _ s;refine⟨⟨k,l,r⟩,?_,?_⟩
 ·have b:cs.length=3:=e.trans JO;have:=(c.join f).join g;rw[J6.eCn3]
  simp only[lst_eq]at this ⊢
  exact zbw
 simp only[bk]at K N P
 rw[i];simp only[D2,G8,bk,Rows.uptoBulk,Rows.uptoBulkAll,B2.mu];omega
def BL6:∀n:Nat,Opens enc Tryz.prog W base spare held 28 J6.eCl6 (λ(a:A8) d=>A8.bulk a<=bk d) n:=by
 intro n
 induction n with
 |zero=>intro cs x h;simp[DataW.trod]at h
 |succ n ih=>
 intro cs x h;obtain⟨xs,m,p,rfl,i,B,b⟩:=EW u28 h;cases p;obtain⟨U,f,M⟩:=O5 B b 0 (ty:=3) (off:=0) (sz:=1) JO;obtain⟨T,g,v⟩:=O5 B b 1 (ty:=24) (off:=1) (sz:=1) JO;obtain⟨X,j,O⟩:=O5 B b 2 (ty:=3) (off:=2) (sz:=1) JO;obtain⟨Y,o,Q⟩:=O5 B b 3 (ty:=3) (off:=3) (sz:=1) JO;obtain⟨Z,s,R⟩:=O5 B b 4 (ty:=3) (off:=4) (sz:=1) JO;obtain⟨y5,t,S⟩:=O5 B b 5 (ty:=26) (off:=5) (sz:=3) JO;have k:=BZ3 (B.trans JO) f g j o s t;obtain⟨w,F,u⟩:=FP _ _ _ M
 obtain⟨y,G,z⟩:∃a:Up A8,IN (g0 W) W ((cs.drop 1).take 1) (V.sl (a.map J6.eCl6) .ro).cells/\A8.bulks a<=bk T.1:=by
  cases n with
  |zero=>simp[DataW.trod]at v
  |succ n=>
   obtain⟨a,r,q⟩:=Hf u24 (show 0<Tryz.prog.cellsOf 28 by rw[show Tryz.prog.cellsOf 28=8 by kernel_rfl];decide) ih.down _ _ v;exact⟨a,r,BD1 q⟩
 obtain⟨K,I,A⟩:=FP _ _ _ O;obtain⟨N,J,C⟩:=FP _ _ _ Q;obtain⟨P,L,D⟩:=FP _ _ _ R;obtain⟨c,l,E⟩:=AV3 _ _ _ S;refine⟨⟨w,y,K,N,P,c⟩,?_,?_⟩
 ·have e:cs.length=8:=i.trans JO
  rw[J6.eCn3]at l
  have:=((((F.join G).join I).join J).join L).join l;rw[J6.eCn0]
  simp only[lst_eq]at this ⊢
  simpa[W4,e,V.cells]using this
 simp only[bk]at u z A C D E
 rw[k]
 simp only[D2,G8,bk,Rows.uptoBulk,Rows.uptoBulkAll,A8.bulk,B2.mu]at *
 omega
def u30:Tryz.prog.underlying 30=some (.struct (Yl Tryz.prog 30)):=JO
def u23:Tryz.prog.underlying 23=some (.slice 30):=JO
def BL5:∀n:Nat,Opens enc Tryz.prog W base spare held 30 J6.eCl1 (λ(a:A0) d=>A0.bulk a<=bk d) n:=by
 intro n
 induction n with
 |zero=>intro cs x h;simp[DataW.trod]at h
 |succ n ih=>
 intro cs x h;obtain⟨xs,m,p,rfl,i,B,b⟩:=EW u30 h;cases p;obtain⟨y0,g,S⟩:=O5 B b 0 (ty:=3) (off:=0) (sz:=1) JO;obtain⟨y1,j,v⟩:=O5 B b 1 (ty:=23) (off:=1) (sz:=1) JO;obtain⟨y2,o,T⟩:=O5 B b 2 (ty:=3) (off:=2) (sz:=1) JO;obtain⟨y3,s,U⟩:=O5 B b 3 (ty:=3) (off:=3) (sz:=1) JO;obtain⟨y4,t,X⟩:=O5 B b 4 (ty:=3) (off:=4) (sz:=1) JO;obtain⟨y5,u,Y⟩:=O5 B b 5 (ty:=3) (off:=5) (sz:=1) JO;obtain⟨y6,z,Z⟩:=O5 B b 6 (ty:=28) (off:=6) (sz:=8) JO;have k:=BZ2 (B.trans JO) g j o s t u z;obtain⟨w,J,A⟩:=FP _ _ _ S
 obtain⟨y,L,C⟩:∃a:Up A0,IN (g0 W) W ((cs.drop 1).take 1) (V.sl (a.map J6.eCl1) .ro).cells/\A0.bulks a<=bk y1.1:=by
  cases n with
  |zero=>simp[DataW.trod]at v
  |succ n=>
   obtain⟨a,r,q⟩:=Hf u23 (show 0<Tryz.prog.cellsOf 30 by rw[show Tryz.prog.cellsOf 30=14 by kernel_rfl];decide) ih.down _ _ v;exact⟨a,r,AD2 q⟩
 obtain⟨K,M,D⟩:=FP _ _ _ T;obtain⟨N,O,E⟩:=FP _ _ _ U;obtain⟨P,Q,F⟩:=FP _ _ _ X;obtain⟨c,R,G⟩:=FP _ _ _ Y;obtain⟨f,l,I⟩:=BL6 _ _ _ Z;refine⟨⟨w,y,K,N,P,c,f⟩,?_,?_⟩
 ·have e:cs.length=14:=i.trans JO
  rw[J6.eCn0]at l
  have:=(((((J.join L).join M).join O).join Q).join R).join l;rw[J6.eCl5]
  simp only[lst_eq]at this ⊢
  simpa[W4,e,V.cells]using this
 simp only[bk]at A C D E F G I
 rw[k]
 simp only[D2,G8,bk,Rows.uptoBulk,Rows.uptoBulkAll,A0.bulk,B2.mu]at *
 omega
def u87:Tryz.prog.underlying 87=some (.struct (Yl Tryz.prog 87)):=JO
def u85:Tryz.prog.underlying 85=some (.slice 110):=JO
def u110:Tryz.prog.underlying 110=some (.struct (Yl Tryz.prog 110)):=JO
def Y5.mu (x:Y5):Nat:=(λs:Uf=>s.size+1) x.Name+(λ_:Int=>1) x.Kind+1
def Bu4 (n:Nat):Opens enc Tryz.prog W base spare held 110 J6.eCn6 (λ(a:Y5) d=>Y5.mu a<=bk d) n:=by
 intro cs x h;obtain⟨xs,m,p,rfl,e,B,q⟩:=EW u110 h;subst p;obtain⟨f,r,P⟩:=O5 B q 0 (ty:=9) (off:=0) (sz:=1) JO;obtain⟨g,v,c⟩:=O5 B q 1 (ty:=3) (off:=1) (sz:=1) JO;have i:=By1 (B.trans JO) r v;obtain⟨k,K,w⟩:=AK2 _ _ _ P;obtain⟨l,N,y⟩:=FP _ _ _ c;refine⟨⟨k,l⟩,?_,?_⟩
 ·have b:cs.length=2:=e.trans JO;have:=K.join N;rw[J6.eCp2]
  simp only[lst_eq]at this ⊢
  exact zbw
 simp only[bk]at w y
 rw[i];simp only[D2,G8,bk,Rows.uptoBulk,Rows.uptoBulkAll,Y5.mu];omega
def BL1 (n:Nat):Opens enc Tryz.prog W base spare held 85 (λl:Up Y5=>.sl (lst J6.eCn6 l) .ro) (λa d=>(VX Y5.mu) a<=bk d) n:=
 Opens.down (((Hf u85 (show 0<Tryz.prog.cellsOf 110 by rw[show Tryz.prog.cellsOf 110=2 by kernel_rfl];decide) (Bu4 n)).imp λa d h=>ZS h).congr λx=>by rw[lst_eq])
def F6.mu (x:F6):Nat:=(λs:Uf=>s.size+1) x.Name+(VX Y5.mu) x.Fields+1
def BL0 (n:Nat):Opens enc Tryz.prog W base spare held 87 J6.eCm0 (λ(a:F6) d=>F6.mu a<=bk d) n:=by
 intro cs x h;obtain⟨xs,m,p,rfl,e,B,q⟩:=EW u87 h;subst p;obtain⟨f,r,P⟩:=O5 B q 0 (ty:=9) (off:=0) (sz:=1) JO;obtain⟨g,v,c⟩:=O5 B q 1 (ty:=85) (off:=1) (sz:=1) JO;have i:=By1 (B.trans JO) r v;obtain⟨k,K,w⟩:=AK2 _ _ _ P;obtain⟨l,N,y⟩:=BL1 _ _ _ c;refine⟨⟨k,l⟩,?_,?_⟩
 ·have b:cs.length=2:=e.trans JO;have:=K.join N;rw[J6.eCo1]
  simp only[lst_eq]at this ⊢
  exact zbw
 simp only[bk]at w y
 rw[i];simp only[D2,G8,bk,Rows.uptoBulk,Rows.uptoBulkAll,F6.mu];omega
def u22:Tryz.prog.underlying 22=some (.slice 87):=JO
def BL7 (n:Nat):Opens enc Tryz.prog W base spare held 22 (λl:Up F6=>.sl (lst J6.eCm0 l) .ro) (λa d=>(VX F6.mu) a<=bk d) n:=
 Opens.down (((Hf u22 (show 0<Tryz.prog.cellsOf 87 by rw[show Tryz.prog.cellsOf 87=2 by kernel_rfl];decide) (BL0 n)).imp λa d h=>ZS h).congr λx=>by rw[lst_eq])
def u37:Tryz.prog.underlying 37=some (.struct (Yl Tryz.prog 37)):=JO
def u35:Tryz.prog.underlying 35=some (.slice 26):=JO
def BL3 (n:Nat):Opens enc Tryz.prog W base spare held 35 (λl:Up B2=>.sl (lst J6.eCm3 l) .ro) (λa d=>(VX B2.mu) a<=bk d) n:=
 Opens.down (((Hf u35 (show 0<Tryz.prog.cellsOf 26 by rw[show Tryz.prog.cellsOf 26=3 by kernel_rfl];decide) (AV3 n)).imp λa d h=>ZS h).congr λx=>by rw[lst_eq])
def B0.mu (x:B0):Nat:=(λ_:Int=>1) x.Source+(λ_:Int=>1) x.Seq+(λ_:Int=>1) x.Typ+(λ_:Int=>1) x.Time+(VX B2.mu) x.Values+1
def BL2 (n:Nat):Opens enc Tryz.prog W base spare held 37 J6.eCl4 (λ(a:B0) d=>B0.mu a<=bk d) n:=by
 intro cs x h;obtain⟨xs,m,p,rfl,e,B,q⟩:=EW u37 h;subst p;obtain⟨J,y,D⟩:=O5 B q 0 (ty:=3) (off:=0) (sz:=1) JO;obtain⟨L,K,E⟩:=O5 B q 1 (ty:=3) (off:=1) (sz:=1) JO;obtain⟨M,N,F⟩:=O5 B q 2 (ty:=3) (off:=2) (sz:=1) JO;obtain⟨O,P,G⟩:=O5 B q 3 (ty:=3) (off:=3) (sz:=1) JO;obtain⟨Q,c,I⟩:=O5 B q 4 (ty:=35) (off:=4) (sz:=1) JO;have i:=BZ4 (B.trans JO) y K N P c;obtain⟨k,t,f⟩:=FP _ _ _ D;obtain⟨l,u,g⟩:=FP _ _ _ E;obtain⟨r,z,j⟩:=FP _ _ _ F;obtain⟨v,A,o⟩:=FP _ _ _ G;obtain⟨w,C,s⟩:=BL3 _ _ _ I;refine⟨⟨k,l,r,v,w⟩,?_,?_⟩
 ·have b:cs.length=5:=e.trans JO;have:=(((t.join u).join z).join A).join C;rw[J6.eCn1]
  simp only[lst_eq]at this ⊢
  exact zbw
 simp only[bk]at f g j o s
 rw[i];simp only[D2,G8,bk,Rows.uptoBulk,Rows.uptoBulkAll,B0.mu];omega
def u31:Tryz.prog.underlying 31=some (.slice 37):=JO
def BL4 (n:Nat):Opens enc Tryz.prog W base spare held 31 (λl:Up B0=>.sl (lst J6.eCl4 l) .ro) (λa d=>(VX B0.mu) a<=bk d) n:=
 Opens.down (((Hf u31 (show 0<Tryz.prog.cellsOf 37 by rw[show Tryz.prog.cellsOf 37=5 by kernel_rfl];decide) (BL2 n)).imp λa d h=>ZS h).congr λx=>by rw[lst_eq])
def Am8{v:HO}{d:DataW H}(j:Value.okWide Tryz.prog W .any base 30 v)(h:DataW.Trod enc Tryz.prog W 0 (λ_=>true) true 30 v d p):∃x:A0,VR (g0 W) W v (J6.eCl1 x)/\A0.bulk x<=Rows.uptoBulk d:=by
 obtain⟨a,o⟩:=h;obtain⟨cs,rfl,i⟩:=okWide_struct u30 j;obtain⟨x,Q,e⟩:=BL5 a _ _ o;have b:IN (g0 W) W cs.toList (J6.eCl1 x).cells:=Q;refine⟨x,?_,e⟩;have:=b.agg
 rw[J6.eCl5]at this ⊢
 exact this
def Am7{v:HO}{d:DataW H}(j:Value.okWide Tryz.prog W .any base 22 v)(h:DataW.Trod enc Tryz.prog W 0 (λ_=>true) true 22 v d p):∃x:Up F6,VR (g0 W) W v (.sl (lst J6.eCm0 x) .ro)/\(VX F6.mu) x<=Rows.uptoBulk d:=by
 obtain⟨b,o⟩:=h;obtain⟨a,len,cap,rfl⟩:=okWide_slice u22 j;obtain⟨x,Q,e⟩:=BL7 b _ _ o;exact⟨x,(Q.2 0 (by simp[V.cells])).2,e⟩
def AD9{v:HO}{d:DataW H}(j:Value.okWide Tryz.prog W .any base 31 v)(h:DataW.Trod enc Tryz.prog W 0 (λ_=>true) true 31 v d p):∃x:Up B0,VR (g0 W) W v (.sl (lst J6.eCl4 x) .ro)/\(VX B0.mu) x<=Rows.uptoBulk d:=by
 obtain⟨b,o⟩:=h;obtain⟨a,len,cap,rfl⟩:=okWide_slice u31 j;obtain⟨x,Q,e⟩:=BL4 b _ _ o;exact⟨x,(Q.2 0 (by simp[V.cells])).2,e⟩
def u4:Tryz.prog.underlying 4=some .bool:=JO
def BN4{f:FuncId}{vals:SI HO}{args:Up V}(i:∀n,VR (g0 W) W (.pointer (some ⟨n,0,none⟩)) (O7.gl n))(a:∀vals w,(callFunc f vals).run Tryz.prog w= .ok (.enter f vals) w)(law:B1 Tryz.prog f args (.bool true))(h:Args (g0 W) W vals args):
 Calls Tryz.prog f vals W λe W'=>e= .returned (.bool true)/\Below W.heap.size W W':=by
 have d:=law (λ_=>none) (g0 W) W vals (rl0 i) h
 rw[a]at d
 refine(callsIn_wide.1 d).mono λe W' ⟨v,R,g',y,H',G,C,b,I,_⟩=>?_;subst I;cases b;exact⟨R,G.low⟩
def Cj8{a b e:HO}{h k l:V}(L:VR (g0 W) W a h)(O:VR (g0 W) W b k)(Z:VR (g0 W) W e l):Args (g0 W) W #[a,b,e] [h,k,l]:=⟨rfl,λi U=>by
 match i,U with
 |0,_=>exact L
 |1,_=>exact O
 |2,_=>exact Z⟩
end
end Go.Ab
namespace Go.Ab
open Go.RowKit Go.ChangeShapes Go.WideShapes Go.ChangeAt Go.Proofs Go.Proofs.YtaoapcidgbaagaaGreatDoor
set_option maxRecDepth 100000
section
variable {H:Type}{enc:TypeId×Value->H}{W:World}{base:Nat}{spare:Nat->Bool}{held:Bool}
def u262:Tryz.prog.underlying 262=some (.array O3.length 261):=JO
def u261:Tryz.prog.underlying 261=some (.struct (Yl Tryz.prog 261)):=JO
def AK1 (n:Nat):Opens enc Tryz.prog W base spare held 261 J6.eCq0 (λ(a:V4) d=>d= .agg [.lit (.int .i64 a.eJ),.lit (.int .i64 a.most),.lit (.bool a.eE),.lit (.bool a.cond),.lit (.bool a.scope),.lit (.bool a.span)]) n:=by
 intro cs x h;obtain⟨xs,m,rfl,rfl,e,B,q⟩:=EW u261 h;obtain⟨Q,K,G⟩:=O5 B q 0 (ty:=3) (off:=0) (sz:=1) JO;obtain⟨R,N,I⟩:=O5 B q 1 (ty:=3) (off:=1) (sz:=1) JO;obtain⟨S,P,J⟩:=O5 B q 2 (ty:=4) (off:=2) (sz:=1) JO;obtain⟨T,c,L⟩:=O5 B q 3 (ty:=4) (off:=3) (sz:=1) JO;obtain⟨U,f,M⟩:=O5 B q 4 (ty:=4) (off:=4) (sz:=1) JO;obtain⟨X,g,O⟩:=O5 B q 5 (ty:=4) (off:=5) (sz:=1) JO
 have i:xs=[Q,R,S,T,U,X]:=match xs,B.trans (show _=6 by kernel_rfl),K,N,P,c,f,g with|[_,_,_,_,_,_],_,rfl,rfl,rfl,rfl,rfl,rfl=>rfl
 obtain⟨k,z,j⟩:=Uk u3 _ _ G;obtain⟨l,A,o⟩:=Uk u3 _ _ I;obtain⟨r,C,p⟩:=NL u4 _ _ J;obtain⟨v,D,s⟩:=NL u4 _ _ L;obtain⟨w,E,t⟩:=NL u4 _ _ M;obtain⟨y,F,u⟩:=NL u4 _ _ O;refine⟨⟨k,l,r,v,w,y⟩,?_,?_⟩
 ·have b:cs.length=6:=e.trans JO;have:=((((z.join A).join C).join D).join E).join F;rw[J6.eCq5]
  exact zbw
 rw[i];simp only[D2,G8,j,o,p,s,t,u]
def ZP:∀(l k:Up V4),(RL (H:=H) (λ(a:V4) d=>d= .agg [.lit (.int .i64 a.eJ),.lit (.int .i64 a.most),.lit (.bool a.eE),.lit (.bool a.cond),.lit (.bool a.scope),.lit (.bool a.span)]) l
 (k.map λa=>.agg [.lit (.int .i64 a.eJ),.lit (.int .i64 a.most),.lit (.bool a.eE),.lit (.bool a.cond),.lit (.bool a.scope),.lit (.bool a.span)]))->l=k
 |[],[],_=>rfl
 |[],_::_,h=>by have:=h.1;simp at this
 |_::_,[],h=>by have:=h.1;simp at this
 |a::l,b::k,h=>by
  have L:=h.2 0 a _ rfl rfl;have O:=ZP l k ⟨by simpa using h.1,λi a d U hd=>h.2 (i+1) a d (by simpa using U) (by simpa using hd)⟩;subst O;obtain⟨e,n,r,v,w,x⟩:=a;obtain⟨y,K,N,P,V,c⟩:=b
  simp at L
  simp[L]
def Ay1 (h:laidMetH Tryz.prog Rows.symbolicMatchesRow.laid W):VR (g0 W) W (.pointer (some ⟨0,0,none⟩)) (O7.gl 0):=by
 have N:laidMet Tryz.prog Rows.symbolicMatchesRow.laid W:=h;obtain⟨P,⟨_,_,_,_,_,V,_,_,_,_,w,_⟩,_⟩:=N;obtain⟨_,_,_,_,_,c,_,_,_,_,x,_⟩:=w;obtain⟨_,_,_,_,_,d,_,_,_,_,y,_⟩:=x;obtain⟨g',t',cs,v,p,q,b,r,i,hd,_,_⟩:=y;obtain rfl:g'=0:=CU (b.symm.trans JO);obtain rfl:t'=262:=CU (r.symm.trans JO);obtain⟨l,Q,ds,k,B⟩:=Av3 u262 JO Sz (λn=>AK1 n) hd
 have e:ds=O3.map λa=>.agg [.lit (.int .i64 a.eJ),.lit (.int .i64 a.most),.lit (.bool a.eE),.lit (.bool a.cond),.lit (.bool a.scope),.lit (.bool a.span)]:=by
  have e2:(Rows.laid_tidegate_pattern_shapes:DataW Unit)= .agg ds:=k;have K:(Rows.laid_tidegate_pattern_shapes:DataW Unit)= .agg (O3.map λa=>.agg [.lit (.int .i64 a.eJ),.lit (.int .i64 a.most),.lit (.bool a.eE),.lit (.bool a.cond),.lit (.bool a.scope),.lit (.bool a.span)]):=rfl
  rw[K]at e2
  exact(DataW.agg.inj e2).symm
 subst e;obtain rfl:=ZP _ _ B;exact Az1 b i Q
def Ca0 (h:laidMetH Tryz.prog Rows.symbolicMatchesRow.laid W):∀n,VR (g0 W) W (.pointer (some ⟨n,0,none⟩)) (O7.gl n)
 |0=>Ay1 h
 |_+1=>.bad _
end
end Go.Ab
