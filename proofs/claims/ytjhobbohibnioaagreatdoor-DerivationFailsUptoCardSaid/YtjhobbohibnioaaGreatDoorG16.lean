/- . -/
import Derived.Test.YtjhobbohibnioaaGreatDoorG15
set_option linter.all false
open Go.Ab.Ar (an ar cmp nt scmp)
namespace Go.Ab
def W1 {a b:Int}(h:b<a):cmp .gtr a b=true:=by rw[Bw];simp_all
def Q4 {a b:Int}(h:¬b<a):¬(cmp .gtr a b=true):=by rw[Bw];grind
def K0 {a b:Int}(h:a≠b):cmp .neq a b=true:=by rw[L9];grind
def H7 {a b:Int}(h:a=b):¬(cmp .neq a b=true):=by rw[L9];grind
noncomputable def S2 (x:B5):Int:=if 64<x.pre.length then 5 else if 12<x.dep then 12 else AD BT x.pre
def Wu {N:Nat}(hN:Bgn N){x:B5}(hb:x.bulk≤16777216):Iw N x=some (S2 x):=by
 unfold Iw S2;rw[Aw1 hN N x (by omega) hb];simp only[A3]
 by_cases h1:64<x.pre.length
 ·rw[A1 h1,A1 (W1 (by omega))]
 rw[A0 h1,A0 (Q4 (by omega))]
 by_cases h2:12<x.dep
 ·rw[A1 h2,A1 (W1 (by omega))]
 rw[A0 h2,A0 (Q4 (by omega)),AE5 hN N x (by omega) hb fun y _=>AJ5 N y];rfl
def UD {N:Nat}(hN:Bgn N){x:B5}(hb:x.bulk≤16777216):EV N x=some (S2 x):=by
 unfold EV S2;obtain⟨r,h0,c1,c2,c3⟩:=Ab5 hN 64 N x (by omega) hb;rw[h0];simp only[A3]
 by_cases h1:64<x.pre.length
 ·rw[A1 h1,A1 (W1 (by omega))]
 rw[A0 h1,A0 (Q4 (by omega)),Uv hN N x (by omega) hb];simp only[A3]
 by_cases h2:12<x.dep
 ·rw[A1 h2,A1 (W1 (by omega))]
 rw[A0 h2,A0 (Q4 (by omega)),Ay9 hN (fun y=>Az0 N y) N x (by omega) hb];rfl
noncomputable def Ug (a b:B5):Bool:=Ar.or (Ar.or (Ar.or (Ar.or (Ar.or (cmp .neq a.Op b.Op) (cmp .neq a.Var b.Var)) (cmp .neq a.Field b.Field)) (cmp .neq a.Kind b.Kind)) (nt (an (cmp .eql a.Value.Kind b.Value.Kind) (an (cmp .eql a.Value.Num b.Value.Num) (an (scmp .eql a.Value.Text b.Value.Text) true))))) (cmp .neq (Ar.len a.cQ) (Ar.len b.cQ))
def VD (N:Nat):∀(n:Nat) (a b:B5),HT N n a b=Z2 N n a b
 |0,_,_=>rfl
 |n+1,a,b=>by
  unfold HT Z2;simp only[VD N n]
def VC {N:Nat} (hN:Bgn N) (x:B5):∃b,Z2 N N x (⟨0,[],0,0,0,(⟨0,0,⟨#[]⟩⟩:A9)⟩:B5)=some b:=by
 obtain⟨M,rfl⟩:∃M,N=M+1:=⟨N-1,by omega⟩;rw[Z2];generalize hz:(⟨0,[],0,0,0,(⟨0,0,⟨#[]⟩⟩:A9)⟩:B5)=z
 change ∃b,(if Ug x z=true then some false else _)=some b
 by_cases h:Ug x z=true
 ·rw[A1 h];simp_all
 rw[A0 h]
 have hlen:x.cQ.length=0:=by
  subst hz
  simp only[Ug,N8,L9,B0,X1]at h
  simp_all
 have:x.cQ=[]:=List.length_eq_zero_iff.1 hlen;refine⟨true,?_⟩;rw[show M+1=(M+1-1)+1 by omega];simp only[loopN,this,D6,B0];rfl
def Hg (u:Bool)(n m:Int):Bool:=u&&(decide (n<0)||decide (m<n))
def X4 (u:Bool)(n:Int):Bool:=u||decide (n=0)
def Nf (N:Nat)(u:Bool)(n m:Int):Ba N u n m=some (!Hg u n m):=by
 unfold Ba;simp only[N8,K5,P7,O7,Bv,Hg];cases u
 ·rfl
 by_cases h1:n<0<;>by_cases h2:m<n<;>simp[h1,h2]<;>omega
def Av5 (N:Nat)(u:Bool)(n:Int):V1 N u n=some (X4 u n):=rfl
def Bi0 (N:Nat)(u:Bool)(n m:Int):CC N u n m=some (Hg u n m):=rfl
noncomputable def OM (s:Q6)(x:A2)(sz:Bool):Int:=
 if Hg s.cS x.Typ 15=true then 2
 else if Hg s.cS x.Var 15=true then 2
 else if Hg s.scope x.cV 63=true then 2
 else if Hg s.span x.Span 1099511627776=true then 2
 else if s.cond=true∧S2 x.cR≠0 then S2 x.cR
 else if(s.cond||sz)=true∧X4 s.cS x.Typ=true∧X4 s.cS x.Var=true∧X4 s.scope x.cV=true∧X4 s.span x.Span=true then 0 else 3
structure Qu (N:Nat) (x:A2) (s:Q6) (ng:Bool):Prop where
 tab:B9 N2 x.Op=some s
 var:BX N x=some s.cS
 neg:CE N x=some ng
 tim:Bq N x=some s.span
 con:Ef N x=some s.cond
 sco:s.scope=(ng||s.span)
 ari:Js N x=some (decide (s.cX≤x.cQ.length∧(x.cQ.length:Int)≤s.most))
def Bh4 (n k:Int):decide (n=k)=(decide (k≤n)&&decide (n≤k)):=by
 rw[←Bool.decide_and]
 grind
def Tl (N:Nat) (x:A2) (h0:0≤x.Op) (h1:x.Op≤10) (hl:x.cQ.length≤64):∃s ng,Qu N x s ng:=by
 obtain⟨op,args,typ,var,scope,span,c⟩:=x
 simp only at h0 h1 hl
 have h:op=0∨op=1∨op=2∨op=3∨op=4∨op=5∨op=6∨op=7∨op=8∨op=9∨op=10:=by omega
 rcases h with h|h|h|h|h|h|h|h|h|h|h
 all_goals
  subst h;refine⟨_,_,rfl,rfl,rfl,rfl,rfl,rfl,?_⟩;unfold Js;simp only[D7,O7,B0];simp
  try first|omega|exact Bh4 _ _
def Bl0 {x:A2}(h0:0≤x.Op)(h1:x.Op≤10):¬(Ar.or (cmp .lss x.Op 0) (cmp .geq x.Op 11)=true):=by
 simp only[N8,D6,O7,Y7,G1];omega
def Bf9 {x:A2}(h0:0≤x.Op)(h1:x.Op≤10):¬(Ar.or (cmp .lss x.Op 0) (cmp .gtr x.Op 10)=true):=by
 simp only[N8,D6,Bw,Y7,G1];omega
def Bc9 {x:A2}(h:¬(0≤x.Op∧x.Op≤10)):Ar.or (cmp .lss x.Op 0) (cmp .geq x.Op 11)=true∧Ar.or (cmp .lss x.Op 0) (cmp .gtr x.Op 10)=true:=by
 simp only[N8,D6,O7,Bw,Y7,G1];omega
def AC1 {N:Nat} (hN:Bgn N) {x:A2} (hb:x.cR.bulk≤16777216) (h0:0≤x.Op) (h1:x.Op≤10) {s:Q6} {ng:Bool} (hs:Qu N x s ng) {sz:Bool}
 (hz:Z2 N N x.cR (⟨0,[],0,0,0,(⟨0,0,⟨#[]⟩⟩:A9)⟩:B5)=some sz):
 AO N x=some (if s.cX≤x.cQ.length∧(x.cQ.length:Int)≤s.most then OM s x sz else 15):=by
 unfold AO;rw[A0 (Bl0 h0 h1),hs.tab];simp only[A3]
 by_cases ha:s.cX≤x.cQ.length∧(x.cQ.length:Int)≤s.most
 ·rw [A1 ha,A0 (by simp only[N8,D6,Bw,B0,Y7,G1];omega)];rw[Nf,Nf,Nf,Nf,Wu hN hb,VD,hz];simp only[Av5,A3];unfold OM;generalize Hg s.cS x.Typ 15=b1;generalize Hg s.cS x.Var 15=b2;generalize Hg s.scope x.cV 63=b3;generalize Hg s.span x.Span 1099511627776=b4;generalize X4 s.cS x.Typ=c1;generalize X4 s.cS x.Var=c2;generalize X4 s.scope x.cV=c3;generalize X4 s.span x.Span=c4;generalize S2 x.cR=ec
  cases b1 with
  |true=>rfl
  | false =>
   cases b2 with
   |true=>rfl
   | false =>
    cases b3 with
    |true=>rfl
    | false=>
     cases b4 with
     |true=>rfl
     | false=>
      cases s.cond with
      | false=>
       cases sz with
       |false=>rfl
       | true=>
        cases c1 with
        |false=>rfl
        | true=>
         cases c2 with
         |false=>rfl
         | true=>
          cases c3 with
          |false=>rfl
          |true=>
           cases c4<;>rfl
      | true=>
       by_cases he:ec=0
       ·subst he
        cases c1 with
        |false=>cases sz<;>rfl
        | true=>
         cases c2 with
         |false=>cases sz<;>rfl
         | true=>
          cases c3 with
          |false=>cases sz<;>rfl
          |true=>
           cases c4<;>cases sz<;>rfl
       simp[P7,K0 he,he]
 rw[A0 ha,A1 (by simp only[N8,D6,Bw,B0,Y7,G1];omega)]
def Uc (u:Bool)(n:Int):an (nt u) (cmp .neq n 0)= !X4 u n:=by
 simp only[K5,P7,L9,X4,Bool.not_or]
def As0 (u w:Bool)(t v sc:Int):Ar.or (an (nt u) (Ar.or (cmp .neq t 0) (cmp .neq v 0))) (an (nt w) (cmp .neq sc 0))=((!X4 u t|| !X4 u v)|| !X4 w sc):=by
 rw[Uc];simp only[N8,K5,P7,L9,X4];cases u<;>simp
def Lf {N:Nat} (hN:Bgn N) {x:A2} (hb:x.cR.bulk≤16777216) (h0:0≤x.Op) (h1:x.Op≤10) {s:Q6} {ng:Bool} (hs:Qu N x s ng) {sz:Bool}
 (hz:Z2 N N x.cR (⟨0,[],0,0,0,(⟨0,0,⟨#[]⟩⟩:A9)⟩:B5)=some sz):
 BJ N x=some (if s.cX≤x.cQ.length∧(x.cQ.length:Int)≤s.most then OM s x sz else 15):=by
 unfold BJ;rw[A0 (Bf9 h0 h1),hs.ari,hs.var,hs.neg,hs.tim,hs.con,UD hN hb,hz];simp only[A3]
 by_cases ha:s.cX≤x.cQ.length∧(x.cQ.length:Int)≤s.most
 ·rw [A1 ha,A0 (by simp[P7,ha])];have sco:=hs.sco;simp only[Bi0,A3];cases ng
  ·rw [A0 (by simp)]
   simp only[EL]at sco
   rw[As0,Uc];unfold OM;rw[sco];generalize Hg s.cS x.Typ 15=b1;generalize Hg s.cS x.Var 15=b2;generalize Hg s.span x.cV 63=b3;generalize Hg s.span x.Span 1099511627776=b4;generalize X4 s.cS x.Typ=c1;generalize X4 s.cS x.Var=c2;generalize X4 s.span x.cV=c3;generalize X4 s.span x.Span=c4;generalize S2 x.cR=ec
   cases b1 with
   |true=>rfl
   | false=>
    cases b2 with
    |true=>rfl
    | false=>
     cases b3 with
     |true=>rfl
     | false=>
      cases b4 with
      |true=>rfl
      | false=>
       cases s.cond with
       |false=>cases sz<;>cases c1<;>cases c2<;>cases c3<;>cases c4<;>rfl
       |true=>
        by_cases he:ec=0
        ·subst he;cases sz<;>cases c1<;>cases c2<;>cases c3<;>cases c4<;>rfl
        simp[K0 he,he]
  rw[A1 rfl]
  simp only[Bool.true_or]at sco
  rw[As0,Uc];unfold OM;rw[sco];generalize Hg s.cS x.Typ 15=b1;generalize Hg s.cS x.Var 15=b2;generalize Hg true x.cV 63=b3;generalize Hg s.span x.Span 1099511627776=b4;generalize X4 s.cS x.Typ=c1;generalize X4 s.cS x.Var=c2;generalize X4 true x.cV=c3;generalize X4 s.span x.Span=c4;generalize S2 x.cR=ec
  cases b1 with
  |true=>rfl
  | false=>
   cases b2 with
   |true=>rfl
   | false=>
    cases b3 with
    |true=>rfl
    | false=>
     cases b4 with
     |true=>rfl
     | false=>
      cases s.cond with
      |false=>cases sz<;>cases c1<;>cases c2<;>cases c3<;>cases c4<;>rfl
      |true=>
       by_cases he:ec=0
       ·subst he;cases sz<;>cases c1<;>cases c2<;>cases c3<;>cases c4<;>rfl
       simp[K0 he,he]
 rw[A0 ha,A1 (by simp only[P7,BB ha];rfl)]
mutual
def JE:∀(x y:A2),y∈x.pre→y.bulk≤x.bulk∧y.pre.length≤x.pre.length
 |⟨op,args,typ,var,scope,span,c⟩,y,h=>by
  rw[A2.pre]at h
  rcases List.mem_cons.1 h with rfl|h
  ·omega
  have:=TU args y h
  grind[A2.bulk,A2.pre]
def TU:∀(l:List A2) (y:A2),y∈A2.pres l→y.bulk≤A2.bulks l∧y.pre.length≤(A2.pres l).length
 |[],y,h=>by grind[A2.pres]
 | a::l,y,h=>by
  rw[A2.pres]at h
  rcases List.mem_append.1 h with h|h
  ·have:=JE a y h
   grind[A2.bulks,A2.pres]
  have:=TU l y h
  grind[A2.bulks,A2.pres]
end
def QZ:∀l:List A2,l.length≤(A2.pres l).length
 |[]=>B1 _
 |a::l=>by
  have:=QZ l;simp only[A2.pres,A2.pre_eq a,G8,G7];omega
def V5 (x:A2):x.cQ.length<x.pre.length:=by
 rw[A2.pre_eq];have:=QZ x.cQ;grind
noncomputable def Gv (N:Nat)(y:A2):Int:=(BJ N y).getD 0
def HR {N:Nat} (hN:Bgn N) {y:A2} (hb:y.bulk≤16777216) (hl:y.cQ.length≤64):AO N y=some (Gv N y)∧BJ N y=some (Gv N y):=by
 have hc:y.cR.bulk≤16777216:=by have:=A2.bulk_eq y;omega
 have key:∃r,AO N y=some r∧BJ N y=some r:=by
  by_cases h:0≤y.Op∧y.Op≤10
  ·obtain⟨s,ng,hs⟩:=Tl N y h.1 h.2 hl;obtain⟨sz,hz⟩:=VC hN y.cR;exact⟨_,AC1 hN hc h.1 h.2 hs hz,Lf hN hc h.1 h.2 hs hz⟩
  obtain⟨h1,h2⟩:=Bc9 h
  simp_all[AO,BJ]
 grind[Gv]
noncomputable def Z8 (N:Nat)(x:A2):Int:=if 64<x.pre.length then 5 else if 12<x.dep then 12 else AD (Gv N) x.pre
def MC {N:Nat}(hN:Bgn N){x:A2}(hb:x.bulk≤16777216):Z3 N x=some x.pre:=by
 unfold Z3 Ey;rw[AS0 hN N x (by omega) hb];simp[W5]
def AT6 {N:Nat}(hN:Bgn N){x:A2}(hb:x.bulk≤16777216):CR N x=some (Z8 N x):=by
 unfold CR Z8;rw[AS9 hN N x (by omega) hb];simp only[A3]
 by_cases h1:64<x.pre.length
 ·rw[A1 h1,A1 (W1 (by omega))]
 rw[A0 h1,A0 (Q4 (by omega))]
 by_cases h2:12<x.dep
 ·rw[A1 h2,A1 (W1 (by omega))]
 rw[A0 h2,A0 (Q4 (by omega)),MC hN hb];simp only[A3];rw[VJ (f:=Gv N) fun y hy=>(HR hN (by have:=JE x y hy;omega) (by have:=JE x y hy;have:=V5 y;omega)).1]
 grind
def AH7 {N:Nat} (hN:Bgn N) {x:A2} (hb:x.bulk≤16777216):Eg N x=some (Z8 N x):=by
 unfold Eg Z8;obtain⟨r,h0,c1,c2,c3⟩:=Ys hN 64 N x (by omega) hb;rw[h0];simp only[A3]
 by_cases h1:64<x.pre.length
 ·rw[A1 h1,A1 (W1 (by omega))]
 rw[A0 h1,A0 (Q4 (by omega)),Ab1 hN N x (by omega) hb];simp only[A3]
 by_cases h2:12<x.dep
 ·rw[A1 h2,A1 (W1 (by omega))]
 rw[A0 h2,A0 (Q4 (by omega)),TG hN N x (by omega) hb];simp only[A3];rw[L5 x.pre (by omega) (mk:=fun(_:Unit) i=>i) (body:=BQ (BJ N)) (fin:=fun _=>.inl ()) (s:=()) (by omega) ?_ ?_]
 ·rw[AN (f:=Gv N) fun y hy=>(HR hN (by have:=JE x y hy;omega) (by have:=JE x y hy;have:=V5 y;omega)).2]
  grind
 ·intro s i a ha hi;have e:ar .add .i64 (i:Int) 1=i+1:=D0 (by omega) (by omega);simp only[D6,B0,hi,G6,D2,E1,ha,A3,e,BQ,L9]
  grind
 intro s;simp[D6,B0]
def AD0 (N:Nat)(x:A2):Prop:=∀y∈x.pre,Gv N y=0
def Ou {a y:A2} (hy:y∈a.pre):∀l:List A2,a∈l→y∈A2.pres l
 |[],h=>by simp at h
 |b::l,h=>by
  rcases List.mem_cons.1 h with rfl|h
  ·simp_all[A2.pres]
  simp[A2.pres,Ou hy l h]
def AD0.arg {N:Nat}{x a:A2}(h:AD0 N x)(ha:a∈x.cQ):AD0 N a:=fun y hy=>h y (by
 rw[A2.pre_eq];exact Dc _ (Ou hy _ ha))
def K7 {x a:A2}(ha:a∈x.cQ):a.pre.length<x.pre.length:=by
 have:=(TU x.cQ a (Ou (by rw[A2.pre_eq];simp) _ ha)).2;rw[A2.pre_eq x];grind
def AQ3 {N:Nat} (hN:Bgn N) {y:A2} (hb:y.bulk≤16777216) (hl:y.cQ.length≤64) (h:Gv N y=0) (ho:y.Op=1∨y.Op=7∨y.Op=8∨y.Op=9∨y.Op=10):∃a r,y.cQ=a::r:=by
 have hc:y.cR.bulk≤16777216:=by have:=A2.bulk_eq y;omega
 obtain⟨s,ng,hs⟩:=Tl N y (by omega) (by omega) hl;obtain⟨sz,hz⟩:=VC hN y.cR;have h1:=Lf hN hc (by omega) (by omega) hs hz
 rw[(HR hN hb hl).2,h]at h1
 have h2:s.cX≤y.cQ.length:=by
  have h1:=Co h1;omega
 have h3:1≤s.cX:=by
  have ht:=hs.tab
  rcases ho with h|h|h|h|h<;>rw[h]at ht<;>cases ht<;>decide
 match he:y.cQ,h2 with
 |[],h2=>grind
 |a::r,_=>simp_all
def J4 {a b:Int}(h:a=b):cmp .eql a b=true:=by rw[D7];simp_all
def CI {a b:Int}(h:¬a=b):cmp .eql a b=false:=by rw[D7];simp_all
def few8 {N:Nat}(hN:Bgn N){x:B5}(hb:x.bulk≤16777216):∃b,HP N x=some b:=by
 unfold HP;obtain⟨r,h0,_⟩:=Ab5 hN 200 N x (by omega) hb;rw[h0];simp only[A3]
 split
 ·rw[Uv hN N x (by omega) hb];simp_all
 simp_all
def Mz {α:Type} {F:α→Option Bool}:∀(l:List α),(∀a∈l,∃b,F a=some b)→∃o,L6 (fun(_:Unit) a=>(F a).bind fun r=>if nt r=true then some (Sum.inr (Sum.inr (α:=Unit) ()))else some (.inl ())) l ()=some o
 |[],_=>⟨_,rfl⟩
 |a::l,h=>by
  obtain⟨b,hb⟩:=h a (by simp);unfold L6;rw[hb]
  cases b with
  |false=>exact⟨_,rfl⟩
  |true=>exact Mz l fun a ha=>h a (by simp[ha])
def few9 {N:Nat} (hN:Bgn N) {x:A2} (hb:x.bulk≤16777216):∃b,No N x=some b:=by
 unfold No;obtain⟨r,h0,_⟩:=Ys hN 150 N x (by omega) hb;rw[h0];simp only[A3]
 split
 ·simp_all
 rw[Ab1 hN N x (by omega) hb];simp only[A3]
 split
 ·simp_all
 rw[TG hN N x (by omega) hb];simp only[A3];have hp:=FX x;rw[L5 x.pre (by omega) (mk:=fun(_:Unit) i=>i) (body:=fun(_:Unit) a=>(HP N a.cR).bind fun r=>if nt r=true then some (.inr (.inr ()))else some (.inl ())) (fin:=fun _=>.inl ()) (s:=()) (by omega) ?_ ?_]
 ·obtain⟨o,ho⟩:=Mz (F:=fun(a:A2)=>HP N a.cR) x.pre fun a ha=>few8 hN (by have:=(JE x a ha).1;have:=A2.bulk_eq a;omega);rw[ho]
  cases o with
  |inl _=>simp_all
  |inr o=>cases o<;>exact⟨_,rfl⟩
 ·intro s i a ha hi;have e:ar .add .i64 (i:Int) 1=i+1:=D0 (by omega) (by omega);simp only[D6,B0,hi,G6,D2,E1,ha,A3,e]
  grind
 intro s;simp[D6,B0]
def TX {S R:Type} {step:S→Option (S⊕R)} (I:Nat→S→Prop) (Q:R→Prop):∀(k i:Nat) (s:S) (N:Nat),k<N→I i s→
 (∀j s,i≤j→j<i+k→I j s→∃o,step s=some o∧(match o with| .inl s'=>I (j+1) s'| .inr r=>Q r))→
 (∀s,I (i+k) s→∃r,step s=some (.inr r)∧Q r)→∃r,loopN step N s=some r∧Q r
 |0,i,s,N,hN,h0,_,he=>by
  obtain⟨N,rfl⟩:∃M,N=M+1:=⟨N-1,by omega⟩
  grind[loopN]
 | k+1,i,s,N,hN,h0,hs,he=>by
  obtain⟨N,rfl⟩:∃M,N=M+1:=⟨N-1,by omega⟩;obtain⟨o,h1,h2⟩:=hs i s (B1 _) (by omega) h0
  cases o with
  |inl s'=>
   obtain⟨r,h3,h4⟩:=TX I Q k (i+1) s' N (by omega) h2 (fun j s a b c=>hs j s (by omega) (by omega) c) (fun s h=>he s (by rw[show i+(k+1)=i+1+k by omega];exact h))
   simp_all[loopN]
  |inr r=>simp_all[loopN]
def VU {β S R:Type} {step:S→Option (List β×(S⊕R))} (st:Nat→S) (f:Nat→List β) (w:List β) (r:R):∀(k i:Nat) {N:Nat},k<N→(∀j,i≤j→j<i+k→step (st j)=some (f j,.inl (st (j+1))))→step (st (i+k))=some (w,.inr r)→
 DA step N (st i)=some ((List.range' i k).flatMap f++w,r)
 |0,i,N,hN,_,he=>by
  obtain⟨N,rfl⟩:∃M,N=M+1:=⟨N-1,by omega⟩
  simp_all[DA]
 |k+1,i,N,hN,hs,he=>by
  obtain⟨N,rfl⟩:∃M,N=M+1:=⟨N-1,by omega⟩;have:=VU st f w r k (i+1) (N:=N) (by omega) (fun j a b=>hs j (by omega) (by omega)) (by rw[show i+1+k=i+(k+1) by omega];exact he);simp only[DA,hs i (B1 _) (by omega),this,Dr,W3,E7]
def Ih {α β:Type} {R:Type} {step:Unit→α→Option (List β×(Unit⊕R))} (f:α→List β):∀{l:List α},(∀x∈l,step () x=some (f x,.inl ()))→Ax step l ()=some (l.flatMap f,.inl ())
 |[],_=>rfl
 |x::l,h=>by
  have:=Ih f (l:=l) fun y hy=>h y (by simp[hy])
  simp_all[Ax]
noncomputable instance :DecidableEq B5:=Classical.typeDecidableEq _
noncomputable instance :DecidableEq A2:=Classical.typeDecidableEq _
def As4 {i:Nat}(h:i<1000000000000):ar .add .i64 (i:Int) 1=((i+1:Nat):Int):=by rw[D0 (by omega) (by omega)];omega
def AY9 {α:Type} [DecidableEq α] {N:Nat} (l m:List α) (hl:l.length=m.length) (hs:l.length<1000000000000) (f:α→α→Option Bool) (hf:∀x∈l,∀y∈m,f x y=some (decide (x=y))) (hN:l.length<N):
 loopN (fun(i:Int)=>if cmp .lss i (Ar.len l)=true then(B9 l i).bind fun x=>(B9 m i).bind fun y=>(f x y).bind fun r=>if nt r=true then some (Sum.inr (Sum.inr (α:=Unit) ()))else some (.inl (ar .add .i64 i 1))else some (.inr (.inl ()))) N 0=some (if l=m then .inl ()else .inr ()):=by
 obtain⟨r,h1,h2⟩:=TX (step:=fun(i:Int)=>if cmp .lss i (Ar.len l)=true then(B9 l i).bind fun x=>(B9 m i).bind fun y=>(f x y).bind fun r=>if nt r=true then some (Sum.inr (Sum.inr (α:=Unit) ()))else some (.inl (ar .add .i64 i 1))else some (.inr (.inl ())))
  (fun j s=>s=(j:Int)∧l.take j=m.take j) (fun r=>r=if l=m then .inl ()else .inr ()) l.length 0 0 N hN ⟨rfl,by simp⟩
  (fun j s _ hj ⟨e,ht⟩=>by
   subst e
   simp only[J7]at hj
   have hj2:j<m.length:=by omega
   have e1:l[j]? =some l[j]:=by simp[hj]
   have e2:m[j]? =some m[j]:=by simp[hj2]
   simp only[D6,B0,show((j:Int)<(l.length:Int)) by omega,G6,D2,E1,e1,e2,A3,hf _ (E4 hj) _ (E4 hj2)]
   by_cases h:l[j]=m[j]
   ·simp only[h,G6,P7,AU,J2,G0];refine⟨_,rfl,As4 (by omega),?_⟩;rw[List.take_add_one,List.take_add_one,ht,e1,e2,h]
   simp only[h,IL,P7,EM,D2]
   grind)
  (fun s ⟨e,ht⟩=>by
   subst e
   simp only[J7]at ht ⊢
   refine⟨.inl (),by simp[D6,B0],?_⟩
   rw[X2,hl,X2]at ht
   rw[A1 ht])
 rw[h1,h2]
def ZT {a b:B5}:a=b↔(a.Op=b.Op∧a.Var=b.Var∧a.Field=b.Field∧a.Kind=b.Kind∧a.Value=b.Value)∧a.cQ=b.cQ:=by
 cases a;cases b;grind
def AA6 {a b:A9}:a=b↔a.Kind=b.Kind∧a.Num=b.Num∧a.Text=b.Text:=by cases a;cases b;simp
def Wd (a b:B5):Ug a b=true↔¬((a.Op=b.Op∧a.Var=b.Var∧a.Field=b.Field∧a.Kind=b.Kind∧a.Value=b.Value)∧a.cQ.length=b.cQ.length):=by
 simp only[Ug,N8,K5,P7,L9,D7,GX,B0,AA6,Y7,Cp,Di,Re,EK,G1,Classical.not_and_iff_not_or_not]
 grind
def Bc6 {N:Nat} (hN:Bgn N):∀(n:Nat) (a b:B5),a.bulk≤n→a.bulk≤16777216→Z2 N n a b=some (decide (a=b)):=by
 intro n
 induction n with
 |zero=>intro a b h;have:=Gk a;omega
 | succ n ih=>
  intro a b hx hb;have hl:=Im a;unfold Z2
  change (if Ug a b=true then some false else _)=_
  by_cases h:Ug a b=true
  ·rw[A1 h]
   rw[Wd]at h
   rw[BB]
   grind
  rw[A0 h]
  rw[Wd,Classical.not_not]at h
  rw[AY9 a.cQ b.cQ h.2 (by omega) _ (fun x hx y hy=>ih x y (by have:=BL hx;omega) (by have:=BL hx;omega)) (by omega)];simp only[A3]
  by_cases he:a.cQ=b.cQ
  ·rw[A1 he,J1 (ZT.2 ⟨h.1,he⟩)]
  rw[A0 he,BB fun e=>he (ZT.1 e).2]
structure Arity (y:A2):Prop where
 op:0≤y.Op∧y.Op≤10
 ev:y.Op=0→y.cQ=[]
 two:1≤y.Op→y.Op≤3→2≤y.cQ.length
 one:4≤y.Op→y.Op≠8→∃a,y.cQ=[a]
 more:y.Op=8→∃a b,y.cQ=[a,b]
def AA0 {β S R:Type}{step:S→Option (List β×(S⊕R))}(st:Nat→S)(f:Nat→List β)(w:List β)(r:R)(k:Nat){s0:S}{N:Nat}(h0:s0=st 0)(hN:k<N)(hs:∀j,j<k→step (st j)=some (f j,.inl (st (j+1))))(he:step (st k)=some (w,.inr r)):
 DA step N s0=some ((List.range k).flatMap f++w,r):=by
 rw[h0,VU st f w r k 0 hN (fun j _ h=>hs j (by omega)) (by rw[J7];exact he),GP]
def zE:B5:=⟨0,[],0,0,0,⟨0,0,⟨#[]⟩⟩⟩
def nd (op:Int)(args:List A2):A2:=⟨op,args,0,0,0,0,zE⟩
def wth {α:Type}[DecidableEq α](l:List α)(x:α):List α:=if x∈l then l else l++[x]
def dd {α:Type}[DecidableEq α](l:List α):List α:=l.foldl wth []
section
variable {α:Type}[DecidableEq α]
end
end Go.Ab
namespace Go.Ab
def OI {α R:Type} (P:α→Bool) (r:R):∀l:List α,L6 (fun(_:Unit) y=>if P y=true then some (Sum.inr r)else some (.inl ())) l ()=some (if l.any P=true then .inr r else .inl ())
 |[]=>rfl
 | y::l=>by
  unfold L6
  cases h:P y with
  |true=>simp[h]
  |false=>
   simp only[J2,G0,EI,h,EL];exact OI P r l
def AD0.sub {N:Nat}{x y:A2}(h:AD0 N x)(hy:y∈x.pre):Gv N y=0:=h y hy
def AE4 {N:Nat} (hN:Bgn N) {x:A2} (hb:x.bulk≤16777216):Gt N x=some (if Z8 N x≠0 then Z8 N x else if x.pre.any (fun y=>cmp .geq y.Op 8)=true then 1 else 0):=by
 unfold Gt;rw[AT6 hN hb];simp only[A3]
 by_cases h:Z8 N x=0
 ·rw[A0 (H7 h),A0 (by omega),MC hN hb];simp only[A3];rw[OI (fun y:A2=>cmp .geq y.Op 8) (1:Int) x.pre]
  grind
 rw[A1 (K0 h),A1 h]
def Nn {N:Nat} {x:A2} (hz:Z8 N x=0):x.pre.length≤64∧x.dep≤12∧AD0 N x:=by
 have hp:x.pre.length≤64:=by
  grind[Z8]
 have hd:¬12<x.dep:=fun h=>by rw[Z8,A0 (by omega),A1 h]at hz;cases hz
 rw[Z8,A0 (by omega),A0 hd]at hz
 exact⟨hp,by omega,CJ.1 hz⟩
def GW (x:A2):x∈x.pre:=by rw[A2.pre_eq];simp
def Ba2 {α β:Type}{m:Option α}{F:α→Option β}{a:α}{r:Option β}(h1:m=some a)(h2:F a=r):m.bind F=r:=by rw[h1];exact h2
mutual
def UL:∀x:B5,(∀y∈x.pre,y.Value.Text.size≤64)→x.bulk≤74*x.pre.length
 |⟨op,args,var,field,kind,v⟩,h=>by
  have h1:=RZ args fun y hy=>h y (by rw[B5.pre];simp_all);have h2:v.Text.size≤64:=h ⟨op,args,var,field,kind,v⟩ (by rw[B5.pre];simp_all)
  grind[B5.bulk,B5.pre]
def RZ:∀l:List B5,(∀y∈B5.pres l,y.Value.Text.size≤64)→B5.bulks l≤1+74*(B5.pres l).length
 |[],_=>by simp[B5.bulks]
 |a::l,h=>by
  have h1:=UL a fun y hy=>h y (by rw[B5.pres];simp_all);have h2:=RZ l fun y hy=>h y (by rw[B5.pres];simp_all)
  grind[B5.bulks,B5.pres]
end
def Ox:(⟨#[]⟩:ByteArray).size=0:=rfl
def Ae0 {v:A9}(h:Vn v=true):v.Text.size≤64:=by
 simp only[Vn,K5,D7,GX,K3,G1]at h
 rw[h.2.2.1,Ox];omega
def Yn {v:A9} (h:O0 v=0):v.Text.size≤64:=by
 unfold O0 at h
 by_cases h1:v.Kind=0∨v.Kind=1
 ·rw[A1 h1]at h
  by_cases h2:v.Text≠⟨#[]⟩
  ·rw[A1 h2]at h;cases h
  have:v.Text=⟨#[]⟩:=Classical.not_not.1 h2;rw[this,Ox];omega
 omega
def XD {x:B5} (h:BT x=0):x.Value.Text.size≤64:=by
 unfold BT at h
 by_cases h0:x.Op<0∨12<x.Op
 ·rw[A1 h0]at h;cases h
 rw[A0 h0]at h
 by_cases h1:(x.cQ.length:Int)≠(if x.Op<5 then 0 else if x.Op=12 then 1 else 2)
 ·rw[A1 h1]at h;cases h
 rw[A0 h1]at h
 by_cases h2:Zp x=true
 ·rw[A1 h2]at h;cases h
 rw[A0 h2]at h
 by_cases h3:Ua x=true
 ·rw[A1 h3]at h;cases h
 rw[A0 h3]at h
 by_cases h4:x.Op=4∨x.Op=0
 ·by_cases h5:O0 x.Value=0
  ·exact Yn h5
  omega
 rw[A0 (fun e=>h4 e.1),A0 (fun e=>h4 (.inl e.1))]at h
 by_cases h6:PY x=true
 ·rw[A1 h6]at h;cases h
 have h7:Vn x.Value=true:=by
  have n4:¬x.Op=4:=fun e=>h4 (.inl e);have n0:¬x.Op=0:=fun e=>h4 (.inr e)
  cases hz:Vn x.Value with
  |true=>rfl
  |false=>
   refine absurd ?_ h6;simp[PY,N8,K5,P7,D7,n4,n0,hz]
 exact Ae0 h7
def Si {c:B5}(h:S2 c=0):c.bulk≤4736:=by
 have hp:¬64<c.pre.length:=fun e=>by rw[S2,A1 e]at h;cases h
 have hd:¬12<c.dep:=fun e=>by rw[S2,A0 hp,A1 e]at h;cases h
 rw[S2,A0 hp,A0 hd]at h
 have:=UL c fun y hy=>XD (CJ.1 h y hy);omega
def TH {N:Nat} (hN:Bgn N) {y:A2} (hb:y.bulk≤16777216) (hl:y.cQ.length≤64) (h:Gv N y=0):(0≤y.Op∧y.Op≤10)∧∃s ng,Qu N y s ng∧y.cR.bulk≤4736:=by
 have hc:y.cR.bulk≤16777216:=by have:=A2.bulk_eq y;omega
 have hop:0≤y.Op∧y.Op≤10:=by
  by_cases ho:0≤y.Op∧y.Op≤10
  ·exact ho
  have h1:=(HR hN hb hl).1
  unfold AO at h1
  rw[A1 (Bc9 ho).1,h]at h1
  cases h1
 obtain⟨s,ng,hs⟩:=Tl N y hop.1 hop.2 hl;have hz:=Bc6 hN N y.cR (⟨0,[],0,0,0,(⟨0,0,⟨#[]⟩⟩:A9)⟩:B5) (by omega) hc;have h1:=Lf hN hc hop.1 hop.2 hs hz
 rw[(HR hN hb hl).2,h]at h1
 have h1:=Co h1;refine⟨hop,s,ng,hs,?_⟩
 by_cases ha:s.cX≤y.cQ.length∧(y.cQ.length:Int)≤s.most
 ·rw[A1 ha]at h1
  unfold OM at h1
  by_cases e1:Hg s.cS y.Typ 15=true
  ·rw[A1 e1]at h1;cases h1
  rw[A0 e1]at h1
  by_cases e2:Hg s.cS y.Var 15=true
  ·rw[A1 e2]at h1;cases h1
  rw[A0 e2]at h1
  by_cases e3:Hg s.scope y.cV 63=true
  ·rw[A1 e3]at h1;cases h1
  rw[A0 e3]at h1
  by_cases e4:Hg s.span y.Span 1099511627776=true
  ·rw[A1 e4]at h1;cases h1
  rw[A0 e4]at h1
  by_cases e5:s.cond=true
  ·by_cases e6:S2 y.cR=0
   ·exact Si e6
   grind
  rw[A0 (fun e=>e5 e.1)]at h1
  by_cases e6:y.cR=(⟨0,[],0,0,0,(⟨0,0,⟨#[]⟩⟩:A9)⟩:B5)
  ·rw[e6];simp only[B5.bulk,B5.bulks,Ox];omega
  grind
 omega
def cnt:List (Bool×Bool×A2)→Int→Int→Bool
 |[],_,_=>true
 |y::l,v,s=>(if y.1=true then decide (y.2.2.Var=v)else true)&&(if y.2.1=true then decide (y.2.2.cV=s)else true)&&cnt l (if y.1=true then v+1 else v) (if y.2.1=true then s+1 else s)
noncomputable def Jl (y:A2):Bool:=match B9 N2 y.Op with|some s=>s.cS|none=>false
noncomputable def Jm (y:A2):Bool:=match B9 N2 y.Op with|some s=>s.scope|none=>false
noncomputable def Ab9 (l:List A2):Bool:=cnt (l.map fun y=>(Jl y,Jm y,y)) 0 0
def An2 (N:Nat)(y:A2):Prop:=∃s ng,Qu N y s ng
def Ui {N:Nat}(hN:Bgn N){x:A2}(hb:x.bulk≤16777216)(hz:Z8 N x=0):∀y∈x.pre,An2 N y:=fun y hy=>by
 obtain⟨hp,hd,hg⟩:=Nn hz;have h1:=JE x y hy;have h2:=V5 y;obtain⟨_,s,ng,h,_⟩:=TH hN (by omega) (by omega) (hg y hy)
 grind[An2]
def W8 {a b:Int}(h:a<b):cmp .lss a b=true:=by rw[D6];simp_all
def K4 {a b:Int}(h:¬a<b):¬(cmp .lss a b=true):=by rw[D6];grind
noncomputable def Uy (s7:Bool×Int×Int)(y6:A2):Option ((Bool×Int×Int)⊕Unit):=
 (B9 N2 y6.Op).bind fun x11=>((if x11.cS=true then some (an s7.1 (cmp .eql y6.Var s7.2.2),ar .add .i64 s7.2.2 1)else some (s7.1,s7.2.2)):Option (Bool×Int)).bind fun s12=>if x11.scope=true then some (.inl (an s12.1 (cmp .eql y6.cV s7.2.1),ar .add .i64 s7.2.1 1,s12.2))else some (.inl (s12.1,s7.2.1,s12.2))
def Wq {N:Nat}:∀(l:List A2),(∀y∈l,An2 N y)→∀(b:Bool) (v s:Int),0≤v→0≤s→v+l.length≤1000000→s+l.length≤1000000→
 ∃v' s',L6 Uy l (b,s,v)=some (.inl (b&&cnt (l.map fun y=>(Jl y,Jm y,y)) v s,s',v'))
 |[],_,b,v,s,_,_,_,_=>⟨v,s,by simp[L6,cnt]⟩
 | y::l,h,b,v,s,hv,hs,hv2,hs2=>by
  simp only[G7]at hv2 hs2
  obtain⟨sh,ng,ok⟩:=h y (by simp)
  have et:Jl y=sh.cS:=by unfold Jl;rw[ok.tab]
  have es:Jm y=sh.scope:=by unfold Jm;rw[ok.tab]
  have ev:ar .add .i64 v 1=v+1:=D0 (by omega) (by omega);have ess:ar .add .i64 s 1=s+1:=D0 (by omega) (by omega);have hr:=fun b v' s' h1 h2 h3 h4=>Wq l (fun z hz=>h z (by simp[hz])) b v' s' h1 h2 h3 h4;simp only[D9,cnt,et,es]
  have step:∀b' v2 s2,Uy (b,s,v) y=some (.inl (b',s2,v2))→L6 Uy (y::l) (b,s,v)=L6 Uy l (b',s2,v2):=fun b' v2 s2 h=>by grind[L6]
  have hst:∀b' v2 s2,(some (.inl (b',s2,v2)):Option ((Bool×Int×Int)⊕Unit))=(((if sh.cS=true then some (an b (cmp .eql y.Var v),ar .add .i64 v 1)else some (b,v)):Option (Bool×Int)).bind fun s12=>if sh.scope=true then some (.inl (an s12.1 (cmp .eql y.cV s),ar .add .i64 s 1,s12.2))else some (.inl (s12.1,s,s12.2)))→L6 Uy (y::l) (b,s,v)=L6 Uy l (b',s2,v2):=fun b' v2 s2 h=>step b' v2 s2 (by rw[h];unfold Uy;rw[ok.tab];rfl);cases ht:sh.cS<;>cases hc:sh.scope
  ·obtain⟨v',s',h1⟩:=hr b v s hv hs (by omega) (by omega)
   simp_all
  ·obtain⟨v',s',h1⟩:=hr (b&&decide (y.cV=s)) v (s+1) hv (by omega) (by omega) (by omega);exact⟨v',s',by rw[hst (b&&decide (y.cV=s)) v (s+1) (by simp[ht,hc,ess,D7,K5])];grind⟩
  ·obtain⟨v',s',h1⟩:=hr (b&&decide (y.Var=v)) (v+1) s (by omega) hs (by omega) (by omega);exact⟨v',s',by rw[hst (b&&decide (y.Var=v)) (v+1) s (by rw[ht,hc,ev,D7,K5];rfl)];grind⟩
  obtain⟨v',s',h1⟩:=hr (b&&decide (y.Var=v)&&decide (y.cV=s)) (v+1) (s+1) (by omega) (by omega) (by omega) (by omega);exact⟨v',s',by rw[hst (b&&decide (y.Var=v)&&decide (y.cV=s)) (v+1) (s+1) (by rw[ht,hc,ev,ess,D7,D7,K5];rfl)];grind⟩
def Ay4 {N:Nat}(hN:Bgn N){x:A2}(hb:x.bulk≤16777216)(hz:Z8 N x=0):∃v s,Gu N x=some (v,s,Ab9 x.pre):=by
 obtain⟨hp,hd,hg⟩:=Nn hz;obtain⟨v,s,h⟩:=Wq (N:=N) x.pre (Ui hN hb hz) true 0 0 (by omega) (by omega) (by omega) (by omega);unfold Gu;rw[MC hN hb];simp only[A3];refine⟨v,s,Ba2 h ?_⟩;simp[Ab9]
noncomputable def QV (N:Nat)(x:A2):Int:=if Z8 N x≠0 then Z8 N x else if x.pre.any (fun y=>cmp .geq y.Op 8)=true then 1 else if Ab9 x.pre=true then 0 else 14
def VL {N:Nat} (hN:Bgn N) {x:A2} (hb:x.bulk≤16777216):CF N x=some (QV N x):=by
 unfold CF QV;rw[AE4 hN hb];simp only[A3]
 by_cases h:Z8 N x=0
 ·rw[A0 (show¬(Z8 N x≠0) by omega),A0 (show¬(Z8 N x≠0) by omega)]
  by_cases h2:x.pre.any (fun y=>cmp .geq y.Op 8)=true
  ·rw[A1 h2,A1 h2,A1 (K0 (by omega))]
  rw[A0 h2,A0 h2,A0 (H7 rfl)];obtain⟨v,s,hr⟩:=Ay4 hN hb h;rw[hr];simp only[A3];cases Ab9 x.pre<;>simp[P7]
 rw[A1 h,A1 (K0 h),A1 h]
def Ay2 {N:Nat}(l:List A2)(hl:l.length<N)(hs:l.length≤1000000):HG N l=some (!(l.any fun y=>cmp .geq y.Op 8)):=by
 unfold HG;rw[L5 l (by omega) (mk:=fun(_:Unit) i=>i) (body:=fun(_:Unit) a=>if cmp .geq a.Op 8=true then some (.inr (.inr ()))else some (.inl ())) (fin:=fun _=>.inl ()) (s:=()) (by omega) ?_ ?_]
 ·rw[OI (fun y:A2=>cmp .geq y.Op 8) (Sum.inr ():Unit⊕Unit) l];cases h:l.any fun y=>cmp .geq y.Op 8<;>simp
 ·intro s i a ha hi;have e:ar .add .i64 (i:Int) 1=i+1:=D0 (by omega) (by omega);simp only[D6,B0,hi,G6,D2,E1,ha,A3,e];cases cmp .geq a.Op 8<;>rfl
 intro s;simp[D6,B0]
def Ax9 {N:Nat} (hN:Bgn N) {x:A2} (hb:x.bulk≤16777216):Jt N x=some (QV N x):=by
 unfold Jt QV;rw[AH7 hN hb];simp only[A3]
 by_cases h:Z8 N x=0
 ·rw [A0 (show¬(Z8 N x≠0) by omega),A0 (H7 h),TG hN N x (by omega) hb];have hpb:=FX x;obtain⟨hp,hd,hg⟩:=Nn h;simp only[A3];rw[Ay2 x.pre (by omega) (by omega)];simp only[A3]
  by_cases h2:x.pre.any (fun y=>cmp .geq y.Op 8)=true
  ·rw[A1 h2,h2,A1 (show nt (!true)=true from rfl)]
  rw[A0 h2,A0 (by simp[P7,h2])];have hk:=Ui hN hb h
  obtain ⟨r,k1,k2⟩:=TX (S:=Int×Int×Int) (R:=Unit⊕Unit) (step:=fun(s4:Int×Int×Int)=>((if cmp .lss s4.2.2 (Ar.len x.pre)=true then(B9 x.pre s4.2.2).bind fun x6=>(BX N x6).bind fun r7=>((if r7=true then(B9 x.pre s4.2.2).bind fun x9=>if cmp .neq x9.Var s4.1=true then some (.inr ())else some (.inl (ar .add .i64 s4.1 1))else some (.inl s4.1)):Option (Int⊕Unit)).bind fun s8=>match s8 with
          | .inl y10=>(B9 x.pre s4.2.2).bind fun x11=>(CE N x11).bind fun r12=>if r12=true then(B9 x.pre s4.2.2).bind fun x13=>if cmp .neq x13.cV s4.2.1=true then some (.inr (.inr ()))else some (.inl (y10,ar .add .i64 s4.2.1 1,ar .add .i64 s4.2.2 1))else(B9 x.pre s4.2.2).bind fun x14=>(Bq N x14).bind fun r15=>if r15=true then(B9 x.pre s4.2.2).bind fun x16=>if cmp .neq x16.cV s4.2.1=true then some (.inr (.inr ()))else some (.inl (y10,ar .add .i64 s4.2.1 1,ar .add .i64 s4.2.2 1))else some (.inl (y10,s4.2.1,ar .add .i64 s4.2.2 1))
          | .inr y17=>some (.inr (.inr ()))
   else some (.inr (.inl ())))
   :Option ((Int×Int×Int)⊕(Unit⊕Unit))))
   (fun j s=>s.2.2=(j:Int)∧0≤s.1∧s.1≤j∧0≤s.2.1∧s.2.1≤j∧Ab9 x.pre=cnt ((x.pre.drop j).map fun y=>(Jl y,Jm y,y)) s.1 s.2.1)
   (fun r=>r=if Ab9 x.pre=true then .inl ()else .inr ()) x.pre.length 0 (0,0,0) N (by omega) ⟨rfl,by simp,by simp,by simp,by simp,rfl⟩
   (fun j s _ hj ⟨e,b1,b2,b3,b4,hc⟩=>by
    obtain⟨v,sc,i⟩:=s
    simp only at e b1 b2 b3 b4 hc
    subst e
    simp only[J7]at hj
    have e1:B9 x.pre (j:Int)=some x.pre[j]:=by rw[E1,C0 hj]
    obtain⟨sh,ng,ok⟩:=hk _ (E4 hj)
    have et:Jl x.pre[j]=sh.cS:=by unfold Jl;rw[ok.tab]
    have es:Jm x.pre[j]=sh.scope:=by unfold Jm;rw[ok.tab]
    have ev:ar .add .i64 v 1=v+1:=D0 (by omega) (by omega);have ess:ar .add .i64 sc 1=sc+1:=D0 (by omega) (by omega);have ei:ar .add .i64 (j:Int) 1=((j+1:Nat):Int):=As4 (by omega)
    rw[O4 hj,D9,cnt]at hc
    simp only[et,es]at hc
    have sco:=ok.sco;rw[A1 (W8 (by simp only[B0];omega))];simp only[e1,A3,ok.var,ok.neg,ok.tim,ev,ess,ei]
    by_cases hv:sh.cS=true∧x.pre[j].Var≠v
    ·rw[A1 hv.1,A1 (K0 hv.2)]
     simp_all
    have hv1:((if sh.cS=true then if cmp .neq x.pre[j].Var v=true then some (.inr ())else some (.inl (v+1))else some (.inl v)):Option (Int⊕Unit))=some (.inl (if sh.cS=true then v+1 else v)):=by
     by_cases ht:sh.cS=true
     ·rw[A1 ht,A1 ht,A0 (H7 (Classical.not_not.1 fun e=>hv ⟨ht,e⟩))]
     simp_all
    rw[hv1];simp only[A3]
    have hcv:(if sh.cS=true then decide (x.pre[j].Var=v)else true)=true:=by
     simp_all
    rw[hcv,EJ]at hc
    have hvb:0≤(if sh.cS=true then v+1 else v)∧(if sh.cS=true then v+1 else v)≤((j+1:Nat):Int):=by split<;>omega
    generalize (if sh.cS=true then v+1 else v)=v' at hc hvb ⊢
    by_cases hs:sh.scope=true
    ·rw[A1 hs,A1 hs]at hc
     by_cases hsc:x.pre[j].cV=sc
     ·have hgo:0≤sc+1∧sc+1≤((j+1:Nat):Int)∧Ab9 x.pre=cnt ((x.pre.drop (j+1)).map fun y=>(Jl y,Jm y,y)) v' (sc+1):=by
       grind
      by_cases hng:ng=true
      ·rw[A1 hng,A0 (H7 hsc)];simp_all
      have hsp:sh.span=true:=by rw[hs]at sco;simp_all
      rw[A0 hng,A1 hsp,A0 (H7 hsc)];simp_all
     have hno:Ab9 x.pre=false:=by rw[hc,BB hsc,Bool.false_and]
     by_cases hng:ng=true
     ·rw[A1 hng,A1 (K0 hsc)]
      simp_all
     have hsp:sh.span=true:=by rw[hs]at sco;simp_all
     rw[A0 hng,A1 hsp,A1 (K0 hsc)]
     simp_all
    rw[A0 hs,A0 hs,EJ]at hc
    have hs0:sh.scope=false:=by grind
    rw[hs0]at sco
    have hng:¬ng=true:=fun e=>by rw[e]at sco;cases sco
    have hsp:¬sh.span=true:=fun e=>by rw[e]at sco;simp at sco
    rw[A0 hng,A0 hsp]
    grind)
   (fun s ⟨e,_,_,_,_,hc⟩=>by
    obtain⟨v,sc,i⟩:=s
    simp only[J7]at e hc
    subst e
    rw[List.drop_length]at hc
    rw[A0 (K4 (by simp only[B0];omega))];refine⟨_,rfl,?_⟩
    rw[hc];rfl)
  grind
 rw[A1 h,A1 (K0 h)]
def Ur:∀{l:List B5} {a:B5},a∈l→a.dep≤B5.deps l
 |b::l,a,h=>by
  simp only[B5.deps]
  rcases List.mem_cons.1 h with rfl|h
  ·omega
  exact N0 (Ur h) (Nat.le_max_right _ _)
def QR:∀{l:List B5} {a y:B5},a∈l→y∈a.pre→y∈B5.pres l
 |b::l,a,y,h,hy=>by
  simp only[B5.pres,Dp]
  rcases List.mem_cons.1 h with rfl|h
  ·grind
  exact .inr (QR h hy)
def OK {α R:Type} {body:Unit→α→Option (Unit⊕R)} {p:α→Bool} {r:R}:∀{l:List α},(∀x∈l,body () x=some (if p x=true then .inl ()else .inr r))→L6 body l ()=some (if l.all p=true then .inl ()else .inr r)
 |[],_=>rfl
 | x::l,h=>by
  unfold L6;rw[h x (by simp),LG]
  by_cases hx:p x=true
  ·rw[A1 hx,hx]
   dsimp only
   rw[OK fun y hy=>h y (by simp[hy])];rfl
  simp_all
def Bd9 {x:B5} (h:BT x=0):(x.Op=1∨x.Op=4→0≤x.Field∧x.Field<8)∧(1≤x.Op∧x.Op≤4→0≤x.Var∧x.Var<16):=by
 have h3:Zp x=false:=by
  grind[BT]
 unfold Zp at h3
 simp only[N8,K5,D6,O7,Bool.or_eq_false_iff,Re,Di]at h3
 grind[AE6,AE7]
end Go.Ab
namespace Go.Ab
noncomputable section
def Bh:A9:=⟨0,0,⟨#[]⟩⟩
def T5 (k:Int)(v:A9):Int:=if O0 v≠0 then O0 v else if v.Kind=0∨(k≠1∧k≠2∧k≠3)then 0 else 9
def Oe (k:Int)(a b:A9):A9:=
 if k=1 then⟨0,ar .add .i64 a.Num b.Num,⟨#[]⟩⟩else if k=2 then⟨0,Ar.mn a.Num b.Num,⟨#[]⟩⟩else if k=3 then⟨0,Ar.mx a.Num b.Num,⟨#[]⟩⟩else if k=4 then a else if k=5 then b else Bh
def DZ (k:Int)(v:A9):A9:=if k=0 then Bh else v
def Ca (k:Int):List A9→A9
 |[]=>Bh
 |v::l=>l.foldl (fun a b=>Oe k a (DZ k b)) (DZ k v)
def AQ7 (k:Int)(l:List A9)(o:A9):A9×Int:=
 if k<0∨5<k then(Bh,1)else if 4096<l.length then(Bh,5)else if AD (T5 k) l≠0 then(Bh,AD (T5 k) l)else if T5 k o≠0 then(Bh,T5 k o)
 else if k=0 then(⟨0,l.length,⟨#[]⟩⟩,0)else if l=[]∧k≠1 then(o,0)else(Ca k l,0)
def SZ (N:Nat)(k:Int)(v:A9):Bm N k v=some (decide (v.Kind=0∨(k≠1∧k≠2∧k≠3))):=by
 unfold Bm;simp only[N8,K5,D7,L9,E3]
 by_cases h0:v.Kind=0<;>by_cases h1:k=1<;>by_cases h2:k=2<;>by_cases h3:k=3<;>simp[h0,h1,h2,h3]
def Yh (N:Nat) (k:Int) (v:A9):Az N k v=some (T5 k v):=by
 unfold Az T5;rw[Py,SZ];simp only[A3]
 by_cases h:O0 v=0
 ·rw[A0 (H7 h),A0 (show¬O0 v≠0 by omega)]
  by_cases h2:v.Kind=0∨(k≠1∧k≠2∧k≠3)
  ·rw[A0 (by rw[P7,J1 h2];decide),A1 h2]
  rw[A1 (by rw[P7,BB h2];rfl),A0 h2]
 rw[A1 (K0 h),A1 h]
def Yg {k:Int}{v:A9}(h:T5 k v=0):O0 v=0∧(v.Kind=0∨(k≠1∧k≠2∧k≠3)):=by
 grind[T5]
def Pz {v:A9}(h:O0 v=0)(hk:v.Kind=0):v.Text=⟨#[]⟩∧ -1099511627776≤v.Num∧v.Num≤1099511627776:=by
 grind[O0]
def Ap8 {n:Int}(h0: -1099511627776≤n)(h1:n≤1099511627776):O0 ⟨0,n,⟨#[]⟩⟩=0:=by
 simp_all[O0]
structure Av0 (k:Int) (n:Nat) (v:A9):Prop where
 c:k=0→v=Bh
 s:k=1→v.Kind=0∧v.Text=⟨#[]⟩∧ -(1099511627776*(n:Int))≤v.Num∧v.Num≤1099511627776*(n:Int)
 m:k=2∨k=3→O0 v=0∧v.Kind=0
 f:k=4∨k=5→O0 v=0
def AN3 {k:Int}{v:A9}(h:T5 k v=0):Av0 k 1 (DZ k v):=by
 obtain⟨h1,h2⟩:=Yg h;unfold DZ
 by_cases k0:k=0
 ·rw[A1 k0];exact⟨fun _=>rfl,by omega,by omega,by omega⟩
 rw[A0 k0];refine⟨by omega,fun e=>?_,fun e=>⟨h1,by omega⟩,fun _=>h1⟩
 have hk:v.Kind=0:=by omega
 grind[O0]
def AA7 {k:Int} {n:Nat} {a v:A9} (ha:Av0 k n a) (hn:n≤4096) (h:T5 k v=0):Av0 k (n+1) (Oe k a (DZ k v)):=by
 obtain⟨h1,h2⟩:=Yg h;unfold Oe
 by_cases k1:k=1
 ·rw[A1 k1]
  have hk:v.Kind=0:=by omega
  obtain⟨_,b,c⟩:=Pz h1 hk;obtain⟨_,_,d,e⟩:=ha.s k1;have e1:DZ k v=v:=A0 (by omega);rw[e1];have e2:ar .add .i64 a.Num v.Num=a.Num+v.Num:=D0 (by omega) (by omega);rw[e2];exact⟨by omega,fun _=>⟨rfl,rfl,by grind,by grind⟩,by omega,by omega⟩
 rw[A0 k1]
 by_cases k2:k=2
 ·rw[A1 k2]
  have hk:v.Kind=0:=by omega
  obtain⟨_,b,c⟩:=Pz h1 hk;obtain⟨d,e⟩:=ha.m (.inl k2);obtain⟨_,d1,d2⟩:=Pz d e;have e1:DZ k v=v:=A0 (by omega);rw[e1];refine⟨by omega,by omega,fun _=>⟨?_,rfl⟩,by omega⟩
  show O0 ⟨0,if v.Num<a.Num then v.Num else a.Num,⟨#[]⟩⟩=0
  split<;>exact Ap8 (by omega) (by omega)
 rw[A0 k2]
 by_cases k3:k=3
 ·rw[A1 k3]
  have hk:v.Kind=0:=by omega
  obtain⟨_,b,c⟩:=Pz h1 hk;obtain⟨d,e⟩:=ha.m (.inr k3);obtain⟨_,d1,d2⟩:=Pz d e;have e1:DZ k v=v:=A0 (by omega);rw[e1];refine⟨by omega,by omega,fun _=>⟨?_,rfl⟩,by omega⟩
  show O0 ⟨0,if a.Num<v.Num then v.Num else a.Num,⟨#[]⟩⟩=0
  split<;>exact Ap8 (by omega) (by omega)
 rw[A0 k3]
 by_cases k4:k=4
 ·rw[A1 k4];exact⟨by omega,by omega,by omega,fun _=>ha.f (.inl k4)⟩
 rw[A0 k4]
 by_cases k5:k=5
 ·rw[A1 k5];have e1:DZ k v=v:=A0 (by omega);rw[e1];exact⟨by omega,by omega,by omega,fun _=>h1⟩
 rw[A0 k5];exact⟨fun _=>rfl,by omega,by omega,by omega⟩
def Al9 {N:Nat}{k:Int}(h0:0≤k)(h5:k≤5)(a b:A9):CU N k a b=some (Oe k a b):=by
 have h:k=0∨k=1∨k=2∨k=3∨k=4∨k=5:=by omega
 rcases h with rfl|rfl|rfl|rfl|rfl|rfl<;>rfl
def Aw2 (N:Nat)(k:Int)(v:A9):DT N k v=some (DZ k v):=by
 unfold DT DZ;rw[D7]
 grind[Bh]
def W9 (k:Int)(l:List A9):D3:=⟨k,l.length,Ca k l⟩
def OX (k:Int)(l:List A9)(v:A9):Ca k (l++[v])=if l=[]then DZ k v else Oe k (Ca k l) (DZ k v):=by
 cases l with
 |nil=>rfl
 |cons a l=>simp[Ca]
def AS5 {N:Nat} {k:Int} (h0:0≤k) (h5:k≤5) (l:List A9) (hl:l.length≤4096) (v:A9):X9 N (W9 k l) v k=some (W9 k (l++[v])):=by
 unfold X9;rw[Aw2];simp only[A3];unfold Gm;rw[D7,D7]
 have e:W9 k (l++[v])=⟨k,(l.length:Int)+1,if l=[]then DZ k v else Oe k (Ca k l) (DZ k v)⟩:=by
  unfold W9;rw[OX];simp
 rw[e]
 cases l with
 |nil=>rfl
 | cons a l=>
  have hc:¬(decide ((W9 k (a::l)).Count=0)=true):=by
   grind[W9]
  rw[A0 hc,A0 (by simp)]
  show((CU N k (Ca k (a::l)) (DZ k v)).bind _).bind _=_
  rw[Al9 h0 h5];simp only[A3,W9,reduceCtorEq,G0];rw[D0 (by omega) (by omega)]
def Qc {k:Int}:∀(n:Nat) {l:List A9},l.length=n→l≠[]→l.length≤4096→(∀v∈l,T5 k v=0)→Av0 k l.length (Ca k l):=by
 intro n
 induction n with
 |zero=>simp_all
 |succ n ih=>
  intro l h0 h hn hv
  rcases Eu l with rfl|⟨q,v,rfl⟩
  ·simp_all
  rw[Et]at *
  rw[OX,G8];have hw:=hv v (by simp)
  simp only[G8,G7,X1]at hn h0
  by_cases h:q=[]
  ·subst h;rw[A1 rfl];exact AN3 hw
  rw[A0 h];exact AA7 (ih (by omega) h (by omega) fun x hx=>hv x (by simp[hx])) (by omega) hw
def Ad3 {N:Nat} {k:Int} (h0:0≤k) (h5:k≤5) {l:List A9} (hl:l.length≤4096) (hv:∀v∈l,T5 k v=0):Ej N (W9 k l)=some 0:=by
 unfold Ej CA;simp only[A3]
 have e1:¬(nt (an (cmp .geq (W9 k l).Kind 0) (cmp .leq (W9 k l).Kind 5))=true):=by
  show¬((!(decide (0≤k)&&decide (k≤5)))=true)
  simp;omega
 have e2:¬(Ar.or (cmp .lss (W9 k l).Count 0) (cmp .gtr (W9 k l).Count 4096)=true):=by
  show¬((decide ((l.length:Int)<0)||decide (4096<(l.length:Int)))=true)
  simp;omega
 rw[A0 e1,A0 e2]
 by_cases hz:l=[]∨k=0
 ·have e3:Ar.or (cmp .eql (W9 k l).Count 0) (cmp .eql (W9 k l).Kind 0)=true:=by
   show(decide ((l.length:Int)=0)||decide (k=0))=true
   simp_all
  have e4:(W9 k l).Value=Bh:=by
   by_cases hn:l=[]
   ·subst hn;rfl
   exact(Qc _ rfl hn hl hv).c (hz.resolve_left hn)
  rw[A1 e3,e4];exact A0 (by simp[P7,K5,D7,GX,Bh])
 have hn:l≠[]:=fun h=>hz (.inl h);have hk:k≠0:=fun h=>hz (.inr h);have hlen:l.length≠0:=fun h=>hn (HX h)
 have e3:¬(Ar.or (cmp .eql (W9 k l).Count 0) (cmp .eql (W9 k l).Kind 0)=true):=by
  show¬((decide ((l.length:Int)=0)||decide (k=0))=true)
  grind
 rw[A0 e3];have g:=Qc _ rfl hn hl hv
 by_cases k1:k=1
 ·rw[A1 (show cmp .eql (W9 k l).Kind 1=true from J1 k1)];obtain⟨a,b,c,d⟩:=g.s k1;have ev:(W9 k l).Value=Ca k l:=rfl;have ec:(W9 k l).Count=(l.length:Int):=rfl;have em:ar .mul .i64 (l.length:Int) 1099511627776=(l.length:Int)*1099511627776:=AX (by omega) (by omega)
  have en:Ar.neg .i64 ((l.length:Int)*1099511627776)= - ((l.length:Int)*1099511627776):=by
   show IntKind.wrap .i64 (0-(l.length:Int)*1099511627776)=_
   rw[AX (by omega) (by omega)];omega
  rw[ev,ec,em,en];rw[A0];simp only[P7,K5,D7,O7,Bv,GX];rw[J1 a,J1 b,J1 (show -((l.length:Int)*1099511627776)≤(Ca k l).Num by omega),J1 (show(Ca k l).Num≤(l.length:Int)*1099511627776 by omega)]
  decide
 rw[A0 (show¬(cmp .eql (W9 k l).Kind 1=true)from(by show¬decide (k=1)=true;grind))]
 have hvb:O0 (Ca k l)=0:=by
  by_cases h23:k=2∨k=3
  ·exact(g.m h23).1
  exact g.f (by omega)
 have hsu:(Ca k l).Kind=0∨(k≠1∧k≠2∧k≠3):=by
  by_cases h23:k=2∨k=3
  ·exact .inl (g.m h23).2
  omega
 show((Bo N (Ca k l)).bind _)=_
 rw[Py,hvb];simp only[A3];rw[A1 (show cmp .eql 0 0=true from rfl)]
 show((Bm N k (Ca k l)).bind _)=_
 rw[SZ,J1 hsu];rfl
def Bi4 {N:Nat} (hN:Bgn N) (k:Int) {l:List A9} (hl:l.length<1000000) (o:A9):HM N k l o=some (AQ7 k l o):=by
 unfold HM AQ7 CA;simp only[A3]
 by_cases h0:k<0∨5<k
 ·rw[A1 (by show(!(decide (0≤k)&&decide (k≤5)))=true;simp;omega),A1 h0];rfl
 rw[A0 (by show¬((!(decide (0≤k)&&decide (k≤5)))=true);simp;omega),A0 h0]
 by_cases h1:4096<l.length
 ·rw[A1 (W1 (by rw[B0];omega)),A1 h1];rfl
 rw[A0 (Q4 (by rw[B0];omega)),A0 h1];rw[L5 l (by omega) (mk:=fun(_:Unit) i=>i) (body:=BQ fun v=>Az N k v) (fin:=fun _=>.inl ()) (s:=()) (by omega) ?_ ?_]
 ·rw [AN (f:=T5 k) fun v _=>Yh N k v]
  by_cases h2:AD (T5 k) l=0
  ·rw [A1 h2,A0 (show¬AD (T5 k) l≠0 by omega)];have hv:=CJ.1 h2;simp only[A3]
   have hf:Q0 N (⟨k,0,⟨0,0,⟨#[]⟩⟩⟩:D3) l (fun y1 y2=>X9 N y1 y2 k)=some (W9 k l):=by
    unfold Q0;rw[L5 l (by omega) (mk:=fun(s:D3) i=>(i,s)) (body:=fun s v=>(X9 N s v k).bind fun r=>some (.inl r)) (fin:=fun s=>s) (s:=⟨k,0,⟨0,0,⟨#[]⟩⟩⟩) (by omega) ?_ ?_]
    ·obtain⟨s',k1,p,k2,k3⟩:=DL (R:=D3) (step:=fun s v=>(X9 N s v k).bind fun r=>some (.inl r)) (fun r s=>∃p,p++r=l∧s=W9 k p) (fun v r s ⟨p,e1,e2⟩=>by
      subst e2
      refine⟨_,by rw[AS5 (by omega) (by omega) p (by have:=I4 List.length e1;grind)];rfl,p++[v],by grind,rfl⟩) (l:=l) (s:=⟨k,0,⟨0,0,⟨#[]⟩⟩⟩) ⟨[],rfl,rfl⟩
     simp_all
    ·intro s i a ha hi;have e:ar .add .i64 (i:Int) 1=i+1:=D0 (by omega) (by omega);simp only[D6,B0,hi,G6,D2,E1,ha,A3,e];cases X9 N s a k<;>rfl
    intro s;simp[D6,B0]
   rw[hf];simp only[A3];unfold Gn;rw[Ad3 (by omega) (by omega) (by omega) hv];simp only[A3];rw[A0 (show¬(cmp .neq 0 0=true) by decide)]
   show((Az N k o).bind _).bind _=_
   rw[Yh];simp only[A3]
   by_cases h3:T5 k o=0
   ·rw[A0 (H7 h3),A0 (show¬T5 k o≠0 by omega)]
    by_cases h4:k=0
    ·rw[A1 (show cmp .eql (W9 k l).Kind 0=true from J1 h4),A1 h4];rfl
    rw[A0 (show¬(cmp .eql (W9 k l).Kind 0=true)from(by show¬decide (k=0)=true;grind)),A0 h4]
    by_cases h5:l=[]∧k≠1
    ·rw[A1 (show an (cmp .eql (W9 k l).Count 0) (cmp .neq (W9 k l).Kind 1)=true by show(decide ((l.length:Int)=0)&& !decide (k=1))=true;simp_all),A1 h5];rfl
    rw[A0 (show¬(an (cmp .eql (W9 k l).Count 0) (cmp .neq (W9 k l).Kind 1)=true) by show¬((decide ((l.length:Int)=0)&& !decide (k=1))=true);simpa using h5),A0 h5];rfl
   rw[A1 (K0 h3),A1 h3];rfl
  rw[A0 h2,A1 h2];rfl
 ·intro s i a ha hi;have e:ar .add .i64 (i:Int) 1=i+1:=D0 (by omega) (by omega);simp only[D6,B0,hi,G6,D2,E1,ha,A3,e,BQ,L9]
  grind
 intro s;simp[D6,B0]
def JZ (env:CY)(v:Int):List A8:=if v<0∨(env.cY.length:Int)≤v then[]else env.cY.getD v.toNat []
def Ir (e:A8)(k:Int):A9×Int:=if(e.Values.length:Int)≤k then(Bh,6)else(e.Values.getD k.toNat Bh,0)
def WL (rows:List A8)(x:B5):A9×Int:=
 if(rows.all fun e=>decide (x.Field<(e.Values.length:Int)))=true then AQ7 x.Kind (rows.map fun e=>e.Values.getD x.Field.toNat Bh) x.Value else(Bh,6)
def OT (rows:List A8)(own:Int)(ev:A8)(v:Int):Option A8:=if v≠own then rows.getLast? else some ev
def AH8 (y:A8)(x:B5):A9×Int:=
 if x.Op=2 then(⟨0,y.Time,⟨#[]⟩⟩,0)else if(Ir y x.Field).2≠0 then(Bh,(Ir y x.Field).2)else if O0 (Ir y x.Field).1≠0 then(Bh,O0 (Ir y x.Field).1)else((Ir y x.Field).1,0)
def Ku (env:CY)(own:Int)(ev:A8)(x:B5):A9×Int:=
 if x.Op=0 then(x.Value,0)else if x.Op=3 then(⟨0,(JZ env x.Var).length,⟨#[]⟩⟩,0)else if x.Op=4 then WL (JZ env x.Var) x
 else match OT (JZ env x.Var) own ev x.Var with|none=>(Bh,10)|some y=>AH8 y x
def NI {x:B5}(hx:BT x=0):0≤x.Op∧x.Op≤12∧(x.cQ.length:Int)=(if x.Op<5 then 0 else if x.Op=12 then 1 else 2):=by
 grind[BT]
def Kk (e:CY):Prop:=e.cY.length<1000000∧∀l∈e.cY,l.length<1000000
def SH {env:CY}(h:Kk env)(v:Int):(JZ env v).length<1000000:=by
 grind[JZ,Kk]
def RK (N:Nat)(env:CY)(own:Int)(ev:A8)(u:Unit)(v:Int):Y5 N ⟨env,own,ev,u⟩ v=some (JZ env v):=by
 unfold Y5 JZ
 by_cases h:v<0∨(env.cY.length:Int)≤v
 ·rw[A1 (by simp only[N8,D6,O7,B0];grind),A1 h]
 rw[A0 (by simp only[N8,D6,O7,B0];grind),A0 h]
 have hi:v.toNat<env.cY.length:=by omega
 have hv:v=(v.toNat:Int):=by omega
 rw[hv,E1]
 grind
def Uo (N:Nat)(e:A8){k:Int}(hk:0≤k):EC N e k=some (Ir e k):=by
 unfold EC Ir
 by_cases h:(e.Values.length:Int)≤k
 ·rw[A1 (by rw[O7,B0];simp_all),A1 h];rfl
 rw[A0 (by rw[O7,B0];grind),A0 h]
 have hi:k.toNat<e.Values.length:=by omega
 have hv:k=(k.toNat:Int):=by omega
 rw[hv,E1]
 grind
def OJ {α β R:Type} {body:List β→α→Option (List β⊕R)} {p:α→Bool} {g:α→β} {r:R}:∀{l:List α} {s:List β},s.length+l.length≤1000000→(∀(s:List β) x,x∈l→s.length≤1000000→body s x=some (if p x=true then .inl (s++[g x])else .inr r))→
 L6 body l s=some (if l.all p=true then .inl (s++l.map g)else .inr r)
 |[],s,_,_=>by simp[L6]
 |x::l,s,hl,h=>by
  simp only[L6,h s x (by simp) (by omega)]
  by_cases hp:p x=true
  ·simp only[hp,D2];rw[OJ (by grind) fun s y hy=>h s y (by simp[hy])];simp[hp]
  simp[hp]
def Ak8 {N:Nat} (hN:Bgn N) {env:CY} (he:Kk env) (own:Int) (ev:A8) (u:Unit) {x:B5} (hf:0≤x.Field):Bu N ⟨env,own,ev,u⟩ x=some (WL (JZ env x.Var) x):=by
 have hl:=SH he x.Var;unfold Bu WL;rw[RK];simp only[A3]
 generalize JZ env x.Var=rows at hl
 rw[L5 rows (by omega) (mk:=fun(s:List A9) i=>(s,i)) (body:=fun s e=>(EC N e x.Field).bind fun r=>if cmp .neq r.2 0=true then some (.inr (.inr r.2))else(P9 s [r.1]).bind fun l=>some (.inl l)) (fin:=fun s=>.inl s) (s:=[]) (by omega) ?_ ?_]
 ·rw[OJ (p:=fun e=>decide (x.Field<(e.Values.length:Int))) (g:=fun e=>e.Values.getD x.Field.toNat Bh) (r:=.inr 6) (by simp;omega) (fun s e _ hs=>by
   rw[Uo N e hf];unfold Ir
   by_cases h:(e.Values.length:Int)≤x.Field
   ·rw[A1 h,A0 (by grind)];rfl
   rw[A0 h,A1 (by grind)];simp only[A3]
   rw[A0 (by decide),S1 (by simp;omega)];rfl)]
  by_cases h:(rows.all fun e=>decide (x.Field<(e.Values.length:Int)))=true
  ·rw[A1 h,A1 h];simp only[A3,I5];rw[Bi4 hN _ (by grind)];rfl
  rw[A0 h,A0 h];rfl
 ·intro s i a ha hi;have e:ar .add .i64 (i:Int) 1=i+1:=D0 (by omega) (by omega);simp only[D6,B0,hi,G6,D2,E1,ha,A3,e]
  grind
 intro s;simp[D6,B0]
def AB4 {N:Nat} (hN:Bgn N) {env:CY} (he:Kk env) (own:Int) (ev:A8) (u:Unit) {x:B5} (hx:BT x=0) (ha:x.cQ=[]):BS N ⟨env,own,ev,u⟩ x=some (Ku env own ev x):=by
 have hok:=Bd9 hx
 have hop:0≤x.Op∧x.Op<5:=by
  have:=NI hx
  rw[ha]at this
  grind
 have hl:=SH he x.Var;unfold BS Ku;rw[RK];simp only[A3]
 by_cases h0:x.Op=0
 ·rw[A1 (by rw[D7];simp_all),A1 h0]
 rw[A0 (by rw[D7];grind),A0 h0]
 by_cases h3:x.Op=3
 ·rw[A1 (by rw[D7];simp_all),A1 h3];rfl
 rw[A0 (by rw[D7];grind),A0 h3]
 by_cases h4:x.Op=4
 ·rw[A1 (by rw[D7];simp_all),A1 h4,Ak8 hN he own ev u (hok.1 (.inr h4)).1];rfl
 rw[A0 (by rw[D7];grind),A0 h4]
 have key:((if cmp .neq x.Var own=true then if cmp .eql (Ar.len (JZ env x.Var)) 0=true then some (.inr ())else(B9 (JZ env x.Var) (ar .sub .i64 (Ar.len (JZ env x.Var)) 1)).bind fun x6=>some (.inl x6)else some (.inl ev)):Option (A8⊕Unit))=some (match OT (JZ env x.Var) own ev x.Var with|some y=>.inl y|none=>.inr ()):=by
  unfold OT
  by_cases hv:x.Var=own
  ·rw[A0 (H7 hv),A0 (by omega)]
  rw[A1 (K0 hv),A1 hv]
  generalize JZ env x.Var=rows at hl
  rcases Eu rows with rfl|⟨q,y,rfl⟩
  ·rfl
  rw[Et]at *
  have e1:ar .sub .i64 (Ar.len (q++[y])) 1=(q.length:Int):=by
   have:ar .sub .i64 (Ar.len (q++[y])) 1=Ar.len (q++[y])-1:=AX (by rw[B0];omega) (by rw[B0];omega);rw[this,B0];simp
  rw[A0 (by rw[D7,B0];simp;omega),e1,E1];simp
 have key2:=I4 (fun o=>o.bind fun s5=>match s5 with
  | .inl y7=>
   if cmp .eql x.Op 2=true then
    some ((⟨0,y7.Time,⟨#[]⟩⟩:A9),(0:Int))
   else
    (EC N y7 x.Field).bind fun r8=>
    ((
     if cmp .eql r8.2 0=true then
      (Bo N r8.1).bind fun r10=>
      some r10
     else
      some r8.2
    ):Option (Int)).bind fun s9=>
    if cmp .neq s9 0=true then
     some ((⟨0,0,⟨#[]⟩⟩:A9),s9)
    else
     some (r8.1,0)
  | .inr y11=>
   some ((⟨0,0,⟨#[]⟩⟩:A9),10)) key
 refine key2.trans ?_
 cases hy:OT (JZ env x.Var) own ev x.Var with
 |none=>rfl
 | some y=>
  simp only[A3];unfold AH8
  by_cases h2:x.Op=2
  ·rw[A1 (by rw[D7];simp_all),A1 h2]
  rw[A0 (by rw[D7];grind),A0 h2]
  have h1:x.Op=1:=by omega
  rw[Uo N y (hok.1 (.inl h1)).1];simp only[A3]
  by_cases hb:(Ir y x.Field).2=0
  ·rw[A1 (by rw[D7];simp_all),Py,A0 (by omega)];simp only[A3]
   by_cases hc:O0 (Ir y x.Field).1=0
   ·rw[A0 (H7 hc),A0 (by omega)]
   rw[A1 (K0 hc),A1 hc];rfl
  rw[A0 (by rw[D7];grind),A1 hb];simp only[A3];rw[A1 (K0 hb)];rfl
def Lo (b:Bool):A9:=if b=true then⟨1,1,⟨#[]⟩⟩else⟨1,0,⟨#[]⟩⟩
def OU (op:Int)(kinds:List Int)(k:Int):Bool:=
 if op=5∨op=6∨op=7∨op=8 then decide (k=0)else if op=10∨op=11∨op=12 then decide (k=1)else if op=9 then decide (k=kinds.getD 0 0)else true
def Ln (op:Int)(kinds:List Int):Int:=if kinds.all (OU op kinds)=true then 0 else 9
instance (x y:A9):Decidable (x=y):=by
 obtain⟨a,b,c⟩:=x;obtain⟨d,e,f⟩:=y;exact decidable_of_iff (a=d∧b=e∧c=f) (by simp)
def XP (op:Int)(l:List A9):A9:=
 let a:=l.getD 0 Bh
 let b:=l.getD (l.length-1) Bh
 if op=9 then Lo (decide (a=l.getD 1 Bh))else if op=5 then⟨0,ar .add .i64 a.Num b.Num,⟨#[]⟩⟩else if op=6 then⟨0,ar .sub .i64 a.Num b.Num,⟨#[]⟩⟩
 else if op=7 then Lo (decide (a.Num<b.Num))else if op=8 then Lo (decide (a.Num≤b.Num))else if op=10 then Lo (decide (a.Num=1)&&decide (b.Num=1))else if op=11 then Lo (decide (a.Num=1)||decide (b.Num=1))else Lo (!decide (a.Num=1))
mutual
def JL (R:B5→A9×Int):B5→A9×Int
 |⟨op,args,var,field,kind,val⟩=>
  if args.length=0 then R ⟨op,args,var,field,kind,val⟩else
  match Hm R args with
  | .inr f=>(Bh,f)
  | .inl l=>if Ln op (l.map (·.Kind))≠0 then(Bh,Ln op (l.map (·.Kind)))else(XP op l,0)
def Hm (R:B5→A9×Int):List B5→List A9⊕Int
 |[]=>.inl []
 |a::r=>if(JL R a).2≠0 then .inr (JL R a).2 else match Hm R r with| .inr f=>.inr f| .inl l=>.inl ((JL R a).1::l)
end
def ZZ (R:B5→A9×Int)(x:B5):JL R x=if x.cQ.length=0 then R x else
 match Hm R x.cQ with
 | .inr f=>(Bh,f)
 | .inl l=>if Ln x.Op (l.map (·.Kind))≠0 then(Bh,Ln x.Op (l.map (·.Kind)))else(XP x.Op l,0):=by cases x;simp only[JL]
def OZ {R:B5→A9×Int}:∀{l:List B5} {r:List A9},Hm R l= .inl r→r.length=l.length
 |[],r,h=>by simp_all[Hm]
 |a::l,r,h=>by
  simp only[Hm]at h
  split at h
  ·cases h
  cases hr:Hm R l with
  |inr f=>rw[hr]at h;cases h
  |inl q=>rw[hr]at h;simp only[Sum.inl.injEq]at h;subst h;simp[OZ hr]
def XC (N:Nat)(b:Bool):CG N b=some (Lo b):=by
 unfold CG On Lo;cases b<;>rfl
def XF {N:Nat} (hN:Bgn N) (op:Int) {kinds:List Int} (hl:kinds.length<1000000):Gw N op kinds=some (Ln op kinds):=by
 unfold Gw Ln;rw[L5 kinds (by omega) (mk:=fun(_:Unit) i=>i) (body:=fun _ k=>some (if OU op kinds k=true then .inl ()else .inr (.inr ()))) (fin:=fun _=>.inl ()) (s:=()) (by omega) ?_ ?_]
 ·rw[OK (p:=OU op kinds) (r:=.inr ()) fun x _=>rfl]
  grind
 ·intro s i k hk hi;have e:ar .add .i64 (i:Int) 1=i+1:=D0 (by omega) (by omega)
  have h0:B9 kinds 0=some (kinds.getD 0 0):=by
   have:B9 kinds 0=kinds[0]? :=E1 (i:=0);rw[this,Z0,C0 (by omega)];rfl
  simp only[D6,B0,hi,G6,D2,E1,hk,A3,e,D7,h0,P7];unfold OU
  by_cases a5:op=5
  ·grind
  grind
 intro s;simp[D6,B0]
def MA {α:Type} {F:B5→Option (A9×Int)} {R:B5→A9×Int}:∀{l:List B5} {s:List A9×List Int},s.2=s.1.map (·.Kind)→s.1.length+l.length≤1000000→(∀a∈l,F a=some (JL R a))→
 L6 (fun(s:List A9×List Int) a=>(F a).bind fun r8=>if cmp .neq r8.2 0=true then some (Sum.inr (Sum.inr (α:=α) r8.2))else(P9 s.1 [r8.1]).bind fun l9=>(P9 s.2 [r8.1.Kind]).bind fun l12=>some (.inl (l9,l12))) l s=
  some (match Hm R l with| .inr f=>.inr (.inr f)| .inl q=>.inl (s.1++q,(s.1++q).map (·.Kind)))
 |[],s,h,_,_=>by obtain⟨a,b⟩:=s;dsimp only at h;subst h;simp[L6,Hm]
 | a::l,s,h,hl,hF=>by
  obtain⟨s1,s2⟩:=s
  dsimp only at h;subst h
  simp only[G7]at hl
  simp only[L6,Hm,hF a (by simp),A3,L9]
  by_cases hz:(JL R a).2=0
  ·simp only[hz,G6,AU,J2,G0,ne_eq,IX];rw[S1 (by simp;omega),S1 (by simp;omega)];simp only[A3];have ih:=MA (α:=α) (F:=F) (R:=R) (l:=l) (s:=(s1++[(JL R a).1],s1.map (·.Kind)++[(JL R a).1.Kind])) (by simp) (by simp;omega) fun b hb=>hF b (by simp[hb])
   simp only[L9]at ih
   rw[ih]
   grind
  simp[hz]
def ML {l:List A9}{i:Nat}(h:i<l.length):l[i]? =some (l.getD i Bh):=by
 rw[Z0,C0 h];rfl
def AB6 {N:Nat} (hN:Bgn N) {env:CY} (he:Kk env) (own:Int) (ev:A8) (u:Unit):∀(n:Nat) (x:B5),x.dep≤n→x.bulk≤16777216→(∀y∈x.pre,BT y=0)→R4 N n ⟨env,own,ev,u⟩ x=some (JL (Ku env own ev) x):=by
 intro n
 induction n with
 |zero=>intro x h;rw[B5.dep_eq]at h;omega
 | succ n ih=>
  intro x hd hb hbad;have hx:=hbad x (by rw[B5.pre_eq];simp);have hd':=B5.dep_eq x;unfold R4;rw[ZZ]
  by_cases h0:x.cQ.length=0
  ·rw[A1 (by rw[D7,B0];simp_all),A1 h0,AB4 hN he own ev u hx (HX h0)];rfl
  rw[A0 (by rw[D7,B0];simp_all),A0 h0];obtain⟨a1,a2,a3⟩:=NI hx
  have hlen:x.cQ.length≤2:=by
   omega
  have hop5:5≤x.Op:=by
   omega
  have hF:∀a∈x.cQ,R4 N n ⟨env,own,ev,u⟩ a=some (JL (Ku env own ev) a):=fun a ha=>ih a (by have:=Ur ha;omega) (by have:=BL ha;omega) fun y hy=>hbad y (by rw[B5.pre_eq];exact Dc _ (QR ha hy));rw[L5 x.cQ (by omega) (mk:=fun(s:List A9×List Int) i=>(s.1,s.2,i)) (body:=fun(s:List A9×List Int) a=>(R4 N n ⟨env,own,ev,u⟩ a).bind fun r8=>if cmp .neq r8.2 0=true then some (.inr (.inr r8.2))else(P9 s.1 [r8.1]).bind fun l9=>(P9 s.2 [r8.1.Kind]).bind fun l12=>some (.inl (l9,l12))) (fin:=fun s=>.inl s) (s:=([],[])) (by omega) ?_ ?_]
  ·rw [MA (R:=Ku env own ev) rfl (by simp;omega) hF]
   cases hq:Hm (Ku env own ev) x.cQ with
   |inr f=>rfl
   | inl q=>
    simp only[A3,I5];have hql:=OZ hq;rw[XF hN _ (by simp;omega)];simp only[A3]
    by_cases hz:Ln x.Op (q.map (·.Kind))=0
    ·rw[A0 (H7 hz),A0 (show¬Ln x.Op (q.map (·.Kind))≠0 by omega)]
     have hi0:B9 q 0=some (q.getD 0 Bh):=by
      have:B9 q 0=q[0]? :=E1 (i:=0);rw[this,ML (by omega)]
     have hiL:B9 q (ar .sub .i64 (Ar.len q) 1)=some (q.getD (q.length-1) Bh):=by
      have e:ar .sub .i64 (Ar.len q) 1=((q.length-1:Nat):Int):=by
       have:ar .sub .i64 (Ar.len q) 1=Ar.len q-1:=AX (by rw[B0];omega) (by rw[B0];omega);rw[this,B0];omega
      rw[e,E1,ML (by omega)]
     unfold XP
     by_cases h9:x.Op=9
     ·rw[A1 (by rw[D7];simp_all)]
      have h2:x.cQ.length=2:=by rw[A0 (by omega),A0 (by omega)]at a3;omega
      have hi1:B9 q 1=some (q.getD 1 Bh):=by
       have:B9 q 1=q[1]? :=E1 (i:=1);rw[this,ML (by omega)]
      rw[hi0,hi1];simp only[A3];rw[XC];simp only[A3,h9,D2,E3,GD,O3]
      congr 1
      generalize q.getD 0 Bh=v;generalize q.getD 1 Bh=w;obtain⟨v1,v2,v3⟩:=v;obtain⟨w1,w2,w3⟩:=w;simp only[K5,D7,GX,A9.mk.injEq,EK,Bool.decide_and]
     rw[A0 (by rw[D7];grind)];rw[hi0,hiL];simp only[A3,Am,Fv,Fu,Ft,Fs,Fq,Fp,Fo,XC,D7,D6,Bv,K5,N8,L9,A0 h9]
     have hop:x.Op=5∨x.Op=6∨x.Op=7∨x.Op=8∨x.Op=10∨x.Op=11∨x.Op=12:=by omega
     rcases hop with h|h|h|h|h|h|h<;>simp[h]
    rw[A1 (K0 hz),A1 hz];rfl
  ·intro s i a ha hi;have e:ar .add .i64 (i:Int) 1=i+1:=D0 (by omega) (by omega);simp only[D6,B0,hi,G6,D2,E1,ha,A3,e]
   grind
  intro s;simp[D6,B0]
def RN (env:CY)(own:Int)(ev:A8)(x:B5):A9×Int:=if S2 x=0 then JL (Ku env own ev) x else(Bh,S2 x)
def Oc {x:B5}(h:S2 x=0):∀y∈x.pre,BT y=0:=by
 unfold S2 at h
 split at h
 ·omega
 split at h
 ·omega
 exact CJ.1 h
def AY8 {N:Nat}(hN:Bgn N){env:CY}(he:Kk env)(own:Int)(ev:A8){x:B5}(hb:x.bulk≤16777216):NB N x env own ev=some (RN env own ev x):=by
 unfold NB RN;rw[Wu hN hb];simp only[A3]
 by_cases h:S2 x=0
 ·rw[A0 (H7 h),A1 h];have hd:=Pg x;rw[AB6 hN he own ev () N x (by omega) hb (Oc h)];rfl
 rw[A1 (K0 h),A0 h];rfl
end
end Go.Ab
namespace Go.Ab
noncomputable section
open Classical
def Af1 (x y:A9):an (cmp .eql x.Kind y.Kind) (an (cmp .eql x.Num y.Num) (an (scmp .eql x.Text y.Text) true))=decide (x=y):=by
 rw[GX];simp only[K5,D7,EK];cases x;cases y
 simp_all
def Mn (env:CY)(own:Int)(ev:A8)(x:B5):Bool:=decide ((RN env own ev x).2=0)&&decide ((RN env own ev x).1=⟨1,1,⟨#[]⟩⟩)
def Yr {N:Nat} (hN:Bgn N) {env:CY} (he:Kk env) (own:Int) (ev:A8) {x:B5} (hb:x.bulk≤16777216):Iv N x env own ev=some (Mn env own ev x):=by
 unfold Iv Mn;rw[AY8 hN he own ev hb];simp only[A3];rw[D7]
 by_cases h:(RN env own ev x).2=0
 ·rw[A1 (J1 h),XC];simp only[A3,J1 h,EJ];rw[Af1]
  grind[Lo]
 simp_all
end
end Go.Ab
namespace Go.Ab
noncomputable section
def Ry (N:Nat){k:Int}(h0:0≤k)(h5:k≤5)(v:A9):Bs N k v=some (decide (v.Kind=0∨(k≠1∧k≠2∧k≠3))):=by
 unfold Bs;simp only[N8,D7,E3]
 have h:k=0∨k=1∨k=2∨k=3∨k=4∨k=5:=by omega
 by_cases hz:v.Kind=0<;>rcases h with rfl|rfl|rfl|rfl|rfl|rfl<;>simp[hz]
def VE (N:Nat) {k:Int} (h0:0≤k) (h5:k≤5) (v:A9):EW N k v=some (T5 k v):=by
 unfold EW T5;rw[Ng];simp only[A3]
 by_cases h:O0 v=0
 ·rw[A0 (H7 h),A0 (show¬O0 v≠0 by omega),Ry N h0 h5];simp only[A3]
  by_cases h2:v.Kind=0∨(k≠1∧k≠2∧k≠3)
  ·rw[A0 (by rw[P7,J1 h2];decide),A1 h2]
  rw[A1 (by rw[P7,BB h2];rfl),A0 h2]
 rw[A1 (K0 h),A1 h]
def Zb (N:Nat)(k:Int)(a b:A9):JU N k a b=some (Oe k a b):=by
 unfold JU Oe;simp only[D7,G1]
 grind[Bh]
def YV (N:Nat)(k:Int):OF N k=some (decide (0≤k)&&decide (k≤5)):=rfl
def PJ {N:Nat} {k:Int} (h0:0≤k) (h5:k≤5) {l:List A9} (hl:l.length≤4096) (hv:∀v∈l,T5 k v=0):Jv N (W9 k l)=some 0:=by
 unfold Jv;rw[YV];simp only[A3]
 have e1:¬(nt (decide (0≤(W9 k l).Kind)&&decide ((W9 k l).Kind≤5))=true):=by
  show¬((!(decide (0≤k)&&decide (k≤5)))=true)
  simp;omega
 have e2:¬(Ar.or (cmp .lss (W9 k l).Count 0) (cmp .gtr (W9 k l).Count 4096)=true):=by
  show¬((decide ((l.length:Int)<0)||decide (4096<(l.length:Int)))=true)
  simp;omega
 rw[A0 e1,A0 e2]
 by_cases hz:l=[]∨k=0
 ·have e3:Ar.or (cmp .eql (W9 k l).Count 0) (cmp .eql (W9 k l).Kind 0)=true:=by
   show(decide ((l.length:Int)=0)||decide (k=0))=true
   simp_all
  have e4:(W9 k l).Value=Bh:=by
   by_cases hn:l=[]
   ·subst hn;rfl
   exact(Qc _ rfl hn hl hv).c (hz.resolve_left hn)
  rw[A1 e3,e4];exact A0 (by simp[P7,K5,D7,GX,Bh])
 have hn:l≠[]:=fun h=>hz (.inl h);have hk:k≠0:=fun h=>hz (.inr h);have hlen:l.length≠0:=fun h=>hn (HX h)
 have e3:¬(Ar.or (cmp .eql (W9 k l).Count 0) (cmp .eql (W9 k l).Kind 0)=true):=by
  show¬((decide ((l.length:Int)=0)||decide (k=0))=true)
  grind
 rw[A0 e3];have g:=Qc _ rfl hn hl hv
 by_cases k1:k=1
 ·rw[A1 (show cmp .eql (W9 k l).Kind 1=true from J1 k1)];obtain⟨a,b,c,d⟩:=g.s k1;have ev:(W9 k l).Value=Ca k l:=rfl;have ec:(W9 k l).Count=(l.length:Int):=rfl;have em:ar .mul .i64 (l.length:Int) 1099511627776=(l.length:Int)*1099511627776:=AX (by omega) (by omega)
  have en:Ar.neg .i64 ((l.length:Int)*1099511627776)= - ((l.length:Int)*1099511627776):=by
   show IntKind.wrap .i64 (0-(l.length:Int)*1099511627776)=_
   rw[AX (by omega) (by omega)];omega
  rw[ev,ec,em,en];rw[A0];rw[show scmp .neq (Ca k l).Text ⟨#[]⟩= !(scmp .eql (Ca k l).Text ⟨#[]⟩)from rfl,GX];simp only[N8,L9,D6,Bw];rw[J1 a,J1 b,BB (show¬(Ca k l).Num< -((l.length:Int)*1099511627776) by omega),BB (show¬(l.length:Int)*1099511627776<(Ca k l).Num by omega)]
  decide
 rw[A0 (show¬(cmp .eql (W9 k l).Kind 1=true)from(by show¬decide (k=1)=true;grind))]
 have hvb:O0 (Ca k l)=0:=by
  by_cases h23:k=2∨k=3
  ·exact(g.m h23).1
  exact g.f (by omega)
 have hsu:(Ca k l).Kind=0∨(k≠1∧k≠2∧k≠3):=by
  by_cases h23:k=2∨k=3
  ·exact .inl (g.m h23).2
  omega
 show((Cl N (Ca k l)).bind _)=_
 rw[Ng,hvb];simp only[A3];rw[A0 (show¬(cmp .neq 0 0=true) by decide)]
 show((Bs N k (Ca k l)).bind _)=_
 rw[Ry N h0 h5,J1 hsu];rfl
def AU3 {N:Nat} {k:Int} (h0:0≤k) (h5:k≤5) {l:List A9} (hl:l.length<4096) (hv:∀v∈l,T5 k v=0) (v:A9):
 ∃z,Kn N (W9 k l) v=some (if T5 k v=0 then(W9 k (l++[v]),0)else(z,T5 k v)):=by
 refine⟨⟨0,0,Bh⟩,?_⟩;unfold Kn;rw[PJ h0 h5 (by omega) hv];simp only[A3];rw[A0 (show¬(cmp .neq 0 0=true) by decide)]
 show((EW N k v).bind _)=_
 rw[VE N h0 h5];simp only[A3]
 by_cases hw:T5 k v=0
 ·rw[A0 (H7 hw),A1 hw];have ec:(W9 k l).Count=(l.length:Int):=rfl;have ek:(W9 k l).Kind=k:=rfl;have ev:(W9 k l).Value=Ca k l:=rfl
  have ea:W9 k (l++[v])=⟨k,(l.length:Int)+1,if l=[]then DZ k v else Oe k (Ca k l) (DZ k v)⟩:=by
   unfold W9;rw[OX];simp
  rw[ec,ek,ev,ea,D0 (a:=(l.length:Int)) (by omega) (by omega)];rw[A0 (show¬(cmp .eql (l.length:Int) 4096=true) by rw[D7];simp;omega)]
  by_cases k0:k=0
  ·subst k0;rw[A1 (show cmp .eql 0 0=true by rfl)]
   have:(if l=[]then DZ 0 v else Oe 0 (Ca 0 l) (DZ 0 v))=Bh:=by split<;>rfl
   rw[this];rfl
  rw[A0 (show¬(cmp .eql k 0=true) by rw[D7];grind)];have es:DZ k v=v:=A0 k0;rw[es]
  by_cases hn:l=[]
  ·subst hn;rw[A0 (show¬(cmp .gtr (([]:List A9).length:Int) 0=true) by decide),A1 rfl]
  have:0<l.length:=List.length_pos_iff.2 hn;rw[A1 (show cmp .gtr (l.length:Int) 0=true from J1 (by omega)),Zb,A0 hn];rfl
 rw[A1 (K0 hw),A0 hw];rfl
def RB {N:Nat} {k:Int} (h0:0≤k) (h5:k≤5):∀(l p:List A9),p.length+l.length≤4096→(∀v∈p,T5 k v=0)→
 ∃z,L6 (fun(s:D3) v=>(Kn N s v).bind fun r=>if cmp .neq r.2 0=true then some (Sum.inr (Sum.inr (α:=D3) (r.2,s)))else some (.inl r.1)) l (W9 k p)=
  some (if AD (T5 k) l=0 then .inl (W9 k (p++l))else .inr (.inr (AD (T5 k) l,z)))
 |[],p,_,_=>⟨W9 k p,by simp[L6,AD]⟩
 |v::l,p,hl,hp=>by
  simp only[G7]at hl
  obtain⟨z,hz⟩:=AU3 (N:=N) h0 h5 (l:=p) (by omega) hp v;simp only[L6,hz,A3,AD]
  by_cases hw:T5 k v=0
  ·obtain⟨z',h'⟩:=RB (N:=N) h0 h5 l (p++[v]) (by simp;omega) (by grind);refine⟨z',?_⟩;simp only[hw,D2,A0 (H7 (rfl:(0:Int)=0))];rw[h',E7];rfl
  refine⟨W9 k p,?_⟩;simp only[hw,G0,A1 (K0 hw)]
def AU2 {N:Nat} (hN:Bgn N) (k:Int) (l:List A9) (o:A9):Tt N k l o=some (AQ7 k l o):=by
 unfold Tt AQ7;rw[YV];simp only[A3]
 by_cases h0:k<0∨5<k
 ·rw[A1 (by show(!(decide (0≤k)&&decide (k≤5)))=true;simp;omega),A1 h0];rfl
 rw[A0 (by show¬((!(decide (0≤k)&&decide (k≤5)))=true);simp;omega),A0 h0]
 by_cases h1:4096<l.length
 ·rw[A1 (W1 (by rw[B0];omega)),A1 h1];rfl
 rw[A0 (Q4 (by rw[B0];omega)),A0 h1];rw[L5 l (by omega) (mk:=fun(s:D3) i=>(i,s)) (body:=fun(s:D3) v=>(Kn N s v).bind fun r=>if cmp .neq r.2 0=true then some (Sum.inr (Sum.inr (α:=D3) (r.2,s)))else some (.inl r.1)) (fin:=fun s=>.inl s) (s:=⟨k,0,⟨0,0,⟨#[]⟩⟩⟩) (by omega) ?_ ?_]
 ·obtain⟨z,hz⟩:=RB (N:=N) (k:=k) (by omega) (by omega) l [] (by simp_all) (by simp);rw[show(⟨k,0,⟨0,0,⟨#[]⟩⟩⟩:D3)=W9 k []from rfl,hz]
  by_cases h2:AD (T5 k) l=0
  ·rw[A1 h2,A0 (show¬AD (T5 k) l≠0 by omega)];have hv:=CJ.1 h2;simp only[A3,I5];unfold PH;rw[PJ (by omega) (by omega) (by omega) hv];simp only[A3];rw[A0 (show¬(cmp .neq 0 0=true) by decide)]
   show((EW N k o).bind _).bind _=_
   rw[VE N (by omega) (by omega)];simp only[A3]
   by_cases h3:T5 k o=0
   ·rw[A0 (H7 h3),A0 (show¬T5 k o≠0 by omega)]
    by_cases h4:k=0
    ·rw[A1 (show cmp .eql (W9 k l).Kind 0=true from J1 h4),A1 h4];rfl
    rw[A0 (show¬(cmp .eql (W9 k l).Kind 0=true)from(by show¬decide (k=0)=true;grind)),A0 h4]
    by_cases h5:l=[]∧k≠1
    ·rw[A1 (show an (cmp .eql (W9 k l).Count 0) (cmp .neq (W9 k l).Kind 1)=true by show(decide ((l.length:Int)=0)&& !decide (k=1))=true;simp_all),A1 h5];rfl
    rw[A0 (show¬(an (cmp .eql (W9 k l).Count 0) (cmp .neq (W9 k l).Kind 1)=true) by show¬((decide ((l.length:Int)=0)&& !decide (k=1))=true);simpa using h5),A0 h5];rfl
   rw[A1 (K0 h3),A1 (show T5 k o≠0 from h3)];rfl
  rw[A0 h2,A1 (show AD (T5 k) l≠0 from h2)];rfl
 ·intro s i a ha hi;have e:ar .add .i64 (i:Int) 1=i+1:=D0 (by omega) (by omega);simp only[D6,B0,hi,G6,D2,E1,ha,A3,e]
  grind
 intro s;simp[D6,B0]
end
end Go.Ab
