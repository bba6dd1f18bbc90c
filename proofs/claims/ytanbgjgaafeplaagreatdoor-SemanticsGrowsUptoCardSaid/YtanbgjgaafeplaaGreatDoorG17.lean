/- GTM5 GTM6 GTM7 GTN1 GTD1 GTD2 GTD3 GTD4 GTD5 GTD6 GTR1 GTR2 GTV0 GTV1 GTV2 -/
import Derived.Test.YtanbgjgaafeplaaGreatDoorG16
set_option linter.all false
open Go.Ab.Ar (an ar cmp nt)
namespace Go.Ab
theorem Aw {a b:Int}(h:b<a):cmp .gtr a b=true:=by rw[Bg];exact decide_eq_true h
theorem V9 {a b:Int}(h:¬b<a):¬(cmp .gtr a b=true):=by rw[Bg];simpa using h
theorem K0 {a b:Int}(h:a≠b):cmp .neq a b=true:=by rw[F6];simpa using h
theorem I1 {a b:Int}(h:a=b):¬(cmp .neq a b=true):=by rw[F6];simpa using h
noncomputable def K2 (x:A4):Int:=if 64<x.pre.length then 5 else if 12<x.dep then 12 else U6 Y7 x.pre
theorem Oi {N:Nat}(hN:40000000≤N){x:A4}(hb:x.bulk≤16777216):CI N x=some (K2 x):=by
 unfold CI K2;rw[Ve hN N x (by omega) hb];simp only[Option.bind_some]
 by_cases h1:64<x.pre.length
 ·rw[if_pos h1,if_pos (Aw (by omega))]
 rw[if_neg h1,if_neg (V9 (by omega))]
 by_cases h2:12<x.dep
 ·rw[if_pos h2,if_pos (Aw (by omega))]
 rw[if_neg h2,if_neg (V9 (by omega)),WK hN N x (by omega) hb fun y _=>Xt N y];rfl
theorem MK {N:Nat}(hN:40000000≤N){x:A4}(hb:x.bulk≤16777216):AM N x=some (K2 x):=by
 unfold AM K2;obtain⟨r,h0,c1,c2,c3⟩:=RA hN 64 N x (by omega) hb;rw[h0];simp only[Option.bind_some]
 by_cases h1:64<x.pre.length
 ·rw[if_pos h1,if_pos (Aw (by omega))]
 rw[if_neg h1,if_neg (V9 (by omega)),MG hN N x (by omega) hb];simp only[Option.bind_some]
 by_cases h2:12<x.dep
 ·rw[if_pos h2,if_pos (Aw (by omega))]
 rw[if_neg h2,if_neg (V9 (by omega)),VH hN (fun y=>VI N y) N x (by omega) hb];rfl
noncomputable def Mr (a b:A4):Bool:=Ar.or (Ar.or (Ar.or (Ar.or (Ar.or (cmp .neq a.Op b.Op) (cmp .neq a.Var b.Var)) (cmp .neq a.Field b.Field)) (cmp .neq a.Kind b.Kind)) (nt (an (cmp .eql a.Value.Kind b.Value.Kind) (an (cmp .eql a.Value.Num b.Value.Num) (an (Ar.scmp .eql a.Value.Text b.Value.Text) true))))) (cmp .neq (Ar.len a.cP) (Ar.len b.cP))
theorem Nz (N:Nat):∀(n:Nat) (a b:A4),DQ N n a b=O8 N n a b
 |0,_,_=>rfl
 |n+1,a,b=>by
  unfold DQ O8;simp only[Nz N n]
theorem JL {N:Nat} (hN:40000000≤N) (x:A4):∃b,O8 N N x (⟨0,[],0,0,0,(⟨0,0,⟨#[]⟩⟩:A7)⟩:A4)=some b:=by
 obtain⟨M,rfl⟩:∃M,N=M+1:=⟨N - 1,by omega⟩;rw[O8];generalize hz:(⟨0,[],0,0,0,(⟨0,0,⟨#[]⟩⟩:A7)⟩:A4)=z
 change ∃b,(if Mr x z=true then some false else _)=some b
 by_cases h:Mr x z=true
 ·rw[if_pos h];exact⟨_,rfl⟩
 rw[if_neg h]
 have hlen:x.cP.length=0:=by
  subst hz
  simp only[Mr,K1,F6,B3,List.length_nil]at h
  simp at h
  simpa using h.2
 have:x.cP=[]:=List.length_eq_zero_iff.1 hlen;refine⟨true,?_⟩;rw[show M+1=(M+1 - 1)+1 by omega];simp only[loopN,this,C1,B3];rfl
end Go.Ab
namespace Go.Ab
def Cp (u:Bool)(n m:Int):Bool:=u&&(decide (n<0)||decide (m<n))
def O1 (u:Bool)(n:Int):Bool:=u||decide (n=0)
theorem Hn (N:Nat)(u:Bool)(n m:Int):R8 N u n m=some (!Cp u n m):=by
 unfold R8;simp only[K1,M9,T3,N6,CU,Cp];cases u
 ·rfl
 by_cases h1:n<0<;>by_cases h2:m<n<;>simp[h1,h2]<;>omega
theorem UX (N:Nat)(u:Bool)(n:Int):K8 N u n=some (O1 u n):=rfl
theorem Ah6 (N:Nat)(u:Bool)(n m:Int):Z0 N u n m=some (Cp u n m):=rfl
noncomputable def GN (s:H9)(x:A0)(sz:Bool):Int:=
 if Cp s.cT x.Typ 15=true then 2
 else if Cp s.cT x.Var 15=true then 2
 else if Cp s.scope x.cS 63=true then 2
 else if Cp s.span x.Span 1099511627776=true then 2
 else if s.cond=true∧K2 x.cQ≠0 then K2 x.cQ
 else if(s.cond||sz)=true∧O1 s.cT x.Typ=true∧O1 s.cT x.Var=true∧O1 s.scope x.cS=true∧O1 s.span x.Span=true then 0 else 3
structure EK (N:Nat) (x:A0) (s:H9) (ng:Bool):Prop where
 tab:B8 G1 x.Op=some s
 var:O7 N x=some s.cT
 neg:M7 N x=some ng
 tim:M3 N x=some s.span
 con:S9 N x=some s.cond
 sco:s.scope=(ng||s.span)
 ari:CZ N x=some (decide (s.cV≤x.cP.length∧(x.cP.length:Int)≤s.most))
theorem Ah2 (n k:Int):decide (n=k)=(decide (k≤n)&&decide (n≤k)):=by
 rw[←Bool.decide_and];exact decide_eq_decide.2 ⟨fun h=>by omega,fun h=>by omega⟩
theorem IX (N:Nat) (x:A0) (h0:0≤x.Op) (h1:x.Op≤10) (hl:x.cP.length≤64):∃s ng,EK N x s ng:=by
 obtain⟨op,args,typ,var,scope,span,c⟩:=x
 simp only at h0 h1 hl
 have h:op=0∨op=1∨op=2∨op=3∨op=4∨op=5∨op=6∨op=7∨op=8∨op=9∨op=10:=by omega
 rcases h with h|h|h|h|h|h|h|h|h|h|h
 all_goals
  subst h;refine⟨_,_,rfl,rfl,rfl,rfl,rfl,rfl,?_⟩;unfold CZ;simp only[C2,N6,B3];simp
  try first|omega|exact Ah2 _ _
theorem Al1 {x:A0}(h0:0≤x.Op)(h1:x.Op≤10):¬(Ar.or (cmp .lss x.Op 0) (cmp .geq x.Op 11)=true):=by
 simp only[K1,C1,N6,Bool.or_eq_true,decide_eq_true_eq];omega
theorem Af4 {x:A0}(h0:0≤x.Op)(h1:x.Op≤10):¬(Ar.or (cmp .lss x.Op 0) (cmp .gtr x.Op 10)=true):=by
 simp only[K1,C1,Bg,Bool.or_eq_true,decide_eq_true_eq];omega
theorem Xp {x:A0}(h:¬(0≤x.Op∧x.Op≤10)):Ar.or (cmp .lss x.Op 0) (cmp .geq x.Op 11)=true∧Ar.or (cmp .lss x.Op 0) (cmp .gtr x.Op 10)=true:=by
 simp only[K1,C1,N6,Bg,Bool.or_eq_true,decide_eq_true_eq];omega
theorem Wi {N:Nat} (hN:40000000≤N) {x:A0} (hb:x.cQ.bulk≤16777216) (h0:0≤x.Op) (h1:x.Op≤10) {s:H9} {ng:Bool} (hs:EK N x s ng) {sz:Bool}
 (hz:O8 N N x.cQ (⟨0,[],0,0,0,(⟨0,0,⟨#[]⟩⟩:A7)⟩:A4)=some sz):
 R0 N x=some (if s.cV≤x.cP.length∧(x.cP.length:Int)≤s.most then GN s x sz else 15):=by
 unfold R0;rw[if_neg (Al1 h0 h1),hs.tab];simp only[Option.bind_some]
 by_cases ha:s.cV≤x.cP.length∧(x.cP.length:Int)≤s.most
 ·rw [if_pos ha,if_neg (by simp only[K1,C1,Bg,B3,Bool.or_eq_true,decide_eq_true_eq];omega)];rw[Hn,Hn,Hn,Hn,Oi hN hb,Nz,hz];simp only[UX,Option.bind_some];unfold GN;generalize Cp s.cT x.Typ 15=b1;generalize Cp s.cT x.Var 15=b2;generalize Cp s.scope x.cS 63=b3;generalize Cp s.span x.Span 1099511627776=b4;generalize O1 s.cT x.Typ=c1;generalize O1 s.cT x.Var=c2;generalize O1 s.scope x.cS=c3;generalize O1 s.span x.Span=c4;generalize K2 x.cQ=ec
  cases b1 with
  |true=>rfl
  | false =>
   cases b2 with
   |true=>rfl
   | false =>
    cases b3 with
    |true=>rfl
    | false=>
     cases b4 with
     |true=>rfl
     | false=>
      cases s.cond with
      | false=>
       cases sz with
       |false=>rfl
       | true=>
        cases c1 with
        |false=>rfl
        | true=>
         cases c2 with
         |false=>rfl
         | true=>
          cases c3 with
          |false=>rfl
          |true=>
           cases c4<;>rfl
      | true=>
       by_cases he:ec=0
       ·subst he
        cases c1 with
        |false=>cases sz<;>rfl
        | true=>
         cases c2 with
         |false=>cases sz<;>rfl
         | true=>
          cases c3 with
          |false=>cases sz<;>rfl
          |true=>
           cases c4<;>cases sz<;>rfl
       simp[T3,K0 he,he]
 rw[if_neg ha,if_pos (by simp only[K1,C1,Bg,B3,Bool.or_eq_true,decide_eq_true_eq];omega)]
theorem Mp (u:Bool)(n:Int):an (nt u) (cmp .neq n 0)= !O1 u n:=by
 simp only[M9,T3,F6,O1,Bool.not_or]
theorem Uz (u w:Bool)(t v sc:Int):Ar.or (an (nt u) (Ar.or (cmp .neq t 0) (cmp .neq v 0))) (an (nt w) (cmp .neq sc 0))=((!O1 u t|| !O1 u v)|| !O1 w sc):=by
 rw[Mp];simp only[K1,M9,T3,F6,O1];cases u<;>simp
theorem CM {N:Nat} (hN:40000000≤N) {x:A0} (hb:x.cQ.bulk≤16777216) (h0:0≤x.Op) (h1:x.Op≤10) {s:H9} {ng:Bool} (hs:EK N x s ng) {sz:Bool}
 (hz:O8 N N x.cQ (⟨0,[],0,0,0,(⟨0,0,⟨#[]⟩⟩:A7)⟩:A4)=some sz):
 S8 N x=some (if s.cV≤x.cP.length∧(x.cP.length:Int)≤s.most then GN s x sz else 15):=by
 unfold S8;rw[if_neg (Af4 h0 h1),hs.ari,hs.var,hs.neg,hs.tim,hs.con,MK hN hb,hz];simp only[Option.bind_some]
 by_cases ha:s.cV≤x.cP.length∧(x.cP.length:Int)≤s.most
 ·rw [if_pos ha,if_neg (by simp[T3,ha])];have sco:=hs.sco;simp only[Ah6,Option.bind_some];cases ng
  ·rw [if_neg (by simp)]
   simp only[Bool.false_or]at sco
   rw[Uz,Mp];unfold GN;rw[sco];generalize Cp s.cT x.Typ 15=b1;generalize Cp s.cT x.Var 15=b2;generalize Cp s.span x.cS 63=b3;generalize Cp s.span x.Span 1099511627776=b4;generalize O1 s.cT x.Typ=c1;generalize O1 s.cT x.Var=c2;generalize O1 s.span x.cS=c3;generalize O1 s.span x.Span=c4;generalize K2 x.cQ=ec
   cases b1 with
   |true=>rfl
   | false=>
    cases b2 with
    |true=>rfl
    | false=>
     cases b3 with
     |true=>rfl
     | false=>
      cases b4 with
      |true=>rfl
      | false=>
       cases s.cond with
       |false=>cases sz<;>cases c1<;>cases c2<;>cases c3<;>cases c4<;>rfl
       |true=>
        by_cases he:ec=0
        ·subst he;cases sz<;>cases c1<;>cases c2<;>cases c3<;>cases c4<;>rfl
        simp[K0 he,he]
  rw[if_pos rfl]
  simp only[Bool.true_or]at sco
  rw[Uz,Mp];unfold GN;rw[sco];generalize Cp s.cT x.Typ 15=b1;generalize Cp s.cT x.Var 15=b2;generalize Cp true x.cS 63=b3;generalize Cp s.span x.Span 1099511627776=b4;generalize O1 s.cT x.Typ=c1;generalize O1 s.cT x.Var=c2;generalize O1 true x.cS=c3;generalize O1 s.span x.Span=c4;generalize K2 x.cQ=ec
  cases b1 with
  |true=>rfl
  | false=>
   cases b2 with
   |true=>rfl
   | false=>
    cases b3 with
    |true=>rfl
    | false=>
     cases b4 with
     |true=>rfl
     | false=>
      cases s.cond with
      |false=>cases sz<;>cases c1<;>cases c2<;>cases c3<;>cases c4<;>rfl
      |true=>
       by_cases he:ec=0
       ·subst he;cases sz<;>cases c1<;>cases c2<;>cases c3<;>cases c4<;>rfl
       simp[K0 he,he]
 rw[if_neg ha,if_pos (by simp only[T3,decide_eq_false ha];rfl)]
end Go.Ab
namespace Go.Ab
mutual
theorem DE :∀(x y:A0),y∈x.pre→y.bulk≤x.bulk∧y.pre.length≤x.pre.length
 |⟨op,args,typ,var,scope,span,c⟩,y,h=>by
  rw[A0.pre]at h
  rcases List.mem_cons.1 h with rfl|h
  ·exact⟨Nat.le_refl _,Nat.le_refl _⟩
  have:=Md args y h;simp only[A0.bulk,A0.pre,List.length_cons];omega
theorem Md :∀(l:List A0) (y:A0),y∈A0.pres l→y.bulk≤A0.bulks l∧y.pre.length≤(A0.pres l).length
 |[],y,h=>by simp[A0.pres]at h
 |a::l,y,h=>by
  rw[A0.pres]at h
  rcases List.mem_append.1 h with h|h
  ·have:=DE a y h;simp only[A0.bulks,A0.pres,List.length_append];omega
  have:=Md l y h;simp only[A0.bulks,A0.pres,List.length_append];omega
end
theorem Om :∀l:List A0,l.length≤(A0.pres l).length
 |[]=>Nat.le_refl _
 |a::l=>by
  have:=Om l;simp only[A0.pres,A0.pre_eq a,List.length_append,List.length_cons];omega
theorem AS (x:A0):x.cP.length<x.pre.length:=by
 rw[A0.pre_eq];have:=Om x.cP;simp only[List.length_cons];omega
noncomputable def Y5 (N:Nat)(y:A0):Int:=(S8 N y).getD 0
theorem BU {N:Nat} (hN:40000000≤N) {y:A0} (hb:y.bulk≤16777216) (hl:y.cP.length≤64):R0 N y=some (Y5 N y)∧S8 N y=some (Y5 N y):=by
 have hc:y.cQ.bulk≤16777216:=by have:=A0.bulk_eq y;omega
 have key:∃r,R0 N y=some r∧S8 N y=some r:=by
  by_cases h:0≤y.Op∧y.Op≤10
  ·obtain⟨s,ng,hs⟩:=IX N y h.1 h.2 hl;obtain⟨sz,hz⟩:=JL hN y.cQ;exact⟨_,Wi hN hc h.1 h.2 hs hz,CM hN hc h.1 h.2 hs hz⟩
  obtain⟨h1,h2⟩:=Xp h;exact⟨1,by unfold R0;rw[if_pos h1],by unfold S8;rw[if_pos h2]⟩
 obtain⟨r,h1,h2⟩:=key
 have e:Y5 N y=r:=by unfold Y5;rw[h2];rfl
 rw[e];exact⟨h1,h2⟩
noncomputable def K3 (N:Nat)(x:A0):Int:=if 64<x.pre.length then 5 else if 12<x.dep then 12 else U6 (Y5 N) x.pre
theorem GM {N:Nat}(hN:40000000≤N){x:A0}(hb:x.bulk≤16777216):Q8 N x=some x.pre:=by
 unfold Q8 Af;rw[YT hN N x (by omega) hb];simp[N9]
theorem Zj {N:Nat}(hN:40000000≤N){x:A0}(hb:x.bulk≤16777216):X4 N x=some (K3 N x):=by
 unfold X4 K3;rw[Zb hN N x (by omega) hb];simp only[Option.bind_some]
 by_cases h1:64<x.pre.length
 ·rw[if_pos h1,if_pos (Aw (by omega))]
 rw[if_neg h1,if_neg (V9 (by omega))]
 by_cases h2:12<x.dep
 ·rw[if_pos h2,if_pos (Aw (by omega))]
 rw[if_neg h2,if_neg (V9 (by omega)),GM hN hb];simp only[Option.bind_some];rw[ND (f:=Y5 N) fun y hy=>(BU hN (by have:=DE x y hy;omega) (by have:=DE x y hy;have:=AS y;omega)).1]
 by_cases h3:U6 (Y5 N) x.pre=0
 ·rw[if_pos h3];simp[h3]
 rw[if_neg h3];rfl
theorem Qz {N:Nat} (hN:40000000≤N) {x:A0} (hb:x.bulk≤16777216):W5 N x=some (K3 N x):=by
 unfold W5 K3;obtain⟨r,h0,c1,c2,c3⟩:=PZ hN 64 N x (by omega) hb;rw[h0];simp only[Option.bind_some]
 by_cases h1:64<x.pre.length
 ·rw[if_pos h1,if_pos (Aw (by omega))]
 rw[if_neg h1,if_neg (V9 (by omega)),Ry hN N x (by omega) hb];simp only[Option.bind_some]
 by_cases h2:12<x.dep
 ·rw[if_pos h2,if_pos (Aw (by omega))]
 rw[if_neg h2,if_neg (V9 (by omega)),Fh hN N x (by omega) hb];simp only[Option.bind_some];rw[I5 x.pre (by omega) (mk:=fun(_:Unit) i=>i) (body:=Au (S8 N)) (fin:=fun _=>.inl ()) (s:=()) (by omega) ?_ ?_]
 ·rw[Y0 (f:=Y5 N) fun y hy=>(BU hN (by have:=DE x y hy;omega) (by have:=DE x y hy;have:=AS y;omega)).2]
  by_cases h3:U6 (Y5 N) x.pre=0
  ·simp[h3]
  simp[h3]
 ·intro s i a ha hi;have e:ar .add .i64 (i:Int) 1=i+1:=C3 (by omega) (by omega);simp only[C1,B3,hi,decide_true,if_true,D6,ha,Option.bind_some,e,Au,F6]
  cases S8 N a with
  |none=>rfl
  |some r=>by_cases h:r=0<;>simp[h]
 intro s;simp[C1,B3]
end Go.Ab
namespace Go.Ab
def Good (N:Nat)(x:A0):Prop:=∀y∈x.pre,Y5 N y=0
theorem Id {a y:A0} (hy:y∈a.pre):∀l:List A0,a∈l→y∈A0.pres l
 |[],h=>by simp at h
 |b::l,h=>by
  rcases List.mem_cons.1 h with rfl|h
  ·simp[A0.pres,hy]
  simp[A0.pres,Id hy l h]
theorem Good.arg {N:Nat}{x a:A0}(h:Good N x)(ha:a∈x.cP):Good N a:=fun y hy=>h y (by
 rw[A0.pre_eq];exact List.mem_cons_of_mem _ (Id hy _ ha))
theorem P0 {x a:A0}(ha:a∈x.cP):a.pre.length<x.pre.length:=by
 have:=(Md x.cP a (Id (by rw[A0.pre_eq];simp) _ ha)).2;rw[A0.pre_eq x];simp only[List.length_cons];omega
theorem Nj {N:Nat} (hN:40000000≤N) {y:A0} (hb:y.bulk≤16777216) (hl:y.cP.length≤64) (h:Y5 N y=0) (ho:y.Op=1∨y.Op=7∨y.Op=8∨y.Op=9∨y.Op=10):∃a r,y.cP=a::r:=by
 have hc:y.cQ.bulk≤16777216:=by have:=A0.bulk_eq y;omega
 obtain⟨s,ng,hs⟩:=IX N y (by omega) (by omega) hl;obtain⟨sz,hz⟩:=JL hN y.cQ;have h1:=CM hN hc (by omega) (by omega) hs hz
 rw[(BU hN hb hl).2,h]at h1
 have h2:s.cV≤y.cP.length:=by
  have h1:=Option.some.inj h1
  by_cases hc:s.cV≤y.cP.length∧(y.cP.length:Int)≤s.most
  ·exact hc.1
  rw[if_neg hc]at h1;cases h1
 have h3:1≤s.cV:=by
  have ht:=hs.tab
  rcases ho with h|h|h|h|h<;>rw[h]at ht<;>cases ht<;>decide
 match he:y.cP,h2 with
 |[],h2=>simp at h2;omega
 |a::r,_=>exact⟨a,r,rfl⟩
theorem few8 {N:Nat}(hN:40000000≤N){x:A4}(hb:x.bulk≤16777216):∃b,BS N x=some b:=by
 unfold BS;obtain⟨r,h0,_⟩:=RA hN 200 N x (by omega) hb;rw[h0];simp only[Option.bind_some]
 split
 ·rw[MG hN N x (by omega) hb];exact⟨_,rfl⟩
 exact⟨_,rfl⟩
theorem GK {α:Type} {F:α→Option Bool}:∀(l:List α),(∀a∈l,∃b,F a=some b)→∃o,H6 (fun(_:Unit) a=>(F a).bind fun r=>if nt r=true then some (Sum.inr (Sum.inr (α:=Unit) ()))else some (.inl ())) l ()=some o
 |[],_=>⟨_,rfl⟩
 |a::l,h=>by
  obtain⟨b,hb⟩:=h a (by simp);unfold H6;rw[hb]
  cases b with
  |false=>exact⟨_,rfl⟩
  |true=>exact GK l fun a ha=>h a (by simp[ha])
theorem few9 {N:Nat} (hN:40000000≤N) {x:A0} (hb:x.bulk≤16777216):∃b,Fe N x=some b:=by
 unfold Fe;obtain⟨r,h0,_⟩:=PZ hN 150 N x (by omega) hb;rw[h0];simp only[Option.bind_some]
 split
 ·exact⟨_,rfl⟩
 rw[Ry hN N x (by omega) hb];simp only[Option.bind_some]
 split
 ·exact⟨_,rfl⟩
 rw[Fh hN N x (by omega) hb];simp only[Option.bind_some];have hp:=Ae x;rw[I5 x.pre (by omega) (mk:=fun(_:Unit) i=>i) (body:=fun(_:Unit) a=>(BS N a.cQ).bind fun r=>if nt r=true then some (.inr (.inr ()))else some (.inl ())) (fin:=fun _=>.inl ()) (s:=()) (by omega) ?_ ?_]
 ·obtain⟨o,ho⟩:=GK (F:=fun(a:A0)=>BS N a.cQ) x.pre fun a ha=>few8 hN (by have:=(DE x a ha).1;have:=A0.bulk_eq a;omega);rw[ho]
  cases o with
  |inl _=>exact⟨_,rfl⟩
  |inr o=>cases o<;>exact⟨_,rfl⟩
 ·intro s i a ha hi;have e:ar .add .i64 (i:Int) 1=i+1:=C3 (by omega) (by omega);simp only[C1,B3,hi,decide_true,if_true,D6,ha,Option.bind_some,e]
  cases BS N a.cQ with
  |none=>rfl
  |some r=>cases r<;>rfl
 intro s;simp[C1,B3]
end Go.Ab
namespace Go.Ab
theorem Jg {S R:Type} {step:S→Option (S ⊕ R)} (I:Nat→S→Prop) (Q:R→Prop):∀(k i:Nat) (s:S) (N:Nat),k<N→I i s→
 (∀j s,i≤j→j<i+k→I j s→∃o,step s=some o∧(match o with| .inl s'=>I (j+1) s'| .inr r=>Q r))→
 (∀s,I (i+k) s→∃r,step s=some (.inr r)∧Q r)→∃r,loopN step N s=some r∧Q r
 |0,i,s,N,hN,h0,_,he=>by
  obtain⟨N,rfl⟩:∃M,N=M+1:=⟨N - 1,by omega⟩;obtain⟨r,h1,h2⟩:=he s h0;exact⟨r,by simp only[loopN,h1],h2⟩
 | k+1,i,s,N,hN,h0,hs,he=>by
  obtain⟨N,rfl⟩:∃M,N=M+1:=⟨N - 1,by omega⟩;obtain⟨o,h1,h2⟩:=hs i s (Nat.le_refl _) (by omega) h0
  cases o with
  |inl s'=>
   obtain⟨r,h3,h4⟩:=Jg I Q k (i+1) s' N (by omega) h2 (fun j s a b c=>hs j s (by omega) (by omega) c) (fun s h=>he s (by rw[show i+(k+1)=i+1+k by omega];exact h));exact⟨r,by simp only[loopN,h1,h3],h4⟩
  |inr r=>exact⟨r,by simp only[loopN,h1],h2⟩
noncomputable instance :DecidableEq A4:=Classical.typeDecidableEq _
noncomputable instance :DecidableEq A0:=Classical.typeDecidableEq _
noncomputable instance :DecidableEq JC:=Classical.typeDecidableEq _
noncomputable instance :DecidableEq PF:=Classical.typeDecidableEq _
noncomputable instance :DecidableEq J4:=Classical.typeDecidableEq _
theorem Jj {i:Nat}(h:i<1000000000000):ar .add .i64 (i:Int) 1=((i+1:Nat):Int):=by rw[C3 (by omega) (by omega)];omega
theorem UF {α:Type} [DecidableEq α] {N:Nat} (l m:List α) (hl:l.length=m.length) (hs:l.length<1000000000000) (f:α→α→Option Bool) (hf:∀x∈l,∀y∈m,f x y=some (decide (x=y))) (hN:l.length<N):
 loopN (fun(i:Int)=>if cmp .lss i (Ar.len l)=true then(B8 l i).bind fun x=>(B8 m i).bind fun y=>(f x y).bind fun r=>if nt r=true then some (Sum.inr (Sum.inr (α:=Unit) ()))else some (.inl (ar .add .i64 i 1))else some (.inr (.inl ()))) N 0=some (if l=m then .inl ()else .inr ()):=by
 obtain⟨r,h1,h2⟩:=Jg (step:=fun(i:Int)=>if cmp .lss i (Ar.len l)=true then(B8 l i).bind fun x=>(B8 m i).bind fun y=>(f x y).bind fun r=>if nt r=true then some (Sum.inr (Sum.inr (α:=Unit) ()))else some (.inl (ar .add .i64 i 1))else some (.inr (.inl ())))
  (fun j s=>s=(j:Int)∧l.take j=m.take j) (fun r=>r=if l=m then .inl ()else .inr ()) l.length 0 0 N hN ⟨rfl,by simp⟩
  (fun j s _ hj ⟨e,ht⟩=>by
   subst e
   simp only[Nat.zero_add]at hj
   have hj2:j<m.length:=by omega
   have e1:l[j]? =some l[j]:=by simp[hj]
   have e2:m[j]? =some m[j]:=by simp[hj2]
   simp only[C1,B3,show((j:Int)<(l.length:Int)) by omega,decide_true,if_true,D6,e1,e2,Option.bind_some,hf _ (List.getElem_mem hj) _ (List.getElem_mem hj2)]
   by_cases h:l[j]=m[j]
   ·simp only[h,decide_true,T3,Bool.not_true,Bool.false_eq_true,if_false];refine⟨_,rfl,Jj (by omega),?_⟩;rw[List.take_add_one,List.take_add_one,ht,e1,e2,h]
   simp only[h,decide_false,T3,Bool.not_false,if_true];refine⟨_,rfl,?_⟩
   rw[if_neg fun he=>h (by subst he;rfl)])
  (fun s ⟨e,ht⟩=>by
   subst e
   simp only[Nat.zero_add]at ht ⊢
   refine⟨.inl (),by simp[C1,B3],?_⟩
   rw[List.take_length,hl,List.take_length]at ht
   rw[if_pos ht])
 rw[h1,h2]
theorem Jl {a b:A4}:a=b↔(a.Op=b.Op∧a.Var=b.Var∧a.Field=b.Field∧a.Kind=b.Kind∧a.Value=b.Value)∧a.cP=b.cP:=by
 cases a;cases b;simp;constructor
 ·rintro⟨h1,h2,h3,h4,h5,h6⟩;exact⟨⟨h1,h3,h4,h5,h6⟩,h2⟩
 rintro⟨⟨h1,h3,h4,h5,h6⟩,h2⟩;exact⟨h1,h2,h3,h4,h5,h6⟩
theorem VQ {a b:A7}:a=b↔a.Kind=b.Kind∧a.Num=b.Num∧a.Text=b.Text:=by cases a;cases b;simp
theorem Kt {a b:A0}:a=b↔(a.Op=b.Op∧a.Typ=b.Typ∧a.Var=b.Var∧a.cS=b.cS∧a.Span=b.Span)∧a.cQ=b.cQ∧a.cP=b.cP:=by
 cases a;cases b;simp;constructor
 ·rintro⟨h1,h2,h3,h4,h5,h6,h7⟩;exact⟨⟨h1,h3,h4,h5,h6⟩,h7,h2⟩
 rintro⟨⟨h1,h3,h4,h5,h6⟩,h7,h2⟩;exact⟨h1,h2,h3,h4,h5,h6,h7⟩
theorem NU (a b:A4):Mr a b=true↔¬((a.Op=b.Op∧a.Var=b.Var∧a.Field=b.Field∧a.Kind=b.Kind∧a.Value=b.Value)∧a.cP.length=b.cP.length):=by
 simp only[Mr,K1,M9,T3,F6,C2,Fc,B3,VQ,Bool.or_eq_true,Bool.not_eq_true',decide_eq_false_iff_not,Bool.and_eq_false_iff,Bool.and_true,decide_eq_true_eq,Classical.not_and_iff_not_or_not]
 constructor
 ·rintro(((((h|h)|h)|h)|h)|h)
  ·simp[h]
  ·simp[h]
  ·simp[h]
  ·simp[h]
  ·rcases h with h|h|h<;>simp[h]
  right;omega
 rintro((h|h|h|h|h)|h)
 ·simp[h]
 ·simp[h]
 ·simp[h]
 ·simp[h]
 ·rcases h with h|h|h<;>simp[h]
 right;omega
theorem TV {N:Nat} (hN:40000000≤N):∀(n:Nat) (a b:A4),a.bulk≤n→a.bulk≤16777216→O8 N n a b=some (decide (a=b)):=by
 intro n
 induction n with
 |zero=>intro a b h;have:=BO a;omega
 | succ n ih=>
  intro a b hx hb;have hl:=CD a;unfold O8
  change (if Mr a b=true then some false else _)=_
  by_cases h:Mr a b=true
  ·rw[if_pos h]
   rw[NU]at h
   rw[decide_eq_false];intro e;exact h ⟨(Jl.1 e).1,by rw[(Jl.1 e).2]⟩
  rw[if_neg h]
  rw[NU,Classical.not_not]at h
  rw[UF a.cP b.cP h.2 (by omega) _ (fun x hx y hy=>ih x y (by have:=Y1 hx;omega) (by have:=Y1 hx;omega)) (by omega)];simp only[Option.bind_some]
  by_cases he:a.cP=b.cP
  ·rw[if_pos he,decide_eq_true (Jl.2 ⟨h.1,he⟩)]
  rw[if_neg he,decide_eq_false fun e=>he (Jl.1 e).2]
structure Ao0 (y:A0):Prop where
 op:0≤y.Op∧y.Op≤10
 ev:y.Op=0→y.cP=[]
 two:1≤y.Op→y.Op≤3→2≤y.cP.length
 one:4≤y.Op→y.Op≠8→∃a,y.cP=[a]
 more:y.Op=8→∃a b,y.cP=[a,b]
theorem XP {α:Type}{l:List α}(h:l.length=1):∃a,l=[a]:=List.length_eq_one_iff.1 h
theorem XO {α:Type}{l:List α}(h:l.length=2):∃a b,l=[a,b]:=by
 match l,h with
 |[a,b],_=>exact⟨a,b,rfl⟩
theorem YC {N:Nat} (hN:40000000≤N) {y:A0} (hb:y.bulk≤16777216) (hl:y.cP.length≤64) (h:Y5 N y=0):Ao0 y:=by
 have hc:y.cQ.bulk≤16777216:=by have:=A0.bulk_eq y;omega
 by_cases hop:0≤y.Op∧y.Op≤10
 ·obtain⟨s,ng,hs⟩:=IX N y hop.1 hop.2 hl;obtain⟨sz,hz⟩:=JL hN y.cQ;have h1:=CM hN hc hop.1 hop.2 hs hz
  rw[(BU hN hb hl).2,h]at h1
  have h2:s.cV≤y.cP.length∧(y.cP.length:Int)≤s.most:=by
   have h1:=Option.some.inj h1
   by_cases hc:s.cV≤y.cP.length∧(y.cP.length:Int)≤s.most
   ·exact hc
   rw[if_neg hc]at h1;cases h1
  have ht:=hs.tab;refine⟨hop,fun ho=>?_,fun ha hb=>?_,fun ha hb=>?_,fun ho=>?_⟩
  ·rw[ho]at ht;cases ht
   simp only at h2
   exact List.eq_nil_of_length_eq_zero (by omega)
  ·have ho:y.Op=1∨y.Op=2∨y.Op=3:=by omega
   rcases ho with ho|ho|ho<;>rw[ho]at ht<;>cases ht<;>simp only at h2<;>omega
  ·have ho:y.Op=4∨y.Op=5∨y.Op=6∨y.Op=7∨y.Op=9∨y.Op=10:=by omega
   apply XP
   rcases ho with ho|ho|ho|ho|ho|ho<;>rw[ho]at ht<;>cases ht<;>simp only at h2<;>omega
  apply XO
  rw[ho]at ht;cases ht;simp only at h2;omega
 obtain⟨h1,h2⟩:=Xp hop;exfalso
 unfold Y5 S8 at h
 rw[if_pos h2]at h
 cases h
end Go.Ab
namespace Go.Ab
abbrev Pr :=JC×J4
def zE :A4:=⟨0,[],0,0,0,⟨0,0,⟨#[]⟩⟩⟩
def zP :A0:=⟨0,[],0,0,0,0,zE⟩
def nd (op:Int)(args:List A0):A0:=⟨op,args,0,0,0,0,zE⟩
def Ad0 :J4:=⟨true,zP⟩
def Ac4 (op:Int)(l:List A0):A0:=match l with|[x]=>x|l=>nd op l
def Am8 (r:J4)(more:List A0):J4:=
 match(if r.done=true then more else r.p::more)with
 |[]=>Ad0
 |l=>⟨false,Ac4 1 l⟩
def Am3 (args:List A0)(i:Nat)(r:J4):J4:=
 ⟨false,Ac4 3 (if r.done=true then args.take i++args.drop (i+1)else args.set i r.p)⟩
def Esz (e:JC)(k:Nat):Prop:=e.Opens.length≤k∧e.Closes.length≤k∧e.Checks.length≤k∧e.Limits.length≤k∧e.Inside.length≤k
def Ak6 (p:A0) (x:JC) (done opens:Bool):JC:=
 {x with
  Opens:=if opens=true then p.cS::x.Opens else x.Opens
  Inside:=if p.Op=5∨p.Op=9 then p.cS::x.Inside else x.Inside
  Limits:=if p.Op=5∨p.Op=9 then x.Limits else⟨p.cS,p.Span⟩::x.Limits
  Closes:=if done=true then x.Closes++[p.cS]else x.Closes}
def rep (again:A0)(y:Pr):List Pr:=
 if y.2.done=true then[y,(y.1,⟨false,again⟩)]else match again.cP with|b::_=>[(y.1,⟨false,nd 8 [y.2.p,b]⟩)]|[]=>[]
def innE (x:A0)(y:Pr):JC:=
 if x.Op=7 then(if y.2.done=true then{y.1 with Checks:=y.1.Checks++[x.cQ]}else y.1)
 else Ak6 x y.1 y.2.done (if x.Op=5∨x.Op=9 then decide (x.Op=5)else decide (x.Op=6))
def Am4 (x:A0):Int:=if x.Op=7 then 7 else if x.Op=5∨x.Op=9 then 9 else 10
def innR (x:A0)(r:J4):J4:=if r.done=true then r else{r with p:={x with Op:=Am4 x,cP:=[r.p]}}
def inn (x:A0)(y:Pr):Pr:=(innE x y,innR x y.2)
def comb (x:A0)(ls:List (List Pr)):List Pr:=
 if x.Op=0 then[(⟨0,0,x.Var,x.Typ,x.cQ,[],[],[],[],[]⟩,Ad0)]
 else if x.Op=1 then(ls.headD []).map fun y=>(y.1,Am8 y.2 (x.cP.drop 1))
 else if x.Op=2 then(List.range x.cP.length).flatMap fun i=>ls.getD i []
 else if x.Op=3 then(List.range x.cP.length).flatMap fun i=>(ls.getD i []).map fun y=>(y.1,Am3 x.cP i y.2)
 else if x.Op=4 then(ls.headD []).flatMap (rep x)
 else if x.Op=8 then(ls.headD []).flatMap (rep (nd 4 (x.cP.drop 1)))
 else(ls.headD []).map (inn x)
mutual
def raw :A0→List Pr
 |⟨op,args,typ,var,scope,span,c⟩=>comb ⟨op,args,typ,var,scope,span,c⟩ (raws args)
def raws :List A0→List (List Pr)
 |[]=>[]
 |a::l=>raw a::raws l
end
theorem Esz.mono {e:JC}{k m:Nat}(h:Esz e k)(hm:k≤m):Esz e m:=by obtain⟨h1,h2,h3,h4,h5⟩:=h;exact⟨by omega,by omega,by omega,by omega,by omega⟩
end Go.Ab
namespace Go.Ab
end Go.Ab
namespace Go.Ab
structure TA (B:Nat) (R:Nat) (y:Pr):Prop where
 from0:y.1.From=0
 to0:y.1.To=0
 done:y.2.done=true→y.2.p=zP
 cond:y.1.cQ.bulk≤B
 checks:∀c∈y.1.Checks,c.bulk≤B
 rest:y.2.p.bulk≤R
theorem TA.mono {B R B' R':Nat}{y:Pr}(h:TA B R y)(hB:B≤B')(hR:R≤R'):TA B' R' y:=⟨h.from0,h.to0,h.done,Nat.le_trans h.cond hB,fun c hc=>Nat.le_trans (h.checks c hc) hB,Nat.le_trans h.rest hR⟩
def wth {α:Type}[DecidableEq α](l:List α)(x:α):List α:=if x∈l then l else l++[x]
def dd {α:Type}[DecidableEq α](l:List α):List α:=l.foldl wth []
section
variable {α:Type}[DecidableEq α]
theorem Ah3 (l m:List α):dd (l++m)=m.foldl wth (dd l):=by simp[dd,List.foldl_append]
end
end Go.Ab
namespace Go.Ab
def idxI {α:Type}(P:α→Bool)(l:List α):Int:=match l.findIdx? P with|none=> -1|some i=>(i:Int)
noncomputable abbrev idxP (l:List A0)(p:A0):Int:=idxI (fun q=>decide (p=q)) l
noncomputable def Ak8 (l:List A0)(y:Pr):List A0:=if y.2.done=true then l else wth l y.2.p
noncomputable def Xg (w:List Pr):List A0:=w.foldl Ak8 []
noncomputable def toOf (l:List A0)(r:J4):Int:=if r.done=true then -1 else idxP l r.p
noncomputable def eg (l:List A0)(y:Pr):JC:={y.1 with To:=toOf l y.2}
def YI (N:Nat)(w:List Pr):Prop:=2048<(dd w).length∨∃y∈w,y.2.done=false∧K3 N y.2.p≠0
noncomputable instance (N:Nat)(w:List Pr):Decidable (YI N w):=Classical.propDecidable _
theorem Rz (w v:List Pr):(dd w).length≤(dd (w++v)).length:=by
 rw[Ah3]
 have key:∀(v l:List Pr),l.length≤(v.foldl wth l).length:=fun v=>by
  induction v with
  |nil=>intro l;exact Nat.le_refl _
  |cons x v ih=>
   intro l;refine Nat.le_trans ?_ (ih (wth l x));unfold wth;split<;>simp
 exact key v _
theorem YI.mono {N:Nat}{w v:List Pr}(h:YI N w):YI N (w++v):=by
 rcases h with h|⟨y,hy,h⟩
 ·left;have:=Rz w v;omega
 right;exact⟨y,by simp[hy],h⟩
structure DerInv (N:Nat) (w:List Pr) (s:List A0×List JC):Prop where
 rs:s.1=Xg w
 es:s.2=(dd w).map (eg (Xg w))
 ok:¬YI N w
 len:(Xg w).length≤(dd w).length
end Go.Ab
namespace Go.Ab
theorem Im {α R:Type} (P:α→Bool) (r:R):∀l:List α,H6 (fun(_:Unit) y=>if P y=true then some (Sum.inr r)else some (.inl ())) l ()=some (if l.any P=true then .inr r else .inl ())
 |[]=>rfl
 | y::l=>by
  unfold H6
  cases h:P y with
  |true=>simp[h]
  |false=>
   simp only[Bool.false_eq_true,if_false,List.any_cons,h,Bool.false_or];exact Im P r l
theorem Good.sub {N:Nat}{x y:A0}(h:Good N x)(hy:y∈x.pre):Y5 N y=0:=h y hy
theorem WJ {N:Nat} (hN:40000000≤N) {x:A0} (hb:x.bulk≤16777216):Bt N x=some (if K3 N x≠0 then K3 N x else if x.pre.any (fun y=>cmp .geq y.Op 8)=true then 1 else 0):=by
 unfold Bt;rw[Zj hN hb];simp only[Option.bind_some]
 by_cases h:K3 N x=0
 ·rw[if_neg (I1 h),if_neg (by simpa using h),GM hN hb];simp only[Option.bind_some];rw[Im (fun y:A0=>cmp .geq y.Op 8) (1:Int) x.pre]
  by_cases h2:x.pre.any (fun y=>cmp .geq y.Op 8)=true
  ·rw[if_pos h2,if_pos h2];rfl
  rw[if_neg h2,if_neg h2];rfl
 rw[if_pos (K0 h),if_pos h]
theorem Cy {N:Nat} {x:A0} (hz:K3 N x=0):x.pre.length≤64∧x.dep≤12∧Good N x:=by
 have hp:x.pre.length≤64:=by
  by_cases h:64<x.pre.length
  ·rw[K3,if_pos h]at hz;cases hz
  omega
 have hd:¬12<x.dep:=fun h=>by rw[K3,if_neg (by omega),if_pos h]at hz;cases hz
 rw[K3,if_neg (by omega),if_neg hd]at hz
 exact⟨hp,by omega,BX.1 hz⟩
theorem AJ (x:A0):x∈x.pre:=by rw[A0.pre_eq];simp
theorem UK {α β:Type}{m:Option α}{F:α→Option β}{a:α}{r:Option β}(h1:m=some a)(h2:F a=r):m.bind F=r:=by rw[h1];exact h2
end Go.Ab
namespace Go.Ab
mutual
theorem MN :∀x:A4,(∀y∈x.pre,y.Value.Text.size≤64)→x.bulk≤74*x.pre.length
 |⟨op,args,var,field,kind,v⟩,h=>by
  have h1:=KF args fun y hy=>h y (by rw[A4.pre];exact List.mem_cons_of_mem _ hy);have h2:v.Text.size≤64:=h ⟨op,args,var,field,kind,v⟩ (by rw[A4.pre];exact List.mem_cons_self ..);simp only[A4.bulk,A4.pre,List.length_cons];omega
theorem KF :∀l:List A4,(∀y∈A4.pres l,y.Value.Text.size≤64)→A4.bulks l≤1+74*(A4.pres l).length
 |[],_=>by simp[A4.bulks]
 |a::l,h=>by
  have h1:=MN a fun y hy=>h y (by rw[A4.pres];exact List.mem_append_left _ hy);have h2:=KF l fun y hy=>h y (by rw[A4.pres];exact List.mem_append_right _ hy);simp only[A4.bulks,A4.pres,List.length_append];omega
end
theorem Ih :(⟨#[]⟩:ByteArray).size=0:=rfl
theorem RY {v:A7}(h:No v=true):v.Text.size≤64:=by
 simp only[No,M9,C2,Fc,Bool.and_eq_true,decide_eq_true_eq]at h
 rw[h.2.2.1,Ih];omega
theorem PU {v:A7} (h:I7 v=0):v.Text.size≤64:=by
 unfold I7 at h
 by_cases h1:v.Kind=0∨v.Kind=1
 ·rw[if_pos h1]at h
  by_cases h2:v.Text≠⟨#[]⟩
  ·rw[if_pos h2]at h;cases h
  have:v.Text=⟨#[]⟩:=Classical.not_not.1 h2;rw[this,Ih];omega
 rw[if_neg h1]at h
 by_cases h2:v.Kind=2
 ·rw[if_pos h2]at h
  by_cases h3:v.Num≠0
  ·rw[if_pos h3]at h;cases h
  rw[if_neg h3]at h
  by_cases h4:64<(v.Text.size:Int)
  ·rw[if_pos h4]at h;cases h
  omega
 rw[if_neg h2]at h;cases h
theorem Pq {x:A4} (h:Y7 x=0):x.Value.Text.size≤64:=by
 unfold Y7 at h
 by_cases h0:x.Op<0∨12<x.Op
 ·rw[if_pos h0]at h;cases h
 rw[if_neg h0]at h
 by_cases h1:(x.cP.length:Int)≠(if x.Op<5 then 0 else if x.Op=12 then 1 else 2)
 ·rw[if_pos h1]at h;cases h
 rw[if_neg h1]at h
 by_cases h2:LU x=true
 ·rw[if_pos h2]at h;cases h
 rw[if_neg h2]at h
 by_cases h3:Mo x=true
 ·rw[if_pos h3]at h;cases h
 rw[if_neg h3]at h
 by_cases h4:x.Op=4∨x.Op=0
 ·by_cases h5:I7 x.Value=0
  ·exact PU h5
  rw[if_pos ⟨h4,h5⟩]at h;exact absurd h h5
 rw[if_neg (fun e=>h4 e.1),if_neg (fun e=>h4 (.inl e.1))]at h
 by_cases h6:DX x=true
 ·rw[if_pos h6]at h;cases h
 have h7:No x.Value=true:=by
  have n4:¬x.Op=4:=fun e=>h4 (.inl e);have n0:¬x.Op=0:=fun e=>h4 (.inr e)
  cases hz:No x.Value with
  |true=>rfl
  |false=>
   refine absurd ?_ h6;simp[DX,K1,M9,T3,C2,n4,n0,hz]
 exact RY h7
theorem KN {c:A4}(h:K2 c=0):c.bulk≤4736:=by
 have hp:¬64<c.pre.length:=fun e=>by rw[K2,if_pos e]at h;cases h
 have hd:¬12<c.dep:=fun e=>by rw[K2,if_neg hp,if_pos e]at h;cases h
 rw[K2,if_neg hp,if_neg hd]at h
 have:=MN c fun y hy=>Pq (BX.1 h y hy);omega
theorem Ip {N:Nat} (hN:40000000≤N) {y:A0} (hb:y.bulk≤16777216) (hl:y.cP.length≤64) (h:Y5 N y=0):(0≤y.Op∧y.Op≤10)∧∃s ng,EK N y s ng∧y.cQ.bulk≤4736:=by
 have hc:y.cQ.bulk≤16777216:=by have:=A0.bulk_eq y;omega
 have hop:0≤y.Op∧y.Op≤10:=by
  by_cases ho:0≤y.Op∧y.Op≤10
  ·exact ho
  have h1:=(BU hN hb hl).1
  unfold R0 at h1
  rw[if_pos (Xp ho).1,h]at h1
  cases h1
 obtain⟨s,ng,hs⟩:=IX N y hop.1 hop.2 hl;have hz:=TV hN N y.cQ (⟨0,[],0,0,0,(⟨0,0,⟨#[]⟩⟩:A7)⟩:A4) (by omega) hc;have h1:=CM hN hc hop.1 hop.2 hs hz
 rw[(BU hN hb hl).2,h]at h1
 have h1:=Option.some.inj h1;refine⟨hop,s,ng,hs,?_⟩
 by_cases ha:s.cV≤y.cP.length∧(y.cP.length:Int)≤s.most
 ·rw[if_pos ha]at h1
  unfold GN at h1
  by_cases e1:Cp s.cT y.Typ 15=true
  ·rw[if_pos e1]at h1;cases h1
  rw[if_neg e1]at h1
  by_cases e2:Cp s.cT y.Var 15=true
  ·rw[if_pos e2]at h1;cases h1
  rw[if_neg e2]at h1
  by_cases e3:Cp s.scope y.cS 63=true
  ·rw[if_pos e3]at h1;cases h1
  rw[if_neg e3]at h1
  by_cases e4:Cp s.span y.Span 1099511627776=true
  ·rw[if_pos e4]at h1;cases h1
  rw[if_neg e4]at h1
  by_cases e5:s.cond=true
  ·by_cases e6:K2 y.cQ=0
   ·exact KN e6
   rw[if_pos ⟨e5,e6⟩]at h1;exact absurd h1.symm e6
  rw[if_neg (fun e=>e5 e.1)]at h1
  by_cases e6:y.cQ=(⟨0,[],0,0,0,(⟨0,0,⟨#[]⟩⟩:A7)⟩:A4)
  ·rw[e6];simp only[A4.bulk,A4.bulks,Ih];omega
  rw[if_neg (fun e=>by
   have:=e.1
   rw[decide_eq_false e6]at this
   simp[e5]at this)]at h1
  cases h1
 rw[if_neg ha]at h1;cases h1
end Go.Ab
namespace Go.Ab
def cnt :List (Bool×Bool×A0)→Int→Int→Bool
 |[],_,_=>true
 |y::l,v,s=>(if y.1=true then decide (y.2.2.Var=v)else true)&&(if y.2.1=true then decide (y.2.2.cS=s)else true)&&cnt l (if y.1=true then v+1 else v) (if y.2.1=true then s+1 else s)
noncomputable def Aa (y:A0):Bool:=match B8 G1 y.Op with|some s=>s.cT|none=>false
noncomputable def Dz (y:A0):Bool:=match B8 G1 y.Op with|some s=>s.scope|none=>false
noncomputable def Ng (l:List A0):Bool:=cnt (l.map fun y=>(Aa y,Dz y,y)) 0 0
def YH (N:Nat)(y:A0):Prop:=∃s ng,EK N y s ng
theorem Ms {N:Nat}(hN:40000000≤N){x:A0}(hb:x.bulk≤16777216)(hz:K3 N x=0):∀y∈x.pre,YH N y:=fun y hy=>by
 obtain⟨hp,hd,hg⟩:=Cy hz;have h1:=DE x y hy;have h2:=AS y;obtain⟨_,s,ng,h,_⟩:=Ip hN (by omega) (by omega) (hg y hy);exact⟨s,ng,h⟩
theorem Ch {a b:Int}(h:a<b):cmp .lss a b=true:=by rw[C1];exact decide_eq_true h
theorem Bw {a b:Int}(h:¬a<b):¬(cmp .lss a b=true):=by rw[C1];simpa using h
noncomputable def MI (s7:Bool×Int×Int)(y6:A0):Option ((Bool×Int×Int) ⊕ Unit):=
 (B8 G1 y6.Op).bind fun x11=>((if x11.cT=true then some (an s7.1 (cmp .eql y6.Var s7.2.2),ar .add .i64 s7.2.2 1)else some (s7.1,s7.2.2)):Option (Bool×Int)).bind fun s12=>if x11.scope=true then some (.inl (an s12.1 (cmp .eql y6.cS s7.2.1),ar .add .i64 s7.2.1 1,s12.2))else some (.inl (s12.1,s7.2.1,s12.2))
theorem Od {N:Nat}:∀(l:List A0),(∀y∈l,YH N y)→∀(b:Bool) (v s:Int),0≤v→0≤s→v+l.length≤1000000→s+l.length≤1000000→
 ∃v' s',H6 MI l (b,s,v)=some (.inl (b&&cnt (l.map fun y=>(Aa y,Dz y,y)) v s,s',v'))
 |[],_,b,v,s,_,_,_,_=>⟨v,s,by simp[H6,cnt]⟩
 |y::l,h,b,v,s,hv,hs,hv2,hs2=>by
  simp only[List.length_cons]at hv2 hs2
  obtain⟨sh,ng,ok⟩:=h y (by simp)
  have et:Aa y=sh.cT:=by unfold Aa;rw[ok.tab]
  have es:Dz y=sh.scope:=by unfold Dz;rw[ok.tab]
  have ev:ar .add .i64 v 1=v+1:=C3 (by omega) (by omega);have ess:ar .add .i64 s 1=s+1:=C3 (by omega) (by omega);have hr:=fun b v' s' h1 h2 h3 h4=>Od l (fun z hz=>h z (by simp[hz])) b v' s' h1 h2 h3 h4;simp only[List.map_cons,cnt,et,es]
  have step:∀b' v2 s2,MI (b,s,v) y=some (.inl (b',s2,v2))→H6 MI (y::l) (b,s,v)=H6 MI l (b',s2,v2):=fun b' v2 s2 h=>by simp only[H6,h]
  have hst:∀b' v2 s2,(some (.inl (b',s2,v2)):Option ((Bool×Int×Int) ⊕ Unit))=(((if sh.cT=true then some (an b (cmp .eql y.Var v),ar .add .i64 v 1)else some (b,v)):Option (Bool×Int)).bind fun s12=>if sh.scope=true then some (.inl (an s12.1 (cmp .eql y.cS s),ar .add .i64 s 1,s12.2))else some (.inl (s12.1,s,s12.2)))→H6 MI (y::l) (b,s,v)=H6 MI l (b',s2,v2):=fun b' v2 s2 h=>step b' v2 s2 (by rw[h];unfold MI;rw[ok.tab];rfl);cases ht:sh.cT<;>cases hc:sh.scope
  ·obtain⟨v',s',h1⟩:=hr b v s hv hs (by omega) (by omega);exact⟨v',s',by rw[hst b v s (by rw[ht,hc];rfl)];simpa using h1⟩
  ·obtain⟨v',s',h1⟩:=hr (b&&decide (y.cS=s)) v (s+1) hv (by omega) (by omega) (by omega);exact⟨v',s',by rw[hst (b&&decide (y.cS=s)) v (s+1) (by simp[ht,hc,ess,C2,M9])];simpa[Bool.and_assoc]using h1⟩
  ·obtain⟨v',s',h1⟩:=hr (b&&decide (y.Var=v)) (v+1) s (by omega) hs (by omega) (by omega);exact⟨v',s',by rw[hst (b&&decide (y.Var=v)) (v+1) s (by rw[ht,hc,ev,C2,M9];rfl)];simpa[Bool.and_assoc]using h1⟩
  obtain⟨v',s',h1⟩:=hr (b&&decide (y.Var=v)&&decide (y.cS=s)) (v+1) (s+1) (by omega) (by omega) (by omega) (by omega);exact⟨v',s',by rw[hst (b&&decide (y.Var=v)&&decide (y.cS=s)) (v+1) (s+1) (by rw[ht,hc,ev,ess,C2,C2,M9];rfl)];simpa[Bool.and_assoc]using h1⟩
theorem VB {N:Nat}(hN:40000000≤N){x:A0}(hb:x.bulk≤16777216)(hz:K3 N x=0):∃v s,Bu N x=some (v,s,Ng x.pre):=by
 obtain⟨hp,hd,hg⟩:=Cy hz;obtain⟨v,s,h⟩:=Od (N:=N) x.pre (Ms hN hb hz) true 0 0 (by omega) (by omega) (by omega) (by omega);unfold Bu;rw[GM hN hb];simp only[Option.bind_some];refine⟨v,s,UK h ?_⟩;simp[Ng]
noncomputable def Gs (N:Nat)(x:A0):Int:=if K3 N x≠0 then K3 N x else if x.pre.any (fun y=>cmp .geq y.Op 8)=true then 1 else if Ng x.pre=true then 0 else 14
theorem VC {N:Nat} (hN:40000000≤N) {x:A0} (hb:x.bulk≤16777216):Bv N x=some (Gs N x):=by
 unfold Bv Gs;rw[WJ hN hb];simp only[Option.bind_some]
 by_cases h:K3 N x=0
 ·rw[if_neg (show¬(K3 N x≠0) by simpa using h),if_neg (show¬(K3 N x≠0) by simpa using h)]
  by_cases h2:x.pre.any (fun y=>cmp .geq y.Op 8)=true
  ·rw[if_pos h2,if_pos h2,if_pos (K0 (by omega))]
  rw[if_neg h2,if_neg h2,if_neg (I1 rfl)];obtain⟨v,s,hr⟩:=VB hN hb h;rw[hr];simp only[Option.bind_some];cases Ng x.pre<;>simp[T3]
 rw[if_pos h,if_pos (K0 h),if_pos h]
theorem NF {N:Nat}(l:List A0)(hl:l.length<N)(hs:l.length≤1000000):Ba N l=some (!(l.any fun y=>cmp .geq y.Op 8)):=by
 unfold Ba;rw[I5 l (by omega) (mk:=fun(_:Unit) i=>i) (body:=fun(_:Unit) a=>if cmp .geq a.Op 8=true then some (.inr (.inr ()))else some (.inl ())) (fin:=fun _=>.inl ()) (s:=()) (by omega) ?_ ?_]
 ·rw[Im (fun y:A0=>cmp .geq y.Op 8) (Sum.inr ():Unit ⊕ Unit) l];cases h:l.any fun y=>cmp .geq y.Op 8<;>simp
 ·intro s i a ha hi;have e:ar .add .i64 (i:Int) 1=i+1:=C3 (by omega) (by omega);simp only[C1,B3,hi,decide_true,if_true,D6,ha,Option.bind_some,e];cases cmp .geq a.Op 8<;>rfl
 intro s;simp[C1,B3]
theorem JO {N:Nat} (hN:40000000≤N) {x:A0} (hb:x.bulk≤16777216):X3 N x=some (Gs N x):=by
 unfold X3 Gs;rw[Qz hN hb];simp only[Option.bind_some]
 by_cases h:K3 N x=0
 ·rw [if_neg (show¬(K3 N x≠0) by simpa using h),if_neg (I1 h),Fh hN N x (by omega) hb];have hpb:=Ae x;obtain⟨hp,hd,hg⟩:=Cy h;simp only[Option.bind_some];rw[NF x.pre (by omega) (by omega)];simp only[Option.bind_some]
  by_cases h2:x.pre.any (fun y=>cmp .geq y.Op 8)=true
  ·rw[if_pos h2,h2,if_pos (show nt (!true)=true from rfl)]
  rw[if_neg h2,if_neg (by simp[T3,h2])];have hk:=Ms hN hb h
  obtain ⟨r,k1,k2⟩:=Jg (S:=Int×Int×Int) (R:=Unit ⊕ Unit) (step:=fun(s4:Int×Int×Int)=>((if cmp .lss s4.2.2 (Ar.len x.pre)=true then(B8 x.pre s4.2.2).bind fun x6=>(O7 N x6).bind fun r7=>((if r7=true then(B8 x.pre s4.2.2).bind fun x9=>if cmp .neq x9.Var s4.1=true then some (.inr ())else some (.inl (ar .add .i64 s4.1 1))else some (.inl s4.1)):Option (Int ⊕ Unit)).bind fun s8=>match s8 with
          | .inl y10=>(B8 x.pre s4.2.2).bind fun x11=>(M7 N x11).bind fun r12=>if r12=true then(B8 x.pre s4.2.2).bind fun x13=>if cmp .neq x13.cS s4.2.1=true then some (.inr (.inr ()))else some (.inl (y10,ar .add .i64 s4.2.1 1,ar .add .i64 s4.2.2 1))else(B8 x.pre s4.2.2).bind fun x14=>(M3 N x14).bind fun r15=>if r15=true then(B8 x.pre s4.2.2).bind fun x16=>if cmp .neq x16.cS s4.2.1=true then some (.inr (.inr ()))else some (.inl (y10,ar .add .i64 s4.2.1 1,ar .add .i64 s4.2.2 1))else some (.inl (y10,s4.2.1,ar .add .i64 s4.2.2 1))
          | .inr y17=>some (.inr (.inr ()))
   else some (.inr (.inl ())))
   :Option ((Int×Int×Int) ⊕ (Unit ⊕ Unit))))
   (fun j s=>s.2.2=(j:Int)∧0≤s.1∧s.1≤j∧0≤s.2.1∧s.2.1≤j∧Ng x.pre=cnt ((x.pre.drop j).map fun y=>(Aa y,Dz y,y)) s.1 s.2.1)
   (fun r=>r=if Ng x.pre=true then .inl ()else .inr ()) x.pre.length 0 (0,0,0) N (by omega) ⟨rfl,by simp,by simp,by simp,by simp,rfl⟩
   (fun j s _ hj ⟨e,b1,b2,b3,b4,hc⟩=>by
    obtain⟨v,sc,i⟩:=s
    simp only at e b1 b2 b3 b4 hc
    subst e
    simp only[Nat.zero_add]at hj
    have e1:B8 x.pre (j:Int)=some x.pre[j]:=by rw[D6,List.getElem?_eq_getElem hj]
    obtain⟨sh,ng,ok⟩:=hk _ (List.getElem_mem hj)
    have et:Aa x.pre[j]=sh.cT:=by unfold Aa;rw[ok.tab]
    have es:Dz x.pre[j]=sh.scope:=by unfold Dz;rw[ok.tab]
    have ev:ar .add .i64 v 1=v+1:=C3 (by omega) (by omega);have ess:ar .add .i64 sc 1=sc+1:=C3 (by omega) (by omega);have ei:ar .add .i64 (j:Int) 1=((j+1:Nat):Int):=Jj (by omega)
    rw[List.drop_eq_getElem_cons hj,List.map_cons,cnt]at hc
    simp only[et,es]at hc
    have sco:=ok.sco;rw[if_pos (Ch (by simp only[B3];omega))];simp only[e1,Option.bind_some,ok.var,ok.neg,ok.tim,ev,ess,ei]
    by_cases hv:sh.cT=true∧x.pre[j].Var≠v
    ·rw[if_pos hv.1,if_pos (K0 hv.2)];refine⟨_,rfl,?_⟩;rw[hc];simp[hv.1,hv.2]
    have hv1:((if sh.cT=true then if cmp .neq x.pre[j].Var v=true then some (.inr ())else some (.inl (v+1))else some (.inl v)):Option (Int ⊕ Unit))=some (.inl (if sh.cT=true then v+1 else v)):=by
     by_cases ht:sh.cT=true
     ·rw[if_pos ht,if_pos ht,if_neg (I1 (Classical.not_not.1 fun e=>hv ⟨ht,e⟩))]
     rw[if_neg ht,if_neg ht]
    rw[hv1];simp only[Option.bind_some]
    have hcv:(if sh.cT=true then decide (x.pre[j].Var=v)else true)=true:=by
     by_cases ht:sh.cT=true
     ·rw[if_pos ht];exact decide_eq_true (Classical.not_not.1 fun e=>hv ⟨ht,e⟩)
     rw[if_neg ht]
    rw[hcv,Bool.true_and]at hc
    have hvb:0≤(if sh.cT=true then v+1 else v)∧(if sh.cT=true then v+1 else v)≤((j+1:Nat):Int):=by split<;>omega
    generalize (if sh.cT=true then v+1 else v)=v' at hc hvb ⊢
    by_cases hs:sh.scope=true
    ·rw[if_pos hs,if_pos hs]at hc
     by_cases hsc:x.pre[j].cS=sc
     ·have hgo:0≤sc+1∧sc+1≤((j+1:Nat):Int)∧Ng x.pre=cnt ((x.pre.drop (j+1)).map fun y=>(Aa y,Dz y,y)) v' (sc+1):=by
       refine⟨?_,?_,?_⟩
       ·omega
       ·omega
       rw[hc,decide_eq_true hsc,Bool.true_and]
      by_cases hng:ng=true
      ·rw[if_pos hng,if_neg (I1 hsc)];exact⟨_,rfl,rfl,hvb.1,hvb.2,hgo⟩
      have hsp:sh.span=true:=by rw[hs]at sco;simpa[hng]using sco.symm
      rw[if_neg hng,if_pos hsp,if_neg (I1 hsc)];exact⟨_,rfl,rfl,hvb.1,hvb.2,hgo⟩
     have hno:Ng x.pre=false:=by rw[hc,decide_eq_false hsc,Bool.false_and]
     by_cases hng:ng=true
     ·rw[if_pos hng,if_pos (K0 hsc)];exact⟨_,rfl,by rw[hno];rfl⟩
     have hsp:sh.span=true:=by rw[hs]at sco;simpa[hng]using sco.symm
     rw[if_neg hng,if_pos hsp,if_pos (K0 hsc)];exact⟨_,rfl,by rw[hno];rfl⟩
    rw[if_neg hs,if_neg hs,Bool.true_and]at hc
    have hs0:sh.scope=false:=by simpa using hs
    rw[hs0]at sco
    have hng:¬ng=true:=fun e=>by rw[e]at sco;cases sco
    have hsp:¬sh.span=true:=fun e=>by rw[e]at sco;simp at sco
    rw[if_neg hng,if_neg hsp];refine⟨_,rfl,rfl,hvb.1,hvb.2,b3,?_,hc⟩
    show sc≤_;omega)
   (fun s ⟨e,_,_,_,_,hc⟩=>by
    obtain⟨v,sc,i⟩:=s
    simp only[Nat.zero_add]at e hc
    subst e
    rw[List.drop_length]at hc
    rw[if_neg (Bw (by simp only[B3];omega))];refine⟨_,rfl,?_⟩
    rw[hc];rfl)
  refine UK k1 ?_;subst k2;cases Ng x.pre<;>rfl
 rw[if_pos h,if_pos (K0 h)]
end Go.Ab
namespace Go.Ab
theorem Rv :∀{l:List A4} {a:A4},a∈l→a.dep≤A4.deps l
 |b::l,a,h=>by
  simp only[A4.deps]
  rcases List.mem_cons.1 h with rfl|h
  ·exact Nat.le_max_left _ _
  exact Nat.le_trans (Rv h) (Nat.le_max_right _ _)
theorem NW :∀{l:List A4} {a y:A4},a∈l→y∈a.pre→y∈A4.pres l
 |b::l,a,y,h,hy=>by
  simp only[A4.pres,List.mem_append]
  rcases List.mem_cons.1 h with rfl|h
  ·exact .inl hy
  exact .inr (NW h hy)
theorem LN {α R:Type} {body:Unit→α→Option (Unit ⊕ R)} {p:α→Bool} {r:R}:∀{l:List α},(∀x∈l,body () x=some (if p x=true then .inl ()else .inr r))→H6 body l ()=some (if l.all p=true then .inl ()else .inr r)
 |[],_=>rfl
 | x::l,h=>by
  unfold H6;rw[h x (by simp),List.all_cons]
  by_cases hx:p x=true
  ·rw[if_pos hx,hx]
   dsimp only
   rw[LN fun y hy=>h y (by simp[hy])];rfl
  rw[if_neg hx]
  dsimp only
  rw[Bool.not_eq_true]at hx
  rw[hx];rfl
theorem Am7 {x:A4} (h:Y7 x=0):(x.Op=1∨x.Op=4→0≤x.Field∧x.Field<8)∧(1≤x.Op∧x.Op≤4→0≤x.Var∧x.Var<16):=by
 have h3:LU x=false:=by
  cases hh:LU x with
  |false=>rfl
  |true=>
   exfalso
   unfold Y7 at h
   by_cases a:x.Op<0∨12<x.Op
   ·rw[if_pos a]at h;cases h
   rw[if_neg a]at h
   by_cases b:(x.cP.length:Int)≠(if x.Op<5 then 0 else if x.Op=12 then 1 else 2)
   ·rw[if_pos b]at h;cases h
   rw[if_neg b,if_pos hh]at h
   cases h
 unfold LU at h3
 simp only[K1,M9,C1,N6,Bool.or_eq_false_iff,Bool.and_eq_false_iff,decide_eq_false_iff_not]at h3
 obtain⟨hv,hf⟩:=h3
 constructor
 ·intro e
  rcases hf with hf|hf
  ·exfalso
   unfold WL at hf
   rcases e with e|e<;>simp[e,C2,K1]at hf
  omega
 intro e
 rcases hv with hv|hv
 ·exfalso
  have h4:x.Op=1∨x.Op=2∨x.Op=3∨x.Op=4:=by omega
  unfold TK at hv
  rcases h4 with e|e|e|e<;>simp[e,C2,K1]at hv
 omega
end Go.Ab
namespace Go.Ab
noncomputable section
def Bs :A7:=⟨0,0,⟨#[]⟩⟩
def AH (k:Int)(v:A7):Int:=if I7 v≠0 then I7 v else if v.Kind=0∨(k≠1∧k≠2∧k≠3)then 0 else 9
def Og (k:Int)(a b:A7):A7:=
 if k=1 then⟨0,ar .add .i64 a.Num b.Num,⟨#[]⟩⟩else if k=2 then⟨0,Ar.mn a.Num b.Num,⟨#[]⟩⟩else if k=3 then⟨0,Ar.mx a.Num b.Num,⟨#[]⟩⟩else if k=4 then a else if k=5 then b else Bs
def Ds (k:Int)(v:A7):A7:=if k=0 then Bs else v
def DZ (k:Int):List A7→A7
 |[]=>Bs
 |v::l=>l.foldl (fun a b=>Og k a (Ds k b)) (Ds k v)
def Ai1 (k:Int)(l:List A7)(o:A7):A7×Int:=
 if k<0∨5<k then(Bs,1)else if 4096<l.length then(Bs,5)else if U6 (AH k) l≠0 then(Bs,U6 (AH k) l)else if AH k o≠0 then(Bs,AH k o)
 else if k=0 then(⟨0,l.length,⟨#[]⟩⟩,0)else if l=[]∧k≠1 then(o,0)else(DZ k l,0)
theorem Ls (N:Nat)(k:Int)(v:A7):T4 N k v=some (decide (v.Kind=0∨(k≠1∧k≠2∧k≠3))):=by
 unfold T4;simp only[K1,M9,C2,F6,Option.some.injEq]
 by_cases h0:v.Kind=0<;>by_cases h1:k=1<;>by_cases h2:k=2<;>by_cases h3:k=3<;>simp[h0,h1,h2,h3]
theorem PT (N:Nat) (k:Int) (v:A7):N2 N k v=some (AH k v):=by
 unfold N2 AH;rw[IR,Ls];simp only[Option.bind_some]
 by_cases h:I7 v=0
 ·rw[if_neg (I1 h),if_neg (show¬I7 v≠0 by simpa using h)]
  by_cases h2:v.Kind=0∨(k≠1∧k≠2∧k≠3)
  ·rw[if_neg (by rw[T3,decide_eq_true h2];decide),if_pos h2]
  rw[if_pos (by rw[T3,decide_eq_false h2];rfl),if_neg h2]
 rw[if_pos (K0 h),if_pos h]
theorem PS {k:Int}{v:A7}(h:AH k v=0):I7 v=0∧(v.Kind=0∨(k≠1∧k≠2∧k≠3)):=by
 unfold AH at h
 split at h
 ·rename_i h1;exact absurd h h1
 rename_i h1
 split at h
 ·rename_i h2;exact⟨by simpa using h1,h2⟩
 cases h
theorem Ho {v:A7}(h:I7 v=0)(hk:v.Kind=0):v.Text=⟨#[]⟩∧ -1099511627776≤v.Num∧v.Num≤1099511627776:=by
 unfold I7 at h
 rw[if_pos (.inl hk)]at h
 split at h
 ·cases h
 rename_i h1
 split at h
 ·cases h
 rename_i h2;refine⟨by simpa using h1,?_⟩
 simp only[hk,true_and]at h2
 omega
theorem Uf {n:Int}(h0: -1099511627776≤n)(h1:n≤1099511627776):I7 ⟨0,n,⟨#[]⟩⟩=0:=by
 unfold I7;simp only[true_or,if_true,ne_eq,not_true_eq_false,if_false];rw[if_neg (by simp;omega)]
structure UQ (k:Int) (n:Nat) (v:A7):Prop where
 c:k=0→v=Bs
 s:k=1→v.Kind=0∧v.Text=⟨#[]⟩∧ -(1099511627776*(n:Int))≤v.Num∧v.Num≤1099511627776*(n:Int)
 m:k=2∨k=3→I7 v=0∧v.Kind=0
 f:k=4∨k=5→I7 v=0
theorem Ya {k:Int}{v:A7}(h:AH k v=0):UQ k 1 (Ds k v):=by
 obtain⟨h1,h2⟩:=PS h;unfold Ds
 by_cases k0:k=0
 ·rw[if_pos k0];exact⟨fun _=>rfl,by omega,by omega,by omega⟩
 rw[if_neg k0];refine⟨by omega,fun e=>?_,fun e=>⟨h1,by omega⟩,fun _=>h1⟩
 have hk:v.Kind=0:=by omega
 obtain⟨a,b,c⟩:=Ho h1 hk;exact⟨hk,a,by omega,by omega⟩
theorem VT {k:Int} {n:Nat} {a v:A7} (ha:UQ k n a) (hn:n≤4096) (h:AH k v=0):UQ k (n+1) (Og k a (Ds k v)):=by
 obtain⟨h1,h2⟩:=PS h;unfold Og
 by_cases k1:k=1
 ·rw[if_pos k1]
  have hk:v.Kind=0:=by omega
  obtain⟨_,b,c⟩:=Ho h1 hk;obtain⟨_,_,d,e⟩:=ha.s k1;have e1:Ds k v=v:=if_neg (by omega);rw[e1];have e2:ar .add .i64 a.Num v.Num=a.Num+v.Num:=C3 (by omega) (by omega);rw[e2];exact⟨by omega,fun _=>⟨rfl,rfl,by simp only;omega,by simp only;omega⟩,by omega,by omega⟩
 rw[if_neg k1]
 by_cases k2:k=2
 ·rw[if_pos k2]
  have hk:v.Kind=0:=by omega
  obtain⟨_,b,c⟩:=Ho h1 hk;obtain⟨d,e⟩:=ha.m (.inl k2);obtain⟨_,d1,d2⟩:=Ho d e;have e1:Ds k v=v:=if_neg (by omega);rw[e1];refine⟨by omega,by omega,fun _=>⟨?_,rfl⟩,by omega⟩
  show I7 ⟨0,if v.Num<a.Num then v.Num else a.Num,⟨#[]⟩⟩=0
  split<;>exact Uf (by omega) (by omega)
 rw[if_neg k2]
 by_cases k3:k=3
 ·rw[if_pos k3]
  have hk:v.Kind=0:=by omega
  obtain⟨_,b,c⟩:=Ho h1 hk;obtain⟨d,e⟩:=ha.m (.inr k3);obtain⟨_,d1,d2⟩:=Ho d e;have e1:Ds k v=v:=if_neg (by omega);rw[e1];refine⟨by omega,by omega,fun _=>⟨?_,rfl⟩,by omega⟩
  show I7 ⟨0,if a.Num<v.Num then v.Num else a.Num,⟨#[]⟩⟩=0
  split<;>exact Uf (by omega) (by omega)
 rw[if_neg k3]
 by_cases k4:k=4
 ·rw[if_pos k4];exact⟨by omega,by omega,by omega,fun _=>ha.f (.inl k4)⟩
 rw[if_neg k4]
 by_cases k5:k=5
 ·rw[if_pos k5];have e1:Ds k v=v:=if_neg (by omega);rw[e1];exact⟨by omega,by omega,by omega,fun _=>h1⟩
 rw[if_neg k5];exact⟨fun _=>rfl,by omega,by omega,by omega⟩
theorem Tv {N:Nat}{k:Int}(h0:0≤k)(h5:k≤5)(a b:A7):X9 N k a b=some (Og k a b):=by
 have h:k=0∨k=1∨k=2∨k=3∨k=4∨k=5:=by omega
 rcases h with rfl|rfl|rfl|rfl|rfl|rfl<;>rfl
theorem Vf (N:Nat)(k:Int)(v:A7):Z5 N k v=some (Ds k v):=by
 unfold Z5 Ds;rw[C2]
 by_cases h:k=0
 ·rw[if_pos (decide_eq_true h),if_pos h];rfl
 rw[if_neg (by simpa using h),if_neg h]
def Ct (k:Int)(l:List A7):D0:=⟨k,l.length,DZ k l⟩
theorem My (k:Int)(l:List A7)(v:A7):DZ k (l++[v])=if l=[]then Ds k v else Og k (DZ k l) (Ds k v):=by
 cases l with
 |nil=>rfl
 |cons a l=>simp[DZ,List.foldl_append]
theorem YX {N:Nat} {k:Int} (h0:0≤k) (h5:k≤5) (l:List A7) (hl:l.length≤4096) (v:A7):N0 N (Ct k l) v k=some (Ct k (l++[v])):=by
 unfold N0;rw[Vf];simp only[Option.bind_some];unfold Bi;rw[C2,C2]
 have e:Ct k (l++[v])=⟨k,(l.length:Int)+1,if l=[]then Ds k v else Og k (DZ k l) (Ds k v)⟩:=by
  unfold Ct;rw[My];simp
 rw[e]
 cases l with
 |nil=>rfl
 | cons a l=>
  have hc:¬(decide ((Ct k (a::l)).Count=0)=true):=by
   show¬decide (((a::l).length:Int)=0)=true
   simp only[List.length_cons,decide_eq_true_eq];omega
  rw[if_neg hc,if_neg (by simp)]
  show((X9 N k (DZ k (a::l)) (Ds k v)).bind _).bind _=_
  rw[Tv h0 h5];simp only[Option.bind_some,Ct,reduceCtorEq,if_false];rw[C3 (by simp at hl ⊢;omega) (by simp at hl ⊢;omega)]
theorem Rj {k:Int}:∀(n:Nat) {l:List A7},l.length=n→l≠[]→l.length≤4096→(∀v∈l,AH k v=0)→UQ k l.length (DZ k l):=by
 intro n
 induction n with
 |zero=>intro l h0 h;exact absurd (List.eq_nil_of_length_eq_zero h0) h
 |succ n ih=>
  intro l h0 h hn hv
  rcases List.eq_nil_or_concat l with rfl|⟨q,v,rfl⟩
  ·exact absurd rfl h
  rw[List.concat_eq_append]at *
  rw[My,List.length_append];have hw:=hv v (by simp)
  simp only[List.length_append,List.length_cons,List.length_nil]at hn h0
  by_cases h:q=[]
  ·subst h;rw[if_pos rfl];exact Ya hw
  rw[if_neg h];exact VT (ih (by omega) h (by omega) fun x hx=>hv x (by simp[hx])) (by omega) hw
theorem RN {N:Nat} {k:Int} (h0:0≤k) (h5:k≤5) {l:List A7} (hl:l.length≤4096) (hv:∀v∈l,AH k v=0):Al N (Ct k l)=some 0:=by
 unfold Al W7;simp only[Option.bind_some]
 have e1:¬(nt (an (cmp .geq (Ct k l).Kind 0) (cmp .leq (Ct k l).Kind 5))=true):=by
  show¬((!(decide (0≤k)&&decide (k≤5)))=true)
  simp;omega
 have e2:¬(Ar.or (cmp .lss (Ct k l).Count 0) (cmp .gtr (Ct k l).Count 4096)=true):=by
  show¬((decide ((l.length:Int)<0)||decide (4096<(l.length:Int)))=true)
  simp;omega
 rw[if_neg e1,if_neg e2]
 by_cases hz:l=[]∨k=0
 ·have e3:Ar.or (cmp .eql (Ct k l).Count 0) (cmp .eql (Ct k l).Kind 0)=true:=by
   show(decide ((l.length:Int)=0)||decide (k=0))=true
   rcases hz with rfl|h
   ·rfl
   simp[h]
  have e4:(Ct k l).Value=Bs:=by
   by_cases hn:l=[]
   ·subst hn;rfl
   exact(Rj _ rfl hn hl hv).c (hz.resolve_left hn)
  rw[if_pos e3,e4];exact if_neg (by simp[T3,M9,C2,Fc,Bs])
 have hn:l≠[]:=fun h=>hz (.inl h);have hk:k≠0:=fun h=>hz (.inr h);have hlen:l.length≠0:=fun h=>hn (List.eq_nil_of_length_eq_zero h)
 have e3:¬(Ar.or (cmp .eql (Ct k l).Count 0) (cmp .eql (Ct k l).Kind 0)=true):=by
  show¬((decide ((l.length:Int)=0)||decide (k=0))=true)
  simp[hk,hn]
 rw[if_neg e3];have g:=Rj _ rfl hn hl hv
 by_cases k1:k=1
 ·rw[if_pos (show cmp .eql (Ct k l).Kind 1=true from decide_eq_true k1)];obtain⟨a,b,c,d⟩:=g.s k1;have ev:(Ct k l).Value=DZ k l:=rfl;have ec:(Ct k l).Count=(l.length:Int):=rfl;have em:ar .mul .i64 (l.length:Int) 1099511627776=(l.length:Int)*1099511627776:=CW (by omega) (by omega)
  have en:Ar.neg .i64 ((l.length:Int)*1099511627776)= - ((l.length:Int)*1099511627776):=by
   show IntKind.wrap .i64 (0 - (l.length:Int)*1099511627776)=_
   rw[CW (by omega) (by omega)];omega
  rw[ev,ec,em,en];rw[if_neg];simp only[T3,M9,C2,N6,CU,Fc];rw[decide_eq_true a,decide_eq_true b,decide_eq_true (show -((l.length:Int)*1099511627776)≤(DZ k l).Num by omega),decide_eq_true (show(DZ k l).Num≤(l.length:Int)*1099511627776 by omega)]
  decide
 rw[if_neg (show¬(cmp .eql (Ct k l).Kind 1=true)from(by show¬decide (k=1)=true;simpa using k1))]
 have hvb:I7 (DZ k l)=0:=by
  by_cases h23:k=2∨k=3
  ·exact(g.m h23).1
  exact g.f (by omega)
 have hsu:(DZ k l).Kind=0∨(k≠1∧k≠2∧k≠3):=by
  by_cases h23:k=2∨k=3
  ·exact .inl (g.m h23).2
  exact .inr (by omega)
 show((U7 N (DZ k l)).bind _)=_
 rw[IR,hvb];simp only[Option.bind_some];rw[if_pos (show cmp .eql 0 0=true from rfl)]
 show((T4 N k (DZ k l)).bind _)=_
 rw[Ls,decide_eq_true hsu];rfl
theorem Ai0 {N:Nat} (hN:40000000≤N) (k:Int) {l:List A7} (hl:l.length<1000000) (o:A7):Cq N k l o=some (Ai1 k l o):=by
 unfold Cq Ai1 W7;simp only[Option.bind_some]
 by_cases h0:k<0∨5<k
 ·rw[if_pos (by show(!(decide (0≤k)&&decide (k≤5)))=true;simp;omega),if_pos h0];rfl
 rw[if_neg (by show¬((!(decide (0≤k)&&decide (k≤5)))=true);simp;omega),if_neg h0]
 by_cases h1:4096<l.length
 ·rw[if_pos (Aw (by rw[B3];omega)),if_pos h1];rfl
 rw[if_neg (V9 (by rw[B3];omega)),if_neg h1];rw[I5 l (by omega) (mk:=fun(_:Unit) i=>i) (body:=Au fun v=>N2 N k v) (fin:=fun _=>.inl ()) (s:=()) (by omega) ?_ ?_]
 ·rw [Y0 (f:=AH k) fun v _=>PT N k v]
  by_cases h2:U6 (AH k) l=0
  ·rw [if_pos h2,if_neg (show¬U6 (AH k) l≠0 by simpa using h2)];have hv:=BX.1 h2;simp only[Option.bind_some]
   have hf:G2 N (⟨k,0,⟨0,0,⟨#[]⟩⟩⟩:D0) l (fun y1 y2=>N0 N y1 y2 k)=some (Ct k l):=by
    unfold G2;rw[I5 l (by omega) (mk:=fun(s:D0) i=>(i,s)) (body:=fun s v=>(N0 N s v k).bind fun r=>some (.inl r)) (fin:=fun s=>s) (s:=⟨k,0,⟨0,0,⟨#[]⟩⟩⟩) (by omega) ?_ ?_]
    ·obtain⟨s',k1,p,k2,k3⟩:=Z1 (R:=D0) (step:=fun s v=>(N0 N s v k).bind fun r=>some (.inl r)) (fun r s=>∃p,p++r=l∧s=Ct k p) (fun v r s ⟨p,e1,e2⟩=>by
      subst e2
      refine⟨_,by rw[YX (by omega) (by omega) p (by have:=congrArg List.length e1;simp at this;omega)];rfl,p++[v],by simpa using e1,rfl⟩) (l:=l) (s:=⟨k,0,⟨0,0,⟨#[]⟩⟩⟩) ⟨[],rfl,rfl⟩
     simp only[k1,Option.bind_some]
     rw[List.append_nil]at k2
     rw[k3,k2]
    ·intro s i a ha hi;have e:ar .add .i64 (i:Int) 1=i+1:=C3 (by omega) (by omega);simp only[C1,B3,hi,decide_true,if_true,D6,ha,Option.bind_some,e];cases N0 N s a k<;>rfl
    intro s;simp[C1,B3]
   rw[hf];simp only[Option.bind_some];unfold Bj;rw[RN (by omega) (by omega) (by omega) hv];simp only[Option.bind_some];rw[if_neg (show¬(cmp .neq 0 0=true) by decide)]
   show((N2 N k o).bind _).bind _=_
   rw[PT];simp only[Option.bind_some]
   by_cases h3:AH k o=0
   ·rw[if_neg (I1 h3),if_neg (show¬AH k o≠0 by simpa using h3)]
    by_cases h4:k=0
    ·rw[if_pos (show cmp .eql (Ct k l).Kind 0=true from decide_eq_true h4),if_pos h4];rfl
    rw[if_neg (show¬(cmp .eql (Ct k l).Kind 0=true)from(by show¬decide (k=0)=true;simpa using h4)),if_neg h4]
    by_cases h5:l=[]∧k≠1
    ·rw[if_pos (show an (cmp .eql (Ct k l).Count 0) (cmp .neq (Ct k l).Kind 1)=true by show(decide ((l.length:Int)=0)&& !decide (k=1))=true;simp[h5.1,h5.2]),if_pos h5];rfl
    rw[if_neg (show¬(an (cmp .eql (Ct k l).Count 0) (cmp .neq (Ct k l).Kind 1)=true) by show¬((decide ((l.length:Int)=0)&& !decide (k=1))=true);simpa using h5),if_neg h5];rfl
   rw[if_pos (K0 h3),if_pos h3];rfl
  rw[if_neg h2,if_pos h2];rfl
 ·intro s i a ha hi;have e:ar .add .i64 (i:Int) 1=i+1:=C3 (by omega) (by omega);simp only[C1,B3,hi,decide_true,if_true,D6,ha,Option.bind_some,e,Au,F6]
  cases N2 N k a with
  |none=>rfl
  |some r=>by_cases h:r=0<;>simp[h]
 intro s;simp[C1,B3]
end
end Go.Ab
namespace Go.Ab
noncomputable section
def ID (env:DH)(v:Int):List A5:=if v<0∨(env.cY.length:Int)≤v then[]else env.cY.getD v.toNat []
def EQ (e:A5)(k:Int):A7×Int:=if(e.Values.length:Int)≤k then(Bs,6)else(e.Values.getD k.toNat Bs,0)
def Sj (rows:List A5)(x:A4):A7×Int:=
 if(rows.all fun e=>decide (x.Field<(e.Values.length:Int)))=true then Ai1 x.Kind (rows.map fun e=>e.Values.getD x.Field.toNat Bs) x.Value else(Bs,6)
def Pc (rows:List A5)(own:Int)(ev:A5)(v:Int):Option A5:=if v≠own then rows.getLast? else some ev
def Ab8 (y:A5)(x:A4):A7×Int:=
 if x.Op=2 then(⟨0,y.Time,⟨#[]⟩⟩,0)else if(EQ y x.Field).2≠0 then(Bs,(EQ y x.Field).2)else if I7 (EQ y x.Field).1≠0 then(Bs,I7 (EQ y x.Field).1)else((EQ y x.Field).1,0)
def Ml (env:DH)(own:Int)(ev:A5)(x:A4):A7×Int:=
 if x.Op=0 then(x.Value,0)else if x.Op=3 then(⟨0,(ID env x.Var).length,⟨#[]⟩⟩,0)else if x.Op=4 then Sj (ID env x.Var) x
 else match Pc (ID env x.Var) own ev x.Var with|none=>(Bs,10)|some y=>Ab8 y x
theorem Ol {x:A4}(hx:Y7 x=0):0≤x.Op∧x.Op≤12∧(x.cP.length:Int)=(if x.Op<5 then 0 else if x.Op=12 then 1 else 2):=by
 unfold Y7 at hx
 by_cases h1:x.Op<0∨12<x.Op
 ·rw[if_pos h1]at hx;cases hx
 rw[if_neg h1]at hx
 by_cases h2:(x.cP.length:Int)≠(if x.Op<5 then 0 else if x.Op=12 then 1 else 2)
 ·rw[if_pos h2]at hx;cases hx
 exact⟨by omega,by omega,by simpa using h2⟩
def LH (e:DH):Prop:=e.cY.length<1000000∧∀l∈e.cY,l.length<1000000
theorem UE {env:DH}(h:LH env)(v:Int):(ID env v).length<1000000:=by
 unfold ID
 split
 ·simp
 rename_i hv
 have hi:v.toNat<env.cY.length:=by omega
 rw[List.getD_eq_getElem?_getD,List.getElem?_eq_getElem hi];exact h.2 _ (List.getElem_mem hi)
theorem Kx (N:Nat)(env:DH)(own:Int)(ev:A5)(u:Unit)(v:Int):M6 N ⟨env,own,ev,u⟩ v=some (ID env v):=by
 unfold M6 ID
 by_cases h:v<0∨(env.cY.length:Int)≤v
 ·rw[if_pos (by simp only[K1,C1,N6,B3];simpa using h),if_pos h]
 rw[if_neg (by simp only[K1,C1,N6,B3];simpa using h),if_neg h]
 have hi:v.toNat<env.cY.length:=by omega
 have hv:v=(v.toNat:Int):=by omega
 rw[hv,D6];simp only[List.getD_eq_getElem?_getD,Int.toNat_natCast,List.getElem?_eq_getElem hi,Option.bind_some,Option.getD_some]
theorem MB (N:Nat)(e:A5){k:Int}(hk:0≤k):Ai N e k=some (EQ e k):=by
 unfold Ai EQ
 by_cases h:(e.Values.length:Int)≤k
 ·rw[if_pos (by rw[N6,B3];exact decide_eq_true h),if_pos h];rfl
 rw[if_neg (by rw[N6,B3];simpa using h),if_neg h]
 have hi:k.toNat<e.Values.length:=by omega
 have hv:k=(k.toNat:Int):=by omega
 rw[hv,D6];simp only[List.getD_eq_getElem?_getD,Int.toNat_natCast,List.getElem?_eq_getElem hi,Option.bind_some,Option.getD_some]
theorem LM {α β R:Type} {body:List β→α→Option (List β ⊕ R)} {p:α→Bool} {g:α→β} {r:R}:∀{l:List α} {s:List β},s.length+l.length≤1000000→(∀(s:List β) x,x∈l→s.length≤1000000→body s x=some (if p x=true then .inl (s++[g x])else .inr r))→
 H6 body l s=some (if l.all p=true then .inl (s++l.map g)else .inr r)
 |[],s,_,_=>by simp[H6]
 |x::l,s,hl,h=>by
  simp only[H6,h s x (by simp) (by simp at hl;omega)]
  by_cases hp:p x=true
  ·simp only[hp,if_true];rw[LM (by simp at hl ⊢;omega) fun s y hy=>h s y (by simp[hy])];simp[hp]
  simp[hp]
theorem Ti {N:Nat} (hN:40000000≤N) {env:DH} (he:LH env) (own:Int) (ev:A5) (u:Unit) {x:A4} (hf:0≤x.Field):S1 N ⟨env,own,ev,u⟩ x=some (Sj (ID env x.Var) x):=by
 have hl:=UE he x.Var;unfold S1 Sj;rw[Kx];simp only[Option.bind_some]
 generalize ID env x.Var=rows at hl
 rw[I5 rows (by omega) (mk:=fun(s:List A7) i=>(s,i)) (body:=fun s e=>(Ai N e x.Field).bind fun r=>if cmp .neq r.2 0=true then some (.inr (.inr r.2))else(K9 s [r.1]).bind fun l=>some (.inl l)) (fin:=fun s=>.inl s) (s:=[]) (by omega) ?_ ?_]
 ·rw[LM (p:=fun e=>decide (x.Field<(e.Values.length:Int))) (g:=fun e=>e.Values.getD x.Field.toNat Bs) (r:=.inr 6) (by simp;omega) (fun s e _ hs=>by
   rw[MB N e hf];unfold EQ
   by_cases h:(e.Values.length:Int)≤x.Field
   ·rw[if_pos h,if_neg (by simpa using h)];rfl
   rw[if_neg h,if_pos (by simpa using h)];simp only[Option.bind_some]
   rw[if_neg (by decide),N7 (by simp;omega)];rfl)]
  by_cases h:(rows.all fun e=>decide (x.Field<(e.Values.length:Int)))=true
  ·rw[if_pos h,if_pos h];simp only[Option.bind_some,List.nil_append];rw[Ai0 hN _ (by simpa using hl)];rfl
  rw[if_neg h,if_neg h];rfl
 ·intro s i a ha hi;have e:ar .add .i64 (i:Int) 1=i+1:=C3 (by omega) (by omega);simp only[C1,B3,hi,decide_true,if_true,D6,ha,Option.bind_some,e]
  cases Ai N a x.Field with
  |none=>rfl
  |some r=>
   simp only[Option.bind_some]
   split
   ·rfl
   cases K9 s [r.1]<;>rfl
 intro s;simp[C1,B3]
theorem Wb {N:Nat} (hN:40000000≤N) {env:DH} (he:LH env) (own:Int) (ev:A5) (u:Unit) {x:A4} (hx:Y7 x=0) (ha:x.cP=[]):T8 N ⟨env,own,ev,u⟩ x=some (Ml env own ev x):=by
 have hok:=Am7 hx
 have hop:0≤x.Op∧x.Op<5:=by
  have:=Ol hx
  rw[ha]at this
  simp only[List.length_nil]at this
  obtain⟨h1,h2,h3⟩:=this
  by_cases h5:x.Op<5
  ·exact⟨h1,h5⟩
  rw[if_neg h5]at h3
  split at h3<;>omega
 have hl:=UE he x.Var;unfold T8 Ml;rw[Kx];simp only[Option.bind_some]
 by_cases h0:x.Op=0
 ·rw[if_pos (by rw[C2];exact decide_eq_true h0),if_pos h0]
 rw[if_neg (by rw[C2];simpa using h0),if_neg h0]
 by_cases h3:x.Op=3
 ·rw[if_pos (by rw[C2];exact decide_eq_true h3),if_pos h3];rfl
 rw[if_neg (by rw[C2];simpa using h3),if_neg h3]
 by_cases h4:x.Op=4
 ·rw[if_pos (by rw[C2];exact decide_eq_true h4),if_pos h4,Ti hN he own ev u (hok.1 (.inr h4)).1];rfl
 rw[if_neg (by rw[C2];simpa using h4),if_neg h4]
 have key:((if cmp .neq x.Var own=true then if cmp .eql (Ar.len (ID env x.Var)) 0=true then some (.inr ())else(B8 (ID env x.Var) (ar .sub .i64 (Ar.len (ID env x.Var)) 1)).bind fun x6=>some (.inl x6)else some (.inl ev)):Option (A5 ⊕ Unit))=some (match Pc (ID env x.Var) own ev x.Var with|some y=>.inl y|none=>.inr ()):=by
  unfold Pc
  by_cases hv:x.Var=own
  ·rw[if_neg (I1 hv),if_neg (by simpa using hv)]
  rw[if_pos (K0 hv),if_pos hv]
  generalize ID env x.Var=rows at hl
  rcases List.eq_nil_or_concat rows with rfl|⟨q,y,rfl⟩
  ·rfl
  rw[List.concat_eq_append]at *
  have e1:ar .sub .i64 (Ar.len (q++[y])) 1=(q.length:Int):=by
   have:ar .sub .i64 (Ar.len (q++[y])) 1=Ar.len (q++[y]) - 1:=CW (by rw[B3];omega) (by rw[B3];omega);rw[this,B3];simp
  rw[if_neg (by rw[C2,B3];simp;omega),e1,D6];simp
 have key2:=congrArg (fun o=>o.bind fun s5=>match s5 with
  | .inl y7=>
   if cmp .eql x.Op 2=true then
    some ((⟨0,y7.Time,⟨#[]⟩⟩:A7),(0:Int))
   else
    (Ai N y7 x.Field).bind fun r8=>
    ((
     if cmp .eql r8.2 0=true then
      (U7 N r8.1).bind fun r10=>
      some r10
     else
      some r8.2
    ):Option (Int)).bind fun s9=>
    if cmp .neq s9 0=true then
     some ((⟨0,0,⟨#[]⟩⟩:A7),s9)
    else
     some (r8.1,0)
  | .inr y11=>
   some ((⟨0,0,⟨#[]⟩⟩:A7),10)) key
 refine key2.trans ?_
 cases hy:Pc (ID env x.Var) own ev x.Var with
 |none=>rfl
 | some y=>
  simp only[Option.bind_some];unfold Ab8
  by_cases h2:x.Op=2
  ·rw[if_pos (by rw[C2];exact decide_eq_true h2),if_pos h2]
  rw[if_neg (by rw[C2];simpa using h2),if_neg h2]
  have h1:x.Op=1:=by omega
  rw[MB N y (hok.1 (.inl h1)).1];simp only[Option.bind_some]
  by_cases hb:(EQ y x.Field).2=0
  ·rw[if_pos (by rw[C2];exact decide_eq_true hb),IR,if_neg (by simpa using hb)];simp only[Option.bind_some]
   by_cases hc:I7 (EQ y x.Field).1=0
   ·rw[if_neg (I1 hc),if_neg (by simpa using hc)]
   rw[if_pos (K0 hc),if_pos hc];rfl
  rw[if_neg (by rw[C2];simpa using hb),if_pos hb];simp only[Option.bind_some];rw[if_pos (K0 hb)];rfl
end
end Go.Ab
