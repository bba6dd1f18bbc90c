/- . -/
import Derived.Test.YtnfefddbggfopaaGreatDoorA17
import Derived.Laws.Strings
set_option linter.all false
open Go.Ab.Ar (an ar cmp mx nt scmp)
namespace Go.Ab
def AI {x a:A0}(h:a∈x.cT):a.bulk<x.bulk:=by
 have h1:=(RD x.cT).1 a h;have h2:=A0.bulk_eq x;omega
def S4 {x a:B1}(h:a∈x.cT):a.bulk<x.bulk:=by
 have h1:=(RE x.cT).1 a h;have h2:=B1.bulk_eq x;omega
def HR (x:A0):x.cT.length≤x.bulk:=by
 have h1:=(RD x.cT).2;have h2:=A0.bulk_eq x;omega
def HQ (x:B1):x.cT.length≤x.bulk:=by
 have h1:=(RE x.cT).2;have h2:=B1.bulk_eq x;omega
theorem GD (x:A0):0<x.bulk:=by have:=A0.bulk_eq x;omega
theorem Cl (x:B1):0<x.bulk:=by have:=B1.bulk_eq x;omega
def AF8 {N:Nat} (hN:Bgn N):∀(n:Nat) (x:A0),x.bulk≤n→x.bulk≤16777216→AW N n x=some (x.dep:Int):=by
 intro n
 induction n with
 |zero=>grind[GD]
 | succ n ih=>
  intro x hx hb;have hl:=HR x;unfold AW;rw[X4 x.cT (by omega) (mk:=fun(s:Int) i=>(s,i)) (body:=fun(s:Int) a=>(AW N n a).bind fun r=>some (.inl (mx s r))) (fin:=fun s=>s) (s:=0) (by omega) ?_ ?_]
  ·obtain⟨s',k1,k2⟩:=Hn (R:=Int) (step:=fun(s:Int) a=>(AW N n a).bind fun r=>some (.inl (mx s r))) (fun r s=>(∀a∈r,a∈x.cT)∧0≤s∧max s (A0.deps r:Int)=(A0.deps x.cT:Int)) (fun a r s ⟨h1,h2,h3⟩=>by
    have hm:=AI (h1 a (by simp));refine⟨_,by rw[ih a (by omega) (by omega)];rfl,fun b hb=>h1 b (by simp[hb]),?_,?_⟩
    ·rw[Jr];split<;>omega
    grind[Jr,A0.deps]) (l:=x.cT) (s:=0) ⟨fun a h=>h,S0 _,by omega⟩
   simp only[k1,A4]
   have e:s'=(A0.deps x.cT:Int):=by have:=k2.2.2;grind[A0.deps]
   have hd:=Jd x.cT;have hd2:=A0.bulk_eq x;rw[e,J1 (by omega) (by omega),A0.dep_eq];rfl
  ·intro s i a ha hi;have e:ar .add .i64 (i:Int) 1=i+1:=J1 (by omega) (by omega);simp only[C5,B2,hi,K3,B4,G4,ha,A4,e];cases AW N n a<;>rfl
  grind[C5,B2]
theorem J0 {α:Type}{l m:List α}(h:l.length+m.length≤1073741824):G6 l m=some (l++m):=by simp[G6,h]
def OO {N:Nat} (hN:Bgn N):∀(n:Nat) (x:A0),x.bulk≤n→x.bulk≤16777216→Y6 N n x=some x.pre:=by
 intro n
 induction n with
 |zero=>grind[GD]
 | succ n ih=>
  intro x hx hb;have hl:=HR x;unfold Y6;rw[X4 x.cT (by omega) (mk:=fun(s:List A0) i=>(s,i)) (body:=fun(s:List A0) a=>(Y6 N n a).bind fun r=>(G6 s r).bind fun l=>some (.inl l)) (fin:=fun s=>s) (s:=[x]) (by omega) ?_ ?_]
  ·have hp:=HL x;have hpe:=A0.pre_eq x
   obtain⟨s',k1,k2⟩:=Hn (R:=List A0) (step:=fun(s:List A0) a=>(Y6 N n a).bind fun r=>(G6 s r).bind fun l=>some (.inl l)) (fun r s=>(∀a∈r,a∈x.cT)∧s++A0.pres r=x.pre) (fun a r s ⟨h1,h2⟩=>by
    have hm:=AI (h1 a (by simp));have hlen:=P9 List.length h2
    grind[A0.pres,J0]) (l:=x.cT) (s:=[x]) ⟨fun a h=>h,by rw[hpe];rfl⟩
   grind[A0.pres]
  ·intro s i a ha hi;have e:ar .add .i64 (i:Int) 1=i+1:=J1 (by omega) (by omega);simp only[C5,B2,hi,K3,B4,G4,ha,A4,e]
   grind
  grind[C5,B2]
def AJ8 {N:Nat} (hN:Bgn N):∀(n:Nat) (x:A0),x.bulk≤n→x.bulk≤16777216→Ao N n x=some ((x.pre.length:Int),(x.dep:Int)):=by
 intro n
 induction n with
 |zero=>grind[GD]
 | succ n ih=>
  intro x hx hb;have hl:=HR x;unfold Ao;rw[X4 x.cT (by omega) (mk:=fun(s:Int×Int) i=>(s.1,s.2,i)) (body:=fun(s:Int×Int) a=>(Ao N n a).bind fun r=>some (.inl (ar .add .i64 s.1 r.1,mx s.2 r.2))) (fin:=fun s=>s) (s:=(1,0)) (by omega) ?_ ?_]
  ·have hp:=GA x.cT;have hd:=Jd x.cT;have hbe:=A0.bulk_eq x
   obtain⟨s',k1,k2⟩:=Hn (R:=Int×Int) (step:=fun(s:Int×Int) a=>(Ao N n a).bind fun r=>some (.inl (ar .add .i64 s.1 r.1,mx s.2 r.2))) (fun r s=>(∀a∈r,a∈x.cT)∧0≤s.2∧0≤s.1∧s.1+(A0.pres r).length=(A0.pres x.cT).length+1∧max s.2 (A0.deps r:Int)=(A0.deps x.cT:Int)) (fun a r s ⟨h1,h2,h3,h4,h5⟩=>by
    have hm:=AI (h1 a (by simp))
    grind[A0.pres,A0.deps,Jr,J1]) (l:=x.cT) (s:=(1,0)) ⟨fun a h=>h,by simp,by simp,by omega,by omega⟩
   simp only[k1,A4]
   grind[A0.pres,A0.deps,A0.pre_eq,J1,A0.dep_eq]
  ·intro s i a ha hi;have e:ar .add .i64 (i:Int) 1=i+1:=J1 (by omega) (by omega);simp only[C5,B2,hi,K3,B4,G4,ha,A4,e];cases Ao N n a<;>rfl
  grind[C5,B2]
def AJ2 {N:Nat} (hN:Bgn N):∀(n:Nat) (x:A0),x.bulk≤n→x.bulk≤16777216→An N n x=some x.pre:=by
 intro n
 induction n with
 |zero=>grind[GD]
 | succ n ih=>
  intro x hx hb;have hl:=HR x;unfold An;rw[Aa6 x.cT (mk:=fun(_:Unit) i=>i) (body:=fun(_:Unit) a=>(An N n a).bind fun l=>some (l,.inl ())) (fin:=fun _=>()) (s:=()) (by omega) ?_ ?_]
  ·obtain⟨w,s',k1,k2⟩:=Sw (R:=Unit) (step:=fun(_:Unit) a=>(An N n a).bind fun l=>some (l,.inl ())) (fun r w s=>(∀a∈r,a∈x.cT)∧w++A0.pres r=A0.pres x.cT) (fun a r w s ⟨h1,h2⟩=>by
    have hm:=AI (h1 a (by simp));refine⟨a.pre,(),by rw[ih a (by omega) (by omega)];rfl,fun b hb=>h1 b (by simp[hb]),?_⟩
    rw[←h2];grind[A0.pres]) (l:=x.cT) (w:=[]) (s:=()) ⟨fun a h=>h,by simp⟩
   have e:w=A0.pres x.cT:=by have:=k2.2;grind[A0.pres]
   rw[k1,e,A0.pre_eq];simp[L6]
  ·intro s i a ha hi;have e:ar .add .i64 (i:Int) 1=i+1:=J1 (by omega) (by omega);simp only[C5,B2,hi,K3,B4,G4,ha,A4,e];cases An N n a<;>simp[L6]
  grind[C5,B2]
def YR {N:Nat} (hN:Bgn N) (lim:Int):∀(n:Nat) (x:B1),x.bulk≤n→x.bulk≤16777216→∃r,As N n x lim=some r∧Cut lim x.pre.length r:=by
 intro n
 induction n with
 |zero=>grind[Cl]
 | succ n ih=>
  intro x hx hb;have hxb:=B1.bulk_eq x;have hB:=RE x.cT;have hpb:=IU x.cT;unfold As;rw[X4 x.cT (by omega) (mk:=fun(s:Int) i=>(s,i)) (body:=fun(s:Int) a=>if s≤lim then(As N n a lim).bind fun r=>some (.inl (ar .add .i64 s r))else some (.inr s)) (fin:=fun s=>s) (s:=1) (by omega) ?_ ?_]
  ·obtain⟨o,k1,v,k2,k3,k4,k5⟩:=Mk (lim:=lim) (f:=fun a=>As N n a lim) (cnt:=fun a=>a.pre.length) (B:=40000000) (by omega) x.cT 1 (by omega) (by rw[NB];omega) fun a ha=>ih a (by have:=hB.1 a ha;omega) (by have:=hB.1 a ha;omega)
   rw[NB]at k4 k5
   have hpe:x.pre.length=(B1.pres x.cT).length+1:=by rw[B1.pre_eq];rfl
   simp only[k1,A4];refine⟨v,?_,by omega,by omega,?_⟩
   ·cases o<;>simp_all
   omega
  ·intro s i a ha hi;have e:ar .add .i64 (i:Int) 1=i+1:=J1 (by omega) (by omega);simp only[C5,Jg,P5,B2,hi,K3,Gg,G4,ha,A4,e,C8]
   grind
  grind[C5,P5,B2]
def Ac9 {N:Nat} (hN:Bgn N):∀(n:Nat) (x:B1),x.bulk≤n→x.bulk≤16777216→AX N n x=some (x.dep:Int):=by
 intro n
 induction n with
 |zero=>grind[Cl]
 | succ n ih=>
  intro x hx hb;have hl:=HQ x;unfold AX;rw[X4 x.cT (by omega) (mk:=fun(s:Int) i=>(s,i)) (body:=fun(s:Int) a=>(AX N n a).bind fun r=>some (.inl (mx s r))) (fin:=fun s=>s) (s:=0) (by omega) ?_ ?_]
  ·obtain⟨s',k1,k2⟩:=Hn (R:=Int) (step:=fun(s:Int) a=>(AX N n a).bind fun r=>some (.inl (mx s r))) (fun r s=>(∀a∈r,a∈x.cT)∧0≤s∧max s (B1.deps r:Int)=(B1.deps x.cT:Int)) (fun a r s ⟨h1,h2,h3⟩=>by
    have hm:=S4 (h1 a (by simp));refine⟨_,by rw[ih a (by omega) (by omega)];rfl,fun b hb=>h1 b (by simp[hb]),?_,?_⟩
    ·rw[Jr];split<;>omega
    grind[Jr,B1.deps]) (l:=x.cT) (s:=0) ⟨fun a h=>h,S0 _,by omega⟩
   simp only[k1,A4]
   have e:s'=(B1.deps x.cT:Int):=by have:=k2.2.2;grind[B1.deps]
   have hd:=Je x.cT;have hd2:=B1.bulk_eq x;rw[e,J1 (by omega) (by omega),B1.dep_eq];rfl
  ·intro s i a ha hi;have e:ar .add .i64 (i:Int) 1=i+1:=J1 (by omega) (by omega);simp only[C5,B2,hi,K3,B4,G4,ha,A4,e];cases AX N n a<;>rfl
  grind[C5,B2]
def Am7 {N:Nat} (hN:Bgn N):∀(n:Nat) (x:B1),x.bulk≤n→x.bulk≤16777216→Dq N n x=some ((x.pre.length:Int),(x.dep:Int)):=by
 intro n
 induction n with
 |zero=>grind[Cl]
 | succ n ih=>
  intro x hx hb;have hl:=HQ x;unfold Dq;rw[X4 x.cT (by omega) (mk:=fun(s:Int×Int) i=>(s.1,s.2,i)) (body:=fun(s:Int×Int) a=>(Dq N n a).bind fun r=>some (.inl (ar .add .i64 s.1 r.1,mx s.2 r.2))) (fin:=fun s=>s) (s:=(1,0)) (by omega) ?_ ?_]
  ·have hp:=IU x.cT;have hd:=Je x.cT;have hbe:=B1.bulk_eq x
   obtain⟨s',k1,k2⟩:=Hn (R:=Int×Int) (step:=fun(s:Int×Int) a=>(Dq N n a).bind fun r=>some (.inl (ar .add .i64 s.1 r.1,mx s.2 r.2))) (fun r s=>(∀a∈r,a∈x.cT)∧0≤s.2∧0≤s.1∧s.1+(B1.pres r).length=(B1.pres x.cT).length+1∧max s.2 (B1.deps r:Int)=(B1.deps x.cT:Int)) (fun a r s ⟨h1,h2,h3,h4,h5⟩=>by
    have hm:=S4 (h1 a (by simp))
    grind[B1.pres,B1.deps,Jr,J1]) (l:=x.cT) (s:=(1,0)) ⟨fun a h=>h,by simp,by simp,by omega,by omega⟩
   simp only[k1,A4]
   grind[B1.pres,B1.deps,B1.pre_eq,J1,B1.dep_eq]
  ·intro s i a ha hi;have e:ar .add .i64 (i:Int) 1=i+1:=J1 (by omega) (by omega);simp only[C5,B2,hi,K3,B4,G4,ha,A4,e];cases Dq N n a<;>rfl
  grind[C5,B2]
def TJ {f:B1→Int}:∀l:List B1,Ff (fun a=>Ff f a.pre) l=Ff f (B1.pres l)
 |[]=>rfl
 |a::l=>by rw[B1.pres,Rf,Ff,TJ l]
theorem OC {a y:B1} (hy:y∈a.pre):∀l:List B1,a∈l→y∈B1.pres l
 |[],h=>by simp at h
 |b::l,h=>by
  rcases List.mem_cons.1 h with rfl|h
  ·grind[B1.pres]
  simp[B1.pres,OC hy l h]
def Aw3 {N:Nat} (hN:Bgn N) {F:B1→Option Int} {f:B1→Int}:∀(n:Nat) (x:B1),x.bulk≤n→x.bulk≤16777216→(∀y∈x.pre,F y=some (f y))→Ea N n x F=some (Ff f x.pre):=by
 intro n
 induction n with
 |zero=>grind[Cl]
 | succ n ih=>
  intro x hx hb hF;have hl:=HQ x;have hpe:=B1.pre_eq x;unfold Ea;rw[hF x (by rw[hpe];simp)];simp only[A4,G2];rw[hpe,Ff]
  by_cases hz:f x=0
  ·simp only[hz,K3,R3,D6,C7,B4];rw[X4 x.cT (by omega) (mk:=fun(_:Unit) i=>i) (body:=IJ fun a=>Ea N n a F) (fin:=fun _=>.inl ()) (s:=()) (by omega) ?_ ?_]
   ·rw[FV (f:=fun a=>Ff f a.pre) fun a ha=>ih a (by have:=S4 ha;omega) (by have:=S4 ha;omega) fun y hy=>hF y (by rw[hpe];grind[OC]),TJ]
    grind
   ·intro s i a ha hi;have e:ar .add .i64 (i:Int) 1=i+1:=J1 (by omega) (by omega);simp only[C5,B2,hi,K3,B4,G4,ha,A4,e,IJ,G2]
    grind
   grind[C5,B2]
  simp[hz]
def Aq0 {N:Nat} (hN:Bgn N) {f:B1→Int} (hF:∀y,HI N y=some (f y)):∀(n:Nat) (x:B1),x.bulk≤n→x.bulk≤16777216→CT N n x=some (Ff f x.pre):=by
 intro n
 induction n with
 |zero=>grind[Cl]
 | succ n ih=>
  intro x hx hb;have hl:=HQ x;have hpe:=B1.pre_eq x;unfold CT;rw[hF x];simp only[A4,G2];rw[hpe,Ff]
  by_cases hz:f x=0
  ·simp only[hz,K3,R3,D6,C7,B4];rw[X4 x.cT (by omega) (mk:=fun(_:Unit) i=>i) (body:=IJ fun a=>CT N n a) (fin:=fun _=>.inl ()) (s:=()) (by omega) ?_ ?_]
   ·rw[FV (f:=fun a=>Ff f a.pre) fun a ha=>ih a (by have:=S4 ha;omega) (by have:=S4 ha;omega),TJ]
    grind
   ·intro s i a ha hi;have e:ar .add .i64 (i:Int) 1=i+1:=J1 (by omega) (by omega);simp only[C5,B2,hi,K3,B4,G4,ha,A4,e,IJ,G2]
    grind
   grind[C5,B2]
  simp[hz]
theorem RP {a b:ByteArray}:a.toList=b.toList↔a=b:=by
 rw[ByteArray.toList_eq,ByteArray.toList_eq]
 constructor
 ·intro h;obtain⟨⟨a⟩⟩:=a
  simp_all
 simp_all
theorem Sg (a b:ByteArray):scmp .neq a b= !decide (a=b):=by
 show(!(a.toList==b.toList))=_
 grind[RP]
def Mc (a b:ByteArray):scmp .eql a b=decide (a=b):=by
 show(a.toList==b.toList)=_
 grind[RP]
def AZ4 (N:Nat)(op:Int):KK N op=some (if op<0∨12<op then(0,false)else if op<5 then(0,true)else if op=12 then(1,true)else(2,true)):=by
 unfold KK;simp only[C5,N6,D9,K9,P0,C8]
 grind
def AQ7 (N:Nat) (op:Int):IQ N op=some (if op<0∨12<op then -1 else if op<5 then 0 else if op=12 then 1 else 2):=by
 have h:op<0∨op=0∨op=1∨op=2∨op=3∨op=4∨op=5∨op=6∨op=7∨op=8∨op=9∨op=10∨op=11∨op=12∨12<op:=by omega
 unfold IQ;simp only[D9]
 rcases h with h|h|h|h|h|h|h|h|h|h|h|h|h|h|h
 all_goals first
  |(subst h;rfl)
  | (have h0:op≠0:=by omega
     have h1:op≠1:=by omega
     have h2:op≠2:=by omega
     have h3:op≠3:=by omega
     have h4:op≠4:=by omega
     have h5:op≠5:=by omega
     have h6:op≠6:=by omega
     have h7:op≠7:=by omega
     have h8:op≠8:=by omega
     have h9:op≠9:=by omega
     have ha:op≠10:=by omega
     have hb:op≠11:=by omega
     have hc:op≠12:=by omega
     simp[h0,h1,h2,h3,h4,h5,h6,h7,h8,h9,ha,hb,hc,h])
def Bc8 (N:Nat)(op:Int):Nc N op=some (decide (op=1∨op=2∨op=3∨op=4),decide (op=1∨op=4)):=by
 unfold Nc;simp only[D9,C8]
 grind
def AV8 (N:Nat)(op:Int):Ko N op=some (decide (op=1∨op=2∨op=3∨op=4),decide (op=1∨op=4)):=by
 grind[Ko,D9,K9]
def Ak (v:I9):Int:=
 if v.Kind=0∨v.Kind=1 then
  if v.Text≠⟨#[]⟩then 3
  else if v.Kind=0∧(v.Num< -1099511627776∨1099511627776<v.Num)∨v.Kind=1∧v.Num≠0∧v.Num≠1 then 2 else 0
 else if v.Kind=2 then(if v.Num≠0 then 3 else if 64<(v.Text.size:Int)then 13 else 0)else 1
def Aw4 (N:Nat) (v:I9):IG N v=some (Ak v):=by
 obtain⟨k,n,t⟩:=v;unfold IG Kg Ak;simp only[D9,G2,C5,N6,P5,K9,Sg,LZ]
 by_cases h0:k=0
 ·subst h0
  by_cases ht:t=⟨#[]⟩
  ·subst ht
   by_cases h1:n< -1099511627776∨1099511627776<n
   ·simp[h1]
   simp[h1];decide
  simp[ht]
 by_cases h1:k=1
 ·subst h1
  by_cases ht:t=⟨#[]⟩
  ·subst ht
   by_cases h2:n=0
   ·simp[h2];decide
   by_cases h3:n=1
   ·simp[h3];decide
   simp_all
  simp[ht]
 grind
def Am2 (N:Nat)(v:I9):IT N v=some (Ak v):=by
 obtain⟨k,n,t⟩:=v;unfold IT Ak;simp only[D9,G2,C5,N6,P5,K9,Sg,LZ]
 grind
def WY (N:Nat)(k:Int)(v:I9):HV N k v=some (decide (v.Kind=0∨k=4∨k=5)):=by
 grind[HV,D9,K9]
def Uu (N:Nat)(k:Int)(v:I9)(h:k≠0):Gz N k v=some (decide (v.Kind=0∨k=4∨k=5)):=by
 grind[Gz,D9,K9]
def Aw5 (op:Int):Bool:=decide (op=1∨op=2∨op=3∨op=4)
def Aw6 (op:Int):Bool:=decide (op=1∨op=4)
noncomputable def XM (x:B1):Bool:=Ar.or (an (Aw5 x.Op) (Ar.or (cmp .lss x.Var 0) (cmp .geq x.Var 16))) (an (Aw6 x.Op) (Ar.or (cmp .lss x.Field 0) (cmp .geq x.Field 8)))
noncomputable def OX (x:B1):Bool:=an (cmp .eql x.Op 4) (Ar.or (cmp .lss x.Kind 1) (cmp .gtr x.Kind 5))
noncomputable def Af7 (v:I9):Bool:=an (cmp .eql v.Kind 0) (an (cmp .eql v.Num 0) (an (scmp .eql v.Text (⟨#[]⟩)) true))
noncomputable def Nq (x:B1):Bool:=Ar.or (nt (decide (x.Value.Kind=0∨x.Kind=4∨x.Kind=5))) (an (cmp .eql x.Kind 1) (nt (Af7 x.Value)))
noncomputable def OY (x:B1):Bool:=Ar.or (Ar.or (Ar.or (an (nt (Aw5 x.Op)) (cmp .neq x.Var 0)) (an (nt (Aw6 x.Op)) (cmp .neq x.Field 0))) (an (nt (cmp .eql x.Op 4)) (cmp .neq x.Kind 0))) (an (nt (Ar.or (cmp .eql x.Op 4) (cmp .eql x.Op 0))) (nt (Af7 x.Value)))
noncomputable def Bw (x:B1):Int:=
 if x.Op<0∨12<x.Op then 1
 else if(x.cT.length:Int)≠(if x.Op<5 then 0 else if x.Op=12 then 1 else 2)then 15
 else if XM x=true then 2
 else if OX x=true then 1
 else if(x.Op=4∨x.Op=0)∧Ak x.Value≠0 then Ak x.Value
 else if x.Op=4∧Nq x=true then 9
 else if OY x=true then 3 else 0
def Aq1 (N:Nat) (x:B1):HI N x=some (Bw x):=by
 unfold HI Bw;rw[AQ7,AV8];simp only[A4]
 by_cases h0:x.Op<0∨12<x.Op
 ·rw[A2 h0,A2 h0];rfl
 rw[A1 h0,A1 h0]
 have ha:¬(cmp .lss (if x.Op<5 then 0 else if x.Op=12 then 1 else 2) 0=true):=by
  rw[C5];grind
 rw[A1 ha]
 by_cases h1:(x.cT.length:Int)≠(if x.Op<5 then 0 else if x.Op=12 then 1 else 2)
 ·rw[A2 h1,A2 (by grind[G2,B2])]
 rw[A1 h1,A1 (by grind[G2,B2])]
 change (if XM x=true then some 2 else _)=_
 by_cases h2:XM x=true
 ·rw[A2 h2,A2 h2]
 rw[A1 h2,A1 h2]
 change (if OX x=true then some 1 else _)=_
 by_cases h3:OX x=true
 ·rw[A2 h3,A2 h3]
 rw[A1 h3,A1 h3];rw[Am2]
 have e4:(Ar.or (cmp .eql x.Op 4) (cmp .eql x.Op 0)=true)↔(x.Op=4∨x.Op=0):=by grind[D9,K9]
 have e6:(cmp .eql x.Op 4=true)↔x.Op=4:=by simp[D9]
 by_cases h4:x.Op=4∨x.Op=0
 ·rw [A2 (e4.2 h4)];simp only[A4]
  by_cases h5:Ak x.Value=0
  ·have n5:¬(cmp .neq (Ak x.Value) 0=true):=by simp[G2,h5]
   have n5':¬((x.Op=4∨x.Op=0)∧Ak x.Value≠0):=fun h=>h.2 h5;rw[A1 n5,A1 n5'];simp only[A4]
   by_cases h6:x.Op=4
   ·rw[A2 (e6.2 h6)]
    have hk:x.Kind≠0:=by
     grind[OX,P5,K9,C5]
    rw[Uu N _ _ hk];simp only[A4]
    change (if Nq x=true then some 9 else if OY x=true then some 3 else some 0)=_
    grind
   rw[A1 (show¬(cmp .eql x.Op 4=true)from fun h=>h6 (e6.1 h)),A1 (show¬(x.Op=4∧Nq x=true)from fun h=>h6 h.1)]
   change (if OY x=true then some 3 else some 0)=_
   grind
  have n5:cmp .neq (Ak x.Value) 0=true:=by simp[G2,h5]
  rw[A2 n5,A2 (show(x.Op=4∨x.Op=0)∧Ak x.Value≠0 from⟨h4,h5⟩)];rfl
 rw[A1 (show¬(Ar.or (cmp .eql x.Op 4) (cmp .eql x.Op 0)=true)from fun h=>h4 (e4.1 h)),A1 (show¬((x.Op=4∨x.Op=0)∧Ak x.Value≠0)from fun h=>h4 h.1)];simp only[A4];have h6:¬x.Op=4:=fun e=>h4 (.inl e);rw[A1 (show¬(cmp .eql x.Op 4=true)from fun h=>h6 (e6.1 h)),A1 (show¬(x.Op=4∧Nq x=true)from fun h=>h6 h.1)]
 change (if OY x=true then some 3 else some 0)=_
 grind
def AB1 (N:Nat) (x:B1):JW N x=some (Bw x):=by
 unfold JW Bw;rw[AZ4,Bc8];simp only[A4]
 by_cases h0:x.Op<0∨12<x.Op
 ·rw[A2 h0,A2 h0];rfl
 rw[A1 h0,A1 h0]
 have ha:(if x.Op<5 then((0:Int),true)else if x.Op=12 then(1,true)else(2,true))=((if x.Op<5 then 0 else if x.Op=12 then 1 else 2),true):=by
  grind
 rw[ha];rw[A1 (by simp[N7])]
 by_cases h1:(x.cT.length:Int)≠(if x.Op<5 then 0 else if x.Op=12 then 1 else 2)
 ·rw[A2 h1,A2 (by grind[G2,B2])]
 rw[A1 h1,A1 (by grind[G2,B2])]
 change (if XM x=true then some 2 else _)=_
 by_cases h2:XM x=true
 ·rw[A2 h2,A2 h2]
 rw[A1 h2,A1 h2]
 change (if OX x=true then some 1 else _)=_
 by_cases h3:OX x=true
 ·rw[A2 h3,A2 h3]
 rw[A1 h3,A1 h3];unfold HW;rw[Aw4]
 have e4:(Ar.or (cmp .eql x.Op 4) (cmp .eql x.Op 0)=true)↔(x.Op=4∨x.Op=0):=by grind[D9,K9]
 have e6:(cmp .eql x.Op 4=true)↔x.Op=4:=by simp[D9]
 by_cases h4:x.Op=4∨x.Op=0
 ·rw[A2 (e4.2 h4)];simp only[A4]
  by_cases h5:Ak x.Value=0
  ·have n5:¬(cmp .neq (Ak x.Value) 0=true):=by simp[G2,h5]
   have n5':¬((x.Op=4∨x.Op=0)∧Ak x.Value≠0):=fun h=>h.2 h5;rw[A1 n5,A1 n5']
   by_cases h6:x.Op=4
   ·rw[A2 (e6.2 h6),WY];simp only[A4]
    change (((if Nq x=true then some 9 else some 0):Option Int).bind _).bind _=_
    by_cases h7:Nq x=true
    ·rw[A2 h7,A2 (show x.Op=4∧Nq x=true from⟨h6,h7⟩)];rfl
    rw[A1 h7,A1 (show¬(x.Op=4∧Nq x=true)from fun h=>h7 h.2)]
    change (if OY x=true then some 3 else some 0)=_
    grind
   rw[A1 (show¬(cmp .eql x.Op 4=true)from fun h=>h6 (e6.1 h)),A1 (show¬(x.Op=4∧Nq x=true)from fun h=>h6 h.1)]
   change (if OY x=true then some 3 else some 0)=_
   grind
  have n5:cmp .neq (Ak x.Value) 0=true:=by simp[G2,h5]
  rw[A2 n5,A2 (show(x.Op=4∨x.Op=0)∧Ak x.Value≠0 from⟨h4,h5⟩)]
  simp_all
 rw[A1 (show¬(Ar.or (cmp .eql x.Op 4) (cmp .eql x.Op 0)=true)from fun h=>h4 (e4.1 h)),A1 (show¬((x.Op=4∨x.Op=0)∧Ak x.Value≠0)from fun h=>h4 h.1)];have h6:¬x.Op=4:=fun e=>h4 (.inl e);rw[A1 (show¬(x.Op=4∧Nq x=true)from fun h=>h6 h.1)]
 change (if OY x=true then some 3 else some 0)=_
 grind
def Ci {a b:Int}(h:b<a):cmp .gtr a b=true:=by rw[N6];simp_all
def AJ {a b:Int}(h:¬b<a):¬(cmp .gtr a b=true):=by rw[N6];grind
theorem X7 {a b:Int}(h:a≠b):cmp .neq a b=true:=by rw[G2];grind
def Q1 {a b:Int}(h:a=b):¬(cmp .neq a b=true):=by rw[G2];grind
noncomputable def T1 (x:B1):Int:=if 64<x.pre.length then 5 else if 12<x.dep then 12 else Ff Bw x.pre
theorem Qi {N:Nat}(hN:Bgn N){x:B1}(hb:x.bulk≤16777216):HX N x=some (T1 x):=by
 unfold HX T1;rw[Am7 hN N x (by omega) hb];simp only[A4]
 by_cases h1:64<x.pre.length
 ·rw[A2 h1,A2 (Ci (by omega))]
 rw[A1 h1,A1 (AJ (by omega))]
 by_cases h2:12<x.dep
 ·rw[A2 h2,A2 (Ci (by omega))]
 rw[A1 h2,A1 (AJ (by omega)),Aw3 hN N x (by omega) hb fun y _=>AB1 N y];rfl
theorem Oi {N:Nat}(hN:Bgn N){x:B1}(hb:x.bulk≤16777216):Ej N x=some (T1 x):=by
 unfold Ej T1;obtain⟨r,h0,c1,c2,c3⟩:=YR hN 64 N x (by omega) hb;rw[h0];simp only[A4]
 by_cases h1:64<x.pre.length
 ·rw[A2 h1,A2 (Ci (by omega))]
 rw[A1 h1,A1 (AJ (by omega)),Ac9 hN N x (by omega) hb];simp only[A4]
 by_cases h2:12<x.dep
 ·rw[A2 h2,A2 (Ci (by omega))]
 rw[A1 h2,A1 (AJ (by omega)),Aq0 hN (fun y=>Aq1 N y) N x (by omega) hb];rfl
noncomputable def Tb (a b:B1):Bool:=Ar.or (Ar.or (Ar.or (Ar.or (Ar.or (cmp .neq a.Op b.Op) (cmp .neq a.Var b.Var)) (cmp .neq a.Field b.Field)) (cmp .neq a.Kind b.Kind)) (nt (an (cmp .eql a.Value.Kind b.Value.Kind) (an (cmp .eql a.Value.Num b.Value.Num) (an (scmp .eql a.Value.Text b.Value.Text) true))))) (cmp .neq (Ar.len a.cT) (Ar.len b.cT))
def JL (N:Nat):∀(n:Nat) (a b:B1),BM N n a b=R5 N n a b
 |0,_,_=>rfl
 |n+1,a,b=>by
  unfold BM R5;simp only[JL N n]
def PO {N:Nat} (hN:Bgn N) (x:B1):∃b,R5 N N x (⟨0,[],0,0,0,(⟨0,0,⟨#[]⟩⟩:I9)⟩:B1)=some b:=by
 obtain⟨M,rfl⟩:∃M,N=M+1:=⟨N-1,by omega⟩;rw[R5];generalize hz:(⟨0,[],0,0,0,(⟨0,0,⟨#[]⟩⟩:I9)⟩:B1)=z
 change ∃b,(if Tb x z=true then some false else _)=some b
 by_cases h:Tb x z=true
 ·rw[A2 h];simp_all
 rw[A1 h]
 have hlen:x.cT.length=0:=by
  grind[Tb,K9,G2,B2]
 have:x.cT=[]:=List.length_eq_zero_iff.1 hlen
 simp_all[loopN,C5,B2]
def Hl (u:Bool)(n m:Int):Bool:=u&&(decide (n<0)||decide (m<n))
def U6 (u:Bool)(n:Int):Bool:=u||decide (n=0)
def MM (N:Nat)(u:Bool)(n m:Int):AG N u n m=some (!Hl u n m):=by
 grind[AG,K9,P5,N7,U8,Jg,Hl]
def Am3 (N:Nat)(u:Bool)(n:Int):T6 N u n=some (U6 u n):=rfl
def AZ3 (N:Nat)(u:Bool)(n m:Int):Cs N u n m=some (Hl u n m):=rfl
noncomputable def NP (s:Q2)(x:A0)(sz:Bool):Int:=
 if Hl s.typed x.Typ 15=true then 2
 else if Hl s.typed x.Var 15=true then 2
 else if Hl s.scope x.cY 63=true then 2
 else if Hl s.span x.Span 1099511627776=true then 2
 else if s.cond=true∧T1 x.cU≠0 then T1 x.cU
 else if(s.cond||sz)=true∧U6 s.typed x.Typ=true∧U6 s.typed x.Var=true∧U6 s.scope x.cY=true∧U6 s.span x.Span=true then 0 else 3
structure PA (N:Nat) (x:A0) (s:Q2) (ng:Bool):Prop where
 tab:B8 M8 x.Op=some s
 var:Y4 N x=some s.typed
 neg:T5 N x=some ng
 tim:Y5 N x=some s.span
 con:DE N x=some s.cond
 sco:s.scope=(ng||s.span)
 ari:IM N x=some (decide (s.least≤x.cT.length∧(x.cT.length:Int)≤s.most))
def AY6 (n k:Int):decide (n=k)=(decide (k≤n)&&decide (n≤k)):=by
 rw[←Bool.decide_and]
 grind
def Mb (N:Nat) (x:A0) (h0:0≤x.Op) (h1:x.Op≤10) (hl:x.cT.length≤64):∃s ng,PA N x s ng:=by
 obtain⟨op,args,typ,var,scope,span,c⟩:=x
 simp only at h0 h1 hl
 have h:op=0∨op=1∨op=2∨op=3∨op=4∨op=5∨op=6∨op=7∨op=8∨op=9∨op=10:=by omega
 rcases h with h|h|h|h|h|h|h|h|h|h|h
 all_goals
  subst h;refine⟨_,_,rfl,rfl,rfl,rfl,rfl,rfl,?_⟩;unfold IM;simp only[D9,U8,B2];simp
  try first|omega|exact AY6 _ _
def Be3 {x:A0}(h0:0≤x.Op)(h1:x.Op≤10):¬(Ar.or (cmp .lss x.Op 0) (cmp .geq x.Op 11)=true):=by
 simp only[K9,C5,U8,P0,C8];omega
def AW9 {x:A0}(h0:0≤x.Op)(h1:x.Op≤10):¬(Ar.or (cmp .lss x.Op 0) (cmp .gtr x.Op 10)=true):=by
 simp_all[K9,C5,N6]
def AA7 {x:A0}(h:¬(0≤x.Op∧x.Op≤10)):Ar.or (cmp .lss x.Op 0) (cmp .geq x.Op 11)=true∧Ar.or (cmp .lss x.Op 0) (cmp .gtr x.Op 10)=true:=by
 simp only[K9,C5,U8,N6,P0,C8];omega
def At3 {N:Nat} (hN:Bgn N) {x:A0} (hb:x.cU.bulk≤16777216) (h0:0≤x.Op) (h1:x.Op≤10) {s:Q2} {ng:Bool} (hs:PA N x s ng) {sz:Bool}
 (hz:R5 N N x.cU (⟨0,[],0,0,0,(⟨0,0,⟨#[]⟩⟩:I9)⟩:B1)=some sz):
 Au N x=some (if s.least≤x.cT.length∧(x.cT.length:Int)≤s.most then NP s x sz else 15):=by
 unfold Au;rw[A1 (Be3 h0 h1),hs.tab];simp only[A4]
 by_cases ha:s.least≤x.cT.length∧(x.cT.length:Int)≤s.most
 ·rw [A2 ha,A1 (by simp_all[K9,C5,N6,B2])];rw[MM,MM,MM,MM,Qi hN hb,JL,hz];simp only[Am3,A4];unfold NP;generalize Hl s.typed x.Typ 15=b1;generalize Hl s.typed x.Var 15=b2;generalize Hl s.scope x.cY 63=b3;generalize Hl s.span x.Span 1099511627776=b4;generalize U6 s.typed x.Typ=c1;generalize U6 s.typed x.Var=c2;generalize U6 s.scope x.cY=c3;generalize U6 s.span x.Span=c4;generalize T1 x.cU=ec
  cases b1 with
  |true=>rfl
  | false =>
   cases b2 with
   |true=>rfl
   | false =>
    cases b3 with
    |true=>rfl
    | false=>
     cases b4 with
     |true=>rfl
     | false=>
      cases s.cond with
      | false=>
       cases sz with
       |false=>rfl
       | true=>
        cases c1 with
        |false=>rfl
        | true=>
         cases c2 with
         |false=>rfl
         | true=>
          cases c3 with
          |false=>rfl
          |true=>
           cases c4<;>rfl
      | true=>
       by_cases he:ec=0
       ·subst he
        cases c1 with
        |false=>cases sz<;>rfl
        | true=>
         cases c2 with
         |false=>cases sz<;>rfl
         | true=>
          cases c3 with
          |false=>cases sz<;>rfl
          |true=>
           cases c4<;>cases sz<;>rfl
       grind[N7,X7]
 rw[A1 ha,A2 (by simp only[K9,C5,N6,B2,P0,C8];omega)]
def SU (u:Bool)(n:Int):an (nt u) (cmp .neq n 0)= !U6 u n:=by
 grind[P5,N7,G2,U6]
def Aj6 (u w:Bool)(t v sc:Int):Ar.or (an (nt u) (Ar.or (cmp .neq t 0) (cmp .neq v 0))) (an (nt w) (cmp .neq sc 0))=((!U6 u t|| !U6 u v)|| !U6 w sc):=by
 rw[SU]
 grind[K9,P5,N7,G2,U6]
def Ic {N:Nat} (hN:Bgn N) {x:A0} (hb:x.cU.bulk≤16777216) (h0:0≤x.Op) (h1:x.Op≤10) {s:Q2} {ng:Bool} (hs:PA N x s ng) {sz:Bool}
 (hz:R5 N N x.cU (⟨0,[],0,0,0,(⟨0,0,⟨#[]⟩⟩:I9)⟩:B1)=some sz):
 Bo N x=some (if s.least≤x.cT.length∧(x.cT.length:Int)≤s.most then NP s x sz else 15):=by
 unfold Bo;rw[A1 (AW9 h0 h1),hs.ari,hs.var,hs.neg,hs.tim,hs.con,Oi hN hb,hz];simp only[A4]
 by_cases ha:s.least≤x.cT.length∧(x.cT.length:Int)≤s.most
 ·rw [A2 ha,A1 (by simp[N7,ha])];have sco:=hs.sco;simp only[AZ3,A4];cases ng
  ·rw [A1 (by simp)]
   simp only[DN]at sco
   rw[Aj6,SU];unfold NP;rw[sco];generalize Hl s.typed x.Typ 15=b1;generalize Hl s.typed x.Var 15=b2;generalize Hl s.span x.cY 63=b3;generalize Hl s.span x.Span 1099511627776=b4;generalize U6 s.typed x.Typ=c1;generalize U6 s.typed x.Var=c2;generalize U6 s.span x.cY=c3;generalize U6 s.span x.Span=c4;generalize T1 x.cU=ec
   cases b1 with
   |true=>rfl
   | false=>
    cases b2 with
    |true=>rfl
    | false=>
     cases b3 with
     |true=>rfl
     | false=>
      cases b4 with
      |true=>rfl
      | false=>
       cases s.cond with
       |false=>cases sz<;>cases c1<;>cases c2<;>cases c3<;>cases c4<;>rfl
       |true=>
        by_cases he:ec=0
        ·subst he;cases sz<;>cases c1<;>cases c2<;>cases c3<;>cases c4<;>rfl
        grind[X7]
  rw[A2 rfl]
  simp only[Bool.true_or]at sco
  rw[Aj6,SU];unfold NP;rw[sco];generalize Hl s.typed x.Typ 15=b1;generalize Hl s.typed x.Var 15=b2;generalize Hl true x.cY 63=b3;generalize Hl s.span x.Span 1099511627776=b4;generalize U6 s.typed x.Typ=c1;generalize U6 s.typed x.Var=c2;generalize U6 true x.cY=c3;generalize U6 s.span x.Span=c4;generalize T1 x.cU=ec
  cases b1 with
  |true=>rfl
  | false=>
   cases b2 with
   |true=>rfl
   | false=>
    cases b3 with
    |true=>rfl
    | false=>
     cases b4 with
     |true=>rfl
     | false=>
      cases s.cond with
      |false=>cases sz<;>cases c1<;>cases c2<;>cases c3<;>cases c4<;>rfl
      |true=>
       by_cases he:ec=0
       ·subst he;cases sz<;>cases c1<;>cases c2<;>cases c3<;>cases c4<;>rfl
       grind[X7]
 simp_all[A1,N7,V2]
mutual
def IX:∀(x y:A0),y∈x.pre→y.bulk≤x.bulk∧y.pre.length≤x.pre.length
 |⟨op,args,typ,var,scope,span,c⟩,y,h=>by
  rw[A0.pre]at h
  rcases List.mem_cons.1 h with rfl|h
  ·omega
  have:=SO args y h
  grind[A0.bulk,A0.pre]
def SO:∀(l:List A0) (y:A0),y∈A0.pres l→y.bulk≤A0.bulks l∧y.pre.length≤(A0.pres l).length
 |[],y,h=>by grind[A0.pres]
 | a::l,y,h=>by
  rw[A0.pres]at h
  rcases List.mem_append.1 h with h|h
  ·have:=IX a y h
   grind[A0.bulks,A0.pres]
  have:=SO l y h
  grind[A0.bulks,A0.pres]
end
def Vo:∀l:List A0,l.length≤(A0.pres l).length
 |[]=>D5 _
 |a::l=>by
  have:=Vo l
  grind[A0.pres,A0.pre_eq]
def EZ (x:A0):x.cT.length<x.pre.length:=by
 rw[A0.pre_eq];have:=Vo x.cT;grind
noncomputable def Ba (N:Nat)(y:A0):Int:=(Bo N y).getD 0
def FC {N:Nat} (hN:Bgn N) {y:A0} (hb:y.bulk≤16777216) (hl:y.cT.length≤64):Au N y=some (Ba N y)∧Bo N y=some (Ba N y):=by
 have hc:y.cU.bulk≤16777216:=by have:=A0.bulk_eq y;omega
 have key:∃r,Au N y=some r∧Bo N y=some r:=by
  by_cases h:0≤y.Op∧y.Op≤10
  ·obtain⟨s,ng,hs⟩:=Mb N y h.1 h.2 hl;obtain⟨sz,hz⟩:=PO hN y.cU;exact⟨_,At3 hN hc h.1 h.2 hs hz,Ic hN hc h.1 h.2 hs hz⟩
  simp_all[AA7,Au,Bo]
 grind[Ba]
noncomputable def M0 (N:Nat)(x:A0):Int:=if 64<x.pre.length then 5 else if 12<x.dep then 12 else Ff (Ba N) x.pre
def Ml {N:Nat}(hN:Bgn N){x:A0}(hb:x.bulk≤16777216):AA N x=some x.pre:=by
 unfold AA DW;rw[AJ2 hN N x (by omega) hb];simp[L6]
def Rr {N:Nat}(hN:Bgn N){x:A0}(hb:x.bulk≤16777216):M3 N x=some (M0 N x):=by
 unfold M3 M0;rw[AJ8 hN N x (by omega) hb];simp only[A4]
 by_cases h1:64<x.pre.length
 ·rw[A2 h1,A2 (Ci (by omega))]
 rw[A1 h1,A1 (AJ (by omega))]
 by_cases h2:12<x.dep
 ·rw[A2 h2,A2 (Ci (by omega))]
 rw[A1 h2,A1 (AJ (by omega)),Ml hN hb];simp only[A4];rw[UC (f:=Ba N) fun y hy=>(FC hN (by have:=IX x y hy;omega) (by have:=IX x y hy;have:=EZ y;omega)).1]
 grind
def Sn {N:Nat} (hN:Bgn N) {x:A0} (hb:x.bulk≤16777216):V8 N x=some (M0 N x):=by
 unfold V8 M0;obtain⟨r,h0,c1,c2,c3⟩:=WW hN 64 N x (by omega) hb;rw[h0];simp only[A4]
 by_cases h1:64<x.pre.length
 ·rw[A2 h1,A2 (Ci (by omega))]
 rw[A1 h1,A1 (AJ (by omega)),AF8 hN N x (by omega) hb];simp only[A4]
 by_cases h2:12<x.dep
 ·rw[A2 h2,A2 (Ci (by omega))]
 rw[A1 h2,A1 (AJ (by omega)),OO hN N x (by omega) hb];simp only[A4];rw[X4 x.pre (by omega) (mk:=fun(_:Unit) i=>i) (body:=IJ (Bo N)) (fin:=fun _=>.inl ()) (s:=()) (by omega) ?_ ?_]
 ·rw[FV (f:=Ba N) fun y hy=>(FC hN (by have:=IX x y hy;omega) (by have:=IX x y hy;have:=EZ y;omega)).2]
  grind
 ·intro s i a ha hi;have e:ar .add .i64 (i:Int) 1=i+1:=J1 (by omega) (by omega);simp only[C5,B2,hi,K3,B4,G4,ha,A4,e,IJ,G2]
  grind
 grind[C5,B2]
def Uk (N:Nat)(x:A0):Prop:=∀y∈x.pre,Ba N y=0
theorem NC {a y:A0} (hy:y∈a.pre):∀l:List A0,a∈l→y∈A0.pres l
 |[],h=>by simp at h
 |b::l,h=>by
  rcases List.mem_cons.1 h with rfl|h
  ·grind[A0.pres]
  simp[A0.pres,NC hy l h]
def Uk.arg {N:Nat}{x a:A0}(h:Uk N x)(ha:a∈x.cT):Uk N a:=fun y hy=>h y (by
 rw[A0.pre_eq];grind[NC])
def Kt {x a:A0}(ha:a∈x.cT):a.pre.length<x.pre.length:=by
 have:=(SO x.cT a (NC (by rw[A0.pre_eq];simp) _ ha)).2;rw[A0.pre_eq x];grind
def Ae4 {N:Nat} (hN:Bgn N) {y:A0} (hb:y.bulk≤16777216) (hl:y.cT.length≤64) (h:Ba N y=0) (ho:y.Op=1∨y.Op=7∨y.Op=8∨y.Op=9∨y.Op=10):∃a r,y.cT=a::r:=by
 have hc:y.cU.bulk≤16777216:=by have:=A0.bulk_eq y;omega
 obtain⟨s,ng,hs⟩:=Mb N y (by omega) (by omega) hl;obtain⟨sz,hz⟩:=PO hN y.cU;have h1:=Ic hN hc (by omega) (by omega) hs hz
 rw[(FC hN hb hl).2,h]at h1
 have h2:s.least≤y.cT.length:=by
  have h1:=Bl h1;omega
 have h3:1≤s.least:=by
  have ht:=hs.tab
  rcases ho with h|h|h|h|h<;>rw[h]at ht<;>cases ht<;>decide
 match he:y.cT,h2 with
 |[],h2=>grind
 |a::r,_=>simp_all
def Z1 {a b:Int}(h:a=b):cmp .eql a b=true:=by rw[D9];simp_all
def N4 {a b:Int}(h:¬a=b):cmp .eql a b=false:=by rw[D9];simp_all
def EN {S R:Type} {step:S→Option (S⊕R)} (I:Nat→S→Prop) (Q:R→Prop):∀(k i:Nat) (s:S) (N:Nat),k<N→I i s→
 (∀j s,i≤j→j<i+k→I j s→∃o,step s=some o∧(match o with| .inl s'=>I (j+1) s'| .inr r=>Q r))→
 (∀s,I (i+k) s→∃r,step s=some (.inr r)∧Q r)→∃r,loopN step N s=some r∧Q r
 |0,i,s,N,hN,h0,_,he=>by
  obtain⟨N,rfl⟩:∃M,N=M+1:=⟨N-1,by omega⟩
  grind[loopN]
 | k+1,i,s,N,hN,h0,hs,he=>by
  obtain⟨N,rfl⟩:∃M,N=M+1:=⟨N-1,by omega⟩;obtain⟨o,h1,h2⟩:=hs i s (D5 _) (by omega) h0
  cases o with
  |inl s'=>
   obtain⟨r,h3,h4⟩:=EN I Q k (i+1) s' N (by omega) h2 (fun j s a b c=>hs j s (by omega) (by omega) c) (fun s h=>he s (by rw[show i+(k+1)=i+1+k by omega];exact h))
   simp_all[loopN]
  |inr r=>simp_all[loopN]
def AC6 {S R:Type}{step:S→Option (S⊕R)}(st:Nat→S)(k:Nat)(r:R){N:Nat}(hN:k<N)(hs:∀j,j<k→step (st j)=some (.inl (st (j+1))))(he:step (st k)=some (.inr r)):loopN step N (st 0)=some r:=by
 obtain⟨r',h1,h2⟩:=EN (step:=step) (fun i s=>s=st i) (fun r'=>r'=r) k 0 (st 0) N hN rfl (fun j s _ h h2=>by simp_all) (fun s h=>by simp_all);rw[h1,h2]
def UJ {β S R:Type} {step:S→Option (List β×(S⊕R))} (st:Nat→S) (f:Nat→List β) (w:List β) (r:R):∀(k i:Nat) {N:Nat},k<N→(∀j,i≤j→j<i+k→step (st j)=some (f j,.inl (st (j+1))))→step (st (i+k))=some (w,.inr r)→
 Z5 step N (st i)=some ((List.range' i k).flatMap f++w,r)
 |0,i,N,hN,_,he=>by
  obtain⟨N,rfl⟩:∃M,N=M+1:=⟨N-1,by omega⟩
  simp_all[Z5]
 |k+1,i,N,hN,hs,he=>by
  obtain⟨N,rfl⟩:∃M,N=M+1:=⟨N-1,by omega⟩;have:=UJ st f w r k (i+1) (N:=N) (by omega) (fun j a b=>hs j (by omega) (by omega)) (by rw[show i+1+k=i+(k+1) by omega];exact he)
  simp_all[Z5,JZ]
def Fz {α β:Type} {R:Type} {step:Unit→α→Option (List β×(Unit⊕R))} (f:α→List β):∀{l:List α},(∀x∈l,step () x=some (f x,.inl ()))→CU step l ()=some (l.flatMap f,.inl ())
 |[],_=>rfl
 |x::l,h=>by
  have:=Fz f (l:=l) fun y hy=>h y (by simp[hy])
  simp_all[CU]
noncomputable instance :DecidableEq B1:=Classical.typeDecidableEq _
noncomputable instance :DecidableEq A0:=Classical.typeDecidableEq _
noncomputable instance :DecidableEq C4:=Classical.typeDecidableEq _
noncomputable instance :DecidableEq V9:=Classical.typeDecidableEq _
noncomputable instance :DecidableEq A6:=Classical.typeDecidableEq _
theorem P4 {i:Nat}(h:i<1000000000000):ar .add .i64 (i:Int) 1=((i+1:Nat):Int):=by rw[J1 (by omega) (by omega)];omega
def Nf {α:Type} [DecidableEq α] {N:Nat} (l m:List α) (hl:l.length=m.length) (hs:l.length<1000000000000) (f:α→α→Option Bool) (hf:∀x∈l,∀y∈m,f x y=some (decide (x=y))) (hN:l.length<N):
 loopN (fun(i:Int)=>if cmp .lss i (Ar.len l)=true then(B8 l i).bind fun x=>(B8 m i).bind fun y=>(f x y).bind fun r=>if nt r=true then some (Sum.inr (Sum.inr (α:=Unit) ()))else some (.inl (ar .add .i64 i 1))else some (.inr (.inl ()))) N 0=some (if l=m then .inl ()else .inr ()):=by
 obtain⟨r,h1,h2⟩:=EN (step:=fun(i:Int)=>if cmp .lss i (Ar.len l)=true then(B8 l i).bind fun x=>(B8 m i).bind fun y=>(f x y).bind fun r=>if nt r=true then some (Sum.inr (Sum.inr (α:=Unit) ()))else some (.inl (ar .add .i64 i 1))else some (.inr (.inl ())))
  (fun j s=>s=(j:Int)∧l.take j=m.take j) (fun r=>r=if l=m then .inl ()else .inr ()) l.length 0 0 N hN ⟨rfl,by simp⟩
  (fun j s _ hj ⟨e,ht⟩=>by
   subst e
   simp only[L8]at hj
   have hj2:j<m.length:=by omega
   have e1:l[j]? =some l[j]:=by simp[hj]
   have e2:m[j]? =some m[j]:=by simp[hj2]
   simp only[C5,B2,show((j:Int)<(l.length:Int)) by omega,K3,B4,G4,e1,e2,A4,hf _ (G7 hj) _ (G7 hj2)]
   by_cases h:l[j]=m[j]
   ·simp only[h,K3,N7,R3,D6,C7]
    grind[P4,List.take_add_one]
   simp only[h,Ll,N7,Bj,B4]
   grind)
  (fun s ⟨e,ht⟩=>by
   subst e
   simp only[L8]at ht ⊢
   refine⟨.inl (),by grind[C5,B2],?_⟩
   rw[Gn,hl,Gn]at ht
   rw[A2 ht])
 rw[h1,h2]
def Yt {a b:B1}:a=b↔(a.Op=b.Op∧a.Var=b.Var∧a.Field=b.Field∧a.Kind=b.Kind∧a.Value=b.Value)∧a.cT=b.cT:=by
 cases a;cases b;grind
def Ar5 {a b:I9}:a=b↔a.Kind=b.Kind∧a.Num=b.Num∧a.Text=b.Text:=by cases a;cases b;simp
def Z0 {a b:A0}:a=b↔(a.Op=b.Op∧a.Typ=b.Typ∧a.Var=b.Var∧a.cY=b.cY∧a.Span=b.Span)∧a.cU=b.cU∧a.cT=b.cT:=by
 cases a;cases b;grind
def UV (a b:B1):Tb a b=true↔¬((a.Op=b.Op∧a.Var=b.Var∧a.Field=b.Field∧a.Kind=b.Kind∧a.Value=b.Value)∧a.cT.length=b.cT.length):=by
 simp only[Tb,K9,P5,N7,G2,D9,Mc,B2,Ar5,P0,P1,S1,Bool.and_eq_false_iff,Bool.and_true,Classical.not_and_iff_not_or_not]
 grind
theorem QJ {N:Nat} (hN:Bgn N):∀(n:Nat) (a b:B1),a.bulk≤n→a.bulk≤16777216→R5 N n a b=some (decide (a=b)):=by
 intro n
 induction n with
 |zero=>grind[Cl]
 | succ n ih=>
  intro a b hx hb;have hl:=HQ a;unfold R5
  change (if Tb a b=true then some false else _)=_
  by_cases h:Tb a b=true
  ·rw[A2 h]
   rw[UV]at h
   rw[V2]
   grind
  rw[A1 h]
  rw[UV,Classical.not_not]at h
  rw[Nf a.cT b.cT h.2 (by omega) _ (fun x hx y hy=>ih x y (by have:=S4 hx;omega) (by have:=S4 hx;omega)) (by omega)];simp only[A4]
  by_cases he:a.cT=b.cT
  ·rw[A2 he,Lp (Yt.2 ⟨h.1,he⟩)]
  simp_all[Yt]
def Ay9 {N:Nat} (hN:Bgn N):∀(n:Nat) (a b:A0),a.bulk≤n→a.bulk≤16777216→Af N n a b=some (decide (a=b)):=by
 intro n
 induction n with
 |zero=>grind[GD]
 | succ n ih=>
  intro a b hx hb;have hl:=HR a;have hc:=A0.bulk_eq a;unfold Af
  by_cases h:a.Op=b.Op∧a.Typ=b.Typ∧a.Var=b.Var∧a.cY=b.cY∧a.Span=b.Span
  ·rw[A1 (by grind[K9,G2]),QJ hN N a.cU b.cU (by omega) (by omega)];simp only[A4]
   by_cases hq:a.cU=b.cU∧a.cT.length=b.cT.length
   ·rw[A1 (by grind[K9,N7,G2,B2]),Nf a.cT b.cT hq.2 (by omega) _ (fun x hx y hy=>ih x y (by have:=AI hx;omega) (by have:=AI hx;omega)) (by omega)];simp only[A4]
    by_cases he:a.cT=b.cT
    ·rw[A2 he,Lp (Z0.2 ⟨h,hq.1,he⟩)]
    simp_all[Z0]
   rw[A2,V2 fun e=>hq ⟨(Z0.1 e).2.1,by rw[(Z0.1 e).2.2]⟩];simp only[K9,N7,G2,B2,P0,P1,S1]
   grind
  rw[A2,V2 fun e=>h (Z0.1 e).1];simp only[K9,G2,P0,P1,S1];omega
theorem AT1 {N:Nat} (hN:Bgn N):∀(n:Nat) (a b:A0),a.bulk≤n→a.bulk≤16777216→AZ N n a b=some (decide (a=b)):=by
 intro n
 induction n with
 |zero=>grind[GD]
 | succ n ih=>
  intro a b hx hb;have hl:=HR a;have hc:=A0.bulk_eq a;unfold AZ
  by_cases h:a.Op=b.Op∧a.Typ=b.Typ∧a.Var=b.Var∧a.cY=b.cY∧a.Span=b.Span
  ·rw[A1 (by grind[K9,G2]),JL,QJ hN N a.cU b.cU (by omega) (by omega)];simp only[A4]
   by_cases hq:a.cU=b.cU
   ·rw[A1 (by simp[N7,hq])];unfold M9
    by_cases hq2:a.cT.length=b.cT.length
    ·rw[A1 (by grind[G2,B2]),Nf a.cT b.cT hq2 (by omega) _ (fun x hx y hy=>ih x y (by have:=AI hx;omega) (by have:=AI hx;omega)) (by omega)];simp only[A4]
     by_cases he:a.cT=b.cT
     ·rw[A2 he,Lp (Z0.2 ⟨h,hq,he⟩)];rfl
     simp_all[Z0]
    rw[A2 (by grind[G2,B2]),V2 fun e=>hq2 (by rw[(Z0.1 e).2.2])];rfl
   simp_all[N7,Z0]
  rw[A2,V2 fun e=>h (Z0.1 e).1];simp only[K9,G2,P0,P1,S1];omega
structure Bg5 (y:A0):Prop where
 op:0≤y.Op∧y.Op≤10
 ev:y.Op=0→y.cT=[]
 two:1≤y.Op→y.Op≤3→2≤y.cT.length
 one:4≤y.Op→y.Op≠8→∃a,y.cT=[a]
 more:y.Op=8→∃a b,y.cT=[a,b]
def AD3 {α:Type}{l:List α}(h:l.length=1):∃a,l=[a]:=List.length_eq_one_iff.1 h
def AD2 {α:Type}{l:List α}(h:l.length=2):∃a b,l=[a,b]:=by
 match l,h with
 |[a,b],_=>simp_all
def TK {N:Nat} (hN:Bgn N) {y:A0} (hb:y.bulk≤16777216) (hl:y.cT.length≤64) (h:Ba N y=0):Bg5 y:=by
 have hc:y.cU.bulk≤16777216:=by have:=A0.bulk_eq y;omega
 by_cases hop:0≤y.Op∧y.Op≤10
 ·obtain⟨s,ng,hs⟩:=Mb N y hop.1 hop.2 hl;obtain⟨sz,hz⟩:=PO hN y.cU;have h1:=Ic hN hc hop.1 hop.2 hs hz
  rw[(FC hN hb hl).2,h]at h1
  have h2:s.least≤y.cT.length∧(y.cT.length:Int)≤s.most:=by
   have h1:=Bl h1;omega
  have ht:=hs.tab;refine⟨hop,fun ho=>?_,fun ha hb=>?_,fun ha hb=>?_,fun ho=>?_⟩
  ·rw[ho]at ht;cases ht
   simp only at h2
   exact QB (by omega)
  ·have ho:y.Op=1∨y.Op=2∨y.Op=3:=by omega
   rcases ho with ho|ho|ho<;>rw[ho]at ht<;>cases ht<;>simp only at h2<;>omega
  ·have ho:y.Op=4∨y.Op=5∨y.Op=6∨y.Op=7∨y.Op=9∨y.Op=10:=by omega
   apply AD3
   rcases ho with ho|ho|ho|ho|ho|ho<;>rw[ho]at ht<;>cases ht<;>simp only at h2<;>omega
  apply AD2
  rw[ho]at ht;cases ht;grind
 simp_all[AA7,Ba,Bo]
def Qc {β S R:Type}{step:S→Option (List β×(S⊕R))}(st:Nat→S)(f:Nat→List β)(w:List β)(r:R)(k:Nat){s0:S}{N:Nat}(h0:s0=st 0)(hN:k<N)(hs:∀j,j<k→step (st j)=some (f j,.inl (st (j+1))))(he:step (st k)=some (w,.inr r)):
 Z5 step N s0=some ((List.range k).flatMap f++w,r):=by
 rw[h0,UJ st f w r k 0 hN (fun j _ h=>hs j (by omega)) (by rw[L8];exact he),Kb]
def JR {S R:Type}{step:S→Option (S⊕R)}(st:Nat→S)(k:Nat)(r:R){s0:S}{N:Nat}(h0:s0=st 0)(hN:k<N)(hs:∀j,j<k→step (st j)=some (.inl (st (j+1))))(he:step (st k)=some (.inr r)):loopN step N s0=some r:=by
 rw[h0];exact AC6 st k r hN hs he
abbrev Pr:=C4×A6
def zE:B1:=⟨0,[],0,0,0,⟨0,0,⟨#[]⟩⟩⟩
def zP:A0:=⟨0,[],0,0,0,0,zE⟩
def nd (op:Int)(args:List A0):A0:=⟨op,args,0,0,0,0,zE⟩
def Tu:A6:=⟨true,zP⟩
def Dy (op:Int)(l:List A0):A0:=match l with|[x]=>x|l=>nd op l
def Yh (N:Nat)(op:Int)(l:List A0):AS N op l=some (Dy op l):=by
 unfold AS
 match l with
 |[]=>rfl
 |[x]=>rfl
 |x::y::l=>rw[A1 (by simp only[D9,B2,U0,C8];omega)];rfl
def EW (r:A6)(more:List A0):A6:=
 match(if r.done=true then more else r.p::more)with
 |[]=>Tu
 |l=>⟨false,Dy 1 l⟩
theorem AP9 (N:Nat) (r:A6) (more:List A0) (h:more.length≤1000000):Be N r more=some (EW r more):=by
 unfold Be P6 X1 EW;rw[J0 (by simp;omega)];simp only[A4,L9,N7,Yh]
 cases hr:r.done with
 |true=>
  simp only[R3,D6,C7,A4,B4]
  cases more with
  |nil=>rfl
  |cons x l=>rw[A1 (by simp only[D9,B2,U0,C8];omega)]
 | false=>
  have e:Pb more 0 [r.p]=some (r.p::more):=by
   grind[Pb]
  simp only[Bj,B4,e,A4,D6,C7];rw[A1 (by simp only[D9,B2,U0,C8];omega)]
def GU (args:List A0)(i:Nat)(r:A6):A6:=
 ⟨false,Dy 3 (if r.done=true then args.take i++args.drop (i+1)else args.set i r.p)⟩
def AN9 (N:Nat) (args:List A0) (i:Nat) (r:A6) (hi:i<args.length) (h:args.length≤1000000):CA N args (i:Int) r=some (GU args i r):=by
 unfold CA P6 X2 GU;rw[J0 (by simp;omega)];simp only[A4,L9,Yh]
 cases hr:r.done with
 | true=>
  have e:Pq args (i:Int) (ar .add .i64 (i:Int) 1)=some (args.take i++args.drop (i+1)):=by
   rw[P4 (by omega)]
   grind[Pq]
  simp_all
 | false=>
  have e:DS args (i:Int) (fun _=>r.p)=some (args.set i r.p):=by
   grind[DS,G4]
  have e2:Ii args (i:Int)=true:=by simp_all[Ii]
  simp_all[Du]
def Rh (e:C4)(k:Nat):Prop:=e.dG.length≤k∧e.dI.length≤k∧e.dD.length≤k∧e.dF.length≤k∧e.dH.length≤k
def Og {α:Type} {N:Nat} (hN:3≤N) (l m:List α) (h:l.length+m.length≤1000000000) (grow:List α→Int→Option (List α)) (hg:∀n,0≤n→n≤1073741824→grow [] n=some []):
 ((loopN (fun(s1:Int×Int)=>(if cmp .lss s1.2 (Ar.len [l,m])=true then(B8 [l,m] s1.2).bind fun x3=>if cmp .lss (ar .add .i64 s1.1 (Ar.len x3)) 0=true then none else some (.inl (ar .add .i64 s1.1 (Ar.len x3),ar .add .i64 s1.2 1))else some (.inr s1.1):Option ((Int×Int)⊕Int))) N (0,0)).bind fun s2=>
  (grow [] s2).bind fun l4=>(loopN (fun(s6:Int×List α)=>(if cmp .lss s6.1 (Ar.len [l,m])=true then(B8 [l,m] s6.1).bind fun x9=>(G6 s6.2 x9).bind fun l11=>some (.inl (ar .add .i64 s6.1 1,l11))else some (.inr s6.2):Option ((Int×List α)⊕List α))) N (0,l4)).bind fun s8=>some s8)=some (l++m):=by
 have e1:ar .add .i64 0 (l.length:Int)=l.length:=by rw[J1 (by omega) (by omega)];omega
 have e2:ar .add .i64 (l.length:Int) (m.length:Int)=l.length+m.length:=by rw[J1 (by omega) (by omega)]
 have e3:ar .add .i64 0 1=1:=by rw[J1 (by omega) (by omega)];rfl
 have e4:ar .add .i64 1 1=2:=by rw[J1 (by omega) (by omega)];rfl
 obtain⟨N,rfl⟩:∃M,N=M+3:=⟨N-3,by omega⟩;have i0:B8 [l,m] 0=some l:=rfl;have i1:B8 [l,m] 1=some m:=rfl;have c0:cmp .lss 0 (Ar.len [l,m])=true:=rfl;have c1:cmp .lss 1 (Ar.len [l,m])=true:=rfl;have c2:cmp .lss 2 (Ar.len [l,m])=false:=rfl
 have n1:cmp .lss (l.length:Int) 0=false:=by rw[C5];simp_all
 have n2:cmp .lss ((l.length:Int)+m.length) 0=false:=by rw[C5];grind
 have hl:∀x:List α,Ar.len x=(x.length:Int):=fun x=>rfl;simp only[loopN,c0,B4,i0,A4,hl l,e1,n1,D6,C7,e3,c1,i1,hl m,e2,n2,e4,c2];rw[hg _ (by omega) (by omega)];simp only[A4];rw[J0 (by simp;omega)];simp only[A4,c1,B4,i1,L9];rw[J0 (by omega)]
 simp_all
def Tc {α:Type}(n:Int)(h0:0≤n)(h1:n≤1073741824):Pg ([]:List α) n=some []:=by simp_all[Pg]
def AQ2 {N:Nat}(hN:3≤N)(l m:List B1)(h:l.length+m.length≤1000000000):X6 N [l,m]=some (l++m):=Og hN l m h _ fun n a b=>Tc n a b
def Wy {N:Nat}(hN:3≤N)(l m:List Int)(h:l.length+m.length≤1000000000):V5 N [l,m]=some (l++m):=Og hN l m h _ fun n a b=>Tc n a b
def AQ1 {N:Nat}(hN:3≤N)(l m:List V9)(h:l.length+m.length≤1000000000):AD N [l,m]=some (l++m):=Og hN l m h _ fun n a b=>Tc n a b
def JJ (p:A0) (x:C4) (done opens:Bool):C4:=
 {x with
  dG:=if opens=true then p.cY::x.dG else x.dG
  dH:=if p.Op=5∨p.Op=9 then p.cY::x.dH else x.dH
  dF:=if p.Op=5∨p.Op=9 then x.dF else⟨p.cY,p.Span⟩::x.dF
  dI:=if done=true then x.dI++[p.cY]else x.dI}
def Ah1 {N:Nat} (hN:3≤N) (p:A0) (x:C4) (done opens:Bool) (h:Rh x 1000):V6 N p x done opens=some (JJ p x done opens):=by
 obtain⟨h1,h2,h3,h4,h5⟩:=h;unfold V6 JJ;simp only[K9,D9,←Bool.decide_or,C8];cases opens<;>cases done<;>by_cases h:p.Op=5∨p.Op=9
 all_goals
  simp only[h,B4,D6,C7,A4]
  try rw[Wy (by omega) [p.cY] x.dG (by simp;omega)]
  try simp only[A4]
  try rw[Wy (by omega) [p.cY] x.dH (by simp;omega)]
  try rw[AQ1 (by omega) [⟨p.cY,p.Span⟩] x.dF (by simp;omega)]
  try simp only[A4]
  try rw[Wy (by omega) x.dI [p.cY] (by simp;omega)]
  rfl
def PC (again:A0)(y:Pr):List Pr:=
 if y.2.done=true then[y,(y.1,⟨false,again⟩)]else match again.cT with|b::_=>[(y.1,⟨false,nd 8 [y.2.p,b]⟩)]|[]=>[]
def Rj (x:A0)(y:Pr):C4:=
 if x.Op=7 then(if y.2.done=true then{y.1 with dD:=y.1.dD++[x.cU]}else y.1)
 else JJ x y.1 y.2.done (if x.Op=5∨x.Op=9 then decide (x.Op=5)else decide (x.Op=6))
def SZ (x:A0):Int:=if x.Op=7 then 7 else if x.Op=5∨x.Op=9 then 9 else 10
def Wi (x:A0)(r:A6):A6:=if r.done=true then r else{r with p:={x with Op:=SZ x,cT:=[r.p]}}
def UR (x:A0)(y:Pr):Pr:=(Rj x y,Wi x y.2)
def comb (x:A0)(ls:List (List Pr)):List Pr:=
 if x.Op=0 then[(⟨0,0,x.Var,x.Typ,x.cU,[],[],[],[],[]⟩,Tu)]
 else if x.Op=1 then(ls.headD []).map fun y=>(y.1,EW y.2 (x.cT.drop 1))
 else if x.Op=2 then(List.range x.cT.length).flatMap fun i=>ls.getD i []
 else if x.Op=3 then(List.range x.cT.length).flatMap fun i=>(ls.getD i []).map fun y=>(y.1,GU x.cT i y.2)
 else if x.Op=4 then(ls.headD []).flatMap (PC x)
 else if x.Op=8 then(ls.headD []).flatMap (PC (nd 4 (x.cT.drop 1)))
 else(ls.headD []).map (UR x)
mutual
def raw:A0→List Pr
 |⟨op,args,typ,var,scope,span,c⟩=>comb ⟨op,args,typ,var,scope,span,c⟩ (AK6 args)
def AK6:List A0→List (List Pr)
 |[]=>[]
 |a::l=>raw a::AK6 l
end
theorem Xy:∀l:List A0,AK6 l=l.map raw
 |[]=>rfl
 |a::l=>by simp[AK6,Xy l]
def Jn (x:A0):raw x=comb x (x.cT.map raw):=by cases x;grind[raw,Xy]
def Rh.mono {e:C4}{k m:Nat}(h:Rh e k)(hm:k≤m):Rh e m:=by grind[Rh]
def AO8 {x:A0}{y:Pr}{k:Nat}(h:Rh y.1 k):Rh (Rj x y) (k+1):=by
 grind[Rj,Rh,JJ]
theorem Ah5 {a:A0}{y z:Pr}(h:z∈PC a y):z.1=y.1:=by
 grind[PC]
def DL {x a:A0} (h:a∈x.cT):a.dep<x.dep:=by
 rw[A0.dep_eq x]
 have key:∀l:List A0,a∈l→a.dep≤A0.deps l:=fun l=>by
  induction l with
  |nil=>simp_all
  |cons b l ih=>
   grind[A0.deps]
 have:=key _ h;omega
def KH {l:List A0}{i:Nat}{y:Pr}(h:y∈(l.map raw).getD i []):∃a∈l,y∈raw a:=by
 grind
theorem Bs {l:List A0}{y:Pr}(h:y∈(l.map raw).headD []):∃a∈l,y∈raw a:=by
 cases l with
 |nil=>simp at h
 |cons a l=>simp_all
def ZR:∀(d:Nat) (x:A0),x.dep≤d→∀y∈raw x,Rh y.1 d:=by
 intro d
 induction d with
 |zero=>grind[A0.dep_eq]
 | succ d ih=>
  intro x hd y hy
  rw[Jn]at hy
  have hrec:∀a∈x.cT,∀y∈raw a,Rh y.1 d:=fun a ha=>ih a (by have:=DL ha;omega)
  unfold comb at hy
  split at hy
  ·rw[List.mem_singleton.1 hy];simp[Rh]
  split at hy
  ·grind[Bs,Rh]
  split at hy
  ·grind[Rh]
  split at hy
  ·grind[Rh]
  split at hy
  ·obtain⟨z,hz,hy⟩:=List.mem_flatMap.1 hy
   grind[Bs,Ah5,Rh]
  split at hy
  ·obtain⟨z,hz,hy⟩:=List.mem_flatMap.1 hy
   grind[Bs,Ah5,Rh]
  obtain⟨z,hz,rfl⟩:=List.mem_map.1 hy;obtain⟨a,ha,hz⟩:=Bs hz;exact AO8 (hrec a ha z hz)
def RZ {α:Type}{l:List α}(h:1≤l.length):T4 l (some 1) none none=some (l.drop 1):=by
 unfold T4;rw[A2 (by simp;omega)]
 grind[List.take_of_length_le]
def or3 {x:A0}:((if cmp .eql x.Op 1=true then some true else if cmp .eql x.Op 2=true then some true else some (cmp .eql x.Op 3)):Option Bool)=some (decide (x.Op=1∨x.Op=2∨x.Op=3)):=by
 simp only[D9,C8]
 grind
theorem BU {α β:Type}(f:α→β):∀l:List α,l.flatMap (fun x=>[f x])=l.map f
 |[]=>rfl
 |x::l=>by rw[Ix,BU f l];rfl
def MC {l:List A0}{j:Nat}(h:j<l.length):(l.map raw).getD j []=raw l[j]:=by
 rw[Cd,Aa,E3 h];rfl
def AW3 {y:Pr} {ag:A0} {b:A0} {l:List A0} (h:ag.cT=b::l):
 (if nt y.2.done=true then(B8 ag.cT 0).bind fun x11=>L6 (some ([(y.1,(⟨false,(⟨8,[y.2.p,x11],0,0,0,0,(⟨0,[],0,0,0,(⟨0,0,⟨#[]⟩⟩:I9)⟩:B1)⟩:A0)⟩:A6))],())) fun _=>some ([],.inl ())
  else L6 (some ([(y.1,y.2)],())) fun _=>L6 (some ([(y.1,(⟨false,ag⟩:A6))],())) fun _=>some ([],.inl ()):Option (List Pr×(Unit⊕Unit)))=some (PC ag y,.inl ()):=by
 unfold PC;rw[h]
 cases hy:y.2.done with
 |true=>grind[L6,N7]
 |false=>simp[L6,N7,B8];rfl
theorem QM (N:Nat)(x1 x2:A0)(n:Nat){l:List Pr}{b:A0}{k:List A0}(hb:x2.cT=b::k)(hp:L3 N n x1=some l):T3 N (n+1) x1 x2=some (l.flatMap (PC x2)):=by
 unfold T3;rw[hp];simp only[A4];rw[Fz (fun y=>PC x2 y) fun y _=>AW3 hb];simp[L6]
def AX8 {N:Nat} (hN:3≤N) (x:A0) (y:Pr) (h:Rh y.1 1000):
 (L6 ((if cmp .eql x.Op 7=true then(if y.2.done=true then(X6 N ([y.1.dD,[x.cU]])).bind fun r17=>some ([],(x.Op,{y.1 with dD:=r17}))else some ([],(x.Op,y.1)))
  else L6 ((if cmp .eql x.Op 5=true then some ([],true)else some ([],cmp .eql x.Op 9)):Option (List Pr×Bool)) fun s18=>
   if s18=true then(V6 N x y.1 y.2.done (cmp .eql x.Op 5)).bind fun r21=>some ([],(9,r21))
   else(V6 N x y.1 y.2.done (cmp .eql x.Op 6)).bind fun r22=>some ([],(10,r22))):Option (List Pr×(Int×C4))) fun s14=>
  L6 ((if nt y.2.done=true then(Cz N x s14.1 y.2.p).bind fun r26=>some ([],{y.2 with p:=r26})else some ([],y.2)):Option (List Pr×A6)) fun s23=>
  L6 (some ([(s14.2,s23)],())) fun _=>some ([],.inl ()):Option (List Pr×(Unit⊕Unit)))=some ([UR x y],.inl ()):=by
 obtain⟨h1,h2,h3,h4,h5⟩:=id h;unfold UR Rj Wi SZ Cz;simp only[D9,C8,N7]
 by_cases h7:x.Op=7
 ·cases hy:y.2.done with
  |true=>
   rw[A2 h7,A2 rfl,AQ2 hN _ _ (by simp;omega)];simp[L6,h7]
  |false=>
   rw[A2 h7,A1 (by simp)];simp[L6,h7]
 rw[A1 h7,A1 h7,A1 h7]
 by_cases h59:x.Op=5∨x.Op=9
 ·have e:((if x.Op=5 then some ([],true)else some ([],decide (x.Op=9))):Option (List Pr×Bool))=some ([],true):=by
   rcases h59 with h|h<;>simp[h]
  rw[e,A2 h59,A2 h59];simp only[L6,A4,B4,Ah1 hN _ _ _ _ h];cases hy:y.2.done<;>simp
 have e:((if x.Op=5 then some ([],true)else some ([],decide (x.Op=9))):Option (List Pr×Bool))=some ([],false):=by
  rw[not_or]at h59;simp_all
 rw[e,A1 h59,A1 h59];simp only[L6,A4,D6,C7,Ah1 hN _ _ _ _ h];cases hy:y.2.done<;>simp
def AA4 {N:Nat} (hN:Bgn N):∀(d:Nat) (x:A0) (n:Nat),x.dep≤d→d≤100→3*d≤n+2→x.bulk≤16777216→x.pre.length≤64→Uk N x→L3 N n x=some (raw x):=by
 intro d
 induction d with
 |zero=>grind[A0.dep_eq]
 | succ d ih=>
  intro x n hd hd100 hn hb hp hg;have hap:=EZ x;have hself:Ba N x=0:=hg x (by rw[A0.pre_eq];simp);have ha:=TK hN hb (by omega) hself
  have hrec:∀a∈x.cT,∀m,3*d≤m+2→L3 N m a=some (raw a):=fun a ham m hm=>by
   have:=AI ham;have:=Kt ham;have:=DL ham;exact ih a m (by omega) (by omega) hm (by omega) (by omega) (hg.arg ham)
  have hsz:∀a∈x.cT,∀y∈raw a,Rh y.1 1000:=fun a ham y hy=>(ZR d a (by have:=DL ham;omega) y hy).mono (by omega);obtain⟨n,rfl⟩:∃m,n=m+1:=⟨n-1,by omega⟩;rw[Jn];unfold L3 comb
  by_cases h0:x.Op=0
  ·rw[A2 (Z1 h0),A2 h0];unfold Eb;simp[L6];rfl
  rw[A1 (by rw[N4 h0];simp),A1 h0,or3];simp only[A4,C8];have hop:=ha.op
  have hd1:1≤d:=by
   have:x.cT≠[]:=by
    by_cases h3:x.Op≤3
    ·have:=ha.two (by omega) h3;grind
    by_cases h8:x.Op=8
    ·obtain⟨a,b,e⟩:=ha.more h8;rw[e];simp
    obtain⟨a,e⟩:=ha.one (by omega) h8;rw[e];simp
   obtain⟨a,hm⟩:=List.exists_mem_of_ne_nil _ this;have:=DL hm;have:=A0.dep_eq a;omega
  obtain⟨n,rfl⟩:∃m,n=m+2:=⟨n-2,by omega⟩
  by_cases h123:x.Op=1∨x.Op=2∨x.Op=3
  ·rw [A2 h123];have htwo:=ha.two (by omega) (by omega);unfold Ah W3
   by_cases h1:x.Op=1
   ·rw [A2 h1];rw[Qc (s0:=(0:Int)) (st:=fun j=>(j:Int)) (f:=fun j=>(raw (x.cT.getD j zP)).map fun y=>(y.1,EW y.2 (x.cT.drop 1))) (w:=[]) (r:=(Sum.inr ():Unit⊕Unit)) (k:=1) rfl (by omega) ?_ ?_]
    ·match he:x.cT,htwo with
     |a::l,_=>simp[L6]
    ·intro j hj
     obtain rfl:j=0:=by omega
     match he:x.cT,htwo with
     | a::l,htwo=>
      have hm:a∈x.cT:=by rw[he];simp
      rw[A2 (by grind[C5,B2])];have e:B8 (a::l) ((0:Nat):Int)=some a:=rfl;rw[e];simp only[A4];rw[A1 (by grind[P5,N6]),hrec a hm n (by omega)];simp only[A4]
      rw[Fz (fun y=>[(y.1,EW y.2 l)]) fun y _=>by
       rw[A2 (Z1 h1),RZ (by simp)]
       grind[AP9,L6]]
      grind[L6,BU,P4]
    rw[A2 (by grind[C5,B2])]
    have e:∃b,B8 x.cT ((1:Nat):Int)=some b:=by
     rw[G4,E3 (by omega)];simp_all
    obtain⟨b,e⟩:=e;rw[e]
    simp_all[P5,N6,D9]
   rw[A1 h1]
   by_cases h2:x.Op=2
   ·rw[A2 h2];rw[Qc (s0:=(0:Int)) (st:=fun j=>(j:Int)) (f:=fun j=>(x.cT.map raw).getD j []) (w:=[]) (r:=(Sum.inl ():Unit⊕Unit)) (k:=x.cT.length) rfl (by omega) ?_ ?_]
    ·simp[L6]
    ·intro j hj
     have e:B8 x.cT (j:Int)=some x.cT[j]:=by rw[G4,E3 hj]
     have hm:=G7 hj;simp only[e,A4];rw[A2 (by grind[C5,B2]),A1 (by grind[P5,D9]),hrec _ hm n (by omega)];simp only[A4]
     rw[Fz (fun y=>[y]) fun y _=>by
      rw[A1 (by simp[D9,h1]),A1 (by simp[D9,h2])]
      simp[L6]]
     rw[MC hj,BU (fun y=>y)];simp[L6,P4 (i:=j) (by omega)]
    simp_all[C5,B2]
   have h3:x.Op=3:=by omega
   rw[A1 h2,A2 h3];rw[Qc (s0:=(0:Int)) (st:=fun j=>(j:Int)) (f:=fun j=>((x.cT.map raw).getD j []).map fun y=>(y.1,GU x.cT j y.2)) (w:=[]) (r:=(Sum.inl ():Unit⊕Unit)) (k:=x.cT.length) rfl (by omega) ?_ ?_]
   ·simp[L6]
   ·intro j hj
    have e:B8 x.cT (j:Int)=some x.cT[j]:=by rw[G4,E3 hj]
    have hm:=G7 hj;simp only[e,A4];rw[A2 (by grind[C5,B2]),A1 (by grind[P5,D9]),hrec _ hm n (by omega)];simp only[A4]
    rw[Fz (fun y=>[(y.1,GU x.cT j y.2)]) fun y _=>by
     rw[A1 (by simp[D9,h1]),A2 (Z1 h3),AN9 _ _ _ _ hj (by omega)]
     simp[L6]]
    rw[MC hj,BU]
    grind[L6,P4]
   simp_all[C5,B2]
  rw[A1 h123,A1 (show¬x.Op=1 by omega),A1 (show¬x.Op=2 by omega),A1 (show¬x.Op=3 by omega)];simp only[D9,C8]
  by_cases h4:x.Op=4
  ·rw[A2 h4,A2 h4];obtain⟨a,e⟩:=ha.one (by omega) (by omega)
   have e0:B8 x.cT 0=some a:=by rw[e];rfl
   rw[e0]
   grind[S7,QM]
  rw[A1 h4,A1 h4]
  by_cases h8:x.Op=8
  ·rw[A2 h8,A2 h8];obtain⟨a,b,e⟩:=ha.more h8
   have e0:B8 x.cT 0=some a:=by rw[e];rfl
   have e1:T4 x.cT (some 1) (some 2) (some 2)=some [b]:=by rw[e];rfl
   rw[e0,e1];simp only[A4];unfold S7;rw[QM N a _ n (b:=b) (k:=[]) rfl (hrec a (by rw[e];simp) n (by omega))];rw[e];rfl
  rw[A1 h8,A1 h8];obtain⟨a,e⟩:=ha.one (by omega) (by omega)
  have e0:B8 x.cT 0=some a:=by rw[e];rfl
  have hma:a∈x.cT:=by rw[e];simp
  unfold BN AK;rw[e0];simp only[A4];rw[hrec a hma n (by omega)];simp only[A4];rw[Fz (fun y=>[UR x y]) fun y hy=>AX8 (by omega) x y (hsz a hma y hy)];rw[e,BU];simp[L6]
structure GR (B:Nat) (R:Nat) (y:Pr):Prop where
 from0:y.1.dE=0
 to0:y.1.To=0
 done:y.2.done=true→y.2.p=zP
 cond:y.1.cU.bulk≤B
 checks:∀c∈y.1.dD,c.bulk≤B
 rest:y.2.p.bulk≤R
def GR.mono {B R B' R':Nat}{y:Pr}(h:GR B R y)(hB:B≤B')(hR:R≤R'):GR B' R' y:=⟨h.from0,h.to0,h.done,Nat.le_trans h.cond hB,fun c hc=>Nat.le_trans (h.checks c hc) hB,Nat.le_trans h.rest hR⟩
theorem Af9:zE.bulk=10:=by simp[zE,B1.bulk,B1.bulks,ByteArray.size]
theorem OP (op:Int)(l:List A0):(nd op l).bulk=A0.bulks l+16:=by rw[A0.bulk_eq];grind[nd,Af9]
theorem Af8:zP.bulk=17:=by rw[A0.bulk_eq];grind[zP,Af9,A0.bulks]
theorem SP (op:Int)(l:List A0):(Dy op l).bulk≤A0.bulks l+16:=by
 match l with
 |[]=>grind[Dy,OP]
 |[x]=>grind[Dy,A0.bulks]
 |x::y::l=>grind[Dy,OP]
def Qk:∀(l m:List A0),A0.bulks (l++m)+1=A0.bulks l+A0.bulks m
 |[],m=>by grind[A0.bulks]
 |a::l,m=>by have:=Qk l m;grind[A0.bulks]
def KO (l:List A0)(i:Nat):A0.bulks (l.take i)+A0.bulks (l.drop i)=A0.bulks l+1:=by rw[←Qk,Ad]
def Vl (l:List A0):1≤A0.bulks l:=by
 cases l with
 |nil=>grind[A0.bulks]
 |cons a l=>have:=GD a;grind[A0.bulks]
theorem Vk:∀(l:List A0) (i:Nat) (p:A0),A0.bulks (l.set i p)≤A0.bulks l+p.bulk
 |[],i,p=>by simp_all
 |a::l,0,p=>by grind[A0.bulks]
 |a::l,i+1,p=>by have:=Vk l i p;grind[A0.bulks]
def Ad4 (r:A6)(more:List A0):(EW r more).done=true→(EW r more).p=zP:=by
 unfold EW
 split
 ·intro;rfl
 simp_all
def Ad5 (r:A6)(more:List A0):(EW r more).p.bulk≤r.p.bulk+A0.bulks more+16:=by
 have h0:=Vl more
 grind[EW,Tu,Af8,SP,A0.bulks]
def Ab2 (args:List A0) (i:Nat) (r:A6):(GU args i r).p.bulk≤r.p.bulk+A0.bulks args+17:=by
 unfold GU
 simp only
 refine Z7 (SP _ _) ?_
 split
 ·have h1:=KO args i;have h2:=KO args (i+1);have h0:=Qk (args.take i) (args.drop (i+1))
  have h3:A0.bulks (args.take i)≤A0.bulks (args.take (i+1)):=by
   have:args.take i=(args.take (i+1)).take i:=by rw[List.take_take];grind
   rw[this];have:=KO (args.take (i+1)) i;have:=Vl ((args.take (i+1)).drop i);omega
  omega
 grind[Vk]
def Az5:∀(d:Nat) (x:A0),x.dep≤d→∀y∈raw x,GR x.bulk (x.dep*(x.bulk+30)) y:=by
 intro d
 induction d with
 |zero=>grind[A0.dep_eq]
 | succ d ih=>
  intro x hd y hy
  rw[Jn]at hy
  have hdx:=A0.dep_eq x;have hxb:=A0.bulk_eq x
  have key:∀a∈x.cT,a.dep*(a.bulk+30)+(x.bulk+30)≤x.dep*(x.bulk+30):=fun a ha=>by
   have h1:=DL ha;have h2:=AI ha;have h3:a.dep*(a.bulk+30)≤(x.dep-1)*(x.bulk+30):=Z8 (by omega) (by omega)
   have h4:(x.dep-1)*(x.bulk+30)+(x.bulk+30)=x.dep*(x.bulk+30):=by
    obtain⟨k,hk⟩:∃k,x.dep=k+1:=⟨x.dep-1,by omega⟩;rw[hk];grind
   omega
  have one:x.bulk+30≤x.dep*(x.bulk+30):=by
   have:1*(x.bulk+30)≤x.dep*(x.bulk+30):=Z8 (by omega) (D5 _);omega
  have hrec:∀a∈x.cT,∀y∈raw a,GR x.bulk (a.dep*(a.bulk+30)) y:=fun a ha y hy=>(ih a (by have:=DL ha;omega) y hy).mono (by have:=AI ha;omega) (D5 _)
  have hrep:∀(ag:A0),ag.bulk≤x.bulk+16→∀a∈x.cT,∀z∈raw a,∀b∈x.cT,(∃l,ag.cT=b::l)→∀y∈PC ag z,GR x.bulk (x.dep*(x.bulk+30)) y:=fun ag hag a ha z hz b hb hl y hy=>by
   have hk:=key a ha;have h:=hrec a ha z hz
   unfold PC at hy
   split at hy
   ·rcases List.mem_cons.1 hy with rfl|hy
    ·exact h.mono (D5 _) (by omega)
    rw[List.mem_singleton.1 hy];exact⟨h.from0,h.to0,fun h=>(by cases h),h.cond,h.checks,by grind⟩
   obtain⟨l,hl⟩:=hl
   rw[hl]at hy
   rw[List.mem_singleton.1 hy];refine⟨h.from0,h.to0,fun h=>(by cases h),h.cond,h.checks,?_⟩;have h1:=h.rest;have h2:=AI hb
   grind[OP,A0.bulks]
  unfold comb at hy
  split at hy
  ·rw[List.mem_singleton.1 hy];refine⟨rfl,rfl,fun _=>rfl,by grind,fun c hc=>by simp at hc,?_⟩
   grind[Tu,Af8]
  split at hy
  ·obtain⟨z,hz,rfl⟩:=List.mem_map.1 hy;obtain⟨a,ha,hz⟩:=Bs hz;have h:=hrec a ha z hz;refine⟨h.from0,h.to0,Ad4 _ _,h.cond,h.checks,?_⟩;have h1:=Ad5 z.2 (x.cT.drop 1);have h2:=KO x.cT 1;have h3:=key a ha;have h4:=h.rest
   grind
  split at hy
  ·obtain⟨i,_,hz⟩:=List.mem_flatMap.1 hy;obtain⟨a,ha,hz⟩:=KH hz;exact(hrec a ha y hz).mono (D5 _) (by have:=key a ha;omega)
  split at hy
  ·obtain⟨i,_,hz⟩:=List.mem_flatMap.1 hy;obtain⟨z,hz2,rfl⟩:=List.mem_map.1 hz;obtain⟨a,ha,hz⟩:=KH hz2;have h:=hrec a ha z hz;refine⟨h.from0,h.to0,fun h=>by simp[GU]at h,h.cond,h.checks,?_⟩;have h1:=Ab2 x.cT i z.2;have h3:=key a ha;have h4:=h.rest
   grind
  split at hy
  ·rename_i h4;obtain⟨z,hz,hy⟩:=List.mem_flatMap.1 hy
   match he:x.cT,hz with
   |[],hz=>simp at hz
   |a::l,hz=>grind
  split at hy
  ·obtain⟨z,hz,hy⟩:=List.mem_flatMap.1 hy
   match he:x.cT,hz with
   |[],hz=>simp at hz
   | [a],hz=>
    have ha:a∈x.cT:=by rw[he];simp
    have h:=hrec a ha z (by grind)
    rw[he]at hy
    unfold PC at hy
    split at hy
    ·rcases List.mem_cons.1 hy with rfl|hy
     ·exact h.mono (D5 _) (by have:=key a ha;omega)
     rw[List.mem_singleton.1 hy];refine⟨h.from0,h.to0,fun h=>(by cases h),h.cond,h.checks,?_⟩
     grind[OP,A0.bulks]
    simp[nd]at hy
   |a::b::l,hz=>
    have hb:A0.bulks x.cT=a.bulk+(b.bulk+A0.bulks l):=by rw[he];rfl
    rw[he]at hy
    grind[nd,OP,A0.bulks]
  obtain⟨z,hz,rfl⟩:=List.mem_map.1 hy;obtain⟨a,ha,hz⟩:=Bs hz;have h:=hrec a ha z hz;have hk:=key a ha;have hr:=h.rest;refine⟨?_,?_,?_,?_,?_,?_⟩
  ·simp only[UR,Rj];split
   ·split
    ·exact h.from0
    exact h.from0
   exact h.from0
  ·simp only[UR,Rj];split
   ·split
    ·exact h.to0
    exact h.to0
   exact h.to0
  ·simp only[UR,Wi];split
   ·exact h.done
   simp_all
  ·simp only[UR,Rj];split
   ·split
    ·exact h.cond
    exact h.cond
   exact h.cond
  ·simp only[UR,Rj];split
   ·split
    ·intro c hc
     rcases List.mem_append.1 hc with hc|hc
     ·exact h.checks c hc
     grind
    exact h.checks
   exact h.checks
  grind[UR,Wi,A0.bulk_eq,A0.bulks]
def Ax {α:Type}[DecidableEq α](l:List α)(x:α):List α:=if x∈l then l else l++[x]
def dd {α:Type}[DecidableEq α](l:List α):List α:=l.foldl Ax []
section
variable {α:Type}[DecidableEq α]
theorem Ag2 {l:List α}{x y:α}:y∈Ax l x↔y∈l∨y=x:=by
 grind[Ax]
theorem FZ {y:α}:∀{l m:List α},y∈l.foldl Ax m↔y∈m∨y∈l
 |[],m=>by simp
 |x::l,m=>by
  simp only[DO,FZ,Ag2,Gi]
  grind
theorem KN {l:List α}{y:α}:y∈dd l↔y∈l:=by grind[dd,FZ]
def JU:∀{l m:List α},(∀x∈l,x∈m)→l.foldl Ax m=m
 |[],m,_=>rfl
 |x::l,m,h=>by
  have e:Ax m x=m:=by simp_all[Ax]
  simp only[DO,e];exact JU fun y hy=>h y (by simp[hy])
def Wv (l:List α)(x:α):dd (l++[x])=Ax (dd l) x:=by grind[dd]
theorem Ad2 (l m:List α):dd (l++m)=m.foldl Ax (dd l):=by simp[dd]
def NY {β:Type} (f:β→List α) [DecidableEq β]:∀(l:List β) (acc:List α) (seen:List β),(∀b∈seen,∀a∈f b,a∈acc)→
 ((l.foldl Ax seen).drop seen.length).foldl (fun s b=>(f b).foldl Ax s) acc=l.foldl (fun s b=>(f b).foldl Ax s) acc
 |[],acc,seen,h=>by simp
 | b::l,acc,seen,h=>by
  simp only[DO]
  by_cases hb:b∈seen
  ·have e:Ax seen b=seen:=by simp_all[Ax]
   rw[e,JU (h b hb)];exact NY f l acc seen h
  have e:Ax seen b=seen++[b]:=by simp_all[Ax]
  rw[e]
  have hpre:∀(l:List β) (s:List β),∃t,l.foldl Ax s=s++t:=by
   intro l
   induction l with
   |nil=>simp_all
   |cons x l ih=>
    intro s;obtain⟨t,ht⟩:=ih (Ax s x)
    grind[Ax]
  obtain⟨t,ht⟩:=hpre l (seen++[b])
  have ih:=NY f l ((f b).foldl Ax acc) (seen++[b]) (fun c hc a ha=>by
   rw[FZ]
   grind)
  rw[ht]at ih ⊢
  rw[←ih]
  simp_all
theorem Ga {β:Type}(f:β→List α):∀(l:List β) (acc:List α),(l.flatMap f).foldl Ax acc=l.foldl (fun s b=>(f b).foldl Ax s) acc
 |[],acc=>rfl
 |b::l,acc=>by simp only[Ix,LD,DO,Ga f l]
def Wx {β:Type}[DecidableEq β](f:β→List α)(l:List β)(acc:List α):(dd l).foldl (fun s b=>(f b).foldl Ax s) acc=(l.flatMap f).foldl Ax acc:=by
 rw[Ga];have:=NY f l acc [] (fun b hb=>by simp at hb)
 grind[dd]
end
end Go.Ab
namespace Go.Ab
def YC {α:Type}[DecidableEq α]{N:Nat}(l m:List α)(hl:l.length=m.length)(hs:l.length<1000000000000)(t:α→α→Bool)(ht:∀x y,t x y= !decide (x=y))(hN:l.length<N):
 loopN (fun(i:Int)=>if cmp .lss i (Ar.len l)=true then(B8 l i).bind fun x=>(B8 m i).bind fun y=>if t x y=true then some (Sum.inr (Sum.inr (α:=Unit) ()))else some (.inl (ar .add .i64 i 1))else some (.inr (.inl ()))) N 0=some (if l=m then .inl ()else .inr ()):=by
 have:=Nf l m hl hs (fun x y=>some (decide (x=y))) (fun _ _ _ _=>rfl) hN;rw[←this]
 grind[N7]
def Ar6 {a b:V9}:a=b↔a.cY=b.cY∧a.Span=b.Span:=by cases a;cases b;simp
def Ws {N:Nat} (l m:List Int) (hs:l.length<1000000) (hN:l.length<N):S9 N l m=some (decide (l=m)):=by
 unfold S9
 by_cases hl:l.length=m.length
 ·rw[A1 (by grind[G2,B2]),YC l m hl (by omega) (fun x y=>cmp .neq x y) (fun x y=>rfl) hN]
  by_cases h:l=m<;>simp[h]
 rw[A2 (by grind[G2,B2]),V2 fun e=>hl (by rw[e])]
def AF4 {N:Nat} (l m:List V9) (hs:l.length<1000000) (hN:l.length<N):W0 N l m=some (decide (l=m)):=by
 unfold W0
 by_cases hl:l.length=m.length
 ·rw[A1 (by grind[G2,B2]),YC l m hl (by omega) (fun x y=>nt (an (cmp .eql x.cY y.cY) (an (cmp .eql x.Span y.Span) true))) (fun x y=>by
   simp_all[N7,P5,D9,Ar6]) hN]
  by_cases h:l=m<;>simp[h]
 rw[A2 (by grind[G2,B2]),V2 fun e=>hl (by rw[e])]
def AY4 {N:Nat} (hN:Bgn N) (l m:List B1) (hs:l.length<1000000) (hb:∀c∈l,c.bulk≤16777216):O1 N l m (fun y1 y2=>BM N N y1 y2)=some (decide (l=m)):=by
 unfold O1
 by_cases hl:l.length=m.length
 ·rw[A1 (by grind[G2,B2]),Nf l m hl (by omega) _ (fun x hx y _=>by rw[JL];grind[QJ]) (by omega)]
  by_cases h:l=m<;>simp[h]
 rw[A2 (by grind[G2,B2]),V2 fun e=>hl (by rw[e])]
def Ph {a b:C4}:a=b↔(a.dE=b.dE∧a.To=b.To)∧((a.Var=b.Var∧a.Typ=b.Typ)∧a.cU=b.cU∧a.dG=b.dG∧a.dI=b.dI∧a.dD=b.dD∧a.dF=b.dF∧a.dH=b.dH):=by
 cases a;cases b;grind
def NW {p:Prop}[Decidable p]{q:Prop}[Decidable q]{F:Option Bool}(hF:F=some (decide q)):(if p then F else some false)=some (decide (p∧q)):=by
 by_cases h:p<;>simp[h,hF]
def Xp {N:Nat}(hN:Bgn N)(a b:C4)(hs:Rh a 1000)(hc:a.cU.bulk≤16777216)(hk:∀c∈a.dD,c.bulk≤16777216):Bx N a b=some (decide ((a.Var=b.Var∧a.Typ=b.Typ)∧a.cU=b.cU∧a.dG=b.dG∧a.dI=b.dI∧a.dD=b.dD∧a.dF=b.dF∧a.dH=b.dH)):=by
 obtain⟨h1,h2,h3,h4,h5⟩:=hs;unfold Bx;rw[JL,QJ hN N a.cU b.cU (by omega) hc,Ws a.dG b.dG (by omega) (by omega),Ws a.dI b.dI (by omega) (by omega),AY4 hN a.dD b.dD (by omega) hk,AF4 a.dF b.dF (by omega) (by omega),Ws a.dH b.dH (by omega) (by omega)];simp only[A4,P5,D9,M6,C8];rw[NW (NW (NW (NW (NW (NW rfl)))))]
def Ta {α:Type} {N:Nat} (l:List α) (hs:l.length<1000000000000) (f:α→Option Bool) (P:α→Bool) (hf:∀x∈l,f x=some (P x)) (hN:l.length<N):
 loopN (fun(i:Int)=>if cmp .lss i (Ar.len l)=true then(B8 l i).bind fun x=>(f x).bind fun r=>if r=true then some (Sum.inr (Sum.inr (α:=Unit) i))else some (.inl (ar .add .i64 i 1))else some (.inr (.inl ()))) N 0=some (match l.findIdx? P with|none=>.inl ()|some i=>.inr (i:Int)):=by
 obtain⟨r,h1,h2⟩:=EN (step:=fun(i:Int)=>if cmp .lss i (Ar.len l)=true then(B8 l i).bind fun x=>(f x).bind fun r=>if r=true then some (Sum.inr (Sum.inr (α:=Unit) i))else some (.inl (ar .add .i64 i 1))else some (.inr (.inl ())))
  (fun j s=>s=(j:Int)∧∀i (h:i<l.length),i<j→P l[i]=false) (fun r=>r=match l.findIdx? P with|none=>.inl ()|some i=>.inr (i:Int)) l.length 0 0 N hN ⟨rfl,fun i h h2=>by omega⟩
  (fun j s _ hj ⟨e,ht⟩=>by
   subst e
   simp only[L8]at hj
   have e1:l[j]? =some l[j]:=by simp[hj]
   simp only[C5,B2,show((j:Int)<(l.length:Int)) by omega,K3,B4,G4,e1,A4,hf _ (G7 hj)]
   cases h:P l[j]with
   |true=>
    grind[List.findIdx?_eq_some_iff_getElem]
   |false=>
    grind[P4])
  (fun s ⟨e,ht⟩=>by
   subst e
   simp only[L8]at ht ⊢
   grind[C5,B2,List.getElem_of_mem])
 rw[h1,h2]
def JT {α:Type}(P:α→Bool)(l:List α):Int:=match l.findIdx? P with|none=> -1|some i=>(i:Int)
theorem JS {N:Nat}(l:List A0)(hs:l.length<1000000000000)(f:A0→Option Bool)(P:A0→Bool)(hf:∀x∈l,f x=some (P x))(hN:l.length<N):H8 N l f=some (JT P l):=by
 unfold H8 JT;rw[Ta l hs f P hf hN];cases l.findIdx? P<;>rfl
def Ar2 {N:Nat}(l:List C4)(hs:l.length<1000000000000)(f:C4→Option Bool)(P:C4→Bool)(hf:∀x∈l,f x=some (P x))(hN:l.length<N):U7 N l f=some (JT P l):=by
 unfold U7 JT;rw[Ta l hs f P hf hN];cases l.findIdx? P<;>rfl
def Av {α:Type}{P:α→Bool}{l:List α}:0≤JT P l↔∃x∈l,P x=true:=by
 grind[JT]
def Pf {α:Type}{P:α→Bool}{l:List α}(h:¬∃x∈l,P x=true):JT P l= -1:=by
 grind[JT]
def Wj {α:Type}{P:α→Bool}{l:List α}(h:∃x∈l,P x=true):∃(i:Nat) (hi:i<l.length),JT P l=i∧P l[i]=true:=by
 have h2:=Av.2 h
 grind[JT,List.findIdx?_eq_some_iff_getElem]
theorem AE4 {α:Type}{P:α→Bool}{l m:List α}(h:∃x∈l,P x=true):JT P (l++m)=JT P l:=by
 have h2:=Av.2 h
 grind[JT]
def UT {α:Type}{P:α→Bool}{l:List α}{x:α}(h:¬∃x∈l,P x=true)(hx:P x=true):JT P (l++[x])=l.length:=by
 grind[JT]
noncomputable abbrev Nk (l:List A0)(p:A0):Int:=JT (fun q=>decide (p=q)) l
def HY {l:List A0}{p:A0}:(∃x∈l,decide (p=x)=true)↔p∈l:=by
 simp_all
def GW {N:Nat}(hN:Bgn N)(l:List A0)(p:A0)(hl:l.length≤1000000)(hp:p.bulk≤16777216):M2 N l p=some (Nk l p):=by
 grind[M2,JS,Ck,AT1]
def AE3 {l:List A0} {p q:A0} (hp:p∈l) (h:Nk l p=Nk l q):p=q:=by
 have hq:q∈l:=by
  rw[←HY];rw[←Av];grind[JT]
 obtain⟨i,hi,e1,e2⟩:=Wj (HY.2 hp);obtain⟨j,hj,e3,e4⟩:=Wj (HY.2 hq)
 have:i=j:=by rw[show Nk l p=JT (fun q=>decide (p=q)) l from rfl,e1,show Nk l q=JT (fun r=>decide (q=r)) l from rfl,e3]at h;omega
 simp_all
noncomputable def CO (l:List A0)(y:Pr):List A0:=if y.2.done=true then l else Ax l y.2.p
noncomputable def rests (w:List Pr):List A0:=w.foldl CO []
noncomputable def Ig (l:List A0)(r:A6):Int:=if r.done=true then -1 else Nk l r.p
noncomputable def eg (l:List A0)(y:Pr):C4:={y.1 with To:=Ig l y.2}
theorem AE (w:List Pr)(y:Pr):rests (w++[y])=CO (rests w) y:=by simp[rests]
def Ao5 {l:List A0}{y:Pr}{p:A0}(h:p∈l):p∈CO l y:=by grind[CO,Ax]
theorem Ao6 {l:List A0}{y:Pr}(h:¬y.2.done=true):y.2.p∈CO l y:=by unfold CO;rw[A1 h];grind[Ax]
theorem Ld {p:A0}:∀{w:List Pr} {l:List A0},p∈l→p∈w.foldl CO l
 |[],l,h=>h
 |y::w,l,h=>Ld (w:=w) (Ao5 h)
theorem Ft {w:List Pr} {y:Pr} (hy:y∈w) (h:¬y.2.done=true):y.2.p∈rests w:=by
 have key:∀(w:List Pr) (l:List A0),y∈w→y.2.p∈w.foldl CO l:=fun w=>by
  induction w with
  |nil=>simp_all
  |cons z w ih=>
   grind[Ld,Ao6]
 grind[rests]
def JN {w:List Pr} {p:A0} (h:p∈rests w):∃y∈w,¬y.2.done=true∧y.2.p=p:=by
 have key:∀(w:List Pr) (l:List A0),p∈w.foldl CO l→p∈l∨∃y∈w,¬y.2.done=true∧y.2.p=p:=fun w=>by
  induction w with
  |nil=>simp_all
  |cons z w ih=>
   grind[CO,Ag2]
 rcases key w [] h with h|h
 ·simp at h
 exact h
def TL (N:Nat)(w:List Pr):Prop:=2048<(dd w).length∨∃y∈w,y.2.done=false∧M0 N y.2.p≠0
noncomputable instance (N:Nat)(w:List Pr):Decidable (TL N w):=Classical.propDecidable _
def YP (w v:List Pr):(dd w).length≤(dd (w++v)).length:=by
 rw[Ad2]
 have key:∀(v l:List Pr),l.length≤(v.foldl Ax l).length:=fun v=>by
  induction v with
  |nil=>simp_all
  |cons x v ih=>
   grind[Ax]
 grind
def TL.mono {N:Nat}{w v:List Pr}(h:TL N w):TL N (w++v):=by
 rcases h with h|⟨y,hy,h⟩
 ·left;have:=YP w v;omega
 right;grind
structure TM (N:Nat) (w:List Pr) (s:List A0×List C4):Prop where
 rs:s.1=rests w
 es:s.2=(dd w).map (eg (rests w))
 ok:¬TL N w
 len:(rests w).length≤(dd w).length
theorem QG {l:List A0}{r:A6}{y:Pr}(h:¬r.done=true→r.p∈l):Ig (CO l y) r=Ig l r:=by
 unfold Ig
 by_cases hd:r.done=true
 ·rw[A2 hd,A2 hd]
 rw[A1 hd,A1 hd]
 grind[CO,Ax,AE4]
def AY5 {l:List A0} {y z:Pr} {B R:Nat} (hy:GR B R y) (hz:GR B R z) (hly:¬y.2.done=true→y.2.p∈l) (hlz:¬z.2.done=true→z.2.p∈l) (h:eg l y=eg l z):y=z:=by
 have h1:y.1=z.1:=by
  rw[Ph]at h ⊢
  obtain⟨_,h⟩:=h;exact⟨⟨by rw[hy.from0,hz.from0],by rw[hy.to0,hz.to0]⟩,h⟩
 have ht:Ig l y.2=Ig l z.2:=(Ph.1 h).1.2
 have hx:∀a b:A6,a.done=b.done→a.p=b.p→a=b:=fun a b h1 h2=>by cases a;simp_all
 have h2:y.2=z.2:=by
  unfold Ig at ht
  by_cases hdy:y.2.done=true<;>by_cases hdz:z.2.done=true
  ·exact hx _ _ (by rw[hdy,hdz]) (by rw[hy.done hdy,hz.done hdz])
  ·rw[A2 hdy,A1 hdz]at ht
   have:=Av.2 (HY.2 (hlz hdz))
   grind
  ·rw[A1 hdy,A2 hdz]at ht
   have:=Av.2 (HY.2 (hly hdy))
   simp_all
  rw[A1 hdy,A1 hdz]at ht
  exact hx _ _ (by rw[Bool.not_eq_true]at hdy hdz;rw[hdy,hdz]) (AE3 (hly hdy) ht)
 grind
noncomputable def Ak5 (N:Nat) (s9:List A0×List C4) (y8:C4×A6):Option ((List A0×List C4)⊕(List A0×List C4×Int)):=
 ((if nt y8.2.done=true then(M2 N s9.1 y8.2.p).bind fun r17=>if cmp .lss r17 0=true then(M3 N y8.2.p).bind fun r18=>if cmp .neq r18 0=true then some (.inr ({y8.1 with To:=r17},17))else(G6 s9.1 ([y8.2.p])).bind fun l20=>some (.inl ({y8.1 with To:=Ar.len s9.1},l20))else some (.inl ({y8.1 with To:=r17},s9.1))else some (.inl ({y8.1 with To:=(-1)},s9.1))):Option ((C4×(List A0))⊕(C4×Int))).bind fun s16=>
  match s16 with
  | .inl y21=>
   (F3 N s9.2 (fun y1=>I7 N y1 y21.1)).bind fun r23=>
   if r23=true then
    some (.inl (y21.2,s9.2))
   else
    (G6 s9.2 ([y21.1])).bind fun l25=>
    if cmp .gtr (Ar.len l25) 2048=true then
     some (.inr (y21.2,l25,17))
    else
     some (.inl (y21.2,l25))
  | .inr y26=>
   some (.inr (s9.1,s9.2,y26.2))
def YV {N:Nat} (hN:Bgn N) (l:List C4) (e:C4) (hl:l.length≤1000000) (hs:Rh e 1000) (hc:e.cU.bulk≤16777216) (hk:∀c∈e.dD,c.bulk≤16777216) (hf:∀y∈l,e.dE=y.dE):F3 N l (fun y1=>I7 N y1 e)=some (decide (e∈l)):=by
 unfold F3
 rw[Ar2 l (by omega) _ (fun y=>decide (e=y)) (fun y hy=>by
  unfold I7;rw[Xp hN e y hs hc hk];simp only[A4,D9,C8];rw[NW rfl]
  congr 1
  rw[decide_eq_decide,Ph]
  grind) (by omega)]
 simp_all[U8,Av]
def AF6 {N:Nat} (hN:Bgn N) {w:List Pr} {s:List A0×List C4} (hI:TM N w s) (y:Pr) (hy:GR 16777216 16777216 y) (hw:∀z∈w,GR 16777216 16777216 z) (hs:Rh y.1 1000):
 ∃o,Ak5 N s y=some o∧(match o with| .inl s'=>TM N (w++[y]) s'| .inr q=>q.2.2=17∧TL N (w++[y])):=by
 obtain⟨hrs,hes,hok,hlen⟩:=hI
 have hD:(dd w).length≤2048:=by
  rcases Q6 2048 (dd w).length with h|h
  ·exact absurd (.inl h) hok
  exact h
 have hdw:∀z∈dd w,z∈w:=fun z hz=>KN.1 hz
 have key:M0 N y.2.p=0∨y.2.done=true→∀(T:Int) (L:List A0),L=rests (w++[y])→T=Ig (rests (w++[y])) y.2→∃o,((F3 N s.2 (fun y1=>I7 N y1 {y.1 with To:=T})).bind fun r23=>if r23=true then some (Sum.inl (L,s.2))else(G6 s.2 ([{y.1 with To:=T}])).bind fun l25=>if cmp .gtr (Ar.len l25) 2048=true then some (.inr (L,l25,(17:Int)))else some (.inl (L,l25)))=some o∧(match o with| .inl s'=>TM N (w++[y]) s'| .inr q=>q.2.2=17∧TL N (w++[y])):=by
  intro hgood T L hL hT;subst hL;subst hT
  have hE:s.2=(dd w).map (eg (rests (w++[y]))):=by
   rw[hes,AE];apply DR;intro z hz
   grind[eg,QG,Ft]
  have hin:eg (rests (w++[y])) y∈s.2↔y∈dd w:=by
   rw[hE,Ee]
   constructor
   ·rintro⟨z,hz,h⟩;have:=AY5 (hw z (hdw z hz)) hy (fun h=>Ft (by grind) h) (fun h=>Ft (by simp) h) h;rw[←this];exact hz
   grind
  have hlE:s.2.length=(dd w).length:=by rw[hE,Q7]
  change ∃o,((F3 N s.2 (fun y1=>I7 N y1 (eg (rests (w++[y])) y))).bind _)=_∧_
  rw[YV hN s.2 (eg (rests (w++[y])) y) (by omega) hs hy.cond hy.checks (fun z hz=>by
   rw[hE]at hz
   obtain⟨v,hv,rfl⟩:=List.mem_map.1 hz;simp only[eg]
   rw[hy.from0,(hw v (hdw v hv)).from0])]
  simp only[A4,C8]
  have hnb:¬∃v∈w++[y],v.2.done=false∧M0 N v.2.p≠0:=by
   rintro⟨v,hv,h1,h2⟩
   rcases List.mem_append.1 hv with hv|hv
   ·exact hok (.inr ⟨v,hv,h1,h2⟩)
   simp_all
  by_cases hyD:y∈dd w
  ·have hdd:dd (w++[y])=dd w:=by rw[Wv];simp_all[Ax]
   have hrr:rests (w++[y])=rests w:=by
    rw[AE];simp_all[CO,Ax,Ft]
   rw[A2 (hin.2 hyD)];refine⟨_,rfl,rfl,?_,?_,?_⟩
   ·rw[hdd];exact hE
   ·rintro(h|h)
    ·rw[hdd]at h;omega
    grind
   simp_all
  have hdd:dd (w++[y])=dd w++[y]:=by rw[Wv];simp_all[Ax]
  rw[A1 fun h=>hyD (hin.1 h),J0 (by simp;omega)];simp only[A4]
  by_cases hbig:2048<(dd w).length+1
  ·rw[A2 (Ci (by grind[B2]))];refine⟨_,rfl,rfl,.inl ?_⟩;rw[hdd];simp;omega
  rw[A1 (AJ (by grind[B2]))];refine⟨_,rfl,rfl,?_,?_,?_⟩
  ·simp only[hdd,BY,E9,J3];rw[hE];rfl
  ·rintro(h|h)
   ·rw[hdd]at h;grind
   grind
  grind[AE,CO,Ax]
 unfold Ak5
 by_cases hd:y.2.done=true
 ·rw[A1 (by simp[N7,hd])]
  simp_all[AE,CO,Ig]
 rw[A2 (by simp[N7,hd]),hrs,GW hN _ _ (by omega) hy.rest];simp only[A4,C5]
 by_cases hin:y.2.p∈rests w
 ·have h0:=Av.2 (HY.2 hin);rw[A1 (by rw[C8];simp_all)];simp only[A4]
  have hrr:rests (w++[y])=rests w:=by rw[AE];simp_all[CO,Ax]
  obtain⟨v,hv,hvd,hvp⟩:=JN hin
  have hgood:M0 N y.2.p=0:=by
   by_cases h:M0 N y.2.p=0
   ·exact h
   exact absurd (.inr ⟨v,hv,by grind,by rw[hvp];exact h⟩) hok
  grind[Ig]
 rw[A2 (by rw[C8];simp_all[Pf]),Rr hN hy.rest];simp only[A4]
 by_cases hgood:M0 N y.2.p=0
 ·rw[A1 (Q1 hgood),J0 (by simp;omega)];simp only[A4]
  have hrr:rests (w++[y])=rests w++[y.2.p]:=by rw[AE];simp_all[CO,Ax]
  exact key (.inl hgood) _ _ hrr.symm (by rw[hrr];unfold Ig;rw[A1 hd];simp only[Nk];rw[UT (fun h=>hin (HY.1 h)) (by simp)];rfl)
 rw[A2 (X7 hgood)];exact⟨_,rfl,rfl,.inr ⟨y,by simp,by grind,hgood⟩⟩
def Vd {N:Nat} (hN:Bgn N):∀(v w:List Pr) (s:List A0×List C4),TM N w s→(∀z∈w++v,GR 16777216 16777216 z∧Rh z.1 1000)→∃o,G3 (Ak5 N) v s=some o∧(match o with| .inl s'=>TM N (w++v) s'| .inr q=>q.2.2=17∧TL N (w++v))
 |[],w,s,hI,_=>⟨_,rfl,by grind⟩
 | y::v,w,s,hI,h=>by
  obtain⟨o,h1,h2⟩:=AF6 hN hI y (h y (by simp)).1 (fun z hz=>(h z (by simp[hz])).1) (h y (by simp)).2;unfold G3;rw[h1]
  cases o with
  |inl s'=>
   have:=Vd hN v (w++[y]) s' h2 (fun z hz=>h z (by grind))
   simp_all
  |inr q=>
   refine⟨_,rfl,h2.1,?_⟩;have:=h2.2.mono (v:=v)
   simp_all
noncomputable def J7 (N:Nat)(w:List Pr):List C4×List A0×Int:=if TL N w then([],[],17)else((dd w).map (eg (rests w)),rests w,0)
def Of {N:Nat} (hN:Bgn N) {x:A0} (hb:x.bulk≤1100000) (hz:M0 N x=0):O5 N x=some (J7 N (raw x)):=by
 have hp:x.pre.length≤64:=by
  grind[M0]
 have hd:¬12<x.dep:=fun h=>by rw[M0,A1 (by omega),A2 h]at hz;cases hz
 have hg:Uk N x:=by
  rw[M0,A1 (by omega),A1 hd]at hz
  exact Hu.1 hz
 unfold O5;rw[AA4 hN x.dep x N (D5 _) (by omega) (by omega) (by omega) hp hg];simp only[A4]
 obtain⟨o,h1,h2⟩:=Vd hN (raw x) [] ([],[]) ⟨rfl,rfl,by rintro(h|⟨y,hy,_⟩);simp[dd]at h;simp at hy,by simp[rests]⟩ (fun z hz=>by
  have hz:z∈raw x:=by grind
  have h1:=Az5 x.dep x (D5 _) z hz;have h2:=ZR x.dep x (D5 _) z hz;have h3:x.dep*(x.bulk+30)≤12*(1100000+30):=Z8 (by omega) (by omega)
  exact⟨h1.mono (by omega) (by omega),h2.mono (by omega)⟩)
 change ((G3 (Ak5 N) (raw x) ([],[])).bind _)=_
 rw[h1];unfold J7
 cases o with
 |inl s'=>
  simp only[L9]at h2
  simp only[A4];rw[A1 h2.ok,h2.rs,h2.es]
 |inr q=>
  simp_all
def NM {α R:Type} (P:α→Bool) (r:R):∀l:List α,G3 (fun(_:Unit) y=>if P y=true then some (Sum.inr r)else some (.inl ())) l ()=some (if l.any P=true then .inr r else .inl ())
 |[]=>rfl
 | y::l=>by
  unfold G3
  cases h:P y with
  |true=>simp[h]
  |false=>
   simp only[D6,C7,List.any_cons,h,DN];exact NM P r l
def Uk.sub {N:Nat}{x y:A0}(h:Uk N x)(hy:y∈x.pre):Ba N y=0:=h y hy
def Aw0 {N:Nat} (hN:Bgn N) {x:A0} (hb:x.bulk≤16777216):FW N x=some (if M0 N x≠0 then M0 N x else if x.pre.any (fun y=>cmp .geq y.Op 8)=true then 1 else 0):=by
 unfold FW;rw[Rr hN hb];simp only[A4]
 by_cases h:M0 N x=0
 ·rw[A1 (Q1 h),A1 (by omega),Ml hN hb];simp only[A4];rw[NM (fun y:A0=>cmp .geq y.Op 8) (1:Int) x.pre]
  grind
 simp_all[X7]
def Di {N:Nat} {x:A0} (hz:M0 N x=0):x.pre.length≤64∧x.dep≤12∧Uk N x:=by
 have hp:x.pre.length≤64:=by
  grind[M0]
 have hd:¬12<x.dep:=fun h=>by rw[M0,A1 (by omega),A2 h]at hz;cases hz
 rw[M0,A1 (by omega),A1 hd]at hz
 exact⟨hp,by omega,Hu.1 hz⟩
def AW1 {N:Nat} (hN:Bgn N) {x:A0} (hb:x.bulk≤16777216):∃b,IN N x=some b∧(b=true→x.pre.length≤9):=by
 unfold IN;obtain⟨r,h0,c1,c2,c3⟩:=WW hN 9 N x (by omega) hb;rw[h0];simp only[A4]
 by_cases h:9<r
 ·rw[A2 (Ci h)];simp_all
 rw[A1 (AJ h),OO hN N x (by omega) hb];have hpb:=HL x;simp only[A4]
 have key:∃o,loopN (fun(s3:Int)=>((if cmp .lss s3 (Ar.len x.pre)=true then(B8 x.pre s3).bind fun x5=>(As N N x5.cU 20).bind fun r6=>if cmp .gtr r6 20=true then some (.inr (.inr ()))else some (.inl (ar .add .i64 s3 1))else some (.inr (.inl ()))):Option (Int⊕(Unit⊕Unit)))) N 0=some o∧True:=EN (fun j s=>s=(j:Int)) (fun _=>True) x.pre.length 0 0 N (by omega) rfl (fun j s _ hj e=>by
  subst e
  simp only[L8]at hj
  have e1:B8 x.pre (j:Int)=some x.pre[j]:=by rw[G4,E3 hj]
  have hm:=(IX x _ (G7 hj)).1;have hc:=A0.bulk_eq x.pre[j];obtain⟨r6,h6,_⟩:=YR hN 20 N x.pre[j].cU (by omega) (by omega);rw[A2 (by grind[C5,B2]),e1];simp only[A4,h6]
  by_cases h7:20<r6
  ·rw[A2 (Ci h7)];simp_all
  ·rw[A1 (AJ h7)];grind[P4]) (fun s e=>by
  simp_all[C5,B2])
 obtain⟨o,ho,_⟩:=key;rw[ho]
 have hl:x.pre.length≤9:=by omega
 cases o with
 |inl _=>simp_all
 |inr _=>simp_all
def Ay7 (x:A0):x∈x.pre:=by rw[A0.pre_eq];simp
def At1 {N:Nat}(hN:Bgn N){x:A0}(hb:x.bulk≤1100000)(hz:M0 N x=0):Bf N x=some (J7 N (raw x)):=by
 unfold Bf;rw[Rr hN (by omega),Of hN hb hz]
 simp_all[Q1]
def PR (w:List Pr):(rests w).length≤(dd w).length:=by
 have key:∀(v w:List Pr),(rests w).length≤(dd w).length→(rests (w++v)).length≤(dd (w++v)).length:=fun v=>by
  induction v with
  |nil=>simp_all
  | cons y v ih=>
   intro w h
   have:=ih (w++[y]) (by
    rw[AE,Wv];unfold CO Ax
    split
    ·grind
    rename_i hd
    by_cases hy:y∈dd w
    ·rw[A2 (Ft (KN.1 hy) hd),A2 hy];exact h
    grind)
   simp_all
 simpa using key w [] (by simp[rests])
def AQ6 {α β:Type}{m:Option α}{F:α→Option β}{a:α}{r:Option β}(h1:m=some a)(h2:F a=r):m.bind F=r:=by rw[h1];exact h2
end Go.Ab
open Go.Ab.Ar (an ar beq cmp nt)
namespace Go.Ab
def V0 (y:Pr):B0:=⟨y.1,y.2.done,y.2.p⟩
def EqE (a b:C4):Prop:=(a.Var=b.Var∧a.Typ=b.Typ)∧a.cU=b.cU∧a.dG=b.dG∧a.dI=b.dI∧a.dD=b.dD∧a.dF=b.dF∧a.dH=b.dH
noncomputable instance (a b:C4):Decidable (EqE a b):=Classical.propDecidable _
def PQ {N:Nat}(l m:List Int)(hs:l.length<1000000)(hN:l.length<N):CS N l m=some (decide (l=m)):=Ws l m hs hN
def Xo {N:Nat}(l m:List V9)(hs:l.length<1000000)(hN:l.length<N):Fv N l m=some (decide (l=m)):=AF4 l m hs hN
def ifd {p:Prop}[Decidable p]{α:Type}{a b:α}:(if decide p=true then a else b)=if p then a else b:=by by_cases h:p<;>simp[h]
def Ao4 {N:Nat} (hN:Bgn N) (a b:C4) (hs:Rh a 1000) (hc:a.cU.bulk≤16777216) (hk:∀c∈a.dD,c.bulk≤16777216):BC N a b=some (decide (EqE a b)):=by
 obtain⟨h1,h2,h3,h4,h5⟩:=hs;unfold BC;rw[QJ hN N a.cU b.cU (by omega) hc,PQ a.dG b.dG (by omega) (by omega),PQ a.dI b.dI (by omega) (by omega),PQ a.dH b.dH (by omega) (by omega),Xo a.dF b.dF (by omega) (by omega)];simp only[A4,K9,G2,N7,B2]
 by_cases e1:a.Var=b.Var∧a.Typ=b.Typ
 ·rw [A1 (by simp_all)]
  by_cases e2:a.cU=b.cU
  ·by_cases e3:a.dD.length=b.dD.length
   ·rw[A1 (by grind)];have:=Nf a.dD b.dD e3 (by omega) (fun x y=>R5 N N x y) (fun x hx y _=>QJ hN N x y (by have:=hk x hx;omega) (hk x hx)) (N:=N) (by omega)
    simp only[N7,B2]at this
    rw[this]
    by_cases e4:a.dD=b.dD
    ·rw[A2 e4];simp only[A4,ifd]
     grind[EqE]
    simp_all[EqE]
   rw[A2,V2 fun h:EqE a b=>e3 (by rw[h.2.2.2.2.1])]
   grind
  simp_all[EqE]
 rw[A2,V2 fun h:EqE a b=>e1 h.1]
 grind
def AQ9 {α:Type} {N:Nat} (l:List α) {step:Int→Option (Int⊕(Unit⊕Unit))} (P:α→Prop) (hN:l.length<N) (h1:∀j (h:j<l.length),P l[j]→step (j:Int)=some (.inr (.inr ()))) (h0:∀j (h:j<l.length),¬P l[j]→step (j:Int)=some (.inl ((j+1:Nat):Int)))
 (hx:∃x∈l,P x):loopN step N 0=some (.inr ()):=by
 obtain⟨x,hx,hp⟩:=hx;obtain⟨m,hm,rfl⟩:=AC hx
 obtain⟨r,k1,k2⟩:=EN (step:=step) (fun j s=>s=(j:Int)∧j≤m) (fun r=>r= .inr ()) l.length 0 0 N hN ⟨rfl,by omega⟩
  (fun j s _ hj ⟨e,hjm⟩=>by
   grind)
  (fun s ⟨_,hjm⟩=>by omega)
 rw[k1,k2]
def AZ6 {α:Type}{N:Nat}(l:List α){step:Int→Option (Int⊕(Unit⊕Unit))}(P:α→Prop)(hN:l.length<N)(h0:∀j (h:j<l.length),¬P l[j]→step (j:Int)=some (.inl ((j+1:Nat):Int)))
 (he:step (l.length:Int)=some (.inr (.inl ()))) (hx:¬∃x∈l,P x):loopN step N 0=some (.inl ()):=by
 rw[JR (s0:=(0:Int)) (st:=fun j=>(j:Int)) (k:=l.length) (r:=(Sum.inl ():Unit⊕Unit)) rfl hN (fun j hj=>h0 j hj fun hp=>hx ⟨_,G7 hj,hp⟩) he]
structure PK (y:Pr):Prop where
 ok:GR 16777216 16777216 y
 sz:Rh y.1 1000
def Ah6 {y z:Pr}(hy:PK y)(hz:PK z):z=y↔z.2.done=y.2.done∧EqE z.1 y.1∧z.2.p=y.2.p:=by
 constructor
 ·simp_all[EqE]
 rintro⟨h1,h2,h3⟩;refine Prod.ext (Ph.2 ⟨⟨by rw[hz.ok.from0,hy.ok.from0],by rw[hz.ok.to0,hy.ok.to0]⟩,h2⟩) ?_;cases hz2:z.2;simp_all
def Al2 (a b:Bool):beq a b=(a==b):=rfl
def AJ1 {N:Nat} (hN:Bgn N) (l:List Pr) (y:Pr) (hl:l.length≤4000000) (hk:∀z∈l,PK z) (hy:PK y):CQ N (l.map V0) (V0 y)=some ((Ax l y).map V0):=by
 unfold CQ;have hlen:(l.map V0).length=l.length:=Q7 ..
 have hidx:∀j (h:j<l.length),B8 (l.map V0) (j:Int)=some (V0 l[j]):=fun j h=>by rw[G4,Aa,E3 h];rfl
 have body:∀j (h:j<l.length),(if beq (V0 l[j]).Done (V0 y).Done=true then(BC N (V0 l[j]).Edge (V0 y).Edge).bind fun r5=>if r5=true then(Af N N (V0 l[j]).Rest (V0 y).Rest).bind fun r7=>if r7=true then some (Sum.inr (Sum.inr (α:=Unit) ()))else some (.inl (ar .add .i64 (j:Int) 1))else some (.inl (ar .add .i64 (j:Int) 1))else some (.inl (ar .add .i64 (j:Int) 1)))=
  some (if l[j]=y then .inr (.inr ())else .inl ((j+1:Nat):Int)):=fun j h=>by
  have hz:=hk _ (G7 h);have e:=Ao4 hN l[j].1 y.1 hz.sz hz.ok.cond hz.ok.checks;have e2:=Ay9 hN N l[j].2.p y.2.p (by have:=hz.ok.rest;omega) hz.ok.rest;simp only[V0,e,e2,A4,Al2,P4 (show j<1000000000000 by omega),ifd]
  by_cases q1:l[j].2.done=y.2.done
  ·rw[A2 (by simp[q1])]
   by_cases q2:EqE l[j].1 y.1
   ·rw[A2 q2]
    by_cases q3:l[j].2.p=y.2.p
    ·rw[A2 q3,A2 ((Ah6 hy hz).2 ⟨q1,q2,q3⟩)]
    grind
   simp_all[Ah6]
  grind
 have st:∀j (h:j<l.length),(if cmp .lss (j:Int) (Ar.len (l.map V0))=true then(B8 (l.map V0) (j:Int)).bind fun x3=>if beq x3.Done (V0 y).Done=true then(B8 (l.map V0) (j:Int)).bind fun x4=>(BC N x4.Edge (V0 y).Edge).bind fun r5=>if r5=true then(B8 (l.map V0) (j:Int)).bind fun x6=>(Af N N x6.Rest (V0 y).Rest).bind fun r7=>if r7=true then some (Sum.inr (Sum.inr (α:=Unit) ()))else some (.inl (ar .add .i64 (j:Int) 1))else some (.inl (ar .add .i64 (j:Int) 1))else some (.inl (ar .add .i64 (j:Int) 1))else some (.inr (.inl ())))=
  some (if l[j]=y then .inr (.inr ())else .inl ((j+1:Nat):Int)):=fun j h=>by
  rw[A2 (by grind[C5,B2])]
  simp_all
 by_cases hx:y∈l
 ·rw[AQ9 l (fun z=>z=y) (by omega) (fun j h hp=>by rw[st j h,A2 hp]) (fun j h hp=>by rw[st j h,A1 hp]) ⟨y,hx,rfl⟩]
  simp_all[Ax]
 rw[AZ6 l (fun z=>z=y) (by omega) (fun j h hp=>by rw[st j h,A1 hp]) (by grind[C5,B2]) (by simp_all)];unfold Ax;rw[A1 hx]
 grind[J0]
def Ay6 (N:Nat)(l:List A0):JO N l=some (Dy 1 l):=by
 unfold JO
 match l with
 |[]=>rfl
 |[x]=>rfl
 |x::y::l=>rw[A1 (by simp only[D9,B2,U0,C8];omega)];rfl
def AQ0 {N:Nat} (y:Pr) (l:List A0) (hl:l.length≤1000000) (hd:y.2.done=true→y.2.p=zP):DD N (V0 y) l=some (V0 (y.1,EW y.2 l)):=by
 unfold DD
 cases l with
 |nil=>
  rw[A2 (by rfl)]
  grind[EW,V0,Tu,Dy]
 | cons a l=>
  rw[A1 (by simp only[D9,B2,U0,C8];omega)];unfold EW
  cases h:y.2.done with
  |true=>
   have h':(V0 y).Done=true:=h;rw[A2 h',J0 (by grind)];simp only[A4,L9,Ay6,B4];rfl
  |false=>
   have h':(V0 y).Done=false:=h;rw[A1 (by rw[h'];simp),J0 (by grind)];simp only[A4,Ay6,D6,C7];rfl
def AO0 {N:Nat} (y:Pr) (x:A0) (i:Nat) (hi:i<x.cT.length) (hl:x.cT.length≤1000000):EE N (V0 y) x (i:Int)=some (V0 (y.1,GU x.cT i y.2)):=by
 unfold EE
 have e1:T4 x.cT none (some (i:Int)) none=some (x.cT.take i):=by
  unfold T4;rw[A2 (by simp;omega)];simp
 have e2:T4 x.cT (some (ar .add .i64 (i:Int) 1)) none none=some (x.cT.drop (i+1)):=by
  rw[P4 (by omega)];unfold T4;rw[A2 (by simp;omega)]
  grind[List.take_of_length_le]
 have fin:∀l:List A0,(if cmp .eql (Ar.len l) 1=true then(B8 l 0).bind fun x14=>some (⟨y.1,false,x14⟩:B0)else some (⟨y.1,false,nd 3 l⟩:B0))=some (V0 (y.1,⟨false,Dy 3 l⟩)):=fun l=>by
  match l with
  |[]=>rfl
  |[x]=>rfl
  |x::y::l=>rw[A1 (by simp only[D9,B2,U0,C8];omega)];rfl
 rw[e1];simp only[A4];rw[J0 (by simp;omega)];simp only[A4,L9,e2]
 cases h:y.2.done with
 |true=>
  have h':(V0 y).Done=true:=h;rw[A1 (by simp[N7,h'])];simp only[A4];rw[J0 (by simp;omega)];simp only[A4];have:=fin (x.cT.take i++x.cT.drop (i+1));simp only[GU,h,B4];exact this
 | false=>
  have h':(V0 y).Done=false:=h;rw[A2 (by simp[N7,h']),J0 (by simp;omega)];simp only[A4];rw[J0 (by simp;omega)];simp only[A4]
  have e3:x.cT.take i++[y.2.p]++x.cT.drop (i+1)=x.cT.set i y.2.p:=by
   rw[List.set_eq_take_append_cons_drop,A2 hi];simp
  have:=fin (x.cT.take i++[y.2.p]++x.cT.drop (i+1));simp only[GU,h,D6,C7];rw[←e3];exact this
def AB4 (N:Nat)(x:A0):T5 N x=some (decide (x.Op=5∨x.Op=9)):=by
 grind[T5,K9,D9]
def AK3 {N:Nat} (x:A0) (y:Pr) (h7:x.Op≠7) (hy:Rh y.1 1000) (hd:y.2.done=true→y.2.p=zP):Hc N x (V0 y)=some (V0 (UR x y)):=by
 obtain⟨h1,h2,h3,h4,h5⟩:=hy;unfold Hc IL NK HG UR Rj Wi SZ;rw[AB4];simp only[A4,A1 h7,K9,D9,←Bool.decide_or,ifd]
 by_cases h59:x.Op=5∨x.Op=9
 ·rw[A2 h59,A2 h59,A2 h59,J0 (by grind[V0])];simp only[A4]
  by_cases ho:x.Op=5
  ·rw[A2 (.inl ho),J0 (by grind[V0])];simp only[A4]
   cases h:y.2.done with
   |true=>
    have h':(V0 y).Done=true:=h;rw[A2 h',J0 (by grind[V0])]
    grind[J0,V0,JJ,zP,zE]
   |false=>
    have h':(V0 y).Done=false:=h;rw[A1 (by rw[h'];simp)]
    grind[V0,JJ]
  have h9:x.Op=9:=by omega
  rw[A1 (by omega)];simp only[A4]
  cases h:y.2.done with
  |true=>
   have h':(V0 y).Done=true:=h;rw[A2 h',J0 (by grind[V0])]
   grind[J0,V0,JJ,zP,zE]
  |false=>
   have h':(V0 y).Done=false:=h;rw[A1 (by rw[h'];simp)]
   grind[V0,JJ]
 rw[A1 h59,A1 h59,A1 h59,J0 (by grind[V0])];simp only[A4]
 by_cases ho:x.Op=6
 ·rw[A2 (.inr ho),J0 (by grind[V0])];simp only[A4]
  cases h:y.2.done with
  |true=>
   have h':(V0 y).Done=true:=h;rw[A2 h',J0 (by grind[V0])]
   grind[J0,V0,JJ,zP,zE]
  |false=>
   have h':(V0 y).Done=false:=h;rw[A1 (by rw[h'];simp)]
   grind[V0,JJ]
 rw[A1 (by omega)];simp only[A4]
 cases h:y.2.done with
 |true=>
  have h':(V0 y).Done=true:=h;rw[A2 h',J0 (by grind[V0])]
  grind[J0,V0,JJ,zP,zE]
 |false=>
  have h':(V0 y).Done=false:=h;rw[A1 (by rw[h'];simp)]
  grind[V0,JJ]
def Ap4 {N:Nat} (hN:Bgn N) {y:A0} (hb:y.bulk≤16777216) (hl:y.cT.length≤64) (h:Ba N y=0) (h4:y.Op=4):y=nd 4 y.cT:=by
 have hc:y.cU.bulk≤16777216:=by have:=A0.bulk_eq y;omega
 obtain⟨s,ng,hs⟩:=Mb N y (by omega) (by omega) hl;have hz:=QJ hN N y.cU zE (by omega) hc;have h1:=Ic hN hc (by omega) (by omega) hs hz
 rw[(FC hN hb hl).2,h]at h1
 have ht:=hs.tab
 rw[h4]at ht
 cases ht;have h1:=Bl h1
 split at h1
 ·unfold NP at h1
  simp only[Hl,Bool.false_and,D6,C7,false_and,U6,DN,C8]at h1
  split at h1
  ·rename_i hh;obtain⟨e1,e2,e3,e4,e5⟩:=hh;refine Z0.2 ⟨⟨h4,e2,e3,e4,e5⟩,e1,rfl⟩
  cases h1
 cases h1
def MA (x:A0)(y:Pr):List Pr:=
 if x.Op=1 then[(y.1,EW y.2 (x.cT.drop 1))]
 else if x.Op=4 then PC x y
 else if x.Op=8 then PC (nd 4 (x.cT.drop 1)) y
 else[UR x y]
def AX1 {N:Nat} (hN:Bgn N) {x:A0} (hb:x.bulk≤16777216) (hl:x.cT.length≤64) (hg:Ba N x=0) (h0:x.Op≠0) (h2:x.Op≠2) (h3:x.Op≠3) {y:Pr} (hy:PK y):MR N x (V0 y)=some ((MA x y).map V0):=by
 have ha:=TK hN hb hl hg;have hop:=ha.op;unfold MR MA;simp only[D9,ifd]
 by_cases h1:x.Op=1
 ·have:=ha.two (by omega) (by omega);rw[A2 h1,A2 h1,RZ (by omega)];simp only[A4];rw[AQ0 y _ (by simp;omega) hy.ok.done];rfl
 rw[A1 h1,A1 h1]
 by_cases h4:x.Op=4
 ·rw[A2 h4,A2 h4];obtain⟨a,e⟩:=ha.one (by omega) (by omega);have hx:=Ap4 hN hb hl hg h4
  have e0:B8 x.cT 0=some a:=by rw[e];rfl
  rw[e0];simp only[A4];unfold CR PC
  cases h:y.2.done with
  |true=>
   have h':(V0 y).Done=true:=h;rw[A2 h',A2 rfl]
   rw[e]at hx
   rw[hx];rfl
  |false=>
   have h':(V0 y).Done=false:=h;rw[A1 (by rw[h'];simp),A1 (by simp),e];rfl
 rw[A1 h4,A1 h4]
 by_cases h8:x.Op=8
 ·rw[A2 h8,A2 h8];obtain⟨a,b,e⟩:=ha.more h8
  have e0:B8 x.cT 1=some b:=by rw[e];rfl
  rw[e0,e];simp only[A4];unfold CR PC
  cases h:y.2.done with
  |true=>
   have h':(V0 y).Done=true:=h;rw[A2 h',A2 rfl];rfl
  |false=>
   have h':(V0 y).Done=false:=h;rw[A1 (by rw[h'];simp),A1 (by simp)];rfl
 rw[A1 h8,A1 h8]
 by_cases h7:x.Op=7
 ·rw[A2 h7];obtain⟨z1,z2,z3,z4,z5⟩:=hy.sz
  cases h:y.2.done with
  |true=>
   have h':(V0 y).Done=true:=h;rw[A2 h',J0 (by grind[V0])];simp only[A4];rw[J0 (by grind[V0])];simp[V0,UR,Rj,Wi,h7,h,hy.ok.done h,zP,zE]
  |false=>
   have h':(V0 y).Done=false:=h;rw[A1 (by rw[h'];simp)]
   grind[V0,UR,Rj,Wi,SZ,HG]
 rw[A1 h7,AK3 x y h7 hy.sz hy.ok.done];rfl
def Qb (l:List Nat):Nat:=l.foldr max 0
def uc (op:Int)(l:List Nat):Nat:=if op=0 then 1 else if op=2∨op=3 then l.sum else if op=4∨op=8 then 2*Qb l else Qb l
mutual
def U:A0→Nat
 |⟨op,args,_,_,_,_,_⟩=>uc op (Us args)
def Us:List A0→List Nat
 |[]=>[]
 |a::l=>U a::Us l
end
theorem AH4:∀l:List A0,Us l=l.map U
 |[]=>rfl
 |a::l=>by simp[Us,AH4 l]
def Au0 (x:A0):U x=uc x.Op (x.cT.map U):=by cases x;grind[U,AH4]
theorem Ae7 (op:Int)(l:List A0):U (nd op l)=uc op (l.map U):=by rw[Au0];rfl
def uc1 (l:List Nat):uc 1 l=Qb l:=rfl
def uc3 (l:List Nat):uc 3 l=l.sum:=rfl
theorem uc4 (l:List Nat):uc 4 l=2*Qb l:=rfl
theorem uc8 (l:List Nat):uc 8 l=2*Qb l:=rfl
theorem Ai5:Qb []=0:=rfl
def Ai6 {l:List Nat} {a:Nat} (h:a∈l):a≤Qb l:=by
 induction l with
 |nil=>simp at h
 |cons b l ih=>
  grind[Qb]
theorem OR (a:Nat)(l:List Nat):Qb (a::l)=max a (Qb l):=rfl
def AC1 {l:List Nat} {m:Nat} (h:∀a∈l,a≤m):Qb l≤m:=by
 induction l with
 |nil=>simp[Qb]
 |cons b l ih=>
  have:=ih fun a ha=>h a (by simp[ha]);have:=h b (by simp);rw[OR];omega
theorem Wc {l:List Nat} {a:Nat} (h:a∈l):a≤l.sum:=by
 induction l with
 |nil=>simp at h
 |cons b l ih=>
  grind
theorem Ki:∀(l:List A0) (F:Nat→Nat),(∀i (h:i<l.length),F i≤U l[i])→((List.range l.length).map F).sum≤(l.map U).sum
 |[],F,_=>by simp
 |a::l,F,h=>by
  have:=Ki l (fun i=>F (i+1)) fun i hi=>by have:=h (i+1) (by grind);simp_all
  have h0:=h 0 (by simp);simp only[U0,List.range_succ_eq_map,E9,Gf,Il]
  simp only[List.getElem_cons_zero]at h0
  have e:(List.map (F∘Nat.succ) (List.range l.length)).sum=(List.map (fun i=>F (i+1)) (List.range l.length)).sum:=rfl;omega
def EQ {α β:Type} {f:α→List β} {k:Nat}:∀{l:List α},(∀x∈l,(f x).length≤k)→(l.flatMap f).length≤k*l.length
 |[],_=>by simp
 |x::l,h=>by
  have:=EQ (f:=f) (l:=l) fun y hy=>h y (by simp[hy]);have:=h x (by simp)
  grind[Nat.mul_add]
theorem VN (a:A0)(y:Pr):(PC a y).length≤2:=by
 unfold PC
 grind
def Ar4 {l:List A0}(h:∀a∈l,(raw a).length≤U a):((l.map raw).headD []).length≤Qb (l.map U):=by
 cases l with
 |nil=>simp
 |cons a l=>have:=h a (by simp);grind[OR]
def Rs:∀(d:Nat) (x:A0),x.dep≤d→(raw x).length≤U x:=by
 intro d
 induction d with
 |zero=>grind[A0.dep_eq]
 | succ d ih=>
  intro x hd;have hrec:∀a∈x.cT,(raw a).length≤U a:=fun a ha=>ih a (by have:=DL ha;omega);have hhd:=Ar4 hrec;rw[Jn,Au0];unfold comb uc
  by_cases h0:x.Op=0
  ·rw[A2 h0,A2 h0];simp
  rw[A1 h0,A1 h0]
  by_cases h1:x.Op=1
  ·rw[A2 h1,A1 (show¬(x.Op=2∨x.Op=3) by omega),A1 (show¬(x.Op=4∨x.Op=8) by omega),Q7];exact hhd
  rw[A1 h1]
  by_cases h2:x.Op=2
  ·rw[A2 h2,A2 (.inl h2),List.length_flatMap]
   grind[Ki]
  rw[A1 h2]
  by_cases h3:x.Op=3
  ·rw[A2 h3,A2 (.inr h3),List.length_flatMap]
   grind[Ki]
  rw[A1 h3,A1 (show¬(x.Op=2∨x.Op=3) by omega)]
  by_cases h4:x.Op=4
  ·rw[A2 h4,A2 (.inl h4)];have:=EQ (f:=PC x) (k:=2) (l:=(x.cT.map raw).headD []) fun y _=>VN x y;omega
  rw[A1 h4]
  by_cases h8:x.Op=8
  ·rw[A2 h8,A2 (.inr h8)];have:=EQ (f:=PC (nd 4 (x.cT.drop 1))) (k:=2) (l:=(x.cT.map raw).headD []) fun y _=>VN _ y;omega
  simp_all
theorem AH6 (l:List A0):U (Dy 1 l)=Qb (l.map U):=by
 match l with
 |[]=>rw[show Dy 1 []=nd 1 []from rfl,Ae7,uc1]
 |[x]=>simp[Dy,Qb]
 |x::y::l=>rw[show Dy 1 (x::y::l)=nd 1 (x::y::l)from rfl,Ae7,uc1]
def AH5 (l:List A0):U (Dy 3 l)=(l.map U).sum:=by
 match l with
 |[]=>rw[show Dy 3 []=nd 3 []from rfl,Ae7,uc3]
 |[x]=>simp[Dy]
 |x::y::l=>rw[show Dy 3 (x::y::l)=nd 3 (x::y::l)from rfl,Ae7,uc3]
def Ax1 (l:List Nat)(i:Nat):(l.take i).sum+(l.drop i).sum=l.sum:=by rw[←List.sum_append,Ad]
theorem Ag8:∀(l:List Nat) (i:Nat) (hi:i<l.length) (v:Nat),(l.set i v).sum+l[i]=l.sum+v
 |a::l,0,_,v=>by grind
 |a::l,i+1,hi,v=>by
  have:=Ag8 l i (by grind) v
  grind
def Be0:∀(d:Nat) (x:A0),x.dep≤d→∀y∈raw x,¬y.2.done=true→U y.2.p≤U x:=by
 intro d
 induction d with
 |zero=>grind[A0.dep_eq]
 | succ d ih=>
  intro x hd y hy hnd;have hrec:∀a∈x.cT,∀y∈raw a,¬y.2.done=true→U y.2.p≤U a:=fun a ha=>ih a (by have:=DL ha;omega);have hmx:∀a∈x.cT,U a≤Qb (x.cT.map U):=fun a ha=>Ai6 (List.mem_map.2 ⟨a,ha,rfl⟩)
  rw[Jn]at hy
  have hU:=Au0 x
  unfold comb at hy
  unfold uc at hU
  by_cases h0:x.Op=0
  ·rw[A2 h0]at hy
   rw[List.mem_singleton.1 hy]at hnd;exact absurd rfl hnd
  rw[A1 h0]at hy hU
  by_cases h1:x.Op=1
  ·rw[A2 h1]at hy
   rw[A1 (by omega),A1 (by omega)]at hU
   obtain⟨z,hz,rfl⟩:=List.mem_map.1 hy
   match he:x.cT,hz with
   |[],hz=>simp at hz
   | a::l,hz=>
    have hz:z∈raw a:=by grind
    have ha:a∈x.cT:=by rw[he];simp
    rw[he]at hnd hU
    simp only[List.drop_succ_cons,Ip,E9,OR]at hnd hU ⊢
    have e:U (EW z.2 l).p=Qb ((if z.2.done=true then l else z.2.p::l).map U)∨(EW z.2 l).done=true:=by
     unfold EW
     split
     ·right;rfl
     grind[AH6]
    grind[Qb]
  rw[A1 h1]at hy
  by_cases h2:x.Op=2
  ·rw[A2 h2]at hy
   rw[A2 (.inl h2)]at hU
   obtain⟨i,_,hz⟩:=List.mem_flatMap.1 hy;obtain⟨a,ha,hz⟩:=KH hz;have h5:=hrec a ha y hz hnd;have h6:=Wc (List.mem_map.2 ⟨a,ha,rfl⟩:U a∈x.cT.map U);omega
  rw[A1 h2]at hy
  by_cases h3:x.Op=3
  ·rw[A2 h3]at hy
   rw[A2 (.inr h3)]at hU
   obtain⟨i,_,hz⟩:=List.mem_flatMap.1 hy;obtain⟨z,hz2,rfl⟩:=List.mem_map.1 hz
   have hi:i<x.cT.length:=by
    simp_all
   rw[MC hi]at hz2
   simp only[GU];rw[AH5]
   split
   ·have:=Ax1 (x.cT.map U) i
    have e:(x.cT.map U).drop i=U x.cT[i]::(x.cT.map U).drop (i+1):=by
     rw[S3 (by grind)];simp
    rw[e,Il]at this
    rw[BY,List.sum_append,Lm,Ln];omega
   grind[Ag8,List.map_set]
  rw[A1 h3]at hy
  rw[A1 (by omega)]at hU
  have hrep:∀(ag b:A0) (l:List A0),ag.cT=b::l→U ag≤2*Qb (x.cT.map U)→U b≤Qb (x.cT.map U)→∀a∈x.cT,∀z∈raw a,∀y∈PC ag z,¬y.2.done=true→U y.2.p≤2*Qb (x.cT.map U):=fun ag b l hl h1 h2 a ha z hz y hy hnd=>by
   have:=hmx a ha
   unfold PC at hy
   grind[Ae7,uc8,OR,Ai5]
  by_cases h4:x.Op=4
  ·rw[A2 h4]at hy
   rw[A2 (.inl h4)]at hU
   obtain⟨z,hz,hy⟩:=List.mem_flatMap.1 hy
   match he:x.cT,hz with
   |[],hz=>simp at hz
   |a::l,hz=>
    have:=hrep x a l he (by omega) (hmx a (by rw[he];simp)) a (by rw[he];simp) z (by grind) y hy hnd;omega
  rw[A1 h4]at hy
  by_cases h8:x.Op=8
  ·rw [A2 h8]at hy
   rw[A2 (.inr h8)]at hU
   obtain⟨z,hz,hy⟩:=List.mem_flatMap.1 hy
   match he:x.cT,hz with
   |[],hz=>simp at hz
   | [a],hz=>
    have ha:a∈x.cT:=by rw[he];simp
    have hm:=hmx a ha
    rw[he]at hy
    unfold PC at hy
    split at hy
    ·rcases List.mem_cons.1 hy with rfl|hy
     ·have:=hrec a ha _ (by grind) hnd;omega
     grind[Ae7,uc4,Ai5]
    simp[nd]at hy
   | a::b::l,hz=>
    have hb:∀c∈b::l,U c≤Qb (x.cT.map U):=fun c hc=>hmx c (by rw[he];simp_all)
    rw[he]at hy
    have h5:U (nd 4 (b::l))≤2*Qb (x.cT.map U):=by
     have:Qb ((b::l).map U)≤Qb (x.cT.map U):=AC1 fun v hv=>by
      grind
     rw[Ae7,uc4];omega
    have:=hrep (nd 4 (b::l)) b l rfl h5 (hb b (by simp)) a (by rw[he];simp) z (by grind) y hy hnd;omega
  rw[A1 h8]at hy
  rw[A1 (by omega)]at hU
  obtain⟨z,hz,rfl⟩:=List.mem_map.1 hy;obtain⟨a,ha,hz⟩:=Bs hz
  simp only[UR,Wi]at hnd ⊢
  split at hnd
  ·simp_all
  rename_i hzd;rw[A1 hzd];have h5:=hrec a ha z hz hzd;have h6:=hmx a ha;rw[Au0]
  have e:uc (SZ x) ([z.2.p].map U)=U z.2.p:=by
   grind[uc,SZ,Qb]
  grind
def Bg1:∀(d:Nat) (x:A0),x.dep≤d→U x+1≤2 ^ x.pre.length:=by
 intro d
 induction d with
 |zero=>grind[A0.dep_eq]
 | succ d ih=>
  intro x hd;have hrec:∀a∈x.cT,U a+1≤2 ^ a.pre.length:=fun a ha=>ih a (by have:=DL ha;omega)
  have key:∀l:List A0,(∀a∈l,U a+1≤2 ^ a.pre.length)→(l.map U).sum+1≤2 ^ (A0.pres l).length:=fun l=>by
   induction l with
   |nil=>grind[A0.pres]
   | cons a l ihl=>
    intro h;have h1:=h a (by simp);have h2:=ihl fun b hb=>h b (by simp[hb]);simp only[E9,Il,A0.pres,Ac,Nat.pow_add];have h3:(U a+1)*((l.map U).sum+1)≤2 ^ a.pre.length*2 ^ (A0.pres l).length:=Z8 h1 h2
    have h4:(U a+1)*((l.map U).sum+1)=U a*(l.map U).sum+U a+(l.map U).sum+1:=by
     rw[I1,Nat.mul_add];omega
    omega
  have hs:=key x.cT hrec;have hm:Qb (x.cT.map U)≤(x.cT.map U).sum:=AC1 fun a ha=>Wc ha;rw[Au0,A0.pre_eq,U0,Nat.pow_succ];have hp:1≤2 ^ (A0.pres x.cT).length:=Nat.one_le_two_pow
  grind[uc]
def Jv {α:Type} [DecidableEq α]:∀(l m:List α),(l.foldl Ax m).length≤m.length+l.length
 |[],m=>by simp
 |x::l,m=>by
  have:=Jv l (Ax m x)
  have h:(Ax m x).length≤m.length+1:=by grind[Ax]
  grind
def Hs {α:Type}[DecidableEq α](l:List α):(dd l).length≤l.length:=by have:=Jv l [];simp_all[dd]
def Uq {N:Nat} (hN:Bgn N) (D acc:List Pr) (g:Pr→Pr) (F:B0→Option B0) (hF:∀y∈D,F (V0 y)=some (V0 (g y))) (hlen:acc.length+D.length≤3000000) (hA:∀z∈acc,PK z) (hD:∀z∈D,PK (g z)):
 loopN (fun(s6:(List B0)×Int)=>((if cmp .lss s6.2 (Ar.len (D.map V0))=true then(B8 (D.map V0) s6.2).bind fun x9=>(F x9).bind fun r11=>(CQ N s6.1 r11).bind fun l12=>some (.inl (l12,ar .add .i64 s6.2 1))else some (.inr s6.1)):Option (((List B0)×Int)⊕(List B0)))) N (acc.map V0,0)=some (((D.map g).foldl Ax acc).map V0):=by
 have hl:(D.map V0).length=D.length:=Q7 ..;rw[JR (s0:=(acc.map V0,(0:Int))) (st:=fun j=>((((D.take j).map g).foldl Ax acc).map V0,(j:Int))) (k:=D.length) (r:=((D.map g).foldl Ax acc).map V0) (by simp) (by omega) ?_ ?_]
 ·intro j hj
  have e:B8 (D.map V0) (j:Int)=some (V0 D[j]):=by rw[G4,Aa,E3 hj];rfl
  have hm:=G7 hj;simp only[C5,B2,hl];rw[A2 (by simp_all),e];simp only[A4,hF _ hm];have h1:=Jv ((D.take j).map g) acc
  simp only[Q7,BZ]at h1
  rw[AJ1 hN _ _ (by omega) (fun z hz=>by
   grind[FZ]) (hD _ hm)]
  grind[P4,List.take_add_one]
 simp_all[C5,B2]
def RN {N:Nat}(hN:Bgn N)(D acc:List Pr)(hlen:acc.length+D.length≤3000000)(hA:∀z∈acc,PK z)(hD:∀z∈D,PK z):
 loopN (fun(s6:(List B0)×Int)=>((if cmp .lss s6.2 (Ar.len (D.map V0))=true then(B8 (D.map V0) s6.2).bind fun x9=>(CQ N s6.1 x9).bind fun l12=>some (.inl (l12,ar .add .i64 s6.2 1))else some (.inr s6.1)):Option (((List B0)×Int)⊕(List B0)))) N (acc.map V0,0)=some ((D.foldl Ax acc).map V0):=by
 have:=Uq hN D acc (fun y=>y) (fun y=>some y) (fun y _=>rfl) hlen hA hD
 simp_all
theorem Ww (l acc:List Pr)(g:Pr→Pr):((dd l).map g).foldl Ax acc=(l.map g).foldl Ax acc:=by
 have:=Wx (fun y=>[g y]) l acc
 rw[BU]at this
 rw[←this,List.foldl_map];rfl
def Az6 {x:A0} (h0:x.Op≠0) (h2:x.Op≠2) (h3:x.Op≠3):raw x=((x.cT.map raw).headD []).flatMap (MA x):=by
 rw[Jn];unfold comb;rw[A1 h0]
 by_cases h1:x.Op=1
 ·rw[A2 h1,←BU]
  congr 1;funext y;simp_all[MA]
 rw[A1 h1,A1 h2,A1 h3]
 by_cases h4:x.Op=4
 ·rw[A2 h4];congr 1;funext y;simp_all[MA]
 rw[A1 h4]
 by_cases h8:x.Op=8
 ·rw[A2 h8];congr 1;funext y;simp_all[MA]
 rw[A1 h8,←BU]
 congr 1;funext y;simp_all[MA]
def Yq (x:A0)(y:Pr):(MA x y).length≤2:=by
 grind[MA,VN]
def VO (j n:Nat)(h:j≤n):∃t,List.range n=List.range j++t:=by
 refine⟨(List.range n).drop j,?_⟩;have:=Ad j (List.range n)
 rw[List.take_range,Gl h]at this
 grind
def Ss {x:A0}(hd:x.dep≤12)(hb:x.bulk≤1100000):∀z∈raw x,PK z:=fun z hz=>by
 have h1:=Az5 x.dep x (D5 _) z hz;have h2:=ZR x.dep x (D5 _) z hz;have h3:x.dep*(x.bulk+30)≤12*(1100000+30):=Z8 (by omega) (by omega);exact⟨h1.mono (by omega) (by omega),h2.mono (by omega)⟩
def Vp {N:Nat}(hN:Bgn N){x:A0}(hl:x.cT.length≤64)(G:Nat→Pr→Pr){step:(List B0)×Int→Option (((List B0)×Int)⊕(List B0))}
 (hraw:raw x=(List.range x.cT.length).flatMap fun i=>((x.cT.map raw).getD i []).map (G i))
 (hs:∀j (h:j<x.cT.length),step ((dd ((List.range j).flatMap fun i=>((x.cT.map raw).getD i []).map (G i))).map V0,(j:Int))=some (.inl (((((dd (raw x.cT[j])).map (G j)).foldl Ax (dd ((List.range j).flatMap fun i=>((x.cT.map raw).getD i []).map (G i))))).map V0,((j+1:Nat):Int))))
 (he:step ((dd (raw x)).map V0,(x.cT.length:Int))=some (.inr ((dd (raw x)).map V0))):loopN step N ([],0)=some ((dd (raw x)).map V0):=by
 rw[JR (s0:=(([]:List B0),(0:Int))) (st:=fun j=>((dd ((List.range j).flatMap fun i=>((x.cT.map raw).getD i []).map (G i))).map V0,(j:Int))) (k:=x.cT.length) (r:=(dd (raw x)).map V0) (by simp[dd]) (by omega) ?_ ?_]
 ·grind[Ww,List.range_succ,Ad2]
 simp_all
def AW8 {N:Nat} (hN:Bgn N):∀(d:Nat) (x:A0) (n:Nat),x.dep≤d→d≤n→x.dep≤12→x.bulk≤1100000→x.pre.length≤64→Uk N x→U x≤400000→BT N n x=some ((dd (raw x)).map V0):=by
 intro d
 induction d with
 |zero=>grind[A0.dep_eq]
 | succ d ih=>
  intro x n hd hn hd12 hb hp hg hU;obtain⟨n,rfl⟩:∃m,n=m+1:=⟨n-1,by omega⟩;have hap:=EZ x;have hself:Ba N x=0:=hg x (Ay7 x);have ha:=TK hN (by omega) (by omega) hself;have hop:=ha.op;have hPK:=Ss hd12 hb;have hrl:=Rs x.dep x (D5 _)
  have hrec:∀a∈x.cT,U a≤U x→BT N n a=some ((dd (raw a)).map V0):=fun a ham hu=>by
   have:=AI ham;have:=Kt ham;have:=DL ham;exact ih a n (by omega) (by omega) (by omega) (by omega) (by omega) (hg.arg ham) (by omega)
  have hUx:=Au0 x
  unfold uc at hUx
  unfold BT
  by_cases h0:x.Op=0
  ·rw[A2 (Z1 h0)]
   have:raw x=[(⟨0,0,x.Var,x.Typ,x.cU,[],[],[],[],[]⟩,Tu)]:=by rw[Jn];simp_all[comb]
   rw[this];rfl
  rw[A1 (by rw[N4 h0];simp)]
  rw[A1 h0]at hUx
  by_cases h23:x.Op=2∨x.Op=3
  ·rw[A2 (by simp_all[K9,D9])]
   rw[A2 h23]at hUx
   have hUa:∀a∈x.cT,U a≤U x:=fun a h=>by rw[hUx];grind[Wc]
   have pre:∀(G:Nat→Pr→Pr),raw x=((List.range x.cT.length).flatMap fun i=>((x.cT.map raw).getD i []).map (G i))→∀j,j<x.cT.length→
    (dd ((List.range j).flatMap fun i=>((x.cT.map raw).getD i []).map (G i))).length+(dd (raw (x.cT.getD j zP))).length≤3000000∧(∀z∈dd ((List.range j).flatMap fun i=>((x.cT.map raw).getD i []).map (G i)),PK z)∧∀z∈dd (raw (x.cT.getD j zP)),PK (G j z):=fun G hG j hj=>by
    obtain⟨t,ht⟩:=VO j x.cT.length (by omega);have hG2:=hG
    rw[ht,List.flatMap_append]at hG2
    have e1:=P9 List.length hG2
    rw[Ac]at e1
    have e2:=Hs ((List.range j).flatMap fun i=>((x.cT.map raw).getD i []).map (G i))
    have eg:x.cT.getD j zP=x.cT[j]:=by rw[Cd,E3 hj];rfl
    have hm:=G7 hj;have e3:=Hs (raw (x.cT.getD j zP))
    have e4:(raw (x.cT.getD j zP)).length≤U x:=by
     rw[eg];exact Z7 (Rs _ _ (D5 _)) (hUa _ hm)
    grind[KN]
   have idx:∀j (h:j<x.cT.length),B8 x.cT (j:Int)=some x.cT[j]:=fun j h=>by rw[G4,E3 h]
   have egd:∀j (h:j<x.cT.length),x.cT.getD j zP=x.cT[j]:=fun j h=>by rw[Cd,E3 h];rfl
   by_cases h3:x.Op=3
   ·have hraw:raw x=(List.range x.cT.length).flatMap fun i=>((x.cT.map raw).getD i []).map fun y=>(y.1,GU x.cT i y.2):=by
     rw[Jn];simp_all[comb]
    rw[Vp hN (by omega) (fun i y=>(y.1,GU x.cT i y.2)) hraw (fun j hj=>by
     obtain⟨p1,p2,p3⟩:=pre _ hraw j hj
     rw[egd j hj]at p1 p3
     simp only[idx j hj,A4];rw[A2 (by grind[C5,B2]),hrec _ (G7 hj) (hUa _ (G7 hj))];simp only[A4,Z1 h3,B4];rw[Uq hN (dd (raw x.cT[j])) _ (fun y=>(y.1,GU x.cT j y.2)) (fun y=>EE N y x (j:Int)) (fun y _=>AO0 y x j hj (by omega)) p1 p2 p3]
     grind[P4]) (by rw[A1 (by grind[C5,B2])])]
    rfl
   have h2:x.Op=2:=by omega
   have hraw:raw x=(List.range x.cT.length).flatMap fun i=>((x.cT.map raw).getD i []).map fun y=>y:=by
    rw[Jn];simp_all[comb]
   rw[Vp hN (by omega) (fun i y=>y) hraw (fun j hj=>by
    obtain⟨p1,p2,p3⟩:=pre (fun i y=>y) hraw j hj
    rw[egd j hj]at p1 p3
    simp only[idx j hj,A4];rw[A2 (by grind[C5,B2]),hrec _ (G7 hj) (hUa _ (G7 hj))];simp only[A4,N4 h3,D6,C7];rw[RN hN (dd (raw x.cT[j])) _ p1 p2 p3]
    grind[P4,List.map_id']) (by rw[A1 (by grind[C5,B2])])]
   rfl
  rw[A1 (by simp_all[K9,D9])]
  rw[A1 h23]at hUx
  have hex:∃a l,x.cT=a::l:=by
   by_cases h1:x.Op=1
   ·have:=ha.two (by omega) (by omega)
    match he:x.cT,this with
    |a::l,_=>simp_all
   by_cases h8:x.Op=8
   ·obtain⟨a,b,e⟩:=ha.more h8;simp_all
   obtain⟨a,e⟩:=ha.one (by omega) h8;simp_all
  obtain⟨a,l,he⟩:=hex
  have ham:a∈x.cT:=by rw[he];simp
  have hUa:U a≤U x:=by
   have:=Ai6 (List.mem_map.2 ⟨a,ham,rfl⟩:U a∈x.cT.map U)
   split at hUx<;>omega
  have hraw:raw x=(raw a).flatMap (MA x):=by
   rw[Az6 h0 (by omega) (by omega),he];rfl
  have e0:B8 x.cT 0=some a:=by rw[he];rfl
  have haPK:=Ss (x:=a) (by have:=DL ham;omega) (by have:=AI ham;omega);have hal:=Rs a.dep a (D5 _);have hdl:=Hs (raw a);rw[e0];simp only[A4];rw[hrec a ham hUa];simp only[A4];have hl:((dd (raw a)).map V0).length=(dd (raw a)).length:=Q7 ..
  have hfin:dd ((dd (raw a)).flatMap (MA x))=dd (raw x):=by
   have:=Wx (MA x) (raw a) [];rw[hraw]
   grind[dd,Ga]
  rw[JR (s0:=(([]:List B0),(0:Int))) (st:=fun j=>((dd (((dd (raw a)).take j).flatMap (MA x))).map V0,(j:Int))) (k:=(dd (raw a)).length) (r:=(dd (raw x)).map V0) (by simp[dd]) (by omega) ?_ ?_]
  ·rfl
  ·intro j hj
   have e:B8 ((dd (raw a)).map V0) (j:Int)=some (V0 (dd (raw a))[j]):=by rw[G4,Aa,E3 hj];rfl
   have hm:=G7 hj;have hmr:(dd (raw a))[j]∈raw a:=KN.1 hm;simp only[C5,B2,hl];rw[A2 (by simp_all),e];simp only[A4];rw[AX1 hN (by omega) (by omega) hself h0 (by omega) (by omega) (haPK _ hmr)];simp only[A4];have q1:=Hs (((dd (raw a)).take j).flatMap (MA x));have q2:=EQ (f:=MA x) (k:=2) (l:=(dd (raw a)).take j) fun y _=>Yq x y;have q3:=Yq x (dd (raw a))[j]
   simp only[BZ]at q2
   have hw:=RN hN (MA x (dd (raw a))[j]) (dd (((dd (raw a)).take j).flatMap (MA x))) (by omega) (fun z hz=>hPK z (by
    rw[hraw]
    grind[KN])) (fun z hz=>hPK z (by
    rw[hraw]
    grind))
   simp only[C5,B2]at hw
   rw[hw]
   grind[P4,List.take_add_one,Ad2]
  simp_all[C5,B2]
def Az2 (w:List Pr):rests (dd w)=rests w:=by
 have key:∀(w:List Pr) (acc:List A0),w.foldl CO acc=w.foldl (fun s y=>((if y.2.done=true then[]else[y.2.p]:List A0)).foldl Ax s) acc:=fun w=>by
  induction w with
  |nil=>grind
  |cons y w ih=>
   grind[CO]
 simp_all[rests,Wx,Ga]
def AE2 {N:Nat} (hN:Bgn N) (l:List A0) (p:A0) (hl:l.length≤1000000) (hb:∀q∈l,q.bulk≤16777216):BS N l p=some (Nk l p):=by
 have key:BS N l p=H8 N l (fun q=>Af N N q p):=rfl
 rw[key,JS l (by omega) _ (fun q=>decide (p=q)) (fun x hx=>by
  rw[Ay9 hN N x p (by have:=hb x hx;omega) (hb x hx)]
  grind) (by omega)]
theorem As7 {w v:List Pr} {z:Pr} (hz:z∈w):eg (rests (w++v)) z=eg (rests w) z:=by
 have:∀(v w:List Pr),z∈w→Ig (rests (w++v)) z.2=Ig (rests w) z.2:=fun v=>by
  induction v with
  |nil=>grind
  |cons y v ih=>
   intro w hz;have:=ih (w++[y]) (by simp[hz])
   rw[G1]at this
   rw[show w++y::v=w++([y]++v)from rfl,this,AE]
   grind[QG,Ft]
 simp_all[eg]
def Hi {a b:Int}(h:a<b):cmp .lss a b=true:=by rw[C5];simp_all
def EM {a b:Int}(h:¬a<b):¬(cmp .lss a b=true):=by rw[C5];grind
def Bad (N:Nat)(y:Pr):Prop:=y.2.done=false∧M0 N y.2.p≠0
def Ac8 {N:Nat} (hN:Bgn N) (D:List Pr) (hD:D.length≤2048) (hk:∀z∈D,PK z):∃r,loopN (fun(s3:(List C4)×(List A0)×Int)=>((if cmp .lss s3.2.2 (Ar.len (D.map V0))=true then(B8 (D.map V0) s3.2.2).bind fun x7=>(B8 (D.map V0) s3.2.2).bind fun x9=>if nt x9.Done=true then(B8 (D.map V0) s3.2.2).bind fun x10=>(V8 N x10.Rest).bind fun r11=>if cmp .neq r11 0=true then some (.inr (.inr ()))else(B8 (D.map V0) s3.2.2).bind fun x12=>(BS N s3.2.1 x12.Rest).bind fun r13=>if cmp .lss r13 0=true then(B8 (D.map V0) s3.2.2).bind fun x14=>(G6 s3.2.1 ([x14.Rest])).bind fun l16=>(G6 s3.1 ([{x7.Edge with To:=Ar.len s3.2.1}])).bind fun l18=>some (.inl (l18,l16,ar .add .i64 s3.2.2 1))else(G6 s3.1 ([{x7.Edge with To:=r13}])).bind fun l20=>some (.inl (l20,s3.2.1,ar .add .i64 s3.2.2 1))else(G6 s3.1 ([{x7.Edge with To:=(-1)}])).bind fun l22=>some (.inl (l22,s3.2.1,ar .add .i64 s3.2.2 1))else some (.inr (.inl (s3.1,s3.2.1)))):Option (((List C4)×(List A0)×Int)⊕(((List C4)×(List A0))⊕Unit)))) N ([],[],0)=some r∧
 ((∃y∈D,Bad N y)→r= .inr ())∧((¬∃y∈D,Bad N y)→r= .inl (D.map (eg (rests D)),rests D)):=by
 have hlm:(D.map V0).length=D.length:=Q7 ..;refine EN (S:=(List C4)×(List A0)×Int) (R:=((List C4)×(List A0))⊕Unit) (fun j s=>s=((D.take j).map (eg (rests (D.take j))),rests (D.take j),(j:Int))∧∀y∈D.take j,¬Bad N y) (fun r=>((∃y∈D,Bad N y)→r= .inr ())∧((¬∃y∈D,Bad N y)→r= .inl (D.map (eg (rests D)),rests D))) D.length 0 ([],[],0) N (by omega) ⟨rfl,by simp⟩ (fun j s _ hj ⟨es,hg⟩=>?_) (fun s ⟨es,hg⟩=>?_)
 ·simp only[L8]at hj
  subst es;have hm:=G7 hj;have hy:=hk _ hm
  have e:B8 (D.map V0) (j:Int)=some (V0 D[j]):=by rw[G4,Aa,E3 hj];rfl
  have htk:D.take (j+1)=D.take j++[D[j]]:=by rw[CI,E3 hj];rfl
  have hrl:=PR (D.take j);have hdl:=Hs (D.take j)
  have htl:(D.take j).length≤j:=by simp;omega
  have hnew:∀T L,L=rests (D.take j++[D[j]])→T=Ig L D[j].2→¬Bad N D[j]→∃s',(G6 ((D.take j).map (eg (rests (D.take j)))) ([(⟨(V0 D[j]).Edge.dE,T,(V0 D[j]).Edge.Var,(V0 D[j]).Edge.Typ,(V0 D[j]).Edge.cU,(V0 D[j]).Edge.dG,(V0 D[j]).Edge.dI,(V0 D[j]).Edge.dD,(V0 D[j]).Edge.dF,(V0 D[j]).Edge.dH⟩:C4)])).bind (fun l=>some (Sum.inl (β:=((List C4)×(List A0))⊕Unit) (l,L,ar .add .i64 (j:Int) 1)))=some (.inl s')∧
   s'=((D.take (j+1)).map (eg (rests (D.take (j+1)))),rests (D.take (j+1)),((j+1:Nat):Int))∧∀y∈D.take (j+1),¬Bad N y:=fun T L hL hT hnb=>by
   subst hL;subst hT;rw[J0 (by simp;omega)];refine⟨_,rfl,?_,fun y hy=>?_⟩
   ·rw[htk,P4 (by omega),BY]
    congr 1
    congr 1
    grind[List.map_congr_left,As7]
   grind
  rw[A2 (by grind[C5,B2])];simp only[e,A4]
  by_cases hd:D[j].2.done=true
  ·have hd':(V0 D[j]).Done=true:=hd;rw[A1 (by simp[N7,hd'])]
   have hrr:rests (D.take j++[D[j]])=rests (D.take j):=by rw[AE];simp_all[CO]
   obtain⟨s',q1,q2,q3⟩:=hnew (-1) (rests (D.take j)) hrr.symm (by simp_all[Ig]) (fun hb=>by rw[hb.1]at hd;cases hd)
   grind
  have hd0:D[j].2.done=false:=by grind
  have hd':(V0 D[j]).Done=false:=hd0;rw[A2 (by simp[N7,hd'])];have hrest:V8 N (V0 D[j]).Rest=some (M0 N D[j].2.p):=Sn hN hy.ok.rest;rw[hrest];simp only[A4]
  by_cases hb:M0 N D[j].2.p=0
  ·rw[A1 (Q1 hb)];have hnb:¬Bad N D[j]:=fun h=>h.2 hb
   rw[AE2 hN _ _ (by omega) (fun q hq=>by
    obtain⟨v,hv,_,rfl⟩:=JN hq
    exact(hk v (List.mem_of_mem_take hv)).ok.rest)]
   simp only[A4]
   by_cases hin:D[j].2.p∈rests (D.take j)
   ·have h0:=Av.2 (HY.2 hin);have h0':¬Nk (rests (D.take j)) (V0 D[j]).Rest<0:=Int.not_lt.2 h0;rw[A1 (EM h0')]
    have hrr:rests (D.take j++[D[j]])=rests (D.take j):=by rw[AE];simp_all[CO,Ax]
    obtain⟨s',q1,q2,q3⟩:=hnew _ (rests (D.take j)) hrr.symm (by unfold Ig;rw[A1 hd]) hnb;exact⟨.inl s',q1,q2,q3⟩
   have h0:Nk (rests (D.take j)) (V0 D[j]).Rest= -1:=Pf fun h=>hin (HY.1 h);rw[A2 (Hi (by rw[h0];omega)),J0 (by simp;omega)];simp only[A4]
   have hrr:rests (D.take j++[D[j]])=rests (D.take j)++[D[j].2.p]:=by rw[AE];simp_all[CO,Ax]
   obtain⟨s',q1,q2,q3⟩:=hnew (Ar.len (rests (D.take j))) (rests (D.take j)++[D[j].2.p]) hrr.symm (by
    unfold Ig;rw[A1 hd];have:=UT (P:=fun q=>decide (D[j].2.p=q)) (l:=rests (D.take j)) (x:=D[j].2.p) (fun h=>hin (HY.1 h)) (by simp)
    exact this.symm) hnb
   exact⟨.inl s',q1,q2,q3⟩
  rw[A2 (X7 hb)];exact⟨_,rfl,fun _=>rfl,fun h=>absurd ⟨_,hm,hd0,hb⟩ h⟩
 simp_all[C5,B2]
def OI {N:Nat} (hN:Bgn N) {x:A0} (hb:x.bulk≤1100000) (hz:M0 N x=0) (hU:U x≤400000):AU N x=some (J7 N (raw x)):=by
 obtain⟨hp,hd,hg⟩:=Di hz;unfold AU;rw[Sn hN (by omega)];simp only[A4];rw[A1 (Q1 hz),AW8 hN x.dep x N (D5 _) (by omega) hd hb hp hg hU];simp only[A4];have hlm:((dd (raw x)).map V0).length=(dd (raw x)).length:=Q7 ..;unfold J7
 by_cases hbig:2048<(dd (raw x)).length
 ·rw[A2 (Ci (by grind[B2])),A2 (.inl hbig)]
 rw[A1 (AJ (by grind[B2]))];have hPK:=Ss hd hb;obtain⟨r,h1,h2,h3⟩:=Ac8 hN (dd (raw x)) (by omega) (fun z hz=>hPK z (KN.1 hz));rw[h1]
 by_cases hbad:∃y∈dd (raw x),Bad N y
 ·rw[h2 hbad];obtain⟨y,hy,hb1,hb2⟩:=hbad;rw[A2 (.inr ⟨y,KN.1 hy,hb1,hb2⟩)];rfl
 rw[h3 hbad]
 rw[A1 (by
  rintro(h|⟨y,hy,h1,h2⟩)
  ·exact hbig h
  exact hbad ⟨y,KN.2 hy,h1,h2⟩)]
 rw[Az2];rfl
def Nv {N:Nat}{x:A0}(hd:x.dep≤12)(hb:x.bulk≤1100000)(hU:U x≤400000):(J7 N (raw x)).1.length≤1000000∧(∀e∈(J7 N (raw x)).1,Rh e 1000∧e.cU.bulk≤16777216∧∀c∈e.dD,c.bulk≤16777216)∧(J7 N (raw x)).2.1.length≤1000000∧∀p∈(J7 N (raw x)).2.1,p.bulk≤16777216:=by
 have hPK:=Ss hd hb;have h1:=Hs (raw x);have h2:=Rs x.dep x (D5 _);have h3:=PR (raw x);unfold J7
 split
 ·simp_all
 refine⟨by grind,fun e he=>?_,by grind,fun p hp=>?_⟩
 ·obtain⟨y,hy,rfl⟩:=List.mem_map.1 he;have hk:=hPK y (KN.1 hy);exact⟨hk.sz,hk.ok.cond,hk.ok.checks⟩
 obtain⟨y,hy,_,rfl⟩:=JN hp;exact(hPK y hy).ok.rest
mutual
def TG:∀x:B1,(∀y∈x.pre,y.Value.Text.size≤64)→x.bulk≤74*x.pre.length
 |⟨op,args,var,field,kind,v⟩,h=>by
  have h1:=Re args fun y hy=>h y (by rw[B1.pre];simp_all);have h2:v.Text.size≤64:=h ⟨op,args,var,field,kind,v⟩ (by rw[B1.pre];simp_all)
  grind[B1.bulk,B1.pre]
def Re:∀l:List B1,(∀y∈B1.pres l,y.Value.Text.size≤64)→B1.bulks l≤1+74*(B1.pres l).length
 |[],_=>by simp[B1.bulks]
 |a::l,h=>by
  have h1:=TG a fun y hy=>h y (by rw[B1.pres];simp_all);have h2:=Re l fun y hy=>h y (by rw[B1.pres];simp_all)
  grind[B1.bulks,B1.pres]
end
mutual
def TF:∀x:A0,(∀y∈x.pre,y.cU.bulk≤4736)→x.bulk≤4743*x.pre.length
 |⟨op,args,typ,var,scope,span,c⟩,h=>by
  have h1:=Rd args fun y hy=>h y (by rw[A0.pre];simp_all);have h2:c.bulk≤4736:=h ⟨op,args,typ,var,scope,span,c⟩ (by rw[A0.pre];simp_all)
  grind[A0.bulk,A0.pre]
def Rd:∀l:List A0,(∀y∈A0.pres l,y.cU.bulk≤4736)→A0.bulks l≤1+4743*(A0.pres l).length
 |[],_=>by grind[A0.bulks]
 |a::l,h=>by
  have h1:=TF a fun y hy=>h y (by rw[A0.pres];simp_all);have h2:=Rd l fun y hy=>h y (by rw[A0.pres];simp_all)
  grind[A0.bulks,A0.pres]
end
theorem NF:(⟨#[]⟩:ByteArray).size=0:=rfl
theorem Zq {v:I9}(h:Af7 v=true):v.Text.size≤64:=by
 simp_all[Af7,P5,Mc,NF]
theorem WS {v:I9} (h:Ak v=0):v.Text.size≤64:=by
 unfold Ak at h
 by_cases h1:v.Kind=0∨v.Kind=1
 ·rw[A2 h1]at h
  by_cases h2:v.Text≠⟨#[]⟩
  ·rw[A2 h2]at h;cases h
  simp_all[NF]
 omega
def Wr {x:B1}(h:Bw x=0):x.Value.Text.size≤64:=by
 unfold Bw at h
 by_cases h0:x.Op<0∨12<x.Op
 ·rw[A2 h0]at h;cases h
 rw[A1 h0]at h
 by_cases h1:(x.cT.length:Int)≠(if x.Op<5 then 0 else if x.Op=12 then 1 else 2)
 ·rw[A2 h1]at h;cases h
 rw[A1 h1]at h
 by_cases h2:XM x=true
 ·rw[A2 h2]at h;cases h
 rw[A1 h2]at h
 by_cases h3:OX x=true
 ·rw[A2 h3]at h;cases h
 rw[A1 h3]at h
 by_cases h4:x.Op=4∨x.Op=0
 ·grind[WS]
 rw[A1 (fun e=>h4 e.1),A1 (fun e=>h4 (.inl e.1))]at h
 by_cases h6:OY x=true
 ·rw[A2 h6]at h;cases h
 grind[OY,K9,P5,N7,D9,Zq]
theorem Rk {c:B1}(h:T1 c=0):c.bulk≤4736:=by
 have hp:¬64<c.pre.length:=fun e=>by rw[T1,A2 e]at h;cases h
 have hd:¬12<c.dep:=fun e=>by rw[T1,A1 hp,A2 e]at h;cases h
 rw[T1,A1 hp,A1 hd]at h
 have:=TG c fun y hy=>Wr (Hu.1 h y hy);omega
def SG {N:Nat} (hN:Bgn N) {y:A0} (hb:y.bulk≤16777216) (hl:y.cT.length≤64) (h:Ba N y=0):(0≤y.Op∧y.Op≤10)∧∃s ng,PA N y s ng∧y.cU.bulk≤4736:=by
 have hc:y.cU.bulk≤16777216:=by have:=A0.bulk_eq y;omega
 have hop:0≤y.Op∧y.Op≤10:=by
  by_cases ho:0≤y.Op∧y.Op≤10
  ·exact ho
  have h1:=(FC hN hb hl).1
  simp_all[Au,AA7]
 obtain⟨s,ng,hs⟩:=Mb N y hop.1 hop.2 hl;have hz:=QJ hN N y.cU (⟨0,[],0,0,0,(⟨0,0,⟨#[]⟩⟩:I9)⟩:B1) (by omega) hc;have h1:=Ic hN hc hop.1 hop.2 hs hz
 rw[(FC hN hb hl).2,h]at h1
 have h1:=Bl h1;refine⟨hop,s,ng,hs,?_⟩
 by_cases ha:s.least≤y.cT.length∧(y.cT.length:Int)≤s.most
 ·rw[A2 ha]at h1
  unfold NP at h1
  by_cases e1:Hl s.typed y.Typ 15=true
  ·rw[A2 e1]at h1;cases h1
  rw[A1 e1]at h1
  by_cases e2:Hl s.typed y.Var 15=true
  ·rw[A2 e2]at h1;cases h1
  rw[A1 e2]at h1
  by_cases e3:Hl s.scope y.cY 63=true
  ·rw[A2 e3]at h1;cases h1
  rw[A1 e3]at h1
  by_cases e4:Hl s.span y.Span 1099511627776=true
  ·rw[A2 e4]at h1;cases h1
  rw[A1 e4]at h1
  by_cases e5:s.cond=true
  ·grind[Rk]
  rw[A1 (fun e=>e5 e.1)]at h1
  grind[B1.bulk,B1.bulks,NF]
 omega
def ZQ {N:Nat} (hN:Bgn N) {x:A0} (hb:x.bulk≤16777216) (hz:M0 N x=0):x.bulk≤400000:=by
 obtain⟨hp,hd,hg⟩:=Di hz
 have:=TF x fun y hy=>by
  have h1:=IX x y hy;have h2:=EZ y;obtain⟨_,_,_,_,h⟩:=SG hN (by omega) (by omega) (hg y hy);exact h
 omega
def cnt:List (Bool×Bool×A0)→Int→Int→Bool
 |[],_,_=>true
 |y::l,v,s=>(if y.1=true then decide (y.2.2.Var=v)else true)&&(if y.2.1=true then decide (y.2.2.cY=s)else true)&&cnt l (if y.1=true then v+1 else v) (if y.2.1=true then s+1 else s)
noncomputable def II (y:A0):Bool:=match B8 M8 y.Op with|some s=>s.typed|none=>false
noncomputable def IK (y:A0):Bool:=match B8 M8 y.Op with|some s=>s.scope|none=>false
noncomputable def Ad7 (l:List A0):Bool:=cnt (l.map fun y=>(II y,IK y,y)) 0 0
def Af0 (N:Nat)(y:A0):Prop:=∃s ng,PA N y s ng
def NX {N:Nat}(hN:Bgn N){x:A0}(hb:x.bulk≤16777216)(hz:M0 N x=0):∀y∈x.pre,Af0 N y:=fun y hy=>by
 obtain⟨hp,hd,hg⟩:=Di hz;have h1:=IX x y hy;have h2:=EZ y;obtain⟨_,s,ng,h,_⟩:=SG hN (by omega) (by omega) (hg y hy)
 grind[Af0]
noncomputable def Tv (s7:Bool×Int×Int)(y6:A0):Option ((Bool×Int×Int)⊕Unit):=
 (B8 M8 y6.Op).bind fun x11=>((if x11.typed=true then some (an s7.1 (cmp .eql y6.Var s7.2.2),ar .add .i64 s7.2.2 1)else some (s7.1,s7.2.2)):Option (Bool×Int)).bind fun s12=>if x11.scope=true then some (.inl (an s12.1 (cmp .eql y6.cY s7.2.1),ar .add .i64 s7.2.1 1,s12.2))else some (.inl (s12.1,s7.2.1,s12.2))
def Vg {N:Nat}:∀(l:List A0),(∀y∈l,Af0 N y)→∀(b:Bool) (v s:Int),0≤v→0≤s→v+l.length≤1000000→s+l.length≤1000000→
 ∃v' s',G3 Tv l (b,s,v)=some (.inl (b&&cnt (l.map fun y=>(II y,IK y,y)) v s,s',v'))
 |[],_,b,v,s,_,_,_,_=>⟨v,s,by simp[G3,cnt]⟩
 | y::l,h,b,v,s,hv,hs,hv2,hs2=>by
  simp only[U0]at hv2 hs2
  obtain⟨sh,ng,ok⟩:=h y (by simp)
  have et:II y=sh.typed:=by unfold II;rw[ok.tab]
  have es:IK y=sh.scope:=by unfold IK;rw[ok.tab]
  have ev:ar .add .i64 v 1=v+1:=J1 (by omega) (by omega);have ess:ar .add .i64 s 1=s+1:=J1 (by omega) (by omega);have hr:=fun b v' s' h1 h2 h3 h4=>Vg l (fun z hz=>h z (by simp[hz])) b v' s' h1 h2 h3 h4;simp only[E9,cnt,et,es]
  have step:∀b' v2 s2,Tv (b,s,v) y=some (.inl (b',s2,v2))→G3 Tv (y::l) (b,s,v)=G3 Tv l (b',s2,v2):=fun b' v2 s2 h=>by grind[G3]
  have hst:∀b' v2 s2,(some (.inl (b',s2,v2)):Option ((Bool×Int×Int)⊕Unit))=(((if sh.typed=true then some (an b (cmp .eql y.Var v),ar .add .i64 v 1)else some (b,v)):Option (Bool×Int)).bind fun s12=>if sh.scope=true then some (.inl (an s12.1 (cmp .eql y.cY s),ar .add .i64 s 1,s12.2))else some (.inl (s12.1,s,s12.2)))→G3 Tv (y::l) (b,s,v)=G3 Tv l (b',s2,v2):=fun b' v2 s2 h=>step b' v2 s2 (by rw[h];unfold Tv;rw[ok.tab];rfl);cases ht:sh.typed<;>cases hc:sh.scope
  ·obtain⟨v',s',h1⟩:=hr b v s hv hs (by omega) (by omega)
   simp_all
  ·obtain⟨v',s',h1⟩:=hr (b&&decide (y.cY=s)) v (s+1) hv (by omega) (by omega) (by omega)
   grind[D9,P5]
  ·obtain⟨v',s',h1⟩:=hr (b&&decide (y.Var=v)) (v+1) s (by omega) hs (by omega) (by omega)
   grind[D9,P5]
  obtain⟨v',s',h1⟩:=hr (b&&decide (y.Var=v)&&decide (y.cY=s)) (v+1) (s+1) (by omega) (by omega) (by omega) (by omega)
  grind[D9,P5]
theorem UG {N:Nat}(hN:Bgn N){x:A0}(hb:x.bulk≤16777216)(hz:M0 N x=0):∃v s,Dw N x=some (v,s,Ad7 x.pre):=by
 obtain⟨hp,hd,hg⟩:=Di hz;obtain⟨v,s,h⟩:=Vg (N:=N) x.pre (NX hN hb hz) true 0 0 (by omega) (by omega) (by omega) (by omega);unfold Dw;rw[Ml hN hb];simp only[A4];refine⟨v,s,AQ6 h ?_⟩;simp[Ad7]
noncomputable def Oh (N:Nat)(x:A0):Int:=if M0 N x≠0 then M0 N x else if x.pre.any (fun y=>cmp .geq y.Op 8)=true then 1 else if Ad7 x.pre=true then 0 else 14
def MS {N:Nat} (hN:Bgn N) {x:A0} (hb:x.bulk≤16777216):Dx N x=some (Oh N x):=by
 unfold Dx Oh;rw[Aw0 hN hb];simp only[A4]
 by_cases h:M0 N x=0
 ·rw[A1 (show¬(M0 N x≠0) by omega),A1 (show¬(M0 N x≠0) by omega)]
  by_cases h2:x.pre.any (fun y=>cmp .geq y.Op 8)=true
  ·rw[A2 h2,A2 h2,A2 (X7 (by omega))]
  rw[A1 h2,A1 h2,A1 (Q1 rfl)]
  grind[UG,N7]
 simp_all[X7]
def Ap3 {N:Nat}(l:List A0)(hl:l.length<N)(hs:l.length≤1000000):He N l=some (!(l.any fun y=>cmp .geq y.Op 8)):=by
 unfold He;rw[X4 l (by omega) (mk:=fun(_:Unit) i=>i) (body:=fun(_:Unit) a=>if cmp .geq a.Op 8=true then some (.inr (.inr ()))else some (.inl ())) (fin:=fun _=>.inl ()) (s:=()) (by omega) ?_ ?_]
 ·rw[NM (fun y:A0=>cmp .geq y.Op 8) (Sum.inr ():Unit⊕Unit) l];cases h:l.any fun y=>cmp .geq y.Op 8<;>simp
 ·intro s i a ha hi;have e:ar .add .i64 (i:Int) 1=i+1:=J1 (by omega) (by omega);simp only[C5,B2,hi,K3,B4,G4,ha,A4,e];cases cmp .geq a.Op 8<;>rfl
 grind[C5,B2]
def PU {N:Nat} (hN:Bgn N) {x:A0} (hb:x.bulk≤16777216):Gy N x=some (Oh N x):=by
 unfold Gy Oh;rw[Sn hN hb];simp only[A4]
 by_cases h:M0 N x=0
 ·rw [A1 (show¬(M0 N x≠0) by omega),A1 (Q1 h),OO hN N x (by omega) hb];have hpb:=HL x;obtain⟨hp,hd,hg⟩:=Di h;simp only[A4];rw[Ap3 x.pre (by omega) (by omega)];simp only[A4]
  by_cases h2:x.pre.any (fun y=>cmp .geq y.Op 8)=true
  ·rw[A2 h2,h2,A2 (show nt (!true)=true from rfl)]
  rw[A1 h2,A1 (by simp[N7,h2])];have hk:=NX hN hb h
  obtain ⟨r,k1,k2⟩:=EN (S:=Int×Int×Int) (R:=Unit⊕Unit) (step:=fun(s4:Int×Int×Int)=>((if cmp .lss s4.2.2 (Ar.len x.pre)=true then(B8 x.pre s4.2.2).bind fun x6=>(Y4 N x6).bind fun r7=>((if r7=true then(B8 x.pre s4.2.2).bind fun x9=>if cmp .neq x9.Var s4.1=true then some (.inr ())else some (.inl (ar .add .i64 s4.1 1))else some (.inl s4.1)):Option (Int⊕Unit)).bind fun s8=>match s8 with
          | .inl y10=>(B8 x.pre s4.2.2).bind fun x11=>(T5 N x11).bind fun r12=>if r12=true then(B8 x.pre s4.2.2).bind fun x13=>if cmp .neq x13.cY s4.2.1=true then some (.inr (.inr ()))else some (.inl (y10,ar .add .i64 s4.2.1 1,ar .add .i64 s4.2.2 1))else(B8 x.pre s4.2.2).bind fun x14=>(Y5 N x14).bind fun r15=>if r15=true then(B8 x.pre s4.2.2).bind fun x16=>if cmp .neq x16.cY s4.2.1=true then some (.inr (.inr ()))else some (.inl (y10,ar .add .i64 s4.2.1 1,ar .add .i64 s4.2.2 1))else some (.inl (y10,s4.2.1,ar .add .i64 s4.2.2 1))
          | .inr y17=>some (.inr (.inr ()))
   else some (.inr (.inl ())))
   :Option ((Int×Int×Int)⊕(Unit⊕Unit))))
   (fun j s=>s.2.2=(j:Int)∧0≤s.1∧s.1≤j∧0≤s.2.1∧s.2.1≤j∧Ad7 x.pre=cnt ((x.pre.drop j).map fun y=>(II y,IK y,y)) s.1 s.2.1)
   (fun r=>r=if Ad7 x.pre=true then .inl ()else .inr ()) x.pre.length 0 (0,0,0) N (by omega) ⟨rfl,by simp,by simp,by simp,by simp,rfl⟩
   (fun j s _ hj ⟨e,b1,b2,b3,b4,hc⟩=>by
    obtain⟨v,sc,i⟩:=s
    simp only at e b1 b2 b3 b4 hc
    subst e
    simp only[L8]at hj
    have e1:B8 x.pre (j:Int)=some x.pre[j]:=by rw[G4,E3 hj]
    obtain⟨sh,ng,ok⟩:=hk _ (G7 hj)
    have et:II x.pre[j]=sh.typed:=by unfold II;rw[ok.tab]
    have es:IK x.pre[j]=sh.scope:=by unfold IK;rw[ok.tab]
    have ev:ar .add .i64 v 1=v+1:=J1 (by omega) (by omega);have ess:ar .add .i64 sc 1=sc+1:=J1 (by omega) (by omega);have ei:ar .add .i64 (j:Int) 1=((j+1:Nat):Int):=P4 (by omega)
    rw[S3 hj,E9,cnt]at hc
    simp only[et,es]at hc
    have sco:=ok.sco;rw[A2 (Hi (by grind[B2]))];simp only[e1,A4,ok.var,ok.neg,ok.tim,ev,ess,ei]
    by_cases hv:sh.typed=true∧x.pre[j].Var≠v
    ·rw[A2 hv.1,A2 (X7 hv.2)]
     simp_all
    have hv1:((if sh.typed=true then if cmp .neq x.pre[j].Var v=true then some (.inr ())else some (.inl (v+1))else some (.inl v)):Option (Int⊕Unit))=some (.inl (if sh.typed=true then v+1 else v)):=by
     by_cases ht:sh.typed=true
     ·rw[A2 ht,A2 ht,A1 (Q1 (Classical.not_not.1 fun e=>hv ⟨ht,e⟩))]
     simp_all
    rw[hv1];simp only[A4]
    have hcv:(if sh.typed=true then decide (x.pre[j].Var=v)else true)=true:=by
     simp_all
    rw[hcv,Gg]at hc
    have hvb:0≤(if sh.typed=true then v+1 else v)∧(if sh.typed=true then v+1 else v)≤((j+1:Nat):Int):=by split<;>omega
    generalize (if sh.typed=true then v+1 else v)=v' at hc hvb ⊢
    by_cases hs:sh.scope=true
    ·rw[A2 hs,A2 hs]at hc
     by_cases hsc:x.pre[j].cY=sc
     ·have hgo:0≤sc+1∧sc+1≤((j+1:Nat):Int)∧Ad7 x.pre=cnt ((x.pre.drop (j+1)).map fun y=>(II y,IK y,y)) v' (sc+1):=by
       grind
      by_cases hng:ng=true
      ·rw[A2 hng,A1 (Q1 hsc)];simp_all
      simp_all[Q1]
     have hno:Ad7 x.pre=false:=by rw[hc,V2 hsc,Bool.false_and]
     by_cases hng:ng=true
     ·rw[A2 hng,A2 (X7 hsc)]
      simp_all
     simp_all[X7]
    rw[A1 hs,A1 hs,Gg]at hc
    have hs0:sh.scope=false:=by grind
    rw[hs0]at sco
    have hng:¬ng=true:=fun e=>by rw[e]at sco;cases sco
    have hsp:¬sh.span=true:=fun e=>by rw[e]at sco;simp at sco
    rw[A1 hng,A1 hsp]
    grind)
   (fun s ⟨e,_,_,_,_,hc⟩=>by
    obtain⟨v,sc,i⟩:=s
    simp only[L8]at e hc
    subst e
    rw[Gm]at hc
    rw[A1 (EM (by grind[B2]))];refine⟨_,rfl,?_⟩
    rw[hc];rfl)
  grind
 simp_all[X7]
def AX4 {S R R':Type} {f:S→Option (S⊕R)} {g:S→Option (S⊕R')} (I:S→Prop) (Q:R→R'→Prop) (m:S→Nat)
 (h:∀s,I s→(∃s',f s=some (.inl s')∧g s=some (.inl s')∧I s'∧m s'<m s)∨(∃r r',f s=some (.inr r)∧g s=some (.inr r')∧Q r r')):
 ∀(N:Nat) (s:S),I s→m s<N→∃r r',loopN f N s=some r∧loopN g N s=some r'∧Q r r'
 |0,s,_,hm=>by omega
 | N+1,s,hi,hm=>by
  rcases h s hi with⟨s',h1,h2,h3,h4⟩|⟨r,r',h1,h2,h3⟩
  ·obtain⟨r,r',k1,k2,k3⟩:=AX4 I Q m h N s' h3 (by omega)
   simp_all[loopN]
  simp_all[loopN]
theorem JC {α:Type} [DecidableEq α] {x:α}:∀(l acc:List α),x∈l.foldl Ax acc→x∈acc∨x∈l
 |[],acc,h=>.inl h
 |y::l,acc,h=>by
  rcases JC l (Ax acc y) h with h|h
  ·grind[Ax]
  simp_all
def LS {α:Type} [DecidableEq α]:∀(l acc:List α),(l.foldl Ax acc).length≤acc.length+l.length∧acc.length≤(l.foldl Ax acc).length
 |[],acc=>by simp
 | y::l,acc=>by
  have h:=LS l (Ax acc y)
  have h2:(Ax acc y).length≤acc.length+1∧acc.length≤(Ax acc y).length:=by
   grind[Ax]
  grind
def Aj9 {N:Nat} (hN:Bgn N) (l out:List A0) (hl:l.length≤2048) (ho:out.length≤256) (hb:∀q∈l,q.bulk≤16777216):
 loopN (fun(s7:(List A0)×Int)=>((if cmp .lss s7.2 (Ar.len l)=true then(B8 l s7.2).bind fun x10=>(M2 N s7.1 x10).bind fun r11=>if cmp .lss r11 0=true then(G6 s7.1 ([x10])).bind fun l13=>some (.inl (l13,ar .add .i64 s7.2 1))else some (.inl (s7.1,ar .add .i64 s7.2 1))else some (.inr s7.1)):Option (((List A0)×Int)⊕(List A0)))) N (out,0)=some (l.foldl Ax out):=by
 rw[JR (s0:=(out,(0:Int))) (st:=fun j=>((l.take j).foldl Ax out,(j:Int))) (k:=l.length) (r:=l.foldl Ax out) rfl (by omega) ?_ ?_]
 ·intro j hj
  have e1:B8 l (j:Int)=some l[j]:=by rw[G4,E3 hj]
  have hlen:=(LS (l.take j) out).1
  have htl:(l.take j).length≤j:=by simp;omega
  have htk:(l.take (j+1)).foldl Ax out=Ax ((l.take j).foldl Ax out) l[j]:=by rw[CI,E3 hj,LD];rfl
  rw[A2 (Hi (by grind[B2]))];simp only[e1,A4];rw[GW hN _ _ (by omega) (hb _ (G7 hj))];simp only[A4];rw[P4 (by omega),htk]
  by_cases hin:l[j]∈(l.take j).foldl Ax out
  ·rw[A1 (EM (Int.not_lt.2 (Av.2 (HY.2 hin)))),Ax,A2 hin]
  have h0:Nk ((l.take j).foldl Ax out) l[j]= -1:=Pf fun h=>hin (HY.1 h);rw[A2 (Hi (by rw[h0];omega)),J0 (by simp;omega),Ax,A1 hin];rfl
 simp_all[EM,B2]
def AO7 {N:Nat} (hN:Bgn N) (l out:List A0) (hl:l.length≤2048) (ho:out.length≤256) (hb:∀q∈l,q.bulk≤16777216) (hbo:∀q∈out,q.bulk≤16777216):
 loopN (fun(s7:(List A0)×Int)=>((if cmp .lss s7.2 (Ar.len l)=true then(B8 l s7.2).bind fun x10=>(BS N s7.1 x10).bind fun r11=>if cmp .lss r11 0=true then(B8 l s7.2).bind fun x12=>(G6 s7.1 ([x12])).bind fun l14=>some (.inl (l14,ar .add .i64 s7.2 1))else some (.inl (s7.1,ar .add .i64 s7.2 1))else some (.inr s7.1)):Option (((List A0)×Int)⊕(List A0)))) N (out,0)=some (l.foldl Ax out):=by
 rw[JR (s0:=(out,(0:Int))) (st:=fun j=>((l.take j).foldl Ax out,(j:Int))) (k:=l.length) (r:=l.foldl Ax out) rfl (by omega) ?_ ?_]
 ·intro j hj
  have e1:B8 l (j:Int)=some l[j]:=by rw[G4,E3 hj]
  have hlen:=(LS (l.take j) out).1
  have htl:(l.take j).length≤j:=by simp;omega
  have htk:(l.take (j+1)).foldl Ax out=Ax ((l.take j).foldl Ax out) l[j]:=by rw[CI,E3 hj,LD];rfl
  rw[A2 (Hi (by grind[B2]))];simp only[e1,A4]
  rw[AE2 hN _ _ (by omega) (fun q hq=>by
   rcases JC _ _ hq with hq|hq
   ·grind
   grind)]
  simp only[A4];rw[P4 (by omega),htk]
  by_cases hin:l[j]∈(l.take j).foldl Ax out
  ·rw[A1 (EM (Int.not_lt.2 (Av.2 (HY.2 hin)))),Ax,A2 hin]
  have h0:Nk ((l.take j).foldl Ax out) l[j]= -1:=Pf fun h=>hin (HY.1 h);rw[A2 (Hi (by rw[h0];omega)),J0 (by simp;omega),Ax,A1 hin];rfl
 simp_all[EM,B2]
def Jl (N:Nat)(q:A0):Prop:=q.bulk≤1100000∧M0 N q=0∧U q≤400000
def QY {N:Nat}(hN:Bgn N){x:A0}(hx:Jl N x):(J7 N (raw x)).2.2=17∨(J7 N (raw x)).2.2=0∧(J7 N (raw x)).2.1.length≤2048∧∀q∈(J7 N (raw x)).2.1,Jl N q:=by
 obtain⟨h1,h2,h3⟩:=hx;obtain⟨hp,hd,hg⟩:=Di h2;unfold J7
 by_cases hf:TL N (raw x)
 ·rw[A2 hf];grind
 rw[A1 hf];have hr:=PR (raw x);have hl:¬2048<(dd (raw x)).length:=fun h=>hf (.inl h);refine .inr ⟨rfl,by grind,fun q hq=>?_⟩;obtain⟨y,hy,hnd,rfl⟩:=JN hq;have hz:M0 N y.2.p=0:=Classical.not_not.1 fun e=>hf (.inr ⟨y,hy,by grind,e⟩);have hb:=(Ss hd h1 y hy).ok.rest;have hU:=Be0 x.dep x (D5 _) y hy hnd;have:=ZQ hN hb hz
 grind[Jl]
def Sp {N:Nat} (hN:Bgn N) {x:A0} (hx:Jl N x) (hc:Oh N x=0):∃r:List A0×Int,P8 N x=some r∧AR N x=some r∧r.1.length≤256∧∀q∈r.1,q.bulk≤16777216:=by
 unfold P8 AR;rw[MS hN (by have:=hx.1;omega),PU hN (by have:=hx.1;omega)];simp only[A4,hc];rw[A1 (Q1 rfl),A1 (Q1 rfl)]
 obtain⟨r,r',h1,h2,h3⟩:=AX4 (S:=List A0×Int) (R:=List A0⊕Int) (R':=List A0⊕Unit)
  (f:=fun(s2:(List A0)×Int)=>((if cmp .lss s2.2 (Ar.len s2.1)=true then(B8 s2.1 s2.2).bind fun x5=>(O5 N x5).bind fun r6=>if cmp .neq r6.2.2 0=true then some (.inr (.inr r6.2.2))else(loopN (fun(s7:(List A0)×Int)=>((if cmp .lss s7.2 (Ar.len r6.2.1)=true then(B8 r6.2.1 s7.2).bind fun x10=>(M2 N s7.1 x10).bind fun r11=>if cmp .lss r11 0=true then(G6 s7.1 ([x10])).bind fun l13=>some (.inl (l13,ar .add .i64 s7.2 1))else some (.inl (s7.1,ar .add .i64 s7.2 1))else some (.inr s7.1)):Option (((List A0)×Int)⊕(List A0)))) N (s2.1,0)).bind fun s9=>if cmp .gtr (Ar.len s9) 256=true then some (.inr (.inr 17))else some (.inl (s9,ar .add .i64 s2.2 1))else some (.inr (.inl s2.1))):Option (((List A0)×Int)⊕(((List A0))⊕Int))))
  (g:=fun(s2:(List A0)×Int)=>((if cmp .lss s2.2 (Ar.len s2.1)=true then(B8 s2.1 s2.2).bind fun x5=>(AU N x5).bind fun r6=>if cmp .neq r6.2.2 0=true then some (.inr (.inr ()))else(loopN (fun(s7:(List A0)×Int)=>((if cmp .lss s7.2 (Ar.len r6.2.1)=true then(B8 r6.2.1 s7.2).bind fun x10=>(BS N s7.1 x10).bind fun r11=>if cmp .lss r11 0=true then(B8 r6.2.1 s7.2).bind fun x12=>(G6 s7.1 ([x12])).bind fun l14=>some (.inl (l14,ar .add .i64 s7.2 1))else some (.inl (s7.1,ar .add .i64 s7.2 1))else some (.inr s7.1)):Option (((List A0)×Int)⊕(List A0)))) N (s2.1,0)).bind fun s9=>if cmp .gtr (Ar.len s9) 256=true then some (.inr (.inr ()))else some (.inl (s9,ar .add .i64 s2.2 1))else some (.inr (.inl s2.1))):Option (((List A0)×Int)⊕(((List A0))⊕Unit))))
  (fun s=>0≤s.2∧s.2≤s.1.length∧s.1.length≤256∧∀q∈s.1,Jl N q)
  (fun r r'=>(∃l,r= .inl l∧r'= .inl l∧l.length≤256∧∀q∈l,q.bulk≤16777216)∨(r= .inr 17∧r'= .inr ()))
  (fun s=>257-s.2.toNat)
  (fun s ⟨i0,i1,i2,i3⟩=>by
   obtain⟨out,i⟩:=s
   simp only at i0 i1 i2 i3
   obtain⟨j,rfl⟩:∃j:Nat,i=j:=⟨i.toNat,by omega⟩
   by_cases hj:j<out.length
   ·have e1:B8 out (j:Int)=some out[j]:=by rw[G4,E3 hj]
    have hk:=i3 _ (G7 hj);simp only[A2 (Hi (show(j:Int)<Ar.len out by grind[B2])),e1,A4];rw[Of hN hk.1 hk.2.1,OI hN hk.1 hk.2.1 hk.2.2];simp only[A4]
    rcases QY hN hk with h17|⟨h0,hl,hr⟩
    ·rw[A2 (X7 (by rw[h17];omega)),A2 (X7 (by rw[h17];omega)),h17]
     simp_all
    rw[A1 (Q1 h0),A1 (Q1 h0)];rw[Aj9 hN _ out hl i2 (fun q hq=>by have:=(hr q hq).1;omega),AO7 hN _ out hl i2 (fun q hq=>by have:=(hr q hq).1;omega) (fun q hq=>by have:=(i3 q hq).1;omega)];simp only[A4]
    by_cases hbig:256<((J7 N (raw out[j])).2.1.foldl Ax out).length
    ·rw[A2 (Ci (by grind[B2])),A2 (Ci (by grind[B2]))]
     simp_all
    rw[A1 (AJ (by grind[B2])),A1 (AJ (by grind[B2]))];have hlen:=(LS (J7 N (raw out[j])).2.1 out).2;refine .inl ⟨_,rfl,rfl,⟨?_,?_,?_,?_⟩,?_⟩
    ·rw[P4 (by omega)];omega
    ·rw[P4 (by omega)];grind
    ·simp_all
    ·grind[JC]
    grind[P4]
   simp only[A1 (EM (show¬(j:Int)<Ar.len out by grind[B2]))]
   grind[Jl])
  N ([x],0) ⟨by simp,by simp,by simp,fun q hq=>by rw[List.mem_singleton.1 hq];exact hx⟩ (by simp;omega)
 rw[h1,h2]
 rcases h3 with⟨l,rfl,rfl,h4,h5⟩|⟨rfl,rfl⟩
 ·simp_all
 simp_all
def So {N:Nat}(hN:Bgn N){x:A0}(hb:x.bulk≤16777216)(hc:Oh N x≠0):P8 N x=some ([],Oh N x)∧AR N x=some ([],Oh N x):=by
 simp_all[P8,AR,MS,PU,X7]
def AK7 {Q:A0→Pr→Prop} (h0:∀x:A0,x.Op=0→Q x (⟨0,0,x.Var,x.Typ,x.cU,[],[],[],[],[]⟩,Tu))
 (h1:∀(x a:A0) l z,x.Op=1→x.cT=a::l→z∈raw a→Q a z→Q x (z.1,EW z.2 l))
 (h2:∀(x a:A0) z,x.Op=2→a∈x.cT→z∈raw a→Q a z→Q x z)
 (h3:∀(x:A0) i (hi:i<x.cT.length) z,x.Op=3→z∈raw x.cT[i]→Q x.cT[i] z→Q x (z.1,GU x.cT i z.2))
 (h4:∀(x a:A0) l z y,x.Op=4→x.cT=a::l→z∈raw a→Q a z→y∈PC x z→Q x y)
 (h8:∀(x a:A0) l z y,x.Op=8→x.cT=a::l→z∈raw a→Q a z→y∈PC (nd 4 l) z→Q x y)
 (hi:∀(x a:A0) l z,x.Op≠0→x.Op≠1→x.Op≠2→x.Op≠3→x.Op≠4→x.Op≠8→x.cT=a::l→z∈raw a→Q a z→Q x (UR x z)):
 ∀(d:Nat) (x:A0),x.dep≤d→∀y∈raw x,Q x y:=by
 intro d
 induction d with
 |zero=>grind[A0.dep_eq]
 | succ d ih=>
  intro x hd y hy;have hrec:∀a∈x.cT,∀y∈raw a,Q a y:=fun a ha=>ih a (by have:=DL ha;omega)
  rw[Jn]at hy
  unfold comb at hy
  by_cases o0:x.Op=0
  ·rw[A2 o0]at hy
   rw[List.mem_singleton.1 hy];grind
  rw[A1 o0]at hy
  have hhead:∀z,z∈(x.cT.map raw).headD []→∃a l,x.cT=a::l∧z∈raw a∧Q a z:=fun z hz=>by
   match he:x.cT,hz with
   |[],hz=>simp at hz
   |a::l,hz=>simp_all
  grind
def Ie (x:A0)(v:Int):Prop:=∃y∈x.pre,y.Op=0∧y.Var=v
theorem OV {y:A0}:∀{l:List A0},y∈A0.pres l↔∃a∈l,y∈a.pre
 |[]=>by grind[A0.pres]
 |a::l=>by simp[A0.pres,OV (l:=l)]
theorem Pj {x:A0}{v:Int}:Ie x v↔(x.Op=0∧x.Var=v)∨∃a∈x.cT,Ie a v:=by
 grind[Ie,A0.pre_eq,OV]
theorem CZ {x a:A0}{v:Int}(ha:a∈x.cT)(h:Ie a v):Ie x v:=Pj.2 (.inr ⟨a,ha,h⟩)
theorem RB {op:Int}(ho:op≠0){l:List A0}{v:Int}:Ie (nd op l) v↔∃a∈l,Ie a v:=by
 rw[Pj];simp[nd,ho]
def Tj {op:Int}(ho:op≠0){l:List A0}{v:Int}:Ie (Dy op l) v↔∃a∈l,Ie a v:=by
 match l with
 |[]=>exact RB ho
 |[x]=>simp[Dy]
 |x::y::l=>exact RB ho
theorem Az4 {ag:A0} {z y:Pr} (hy:y∈PC ag z) (hag:ag.Op≠0):y.1=z.1∧(y.2.done=false→∀v,Ie y.2.p v→Ie ag v∨z.2.done=false∧Ie z.2.p v):=by
 unfold PC at hy
 by_cases hd:z.2.done=true
 ·rw[A2 hd]at hy
  grind
 rw[A1 hd]at hy
 match he:ag.cT,hy with
 |[],hy=>simp at hy
 |b::l,hy=>
  rw[List.mem_singleton.1 hy];refine⟨rfl,fun _ v h=>?_⟩;obtain⟨a,ha,h⟩:=(RB (by omega)).1 h
  rcases List.mem_cons.1 ha with rfl|ha
  ·simp_all
  rw[List.mem_singleton.1 ha]at h
  exact .inl (CZ (by rw[he];simp) h)
def AW4 (d:Nat) (x:A0) (hd:x.dep≤d):∀y∈raw x,Ie x y.1.Var∧(y.2.done=false→∀v,Ie y.2.p v→Ie x v):=by
 refine AK7 (Q:=fun x y=>Ie x y.1.Var∧(y.2.done=false→∀v,Ie y.2.p v→Ie x v)) ?_ ?_ ?_ ?_ ?_ ?_ ?_ d x hd
 ·intro x h;exact⟨Pj.2 (.inl ⟨h,rfl⟩),fun h=>by cases h⟩
 ·intro x a l z o e _ ⟨h1,h2⟩
  have ha:a∈x.cT:=by rw[e];simp
  refine⟨CZ ha h1,fun hnd v hv=>?_⟩
  simp only[EW]at hnd hv
  have key:Ie (Dy 1 (if z.2.done=true then l else z.2.p::l)) v:=by
   revert hnd hv
   split
   ·intro h;cases h
   simp_all
  obtain⟨b,hb,hv⟩:=(Tj (by omega)).1 key
  by_cases hz:z.2.done=true
  ·rw[A2 hz]at hb
   grind[CZ]
  rw[A1 hz]at hb
  grind[CZ]
 ·grind[CZ]
 ·intro x i hi z o _ ⟨h1,h2⟩;have ha:=G7 hi;refine⟨CZ ha h1,fun _ v hv=>?_⟩;obtain⟨b,hb,hv⟩:=(Tj (by omega)).1 hv
  by_cases hz:z.2.done=true
  ·rw[A2 hz]at hb
   grind[CZ]
  rw[A1 hz]at hb
  grind[CZ]
 ·intro x a l z y o e _ ⟨h1,h2⟩ hy
  have ha:a∈x.cT:=by rw[e];simp
  grind[Az4,CZ]
 ·intro x a l z y o e _ ⟨h1,h2⟩ hy
  have ha:a∈x.cT:=by rw[e];simp
  grind[Az4,nd,CZ,RB]
 intro x a l z _ _ _ _ _ _ e _ ⟨h1,h2⟩
 have ha:a∈x.cT:=by rw[e];simp
 have hv0:(UR x z).1.Var=z.1.Var:=by
  grind[UR,Rj,JJ]
 rw[hv0];refine⟨CZ ha h1,fun hnd v hv=>?_⟩
 simp only[UR,Wi]at hnd hv
 by_cases hz:z.2.done=true
 ·rw[A2 hz]at hnd;rw[hz]at hnd;cases hnd
 rw[A1 hz]at hv
 grind[Pj,SZ]
def Am1 {α:Type}[DecidableEq α]{l:List α}{x:α}(h:l.Nodup):(Ax l x).Nodup:=by
 grind[Ax]
theorem RM {α:Type}[DecidableEq α]:∀(l acc:List α),acc.Nodup→(l.foldl Ax acc).Nodup
 |[],_,h=>h
 |_::l,_,h=>RM l _ (Am1 h)
def WP {α:Type} [DecidableEq α]:∀(l acc:List α),(∀x∈acc,x∈l.foldl Ax acc)∧∀x∈l,x∈l.foldl Ax acc
 |[],_=>⟨fun _ h=>h,fun _ h=>by cases h⟩
 |y::l,acc=>by
  obtain⟨h1,h2⟩:=WP l (Ax acc y)
  grind[Ax]
def WQ {α:Type} [DecidableEq α]:∀(l acc:List α),∃t,l.foldl Ax acc=acc++t
 |[],acc=>⟨[],by simp⟩
 |y::l,acc=>by
  obtain⟨t,h⟩:=WQ l (Ax acc y);rw[DO,h]
  grind[Ax]
noncomputable def Ah4 (N:Nat)(q:A0):List A0:=(J7 N (raw q)).2.1
structure AI1 (N:Nat) (x:A0) (l:List A0):Prop where
 len:l.length≤256
 ok:∀q∈l,Jl N q
 nodup:l.Nodup
 head:∃t,l=x::t
 good:∀q∈l,(J7 N (raw q)).2.2=0
 rests:∀q∈l,∀r∈Ah4 N q,r∈l
 vars:∀q∈l,∀v,Ie q v→Ie x v
def PS {N:Nat} (hN:Bgn N) {x:A0} (hx:Jl N x) (hc:Oh N x=0):∃r:List A0×Int,P8 N x=some r∧(r.2=17∨r.2=0∧AI1 N x r.1):=by
 unfold P8;rw[MS hN (by have:=hx.1;omega)];simp only[A4,hc];rw[A1 (Q1 rfl)]
 obtain⟨r,r',h1,h2,h3⟩:=AX4 (S:=List A0×Int) (R:=List A0⊕Int) (R':=List A0⊕Int)
  (f:=fun(s2:(List A0)×Int)=>((if cmp .lss s2.2 (Ar.len s2.1)=true then(B8 s2.1 s2.2).bind fun x5=>(O5 N x5).bind fun r6=>if cmp .neq r6.2.2 0=true then some (.inr (.inr r6.2.2))else(loopN (fun(s7:(List A0)×Int)=>((if cmp .lss s7.2 (Ar.len r6.2.1)=true then(B8 r6.2.1 s7.2).bind fun x10=>(M2 N s7.1 x10).bind fun r11=>if cmp .lss r11 0=true then(G6 s7.1 ([x10])).bind fun l13=>some (.inl (l13,ar .add .i64 s7.2 1))else some (.inl (s7.1,ar .add .i64 s7.2 1))else some (.inr s7.1)):Option (((List A0)×Int)⊕(List A0)))) N (s2.1,0)).bind fun s9=>if cmp .gtr (Ar.len s9) 256=true then some (.inr (.inr 17))else some (.inl (s9,ar .add .i64 s2.2 1))else some (.inr (.inl s2.1))):Option (((List A0)×Int)⊕(((List A0))⊕Int))))
  (g:=fun(s2:(List A0)×Int)=>((if cmp .lss s2.2 (Ar.len s2.1)=true then(B8 s2.1 s2.2).bind fun x5=>(O5 N x5).bind fun r6=>if cmp .neq r6.2.2 0=true then some (.inr (.inr r6.2.2))else(loopN (fun(s7:(List A0)×Int)=>((if cmp .lss s7.2 (Ar.len r6.2.1)=true then(B8 r6.2.1 s7.2).bind fun x10=>(M2 N s7.1 x10).bind fun r11=>if cmp .lss r11 0=true then(G6 s7.1 ([x10])).bind fun l13=>some (.inl (l13,ar .add .i64 s7.2 1))else some (.inl (s7.1,ar .add .i64 s7.2 1))else some (.inr s7.1)):Option (((List A0)×Int)⊕(List A0)))) N (s2.1,0)).bind fun s9=>if cmp .gtr (Ar.len s9) 256=true then some (.inr (.inr 17))else some (.inl (s9,ar .add .i64 s2.2 1))else some (.inr (.inl s2.1))):Option (((List A0)×Int)⊕(((List A0))⊕Int))))
  (fun s=>∃j:Nat,s.2=j∧j≤s.1.length∧s.1.length≤256∧(∀q∈s.1,Jl N q)∧s.1.Nodup∧(∃t,s.1=x::t)∧(∀q∈s.1.take j,(J7 N (raw q)).2.2=0)∧(∀q∈s.1.take j,∀r∈Ah4 N q,r∈s.1)∧∀q∈s.1,∀v,Ie q v→Ie x v)
  (fun r _=>(∃l,r= .inl l∧AI1 N x l)∨r= .inr 17)
  (fun s=>257-s.2.toNat)
  (fun s ⟨j,i0,i1,i2,i3,i4,⟨t,i5⟩,i6,i7,i8⟩=>by
   obtain⟨out,i⟩:=s
   simp only at i0 i1 i2 i3 i4 i5 i6 i7 i8
   subst i0
   by_cases hj:j<out.length
   ·have e1:B8 out (j:Int)=some out[j]:=by rw[G4,E3 hj]
    have hm:=G7 hj;have hk:=i3 _ hm;simp only[A2 (Hi (show(j:Int)<Ar.len out by grind[B2])),e1,A4];rw[Of hN hk.1 hk.2.1];simp only[A4]
    rcases QY hN hk with h17|⟨h0,hl,hr⟩
    ·rw[A2 (X7 (by rw[h17];omega)),h17]
     simp_all
    rw[A1 (Q1 h0)];rw[Aj9 hN _ out hl i2 (fun q hq=>by have:=(hr q hq).1;omega)];simp only[A4]
    by_cases hbig:256<((J7 N (raw out[j])).2.1.foldl Ax out).length
    ·rw[A2 (Ci (by grind[B2]))]
     simp_all
    rw[A1 (AJ (by grind[B2]))];have hlen:=(LS (J7 N (raw out[j])).2.1 out).2;obtain⟨t',ht'⟩:=WQ (J7 N (raw out[j])).2.1 out;have hsub:=WP (J7 N (raw out[j])).2.1 out
    have htake:((J7 N (raw out[j])).2.1.foldl Ax out).take (j+1)=out.take j++[out[j]]:=by
     rw[ht',Ke (by omega),CI,E3 hj];rfl
    refine .inl ⟨_,rfl,rfl,⟨j+1,?_,?_,?_,?_,?_,?_,?_,?_,?_⟩,?_⟩
    ·grind[P4]
    ·grind
    ·simp_all
    ·grind[JC]
    ·grind[RM]
    ·simp_all
    ·grind
    ·simp only[htake];intro q hq r hr
     rcases List.mem_append.1 hq with hq|hq
     ·grind
     rw[List.mem_singleton.1 hq]at hr;exact hsub.2 r hr
    ·intro q hq v hv
     rcases JC _ _ hq with hq|hq
     ·grind
     refine i8 _ hm v ?_
     have hq':q∈rests (raw out[j]):=by
      grind[J7]
     obtain⟨y,hy,hnd,rfl⟩:=JN hq';exact(AW4 _ _ (D5 _) y hy).2 (by grind) v hv
    grind[P4]
   simp only[A1 (EM (show¬(j:Int)<Ar.len out by grind[B2]))];have ej:out.take j=out:=S2 (by omega)
   rw[ej]at i6 i7
   exact .inr ⟨_,_,rfl,rfl,.inl ⟨out,rfl,i2,i3,i4,⟨t,i5⟩,i6,i7,i8⟩⟩)
  N ([x],0) ⟨0,rfl,by simp,by simp,fun q hq=>by rw[List.mem_singleton.1 hq];exact hx,by simp,⟨[],rfl⟩,fun q hq=>by simp at hq,fun q hq=>by simp at hq,fun q hq v hv=>by rw[List.mem_singleton.1 hq]at hv;exact hv⟩ (by simp;omega)
 rw[h1]
 rcases h3 with⟨l,rfl,h4⟩|rfl
 ·exact⟨(l,0),rfl,.inr ⟨rfl,h4⟩⟩
 simp
noncomputable def Hb (F:A0→Option (List U4))(s:List U4)(a:A0):Option (List U4⊕List U4):=(F a).bind fun r=>(G6 s r).bind fun l=>some (.inl l)
def UD {F G:A0→Option (List U4)}:∀(l:List A0) (s:List U4),s.length+(A0.pres l).length≤40000000→(∀g∈s,g.cU.bulk≤16777216)→
 (∀a∈l,∃r,F a=some r∧G a=some r∧r.length≤a.pre.length∧∀g∈r,g.cU.bulk≤16777216)→
 ∃r,G3 (Hb F) l s=some (.inl r)∧G3 (Hb G) l s=some (.inl r)∧r.length≤s.length+(A0.pres l).length∧∀g∈r,g.cU.bulk≤16777216
 |[],s,_,hs,_=>⟨s,rfl,rfl,by omega,hs⟩
 |a::l,s,hb,hs,h=>by
  obtain⟨r,h1,h2,h3,h4⟩:=h a (by simp)
  simp only[A0.pres,Ac]at hb ⊢
  obtain⟨r2,k1,k2,k3,k4⟩:=UD l (s++r) (by grind) (fun g hg=>by grind) fun b hb=>h b (by simp[hb])
  grind[G3,Hb,J0]
def Mg {N:Nat} (hN:Bgn N) {F:A0→Option (List U4)} {x:A0} (hb:x.cT.length≤16777216) (l:List A0) (k:Int) (hk:k=l.length) (hl:∀(i:Nat) a,l[i]? =some a→x.cT[i]? =some a) (hle:l.length≤x.cT.length) (s:List U4):
 loopN (fun(s6:List U4×Int)=>if cmp .lss s6.2 k=true then(B8 x.cT s6.2).bind fun x9=>(F x9).bind fun r10=>(G6 s6.1 r10).bind fun l12=>some (.inl (l12,ar .add .i64 s6.2 1))else some (.inr s6.1)) N (s,0)=
  (G3 (Hb F) l s).bind fun o=>match o with| .inl s=>some s| .inr r=>some r:=by
 subst hk;rw[X4 l (by omega) (mk:=fun(s:List U4) i=>(s,i)) (body:=Hb F) (fin:=fun s=>s) (s:=s) (by omega) ?_ ?_]
 ·grind
 ·intro s i a ha hi;have e:ar .add .i64 (i:Int) 1=i+1:=J1 (by omega) (by omega);simp only[C5,hi,K3,B4,G4,hl i a ha,A4,e,Hb]
  grind
 grind[C5]
def Zl {N:Nat} (hN:Bgn N):∀(n:Nat) (x:A0),x.bulk≤n→x.bulk≤16777216→x.pre.length≤64→Uk N x→
 ∃r,M4 N n x=some r∧R8 N n x=some r∧r.length≤x.pre.length∧∀g∈r,g.cU.bulk≤16777216:=by
 intro n
 induction n with
 |zero=>grind[GD]
 | succ n ih=>
  intro x hx hb hp hg;have hl:=HR x;have hap:=EZ x;have hself:Ba N x=0:=hg x (by rw[A0.pre_eq];simp);have hxb:=A0.bulk_eq x
  have hrec:∀a∈x.cT,∃r,M4 N n a=some r∧R8 N n a=some r∧r.length≤a.pre.length∧∀g∈r,g.cU.bulk≤16777216:=fun a ha=>by
   have:=AI ha;have:=Kt ha;exact ih a (by omega) (by omega) (by omega) (hg.arg ha)
  unfold M4 R8
  by_cases h9:x.Op=9
  ·obtain⟨a,l,he⟩:=Ae4 hN hb (by omega) hself (by omega);obtain⟨r,k1,k2,k3,k4⟩:=hrec a (by rw[he];simp);have hpa:=Kt (x:=x) (a:=a) (by rw[he];simp)
   have hi:B8 x.cT 0=some a:=by rw[he];rfl
   refine⟨(⟨x.cY,x.Typ,x.Var,x.cU⟩:U4)::r,?_,?_,by grind,fun g hgm=>?_⟩
   ·simp only[N4 (show¬x.Op=1 by omega),N4 (show¬x.Op=8 by omega),N4 (show¬x.Op=3 by omega),Z1 h9,A4,D6,C7,B4,hi,k1];rw[J0 (by simp)]
    grind[G6]
   ·simp only[Z1 h9,B4];rw[J0 (by simp)];simp only[A4,L9];rw[Mg hN (by omega) [a] 1 rfl (fun i b hi=>by rw[he];grind) (by rw[he];simp)]
    grind[G3,Hb,J0]
   grind
  by_cases h3:x.Op=3
  ·obtain⟨r,k1,k2,k3,k4⟩:=UD (F:=M4 N n) (G:=R8 N n) x.cT [] (by have:=GA x.cT;grind) (fun g h=>by simp at h) hrec;refine⟨r,?_,?_,?_,k4⟩
   ·simp only[N4 (show¬x.Op=1 by omega),N4 (show¬x.Op=8 by omega),Z1 h3,A4,D6,C7,B4];have:=Mg (N:=N) hN (F:=M4 N n) (x:=x) (by omega) x.cT (Ar.len x.cT) rfl (fun i a h=>h) (D5 _) [];rw[this,k1];rfl
   ·simp only[N4 (show¬x.Op=9 by omega),N4 (show¬x.Op=1 by omega),N4 (show¬x.Op=8 by omega),N4 (show¬x.Op=10 by omega),N4 (show¬x.Op=7 by omega),Z1 h3,A4,D6,C7,B4];rw[Mg hN (by omega) x.cT (Ar.len x.cT) rfl (fun i a h=>h) (D5 _),k2];rfl
   grind[A0.pre_eq]
  by_cases h1:x.Op=1∨x.Op=8∨x.Op=10∨x.Op=7
  ·obtain⟨a,l,he⟩:=Ae4 hN hb (by omega) hself (by omega);obtain⟨r,k1,k2,k3,k4⟩:=hrec a (by rw[he];simp);have hpa:=Kt (x:=x) (a:=a) (by rw[he];simp)
   have hi:B8 x.cT 0=some a:=by rw[he];rfl
   refine⟨r,?_,?_,by omega,k4⟩
   ·rcases h1 with h1|h1|h1|h1
    ·simp_all[Z1]
    ·simp_all[Z1]
    ·simp_all[N4,Z1]
    simp_all[N4,Z1]
   have hloop:=Mg (N:=N) hN (F:=R8 N n) (x:=x) (by omega) [a] 1 rfl (fun i b hi=>by rw[he];grind) (by rw[he];simp) []
   have hr:G3 (Hb (R8 N n)) [a] []=some (.inl r):=by
    grind[G3,Hb,J0]
   rw[hr]at hloop
   rcases h1 with h1|h1|h1|h1
   ·simp_all[N4,Z1]
   ·simp_all[N4,Z1]
   ·simp_all[N4,Z1]
   simp_all[N4,Z1]
  refine⟨[],?_,?_,BW _,fun g h=>by simp at h⟩
  ·simp_all[N4]
  simp only[N4 (show¬x.Op=1 by omega),N4 (show¬x.Op=8 by omega),N4 h3,N4 h9,N4 (show¬x.Op=10 by omega),N4 (show¬x.Op=7 by omega),A4,D6,C7];have:=Mg (N:=N) hN (F:=R8 N n) (x:=x) (by omega) [] 0 rfl (fun i b hi=>by simp at hi) (by simp) [];rw[this];rfl
end Go.Ab
namespace Go.Ab
open Classical
noncomputable section
def KC {α:Type}{l:List α}{i:Int}(h:i<l.length):cmp .lss i (Ar.len l)=true:=Hi h
def KD {α:Type}{l:List α}:¬cmp .lss (l.length:Int) (Ar.len l)=true:=EM (Int.lt_irrefl _)
def Az3 {α:Type}{l:List α}{i:Int}(h0:0≤i)(h1:i<l.length):Du (Ii l i)=some ():=by
 grind[Du,Ii]
def NT {S R T:Type}{step:S→Option (S⊕R)}{k:R→Option T}{Q:T→Prop}(I:Nat→S→Prop)(n:Nat){s:S}{N:Nat}(hN:n<N)(h0:I 0 s)
 (hs:∀j s,j<n→I j s→∃o,step s=some o∧(match o with| .inl s'=>I (j+1) s'| .inr r=>∃t,k r=some t∧Q t)) (he:∀s,I n s→∃r,step s=some (.inr r)∧∃t,k r=some t∧Q t):∃t,(loopN step N s).bind k=some t∧Q t:=by
 obtain⟨r,h1,h2⟩:=EN (step:=step) I (fun r=>∃t,k r=some t∧Q t) n 0 s N hN h0 (fun j s _ hj h=>hs j s (by omega) h) fun s h=>he s (by rw[L8]at h;exact h);rw[h1];exact h2
def UB {α σ R R':Type} {f:σ→α→Option (σ⊕R)} {f':σ→α→Option (σ⊕R')} (g:R→R') (h:∀s a,f' s a=(f s a).map (Sum.map id g)):∀(l:List α) (s:σ),G3 f' l s=(G3 f l s).map (Sum.map id g)
 |[],s=>rfl
 | a::l,s=>by
  simp only[G3,h s a]
  cases f s a with
  |none=>rfl
  |some o=>
   cases o with
   |inl s'=>simp only[K4,Sum.map_inl,id];exact UB g h l s'
   |inr r=>rfl
theorem At0 (N:Nat) (x:A0):Bd N x=O5 N x:=by
 unfold Bd O5
 cases L3 N N x with
 |none=>rfl
 | some w=>
  simp only[A4]
  rw[UB (fun q:List A0×List C4×Int=>(q.1,q.2.1,q.2.2,([]:List C4))) (f:=fun(s9:(List A0)×(List C4)) (y8:(C4×A6))=>
  (
   ((
    if nt y8.2.done=true then
     (M2 N s9.1 y8.2.p).bind fun r17=>
     if cmp .lss r17 0=true then
      (M3 N y8.2.p).bind fun r18=>
      if cmp .neq r18 0=true then
       some (.inr ({y8.1 with To:=r17},17))
      else
       (G6 s9.1 ([y8.2.p])).bind fun l20=>
       some (.inl ({y8.1 with To:=Ar.len s9.1},l20))
     else
      some (.inl ({y8.1 with To:=r17},s9.1))
    else
     some (.inl ({y8.1 with To:=(-1)},s9.1))
   ):Option ((C4×(List A0))⊕(C4×Int))).bind fun s16=>
   match s16 with
   | .inl y21=>
    (F3 N s9.2 (fun y1=>I7 N y1 y21.1)).bind fun r23=>
    if r23=true then
     some (.inl (y21.2,s9.2))
    else
     (G6 s9.2 ([y21.1])).bind fun l25=>
     if cmp .gtr (Ar.len l25) 2048=true then
      some (.inr (y21.2,l25,17))
     else
      some (.inl (y21.2,l25))
   | .inr y26=>
    some (.inr (s9.1,s9.2,y26.2))
   :Option (((List A0)×(List C4))⊕(((List A0)×(List C4)×Int)))))]
  ·generalize G3 _ w ([],[])=o
   cases o with
   |none=>rfl
   |some o=>cases o<;>rfl
  intro s y
  have tl:∀z:C4×List A0,((F3 N s.2 (fun y1=>I7 N y1 z.1)).bind fun r25=>
   if r25=true then
    some (.inl (z.2,s.2))
   else
    (G6 s.2 ([z.1])).bind fun l27=>
    if cmp .gtr (Ar.len l27) 2048=true then
     some (.inr (z.2,l27,17,[]))
    else
     some (.inl (z.2,l27)):Option (((List A0)×(List C4))⊕(((List A0)×(List C4)×Int×(List C4)))))=
   ((F3 N s.2 (fun y1=>I7 N y1 z.1)).bind fun r23=>
   if r23=true then
    some (.inl (z.2,s.2))
   else
    (G6 s.2 ([z.1])).bind fun l25=>
    if cmp .gtr (Ar.len l25) 2048=true then
     some (.inr (z.2,l25,17))
    else
     some (.inl (z.2,l25)):Option (((List A0)×(List C4))⊕(((List A0)×(List C4)×Int)))).map (Sum.map id fun q:List A0×List C4×Int=>(q.1,q.2.1,q.2.2,([]:List C4))):=fun z=>by
   cases F3 N s.2 (fun y1=>I7 N y1 z.1)with
   |none=>rfl
   |some b=>
    grind[G6]
  by_cases hd:nt y.2.done=true
  ·rw [A2 hd,A2 hd]
   cases M2 N s.1 y.2.p with
   |none=>rfl
   | some r=>
    simp only[A4]
    by_cases h1:cmp .lss r 0=true
    ·rw[A2 h1,A2 h1]
     cases M3 N y.2.p with
     |none=>rfl
     |some c=>
      simp only[A4]
      by_cases h2:cmp .neq c 0=true
      ·rw[A2 h2,A2 h2];rfl
      rw[A1 h2,A1 h2]
      cases G6 s.1 [y.2.p]with
      |none=>rfl
      |some m=>exact tl _
    simp_all
  simp_all
def AF7 (N:Nat)(x:A0):Ai N x=Bf N x:=by
 grind[Ai,Bf,At0]
def UK {S R β:Type} {step:S→Option (List β×(S⊕R))} (I:Nat→S→Prop) (Q:R→Prop):∀(k i:Nat) (s:S) (N:Nat),k<N→I i s→
 (∀j s,i≤j→j<i+k→I j s→∃s',step s=some ([],.inl s')∧I (j+1) s')→
 (∀s,I (i+k) s→∃r,step s=some ([],.inr r)∧Q r)→∃r,Z5 step N s=some ([],r)∧Q r
 |0,i,s,N,hN,h0,_,he=>by
  obtain⟨N,rfl⟩:∃M,N=M+1:=⟨N-1,by omega⟩
  grind[Z5]
 |k+1,i,s,N,hN,h0,hs,he=>by
  obtain⟨N,rfl⟩:∃M,N=M+1:=⟨N-1,by omega⟩;obtain⟨s',h1,h2⟩:=hs i s (D5 _) (by omega) h0;obtain⟨r,h3,h4⟩:=UK I Q k (i+1) s' N (by omega) h2 (fun j s a b=>hs j s (by omega) (by omega)) (by rwa[show i+1+k=i+(k+1) by omega])
  simp_all[Z5]
def UL {β:Type} {step:Int→Option (List β×(Int⊕Unit))} (w:Nat→β) (n:Nat) (hs:∀i:Nat,i<n→step (i:Int)=some ([w i],.inl ((i:Int)+1))) (he:step (n:Int)=some ([],.inr ())):
 ∀(k i N:Nat),i+k=n→k<N→Z5 step N (i:Int)=some ((List.range' i k).map w,())
 |0,i,N,h,hN=>by
  obtain⟨N,rfl⟩:∃M,N=M+1:=⟨N-1,by omega⟩
  have:i=n:=by omega
  simp_all[Z5]
 |k+1,i,N,h,hN=>by
  obtain⟨N,rfl⟩:∃M,N=M+1:=⟨N-1,by omega⟩;have ih:=UL w n hs he k (i+1) N (by omega) (by omega)
  have e:((i+1:Nat):Int)=(i:Int)+1:=by omega
  rw[e]at ih
  grind[Z5,List.range'_succ]
def PD (N:Nat)(q:A0):List C4:=(J7 N (raw q)).1
def drR (N:Nat)(q:A0):List A0:=(J7 N (raw q)).2.1
def stE (N:Nat)(l:List A0)(i:Nat)(q:A0)(e:C4):C4:={e with dE:=(i:Int),To:=if 0≤e.To then Nk l ((drR N q)[e.To.toNat]?.getD q)else e.To}
def AJ4 {w:List Pr}{z:Pr}(hz:z∈w)(h:0≤Ig (rests w) z.2):∃p,B8 (rests w) (Ig (rests w) z.2)=some p:=by
 unfold Ig at h ⊢
 by_cases hd:z.2.done=true
 ·rw[A2 hd]at h;omega
 rw[A1 hd]at h ⊢
 have hm:=Ft hz hd;obtain⟨i,hi,e,_⟩:=Wj (P:=fun q=>decide (z.2.p=q)) (HY.2 hm);have e:Nk (rests w) z.2.p=(i:Int):=e;rw[e,G4]
 simp_all
def AS9 {N:Nat} {q:A0} (hg:(J7 N (raw q)).2.2=0) {e:C4} (he:e∈PD N q) (h:0≤e.To):∃p,B8 (drR N q) e.To=some p∧(drR N q)[e.To.toNat]?.getD q=p:=by
 unfold PD J7 at he
 unfold drR
 unfold J7 at hg ⊢
 by_cases hf:TL N (raw q)
 ·rw[A2 hf]at hg;cases hg
 rw[A1 hf]at he ⊢
 obtain⟨z,hz,rfl⟩:=List.mem_map.1 he
 have hz':z∈raw q:=by
  have:∀(l a:List Pr) (x:Pr),x∈l.foldl Ax a→x∈a∨x∈l:=fun l a x=>JC l a
  rcases this _ _ _ hz with h|h
  ·simp_all
  exact h
 obtain⟨p,hp⟩:=AJ4 (w:=raw q) hz' h;refine⟨p,hp,?_⟩
 unfold B8 at hp
 rw[A2 (show 0≤Ig (rests (raw q)) z.2 from h)]at hp
 show(rests (raw q))[(Ig (rests (raw q)) z.2).toNat]?.getD q=p
 rw[hp];rfl
def Bf4 {N:Nat}(hN:Bgn N){q:A0}(h:Jl N q)(hg:(J7 N (raw q)).2.2=0):Bf N q=some (PD N q,drR N q,0):=by
 rw[At1 hN h.1 h.2.1];have:J7 N (raw q)=(PD N q,drR N q,(J7 N (raw q)).2.2):=rfl;rw[this,hg]
def AP1 {N:Nat}(hN:Bgn N)(l:List A0)(p:A0)(hl:l.length≤1000000)(hb:∀q∈l,q.bulk≤16777216):EY N l p=some (Nk l p):=by
 grind[EY,JS,EX,AT1]
structure ClD (N:Nat) (l:List A0):Prop where
 len:l.length≤256
 ok:∀q∈l,Jl N q
 good:∀q∈l,(J7 N (raw q)).2.2=0
theorem ClD.bulk {N:Nat}{l:List A0}(h:ClD N l):∀q∈l,q.bulk≤16777216:=fun q hq=>by have:=(h.ok q hq).1;omega
def eds (N:Nat)(l:List A0)(i:Nat)(q:A0):List C4:=(PD N q).map (stE N l i q)
def Wu {N:Nat}(hN:Bgn N){q:A0}(h:Jl N q):(PD N q).length≤1000000:=(Nv (Di h.2.1).2.1 h.1 h.2.2).1
def Am4 {N:Nat} (hN:Bgn N) {l:List A0} (h:ClD N l):Da N l=some ((List.range l.length).map fun(i:Nat)=>((i:Int),eds N l i (l.getD i ⟨0,[],0,0,0,0,⟨0,[],0,0,0,⟨0,0,⟨#[]⟩⟩⟩⟩))):=by
 have hlen:=h.len;unfold Da FE
 have key:=UL (step:=(fun(s1:Int)=>
  (
   if cmp .lss s1 (Ar.len l)=true then
    (B8 l s1).bind fun x7=>
    (Ai N x7).bind fun l9=>
    L6 (Z5
     (fun(s11:Int×(List C4))=>
      (
       if cmp .lss s11.1 (Ar.len l9.1)=true then
        (Du (Ii s11.2 s11.1)).bind fun _=>
        (DS s11.2 s11.1 (fun x18:C4=>{x18 with dE:=s1})).bind fun l19=>
        (B8 l19 s11.1).bind fun x20=>
        if cmp .geq x20.To 0=true then
         (B8 l19 s11.1).bind fun x21=>
         (B8 l9.2.1 x21.To).bind fun x22=>
         (EY N l x22).bind fun r23=>
         (DS l19 s11.1 (fun x24:C4=>{x24 with To:=r23})).bind fun l25=>
         some ([],.inl (ar .add .i64 s11.1 1,l25))
        else
         some ([],.inl (ar .add .i64 s11.1 1,l19))
       else
        some ([],.inr s11.2)
       :Option (List (Int×(List C4))×((Int×(List C4))⊕(((List C4)))))))
     N (0,l9.1)) fun s17=>
    L6 (some ([(s1,s17)],())) fun _=>
    some ([],.inl (ar .add .i64 s1 1))
   else
    some ([],.inr ())
   :Option (List (Int×(List C4))×((Int)⊕(Unit)))))) (fun i=>((i:Int),eds N l i (l.getD i ⟨0,[],0,0,0,0,⟨0,[],0,0,0,⟨0,0,⟨#[]⟩⟩⟩⟩))) l.length (fun i hi=>?_) (by rw[A1 KD]) l.length 0 N (by omega) (by omega)
 ·have e0:((0:Nat):Int)=0:=rfl
  rw[e0]at key
  rw[key]
  grind[L6,List.range_eq_range']
 have hm:=G7 hi;have hr:=h.ok _ hm;have hg:=h.good _ hm;have hel:=Wu hN hr;have e1:ar .add .i64 (i:Int) 1=(i:Int)+1:=J1 (by omega) (by omega);rw[A2 (KC (by omega)),G4,E3 hi];simp only[A4];rw[AF7,Bf4 hN hr hg];simp only[A4]
 have eD:l.getD i ⟨0,[],0,0,0,0,⟨0,[],0,0,0,⟨0,0,⟨#[]⟩⟩⟩⟩=l[i]:=by simp_all
 have ex:∀{o:Option (List (Int×(List C4))×List C4)},(∃r,o=some ([],r)∧r=eds N l i l[i])→(L6 o fun s17=>L6 (some ([((i:Int),s17)],())) fun _=>some ([],.inl (ar .add .i64 (i:Int) 1)):Option (List (Int×List C4)×(Int⊕Unit)))=some ([((i:Int),eds N l i l[i])],.inl ((i:Int)+1)):=fun{o} ⟨r,k1,k2⟩=>by
  rw[k1,k2,e1];simp[L6]
 rw[eD];refine ex (UK (fun(j:Nat) (s:Int×List C4)=>s.1=(j:Int)∧s.2=((PD N l[i]).take j).map (stE N l i l[i])++(PD N l[i]).drop j) (fun r=>r=eds N l i l[i]) (PD N l[i]).length 0 _ _ (by omega) ⟨rfl,by simp⟩ (fun j s _ hj ⟨a1,a2⟩=>?_) (fun s ⟨a1,a2⟩=>?_))
 ·obtain⟨k,m⟩:=s
  dsimp only at a1 a2
  subst a1
  rw[L8]at hj
  have hml:m.length=(PD N l[i]).length:=by rw[a2];simp;omega
  have hmj:m[j]? =some (PD N l[i])[j]:=by
   rw[a2,Kd (by simp;omega)]
   grind
  have hset:∀v,m.set j v=((PD N l[i]).take j).map (stE N l i l[i])++v::(PD N l[i]).drop (j+1):=fun v=>by
   rw[a2,List.set_append_right _ _ (by simp;omega),S3 hj,Q7,BZ,Gl (Nat.le_of_lt hj),Nat.sub_self];rfl
  have hupd:∀u:C4→C4,DS m (j:Int) u=some (m.set j (u (PD N l[i])[j])):=fun u=>by
   grind[DS,G4]
  dsimp only
  rw[A2 (KC (by omega)),Az3 (by omega) (by omega),hupd];simp only[A4]
  have hi2:∀v,B8 (m.set j v) (j:Int)=some v:=fun v=>by rw[G4,List.getElem?_set_self (by omega)]
  simp only[hi2,A4]
  have hnext:∀v,v=stE N l i l[i] (PD N l[i])[j]→m.set j v=((PD N l[i]).take (j+1)).map (stE N l i l[i])++(PD N l[i]).drop (j+1):=fun v hv=>by
   rw[hset,hv,Zp hj,BY];simp
  have hje:=G7 hj
  by_cases ht:0≤((PD N l[i])[j]).To
  ·rw[A2 (by rw[U8];simp_all)];obtain⟨p,p1,p2⟩:=AS9 hg hje ht;rw[p1];simp only[A4];rw[AP1 hN l p (by omega) h.bulk];simp only[A4]
   have hu2:∀(v:C4) (u:C4→C4),DS (m.set j v) (j:Int) u=some (m.set j (u v)):=fun v u=>by
    unfold DS;rw[hi2];simp
   rw[hu2];simp only[A4]
   grind[P4,stE]
  rw[A1 (by rw[U8];grind)]
  grind[P4,stE]
 simp_all[KD,eds]
def Ap9:A0:=⟨0,[],0,0,0,0,⟨0,[],0,0,0,⟨0,0,⟨#[]⟩⟩⟩⟩
def Ok (N:Nat)(l:List A0)(n:Nat):List C4:=(List.range n).flatMap fun i=>eds N l i (l.getD i Ap9)
def Nh (N:Nat)(l:List A0)(n:Nat):Ok N l (n+1)=Ok N l n++eds N l n (l.getD n Ap9):=by grind[Ok,List.range_succ]
def Wm {l:List A0}{i:Nat}(hi:i<l.length):l.getD i Ap9=l[i]:=by simp_all
def MK {N:Nat} (hN:Bgn N) {l:List A0} (h:ClD N l):∀n,n≤l.length→(Ok N l n).length≤n*1000000
 |0,_=>by simp[Ok]
 |n+1,hn=>by
  have ih:=MK hN h n (by omega);have:=Wu hN (h.ok _ (G7 (show n<l.length by omega)));rw[Nh,Wm (show n<l.length by omega),Ac,eds,Q7];omega
def Ao9 {α σ R:Type} {step:σ→α→Option (σ⊕R)} (w:Nat→α) (I:Nat→σ→Prop) (n:Nat) (hs:∀i s,i<n→I i s→∃s',step s (w i)=some (.inl s')∧I (i+1) s') {s:σ} (h0:I 0 s):
 ∃s',G3 step ((List.range n).map w) s=some (.inl s')∧I n s':=by
 have key:∀(k i:Nat) (s:σ),i+k=n→I i s→∃s',G3 step ((List.range' i k).map w) s=some (.inl s')∧I n s':=by
  intro k
  induction k with
  |zero=>simp_all[G3]
  |succ k ih=>
   grind[List.range'_succ,G3]
 rw[Kb]
 simp_all
def AH3 {N:Nat}(hN:Bgn N){q:A0}(h:Jl N q):∃r,Z6 N q=some (r,0)∧R8 N N q=some r:=by
 have hb:q.bulk≤16777216:=by have:=h.1;omega
 obtain⟨hp,hd,hg⟩:=Di h.2.1;obtain⟨r,k1,k2,_⟩:=Zl hN N q (by omega) hb hp hg;refine⟨r,?_,k2⟩;unfold Z6;rw[Rr hN hb];simp only[A4];rw[A1 (Q1 h.2.1),k1];rfl
def At2 {N:Nat} (hN:Bgn N) {l:List A0} (h:ClD N l) (a b:Int):∃s:E2,G3 (fun(s10:E2) (y9:(Int×(List C4)))=>
        (
         (B8 l y9.1).bind fun x16=>
         (Z6 N x16).bind fun r17=>
         if cmp .neq r17.2 0=true then
          some (.inr (s10,r17.2))
         else
          ((
           (G6 s10.cZ ([(⟨r17.1⟩:FK)])).bind fun l220=>
           (G6 s10.dC y9.2).bind fun l380=>
           some ({s10 with cZ:=l220,dC:=l380})
          ):Option (E2)).bind fun s18=>
          some (.inl s18)
         :Option ((E2)⊕((E2×Int))))
        ) ((List.range l.length).map fun(i:Nat)=>((i:Int),eds N l i (l.getD i Ap9))) (⟨a,b,[],[]⟩:E2)=some (.inl s)∧s.cZ.length=l.length∧s.dC=Ok N l l.length:=by
 have hlen:=h.len
 obtain⟨s,h1,h2,h3⟩:=Ao9 (R:=E2×Int) (step:=fun(s10:E2) (y9:(Int×(List C4)))=>
  (
   (B8 l y9.1).bind fun x16=>
   (Z6 N x16).bind fun r17=>
   if cmp .neq r17.2 0=true then
    some (.inr (s10,r17.2))
   else
    ((
     (G6 s10.cZ ([(⟨r17.1⟩:FK)])).bind fun l220=>
     (G6 s10.dC y9.2).bind fun l380=>
     some ({s10 with cZ:=l220,dC:=l380})
    ):Option (E2)).bind fun s18=>
    some (.inl s18)
   :Option ((E2)⊕((E2×Int))))) (fun(i:Nat)=>((i:Int),eds N l i (l.getD i Ap9))) (fun i (s:E2)=>s.cZ.length=i∧s.dC=Ok N l i) l.length
  (fun i s hi ⟨e1,e2⟩=>by
   have hm:=G7 hi;obtain⟨r,r1,_⟩:=AH3 hN (h.ok _ hm);have hl1:=MK hN h i (by omega);have hl2:=MK hN h (i+1) hi
   rw[Nh,Ac]at hl2
   dsimp only
   rw[G4,E3 hi];simp only[A4,r1];rw[A1 (Q1 rfl),J0 (by rw[e1];simp;omega),e2,J0 (by omega)]
   simp_all[Nh]) (s:=(⟨a,b,[],[]⟩:E2)) ⟨rfl,by simp[Ok]⟩
 simp_all
def AO9 {N:Nat} (hN:Bgn N) (l:List A0) (p:A0) (hl:l.length≤1000000) (hb:∀q∈l,q.bulk≤16777216):Ei N l p=some (Nk l p):=by
 have key:Ei N l p=H8 N l (fun q=>Af N N q p):=rfl
 rw[key,JS l (by omega) _ (fun q=>decide (p=q)) (fun x hx=>by
  rw[Ay9 hN N x p (by have:=hb x hx;omega) (hb x hx)]
  grind) (by omega)]
def At6 {N:Nat} (hN:Bgn N) {l:List A0} (h:ClD N l) (a b:Int) {T:Type} {k:E2→Option T} {Q:T→Prop} (hk:∀s:E2,s.cZ.length=l.length→s.dC=Ok N l l.length→∃t,k s=some t∧Q t):∃t,((loopN
 (fun (s5 :Int×E2)=>
  (
   if cmp .lss s5.1 (Ar.len l)=true then
    (B8 l s5.1).bind fun x9=>
    (R8 N N x9).bind fun r10=>
    (G6 s5.2.cZ ([(⟨r10⟩:FK)])).bind fun l12=>
    (B8 l s5.1).bind fun x13=>
    (AU N x13).bind fun r14=>
    (loopN
     (fun (s15:Int×E2)=>
      (
       if cmp .lss s15.1 (Ar.len r14.1)=true then
        (B8 r14.1 s15.1).bind fun x18=>
        ((
         if cmp .geq x18.To 0=true then
          (B8 r14.2.1 x18.To).bind fun x21=>
          (Ei N l x21).bind fun r22=>
          some ({x18 with dE:=s5.1,To:=r22})
         else
          some ({x18 with dE:=s5.1})
        ):Option (C4)).bind fun s20=>
        (G6 s15.2.dC ([s20])).bind fun l24=>
        some (.inl (ar .add .i64 s15.1 1,{s15.2 with cZ:=l12,dC:=l24}))
       else
        some (.inr ({s15.2 with cZ:=l12}))
       :Option ((Int×E2)⊕(E2))))
     N (0,{s5.2 with cZ:=l12})).bind fun s17=>
    some (.inl (ar .add .i64 s5.1 1,{s17 with cZ:=l12}))
   else
    some (.inr s5.2)
   :Option ((Int×E2)⊕(E2))))
 N (0,(⟨a,b,[],[]⟩:E2))).bind k)=some t∧Q t:=by
 have hlen:=h.len;refine NT (fun(i:Nat) (s:Int×E2)=>s.1=(i:Int)∧s.2.cZ.length=i∧s.2.dC=Ok N l i) l.length (by omega) ⟨rfl,rfl,by simp[Ok]⟩ (fun i s hi ⟨e0,e1,e2⟩=>?_) (fun s ⟨e0,e1,e2⟩=>?_)
 ·obtain⟨i',s⟩:=s
  dsimp only at e0 e1 e2
  subst e0;have hm:=G7 hi;have hr:=h.ok _ hm;have hg:=h.good _ hm;have hel:=Wu hN hr;obtain⟨r,_,r2⟩:=AH3 hN hr;have hl1:=MK hN h i (by omega)
  dsimp only
  rw[A2 (KC (by omega)),G4,E3 hi];simp only[A4,r2];rw[J0 (by rw[e1];simp;omega)];simp only[A4]
  have hD:AU N l[i]=some (PD N l[i],drR N l[i],0):=by
   rw[OI hN hr.1 hr.2.1 hr.2.2];have:J7 N (raw l[i])=(PD N l[i],drR N l[i],(J7 N (raw l[i])).2.2):=rfl;rw[this,hg]
  rw[hD];simp only[A4]
  have ex:∀{o:Option E2},(∃t,o.bind some=some t∧t.dC=Ok N l (i+1))→∃t,o=some t∧t.dC=Ok N l (i+1):=fun{o} ⟨t,t1,t2⟩=>by
   simp_all
  generalize hlo:loopN _ _ _=lo
  have hv:∃t,lo=some t∧t.dC=Ok N l (i+1):=by
   rw[←hlo];refine ex ?_;refine NT (fun(j:Nat) (u:Int×E2)=>u.1=(j:Int)∧u.2.dC=Ok N l i++((PD N l[i]).take j).map (stE N l i l[i])) (PD N l[i]).length (by omega) ⟨rfl,by simp_all⟩ (fun j u hj ⟨f0,f1⟩=>?_) (fun u ⟨f0,f1⟩=>?_)
   ·obtain⟨j',u⟩:=u
    dsimp only at f0 f1
    subst f0;have hje:=G7 hj
    dsimp only
    rw[A2 (KC (by omega)),G4,E3 hj];simp only[A4]
    have hs:((
     if cmp .geq ((PD N l[i])[j]).To 0=true then
      (B8 (drR N l[i]) ((PD N l[i])[j]).To).bind fun x21=>
      (Ei N l x21).bind fun r22=>
      some ({(PD N l[i])[j]with dE:=(i:Int),To:=r22})
     else
      some ({(PD N l[i])[j]with dE:=(i:Int)})
     ):Option (C4))=some (stE N l i l[i] (PD N l[i])[j]):=by
     unfold stE
     by_cases ht:0≤((PD N l[i])[j]).To
     ·rw[A2 (by rw[U8];simp_all),A2 ht];obtain⟨p,p1,p2⟩:=AS9 hg hje ht;rw[p1];simp only[A4];rw[AO9 hN l p (by omega) h.bulk,p2];rfl
     simp_all[A1,U8]
    rw[hs];simp only[A4];rw[J0 (by rw[f1];simp;omega)];refine⟨_,rfl,P4 (by omega),?_⟩
    grind[List.take_succ_eq_append_getElem]
   obtain⟨j',u⟩:=u
   dsimp only at f0 f1
   subst f0
   dsimp only
   rw[A1 KD];refine⟨_,rfl,_,rfl,?_⟩
   show u.dC=_
   rw[f1,Gn,Nh,Wm hi];rfl
  obtain⟨v,rfl,v2⟩:=hv;exact⟨_,rfl,P4 (by omega),by simp_all,v2⟩
 simp_all[KD]
end
end Go.Ab
