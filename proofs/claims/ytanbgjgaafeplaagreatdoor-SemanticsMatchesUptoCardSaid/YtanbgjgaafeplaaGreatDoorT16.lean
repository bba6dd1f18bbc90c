/- GTM2 GTM3 GTM4 GTM5 GTM6 GTM7 GTN1 GTD1 GTD2 GTD3 GTD4 GTD5 GTD6 GTR1 -/
import Derived.Test.YtanbgjgaafeplaaGreatDoorT15
import Derived.Laws.Strings
set_option linter.all false
open Go.Ab.Ar (an ar cmp mx nt scmp)
namespace Go.Ab
theorem Jx{x a:A1}(h:a∈x.cL):a.bulk<x.bulk:=by
 have h1:=(LD x.cL).1 a h;have h2:=A1.bulk_eq x;omega
theorem X5{x a:A9}(h:a∈x.cL):a.bulk<x.bulk:=by
 have h1:=(LE x.cL).1 a h;have h2:=A9.bulk_eq x;omega
theorem Jz(x:A1):x.cL.length≤x.bulk:=by
 have h1:=(LD x.cL).2;have h2:=A1.bulk_eq x;omega
theorem Ee(x:A9):x.cL.length≤x.bulk:=by
 have h1:=(LE x.cL).2;have h2:=A9.bulk_eq x;omega
theorem JP(x:A1):0<x.bulk:=by have:=A1.bulk_eq x;omega
theorem CD(x:A9):0<x.bulk:=by have:=A9.bulk_eq x;omega
theorem Ru {N:Nat} (hN:40000000≤N):∀(n:Nat) (x:A1),x.bulk≤n→x.bulk≤16777216→U2 N n x=some (x.dep:Int):=by
 intro n
 induction n with
 |zero=>intro x h;have:=JP x;omega
 | succ n ih=>
  intro x hx hb;have hl:=Jz x;unfold U2;rw[F5 x.cL (by omega) (mk:=fun(s:Int) i=>(s,i)) (body:=fun(s:Int) a=>(U2 N n a).bind fun r=>some (.inl (mx s r))) (fin:=fun s=>s) (s:=0) (by omega) ?_ ?_]
  ·obtain⟨s',k1,k2⟩:=V9 (R:=Int) (step:=fun(s:Int) a=>(U2 N n a).bind fun r=>some (.inl (mx s r))) (fun r s=>(∀a∈r,a∈x.cL)∧0≤s∧max s (A1.deps r:Int)=(A1.deps x.cL:Int)) (fun a r s ⟨h1,h2,h3⟩=>by
    have hm:=Jx (h1 a (by simp));refine⟨_,by rw[ih a (by omega) (by omega)];rfl,fun b hb=>h1 b (by simp[hb]),?_,?_⟩
    ·rw[Hc];split<;>omega
    rw[←h3,Hc];simp only[A1.deps];split<;>omega) (l:=x.cL) (s:=0) ⟨fun a h=>h,Int.le_refl _,by omega⟩
   simp only[k1,Option.bind_some]
   have e:s'=(A1.deps x.cL:Int):=by have:=k2.2.2;simp only[A1.deps]at this;omega
   have hd:=ES x.cL;have hd2:=A1.bulk_eq x;rw[e,C4 (by omega) (by omega),A1.dep_eq];rfl
  ·intro s i a ha hi;have e:ar .add .i64 (i:Int) 1=i+1:=C4 (by omega) (by omega);simp only[C2,B1,hi,decide_true,if_true,C7,ha,Option.bind_some,e];cases U2 N n a<;>rfl
  intro s;simp[C2,B1]
theorem M2{α:Type}{l m:List α}(h:l.length+m.length≤1073741824):H8 l m=some (l++m):=by simp[H8,h]
theorem Mm {N:Nat} (hN:40000000≤N):∀(n:Nat) (x:A1),x.bulk≤n→x.bulk≤16777216→Q9 N n x=some x.pre:=by
 intro n
 induction n with
 |zero=>intro x h;have:=JP x;omega
 | succ n ih=>
  intro x hx hb;have hl:=Jz x;unfold Q9;rw[F5 x.cL (by omega) (mk:=fun(s:List A1) i=>(s,i)) (body:=fun(s:List A1) a=>(Q9 N n a).bind fun r=>(H8 s r).bind fun l=>some (.inl l)) (fin:=fun s=>s) (s:=[x]) (by omega) ?_ ?_]
  ·have hp:=Ea x;have hpe:=A1.pre_eq x
   obtain⟨s',k1,k2⟩:=V9 (R:=List A1) (step:=fun(s:List A1) a=>(Q9 N n a).bind fun r=>(H8 s r).bind fun l=>some (.inl l)) (fun r s=>(∀a∈r,a∈x.cL)∧s++A1.pres r=x.pre) (fun a r s ⟨h1,h2⟩=>by
    have hm:=Jx (h1 a (by simp));have hlen:=congrArg List.length h2
    simp only[A1.pres,List.length_append]at hlen
    refine⟨_,by rw[ih a (by omega) (by omega)];simp only[Option.bind_some];rw[M2 (by omega)];rfl,fun b hb=>h1 b (by simp[hb]),?_⟩
    rw[←h2];simp[A1.pres]) (l:=x.cL) (s:=[x]) ⟨fun a h=>h,by rw[hpe];rfl⟩
   simp only[k1,Option.bind_some];have:=k2.2
   simp only[A1.pres,List.append_nil]at this
   rw[this]
  ·intro s i a ha hi;have e:ar .add .i64 (i:Int) 1=i+1:=C4 (by omega) (by omega);simp only[C2,B1,hi,decide_true,if_true,C7,ha,Option.bind_some,e]
   cases Q9 N n a with
   |none=>rfl
   |some r=>simp only[Option.bind_some];cases H8 s r<;>rfl
  intro s;simp[C2,B1]
theorem YJ {N:Nat} (hN:40000000≤N):∀(n:Nat) (x:A1),x.bulk≤n→x.bulk≤16777216→T7 N n x=some ((x.pre.length:Int),(x.dep:Int)):=by
 intro n
 induction n with
 |zero=>intro x h;have:=JP x;omega
 | succ n ih=>
  intro x hx hb;have hl:=Jz x;unfold T7;rw[F5 x.cL (by omega) (mk:=fun(s:Int×Int) i=>(s.1,s.2,i)) (body:=fun(s:Int×Int) a=>(T7 N n a).bind fun r=>some (.inl (ar .add .i64 s.1 r.1,mx s.2 r.2))) (fin:=fun s=>s) (s:=(1,0)) (by omega) ?_ ?_]
  ·have hp:=EI x.cL;have hd:=ES x.cL;have hbe:=A1.bulk_eq x
   obtain⟨s',k1,k2⟩:=V9 (R:=Int×Int) (step:=fun(s:Int×Int) a=>(T7 N n a).bind fun r=>some (.inl (ar .add .i64 s.1 r.1,mx s.2 r.2))) (fun r s=>(∀a∈r,a∈x.cL)∧0≤s.2∧0≤s.1∧s.1+(A1.pres r).length=(A1.pres x.cL).length+1∧max s.2 (A1.deps r:Int)=(A1.deps x.cL:Int)) (fun a r s ⟨h1,h2,h3,h4,h5⟩=>by
    have hm:=Jx (h1 a (by simp))
    simp only[A1.pres,List.length_append,A1.deps]at h4 h5
    refine⟨_,by rw[ih a (by omega) (by omega)];rfl,fun b hb=>h1 b (by simp[hb]),?_,?_,?_,?_⟩
    ·simp only[Hc];split<;>omega
    ·rw[C4 (by omega) (by omega)];omega
    ·rw[C4 (by omega) (by omega)];omega
    rw[←h5];simp only[Hc];split<;>omega) (l:=x.cL) (s:=(1,0)) ⟨fun a h=>h,by simp,by simp,by simp only;omega,by simp only;omega⟩
   simp only[k1,Option.bind_some];obtain⟨_,_,_,e1,e2⟩:=k2
   simp only[A1.pres,List.length_nil,A1.deps]at e1 e2
   have e3:s'.1=(x.pre.length:Int):=by rw[A1.pre_eq];simp only[List.length_cons];omega
   have e4:s'.2=(A1.deps x.cL:Int):=by omega
   rw[e3,e4,C4 (by omega) (by omega),A1.dep_eq];rfl
  ·intro s i a ha hi;have e:ar .add .i64 (i:Int) 1=i+1:=C4 (by omega) (by omega);simp only[C2,B1,hi,decide_true,if_true,C7,ha,Option.bind_some,e];cases T7 N n a<;>rfl
  intro s;simp[C2,B1]
theorem YC {N:Nat} (hN:40000000≤N):∀(n:Nat) (x:A1),x.bulk≤n→x.bulk≤16777216→T6 N n x=some x.pre:=by
 intro n
 induction n with
 |zero=>intro x h;have:=JP x;omega
 | succ n ih=>
  intro x hx hb;have hl:=Jz x;unfold T6;rw[SL x.cL (mk:=fun(_:Unit) i=>i) (body:=fun(_:Unit) a=>(T6 N n a).bind fun l=>some (l,.inl ())) (fin:=fun _=>()) (s:=()) (by omega) ?_ ?_]
  ·obtain⟨w,s',k1,k2⟩:=Me (R:=Unit) (step:=fun(_:Unit) a=>(T6 N n a).bind fun l=>some (l,.inl ())) (fun r w s=>(∀a∈r,a∈x.cL)∧w++A1.pres r=A1.pres x.cL) (fun a r w s ⟨h1,h2⟩=>by
    have hm:=Jx (h1 a (by simp));refine⟨a.pre,(),by rw[ih a (by omega) (by omega)];rfl,fun b hb=>h1 b (by simp[hb]),?_⟩
    rw[←h2];simp[A1.pres]) (l:=x.cL) (w:=[]) (s:=()) ⟨fun a h=>h,by simp⟩
   have e:w=A1.pres x.cL:=by have:=k2.2;simpa[A1.pres]using this
   rw[k1,e,A1.pre_eq];simp[N2]
  ·intro s i a ha hi;have e:ar .add .i64 (i:Int) 1=i+1:=C4 (by omega) (by omega);simp only[C2,B1,hi,decide_true,if_true,C7,ha,Option.bind_some,e];cases T6 N n a<;>simp[N2]
  intro s;simp[C2,B1]
end Go.Ab
namespace Go.Ab
theorem Rx {N:Nat} (hN:40000000≤N) (lim:Int):∀(n:Nat) (x:A9),x.bulk≤n→x.bulk≤16777216→∃r,U4 N n x lim=some r∧Cut lim x.pre.length r:=by
 intro n
 induction n with
 |zero=>intro x h;have:=CD x;omega
 | succ n ih=>
  intro x hx hb;have hxb:=A9.bulk_eq x;have hB:=LE x.cL;have hpb:=EJ x.cL;unfold U4;rw[F5 x.cL (by omega) (mk:=fun(s:Int) i=>(s,i)) (body:=fun(s:Int) a=>if s≤lim then(U4 N n a lim).bind fun r=>some (.inl (ar .add .i64 s r))else some (.inr s)) (fin:=fun s=>s) (s:=1) (by omega) ?_ ?_]
  ·obtain⟨o,k1,v,k2,k3,k4,k5⟩:=GW (lim:=lim) (f:=fun a=>U4 N n a lim) (cnt:=fun a=>a.pre.length) (B:=40000000) (by omega) x.cL 1 (by omega) (by rw[It];omega) fun a ha=>ih a (by have:=hB.1 a ha;omega) (by have:=hB.1 a ha;omega)
   rw[It]at k4 k5
   have hpe:x.pre.length=(A9.pres x.cL).length+1:=by rw[A9.pre_eq];rfl
   simp only[k1,Option.bind_some];refine⟨v,?_,by omega,by omega,?_⟩
   ·cases o<;>simp_all
   rcases k5 with k5|k5
   ·left;omega
   right;exact k5
  ·intro s i a ha hi;have e:ar .add .i64 (i:Int) 1=i+1:=C4 (by omega) (by omega);simp only[C2,Cg,L7,B1,hi,decide_true,Bool.true_and,C7,ha,Option.bind_some,e,decide_eq_true_eq]
   split
   ·cases U4 N n a lim<;>rfl
   rfl
  intro s;simp[C2,L7,B1]
theorem MN {N:Nat} (hN:40000000≤N):∀(n:Nat) (x:A9),x.bulk≤n→x.bulk≤16777216→U3 N n x=some (x.dep:Int):=by
 intro n
 induction n with
 |zero=>intro x h;have:=CD x;omega
 | succ n ih=>
  intro x hx hb;have hl:=Ee x;unfold U3;rw[F5 x.cL (by omega) (mk:=fun(s:Int) i=>(s,i)) (body:=fun(s:Int) a=>(U3 N n a).bind fun r=>some (.inl (mx s r))) (fin:=fun s=>s) (s:=0) (by omega) ?_ ?_]
  ·obtain⟨s',k1,k2⟩:=V9 (R:=Int) (step:=fun(s:Int) a=>(U3 N n a).bind fun r=>some (.inl (mx s r))) (fun r s=>(∀a∈r,a∈x.cL)∧0≤s∧max s (A9.deps r:Int)=(A9.deps x.cL:Int)) (fun a r s ⟨h1,h2,h3⟩=>by
    have hm:=X5 (h1 a (by simp));refine⟨_,by rw[ih a (by omega) (by omega)];rfl,fun b hb=>h1 b (by simp[hb]),?_,?_⟩
    ·rw[Hc];split<;>omega
    rw[←h3,Hc];simp only[A9.deps];split<;>omega) (l:=x.cL) (s:=0) ⟨fun a h=>h,Int.le_refl _,by omega⟩
   simp only[k1,Option.bind_some]
   have e:s'=(A9.deps x.cL:Int):=by have:=k2.2.2;simp only[A9.deps]at this;omega
   have hd:=ET x.cL;have hd2:=A9.bulk_eq x;rw[e,C4 (by omega) (by omega),A9.dep_eq];rfl
  ·intro s i a ha hi;have e:ar .add .i64 (i:Int) 1=i+1:=C4 (by omega) (by omega);simp only[C2,B1,hi,decide_true,if_true,C7,ha,Option.bind_some,e];cases U3 N n a<;>rfl
  intro s;simp[C2,B1]
theorem UQ {N:Nat} (hN:40000000≤N):∀(n:Nat) (x:A9),x.bulk≤n→x.bulk≤16777216→Ba N n x=some ((x.pre.length:Int),(x.dep:Int)):=by
 intro n
 induction n with
 |zero=>intro x h;have:=CD x;omega
 | succ n ih=>
  intro x hx hb;have hl:=Ee x;unfold Ba;rw[F5 x.cL (by omega) (mk:=fun(s:Int×Int) i=>(s.1,s.2,i)) (body:=fun(s:Int×Int) a=>(Ba N n a).bind fun r=>some (.inl (ar .add .i64 s.1 r.1,mx s.2 r.2))) (fin:=fun s=>s) (s:=(1,0)) (by omega) ?_ ?_]
  ·have hp:=EJ x.cL;have hd:=ET x.cL;have hbe:=A9.bulk_eq x
   obtain⟨s',k1,k2⟩:=V9 (R:=Int×Int) (step:=fun(s:Int×Int) a=>(Ba N n a).bind fun r=>some (.inl (ar .add .i64 s.1 r.1,mx s.2 r.2))) (fun r s=>(∀a∈r,a∈x.cL)∧0≤s.2∧0≤s.1∧s.1+(A9.pres r).length=(A9.pres x.cL).length+1∧max s.2 (A9.deps r:Int)=(A9.deps x.cL:Int)) (fun a r s ⟨h1,h2,h3,h4,h5⟩=>by
    have hm:=X5 (h1 a (by simp))
    simp only[A9.pres,List.length_append,A9.deps]at h4 h5
    refine⟨_,by rw[ih a (by omega) (by omega)];rfl,fun b hb=>h1 b (by simp[hb]),?_,?_,?_,?_⟩
    ·simp only[Hc];split<;>omega
    ·rw[C4 (by omega) (by omega)];omega
    ·rw[C4 (by omega) (by omega)];omega
    rw[←h5];simp only[Hc];split<;>omega) (l:=x.cL) (s:=(1,0)) ⟨fun a h=>h,by simp,by simp,by simp only;omega,by simp only;omega⟩
   simp only[k1,Option.bind_some];obtain⟨_,_,_,e1,e2⟩:=k2
   simp only[A9.pres,List.length_nil,A9.deps]at e1 e2
   have e3:s'.1=(x.pre.length:Int):=by rw[A9.pre_eq];simp only[List.length_cons];omega
   have e4:s'.2=(A9.deps x.cL:Int):=by omega
   rw[e3,e4,C4 (by omega) (by omega),A9.dep_eq];rfl
  ·intro s i a ha hi;have e:ar .add .i64 (i:Int) 1=i+1:=C4 (by omega) (by omega);simp only[C2,B1,hi,decide_true,if_true,C7,ha,Option.bind_some,e];cases Ba N n a<;>rfl
  intro s;simp[C2,B1]
theorem MU{f:A9→Int}:∀l:List A9,P9 (fun a=>P9 f a.pre) l=P9 f (A9.pres l)
 |[]=>rfl
 |a::l=>by rw[A9.pres,Le,P9,MU l]
theorem PV {a y:A9} (hy:y∈a.pre):∀l:List A9,a∈l→y∈A9.pres l
 |[],h=>by simp at h
 |b::l,h=>by
  rcases List.mem_cons.1 h with rfl|h
  ·simp[A9.pres,hy]
  simp[A9.pres,PV hy l h]
theorem WA {N:Nat} (hN:40000000≤N) {F:A9→Option Int} {f:A9→Int}:∀(n:Nat) (x:A9),x.bulk≤n→x.bulk≤16777216→(∀y∈x.pre,F y=some (f y))→AP N n x F=some (P9 f x.pre):=by
 intro n
 induction n with
 |zero=>intro x h;have:=CD x;omega
 | succ n ih=>
  intro x hx hb hF;have hl:=Ee x;have hpe:=A9.pre_eq x;unfold AP;rw[hF x (by rw[hpe];simp)];simp only[Option.bind_some,F6];rw[hpe,P9]
  by_cases hz:f x=0
  ·simp only[hz,decide_true,Bool.not_true,Bool.false_eq_true,if_false,if_true];rw[F5 x.cL (by omega) (mk:=fun(_:Unit) i=>i) (body:=As fun a=>AP N n a F) (fin:=fun _=>.inl ()) (s:=()) (by omega) ?_ ?_]
   ·rw[X4 (f:=fun a=>P9 f a.pre) fun a ha=>ih a (by have:=X5 ha;omega) (by have:=X5 ha;omega) fun y hy=>hF y (by rw[hpe];exact List.mem_cons_of_mem _ (PV hy _ ha)),MU]
    by_cases hz3:P9 f (A9.pres x.cL)=0
    ·simp[hz3]
    simp[hz3]
   ·intro s i a ha hi;have e:ar .add .i64 (i:Int) 1=i+1:=C4 (by omega) (by omega);simp only[C2,B1,hi,decide_true,if_true,C7,ha,Option.bind_some,e,As,F6]
    cases AP N n a F with
    |none=>rfl
    |some r=>by_cases h:r=0<;>simp[h]
   intro s;simp[C2,B1]
  simp[hz]
theorem VA {N:Nat} (hN:40000000≤N) {f:A9→Int} (hF:∀y,Cs N y=some (f y)):∀(n:Nat) (x:A9),x.bulk≤n→x.bulk≤16777216→Z2 N n x=some (P9 f x.pre):=by
 intro n
 induction n with
 |zero=>intro x h;have:=CD x;omega
 | succ n ih=>
  intro x hx hb;have hl:=Ee x;have hpe:=A9.pre_eq x;unfold Z2;rw[hF x];simp only[Option.bind_some,F6];rw[hpe,P9]
  by_cases hz:f x=0
  ·simp only[hz,decide_true,Bool.not_true,Bool.false_eq_true,if_false,if_true];rw[F5 x.cL (by omega) (mk:=fun(_:Unit) i=>i) (body:=As fun a=>Z2 N n a) (fin:=fun _=>.inl ()) (s:=()) (by omega) ?_ ?_]
   ·rw[X4 (f:=fun a=>P9 f a.pre) fun a ha=>ih a (by have:=X5 ha;omega) (by have:=X5 ha;omega),MU]
    by_cases hz3:P9 f (A9.pres x.cL)=0
    ·simp[hz3]
    simp[hz3]
   ·intro s i a ha hi;have e:ar .add .i64 (i:Int) 1=i+1:=C4 (by omega) (by omega);simp only[C2,B1,hi,decide_true,if_true,C7,ha,Option.bind_some,e,As,F6]
    cases Z2 N n a with
    |none=>rfl
    |some r=>by_cases h:r=0<;>simp[h]
   intro s;simp[C2,B1]
  simp[hz]
end Go.Ab
namespace Go.Ab
theorem LK {a b:ByteArray}:a.toList=b.toList↔a=b:=by
 rw[ByteArray.toList_eq,ByteArray.toList_eq]
 constructor
 ·intro h;obtain⟨⟨a⟩⟩:=a;obtain⟨⟨b⟩⟩:=b
  simp at h
  subst h;rfl
 intro h;rw[h]
theorem Qm(a b:ByteArray):scmp .neq a b= !decide (a=b):=by
 show(!(a.toList==b.toList))=_
 by_cases h:a=b
 ·subst h;simp
 have:a.toList≠b.toList:=fun e=>h (LK.1 e);simp[h,this]
theorem CN(a b:ByteArray):scmp .eql a b=decide (a=b):=by
 show(a.toList==b.toList)=_
 by_cases h:a=b
 ·subst h;simp
 have:a.toList≠b.toList:=fun e=>h (LK.1 e);simp[h,this]
theorem Ag6(N:Nat)(op:Int):Er N op=some (if op<0∨12<op then(0,false)else if op<5 then(0,true)else if op=12 then(1,true)else(2,true)):=by
 unfold Er;simp only[C2,Q6,C0,I9,Bool.or_eq_true,decide_eq_true_eq]
 split
 ·rfl
 split
 ·rfl
 split<;>rfl
theorem ZN (N:Nat) (op:Int):CW N op=some (if op<0∨12<op then -1 else if op<5 then 0 else if op=12 then 1 else 2):=by
 have h:op<0∨op=0∨op=1∨op=2∨op=3∨op=4∨op=5∨op=6∨op=7∨op=8∨op=9∨op=10∨op=11∨op=12∨12<op:=by omega
 unfold CW;simp only[C0]
 rcases h with h|h|h|h|h|h|h|h|h|h|h|h|h|h|h
 all_goals first
  |(subst h;rfl)
  | (have h0:op≠0:=by omega
     have h1:op≠1:=by omega
     have h2:op≠2:=by omega
     have h3:op≠3:=by omega
     have h4:op≠4:=by omega
     have h5:op≠5:=by omega
     have h6:op≠6:=by omega
     have h7:op≠7:=by omega
     have h8:op≠8:=by omega
     have h9:op≠9:=by omega
     have ha:op≠10:=by omega
     have hb:op≠11:=by omega
     have hc:op≠12:=by omega
     simp[h0,h1,h2,h3,h4,h5,h6,h7,h8,h9,ha,hb,hc,h])
theorem Aj6(N:Nat)(op:Int):Fz N op=some (decide (op=1∨op=2∨op=3∨op=4),decide (op=1∨op=4)):=by
 unfold Fz;simp only[C0,decide_eq_true_eq]
 by_cases h1:op=1
 ·simp[h1]
 by_cases h4:op=4
 ·simp[h4]
 by_cases h2:op=2
 ·simp[h2]
 by_cases h3:op=3<;>simp[h1,h2,h3,h4]
theorem Ad0(N:Nat)(op:Int):DU N op=some (decide (op=1∨op=2∨op=3∨op=4),decide (op=1∨op=4)):=by
 unfold DU;simp only[C0,I9]
 by_cases h1:op=1
 ·simp[h1]
 by_cases h4:op=4
 ·simp[h4]
 by_cases h2:op=2
 ·simp[h2]
 by_cases h3:op=3<;>simp[h1,h2,h3,h4]
def H6 (v:A4):Int:=
 if v.Kind=0∨v.Kind=1 then
  if v.Text≠⟨#[]⟩then 3
  else if v.Kind=0∧(v.Num< -1099511627776∨1099511627776<v.Num)∨v.Kind=1∧v.Num≠0∧v.Num≠1 then 2 else 0
 else if v.Kind=2 then(if v.Num≠0 then 3 else if 64<(v.Text.size:Int)then 13 else 0)else 1
theorem Jj (N:Nat) (v:A4):T9 N v=some (H6 v):=by
 obtain⟨k,n,t⟩:=v;unfold T9 DQ H6;simp only[C0,F6,C2,Q6,L7,I9,Qm,Qb]
 by_cases h0:k=0
 ·subst h0
  by_cases ht:t=⟨#[]⟩
  ·subst ht
   by_cases h1:n< -1099511627776∨1099511627776<n
   ·simp[h1]
   simp[h1];decide
  simp[ht]
 by_cases h1:k=1
 ·subst h1
  by_cases ht:t=⟨#[]⟩
  ·subst ht
   by_cases h2:n=0
   ·simp[h2];decide
   by_cases h3:n=1
   ·simp[h3];decide
   simp[h2,h3]
  simp[ht]
 by_cases h2:k=2
 ·subst h2
  by_cases hn:n=0
  ·simp[hn];split<;>rfl
  simp[hn]
 simp[h0,h1,h2]
theorem Hz (N:Nat) (v:A4):W7 N v=some (H6 v):=by
 obtain⟨k,n,t⟩:=v;unfold W7 H6;simp only[C0,F6,C2,Q6,L7,I9,Qm,Qb]
 by_cases h0:k=0
 ·subst h0
  by_cases ht:t=⟨#[]⟩
  ·subst ht
   by_cases h1:n< -1099511627776∨1099511627776<n
   ·simp[h1]
   simp[h1]
  simp[ht]
 by_cases h1:k=1
 ·subst h1
  by_cases ht:t=⟨#[]⟩
  ·subst ht
   by_cases h2:n=0
   ·simp[h2]
   by_cases h3:n=1
   ·simp[h3]
   have:n<0∨1<n:=by omega
   simp[h2,h3,this]
  simp[ht]
 by_cases h2:k=2
 ·subst h2
  by_cases hn:n=0
  ·simp[hn];split<;>rfl
  simp[hn]
 have:k<0∨2<k:=by omega
 simp[h0,h1,h2,this]
theorem WG(N:Nat)(k:Int)(v:A4):El N k v=some (decide (v.Kind=0∨k=4∨k=5)):=by
 unfold El;simp only[C0,I9]
 by_cases h1:v.Kind=0<;>by_cases h2:k=4<;>by_cases h3:k=5<;>simp[h1,h2,h3]
theorem UK(N:Nat)(k:Int)(v:A4)(h:k≠0):U5 N k v=some (decide (v.Kind=0∨k=4∨k=5)):=by
 unfold U5;simp only[C0,I9]
 by_cases h1:v.Kind=0<;>by_cases h2:k=4<;>by_cases h3:k=5<;>simp[h,h1,h2,h3]
def WB(op:Int):Bool:=decide (op=1∨op=2∨op=3∨op=4)
def WC(op:Int):Bool:=decide (op=1∨op=4)
noncomputable def OP(x:A9):Bool:=Ar.or (an (WB x.Op) (Ar.or (cmp .lss x.Var 0) (cmp .geq x.Var 16))) (an (WC x.Op) (Ar.or (cmp .lss x.Field 0) (cmp .geq x.Field 8)))
noncomputable def My(x:A9):Bool:=an (cmp .eql x.Op 4) (Ar.or (cmp .lss x.Kind 1) (cmp .gtr x.Kind 5))
noncomputable def Nr(v:A4):Bool:=an (cmp .eql v.Kind 0) (an (cmp .eql v.Num 0) (an (scmp .eql v.Text (⟨#[]⟩)) true))
noncomputable def Fh(x:A9):Bool:=Ar.or (nt (decide (x.Value.Kind=0∨x.Kind=4∨x.Kind=5))) (an (cmp .eql x.Kind 1) (nt (Nr x.Value)))
noncomputable def Ef(x:A9):Bool:=Ar.or (Ar.or (Ar.or (an (nt (WB x.Op)) (cmp .neq x.Var 0)) (an (nt (WC x.Op)) (cmp .neq x.Field 0))) (an (nt (cmp .eql x.Op 4)) (cmp .neq x.Kind 0))) (an (nt (Ar.or (cmp .eql x.Op 4) (cmp .eql x.Op 0))) (nt (Nr x.Value)))
noncomputable def Y0(x:A9):Int:=
 if x.Op<0∨12<x.Op then 1
 else if(x.cL.length:Int)≠(if x.Op<5 then 0 else if x.Op=12 then 1 else 2)then 15
 else if OP x=true then 2
 else if My x=true then 1
 else if(x.Op=4∨x.Op=0)∧H6 x.Value≠0 then H6 x.Value
 else if x.Op=4∧Fh x=true then 9
 else if Ef x=true then 3 else 0
theorem VB (N:Nat) (x:A9):Cs N x=some (Y0 x):=by
 unfold Cs Y0;rw[ZN,Ad0];simp only[Option.bind_some]
 by_cases h0:x.Op<0∨12<x.Op
 ·rw[if_pos h0,if_pos h0];rfl
 rw[if_neg h0,if_neg h0]
 have ha:¬(cmp .lss (if x.Op<5 then 0 else if x.Op=12 then 1 else 2) 0=true):=by
  rw[C2];simp only[decide_eq_true_eq];split
  ·omega
  split<;>omega
 rw[if_neg ha]
 by_cases h1:(x.cL.length:Int)≠(if x.Op<5 then 0 else if x.Op=12 then 1 else 2)
 ·rw[if_pos h1,if_pos (by simp[F6,B1,h1])]
 rw[if_neg h1,if_neg (by simp only[F6,B1];simpa using h1)]
 change (if OP x=true then some 2 else _)=_
 by_cases h2:OP x=true
 ·rw[if_pos h2,if_pos h2]
 rw[if_neg h2,if_neg h2]
 change (if My x=true then some 1 else _)=_
 by_cases h3:My x=true
 ·rw[if_pos h3,if_pos h3]
 rw[if_neg h3,if_neg h3];rw[Hz]
 have e4:(Ar.or (cmp .eql x.Op 4) (cmp .eql x.Op 0)=true)↔(x.Op=4∨x.Op=0):=by simp[C0,I9]
 have e6:(cmp .eql x.Op 4=true)↔x.Op=4:=by simp[C0]
 by_cases h4:x.Op=4∨x.Op=0
 ·rw [if_pos (e4.2 h4)];simp only[Option.bind_some]
  by_cases h5:H6 x.Value=0
  ·have n5:¬(cmp .neq (H6 x.Value) 0=true):=by simp[F6,h5]
   have n5':¬((x.Op=4∨x.Op=0)∧H6 x.Value≠0):=fun h=>h.2 h5;rw[if_neg n5,if_neg n5'];simp only[Option.bind_some]
   by_cases h6:x.Op=4
   ·rw[if_pos (e6.2 h6)]
    have hk:x.Kind≠0:=by
     intro e;apply h3;simp[My,L7,I9,C0,C2,h6,e]
    rw[UK N _ _ hk];simp only[Option.bind_some]
    change (if Fh x=true then some 9 else if Ef x=true then some 3 else some 0)=_
    by_cases h7:Fh x=true
    ·rw[if_pos h7,if_pos (show x.Op=4∧Fh x=true from⟨h6,h7⟩)]
    rw[if_neg h7,if_neg (show¬(x.Op=4∧Fh x=true)from fun h=>h7 h.2)]
    by_cases h8:Ef x=true
    ·rw[if_pos h8,if_pos h8]
    rw[if_neg h8,if_neg h8]
   rw[if_neg (show¬(cmp .eql x.Op 4=true)from fun h=>h6 (e6.1 h)),if_neg (show¬(x.Op=4∧Fh x=true)from fun h=>h6 h.1)]
   change (if Ef x=true then some 3 else some 0)=_
   by_cases h8:Ef x=true
   ·rw[if_pos h8,if_pos h8]
   rw[if_neg h8,if_neg h8]
  have n5:cmp .neq (H6 x.Value) 0=true:=by simp[F6,h5]
  rw[if_pos n5,if_pos (show(x.Op=4∨x.Op=0)∧H6 x.Value≠0 from⟨h4,h5⟩)];rfl
 rw[if_neg (show¬(Ar.or (cmp .eql x.Op 4) (cmp .eql x.Op 0)=true)from fun h=>h4 (e4.1 h)),if_neg (show¬((x.Op=4∨x.Op=0)∧H6 x.Value≠0)from fun h=>h4 h.1)];simp only[Option.bind_some];have h6:¬x.Op=4:=fun e=>h4 (.inl e);rw[if_neg (show¬(cmp .eql x.Op 4=true)from fun h=>h6 (e6.1 h)),if_neg (show¬(x.Op=4∧Fh x=true)from fun h=>h6 h.1)]
 change (if Ef x=true then some 3 else some 0)=_
 by_cases h8:Ef x=true
 ·rw[if_pos h8,if_pos h8]
 rw[if_neg h8,if_neg h8]
theorem Xl (N:Nat) (x:A9):DN N x=some (Y0 x):=by
 unfold DN Y0;rw[Ag6,Aj6];simp only[Option.bind_some]
 by_cases h0:x.Op<0∨12<x.Op
 ·rw[if_pos h0,if_pos h0];rfl
 rw[if_neg h0,if_neg h0]
 have ha:(if x.Op<5 then((0:Int),true)else if x.Op=12 then(1,true)else(2,true))=((if x.Op<5 then 0 else if x.Op=12 then 1 else 2),true):=by
  split
  ·rfl
  split<;>rfl
 rw[ha];rw[if_neg (by simp[Q3])]
 by_cases h1:(x.cL.length:Int)≠(if x.Op<5 then 0 else if x.Op=12 then 1 else 2)
 ·rw[if_pos h1,if_pos (by simp[F6,B1,h1])]
 rw[if_neg h1,if_neg (by simp only[F6,B1];simpa using h1)]
 change (if OP x=true then some 2 else _)=_
 by_cases h2:OP x=true
 ·rw[if_pos h2,if_pos h2]
 rw[if_neg h2,if_neg h2]
 change (if My x=true then some 1 else _)=_
 by_cases h3:My x=true
 ·rw[if_pos h3,if_pos h3]
 rw[if_neg h3,if_neg h3];unfold Cb;rw[Jj]
 have e4:(Ar.or (cmp .eql x.Op 4) (cmp .eql x.Op 0)=true)↔(x.Op=4∨x.Op=0):=by simp[C0,I9]
 have e6:(cmp .eql x.Op 4=true)↔x.Op=4:=by simp[C0]
 by_cases h4:x.Op=4∨x.Op=0
 ·rw[if_pos (e4.2 h4)];simp only[Option.bind_some]
  by_cases h5:H6 x.Value=0
  ·have n5:¬(cmp .neq (H6 x.Value) 0=true):=by simp[F6,h5]
   have n5':¬((x.Op=4∨x.Op=0)∧H6 x.Value≠0):=fun h=>h.2 h5;rw[if_neg n5,if_neg n5']
   by_cases h6:x.Op=4
   ·rw[if_pos (e6.2 h6),WG];simp only[Option.bind_some]
    change (((if Fh x=true then some 9 else some 0):Option Int).bind _).bind _=_
    by_cases h7:Fh x=true
    ·rw[if_pos h7,if_pos (show x.Op=4∧Fh x=true from⟨h6,h7⟩)];rfl
    rw[if_neg h7,if_neg (show¬(x.Op=4∧Fh x=true)from fun h=>h7 h.2)]
    change (if Ef x=true then some 3 else some 0)=_
    by_cases h8:Ef x=true
    ·rw[if_pos h8,if_pos h8]
    rw[if_neg h8,if_neg h8]
   rw[if_neg (show¬(cmp .eql x.Op 4=true)from fun h=>h6 (e6.1 h)),if_neg (show¬(x.Op=4∧Fh x=true)from fun h=>h6 h.1)]
   change (if Ef x=true then some 3 else some 0)=_
   by_cases h8:Ef x=true
   ·rw[if_pos h8,if_pos h8]
   rw[if_neg h8,if_neg h8]
  have n5:cmp .neq (H6 x.Value) 0=true:=by simp[F6,h5]
  rw[if_pos n5,if_pos (show(x.Op=4∨x.Op=0)∧H6 x.Value≠0 from⟨h4,h5⟩)];simp only[Option.bind_some];rw[if_pos n5];rfl
 rw[if_neg (show¬(Ar.or (cmp .eql x.Op 4) (cmp .eql x.Op 0)=true)from fun h=>h4 (e4.1 h)),if_neg (show¬((x.Op=4∨x.Op=0)∧H6 x.Value≠0)from fun h=>h4 h.1)];have h6:¬x.Op=4:=fun e=>h4 (.inl e);rw[if_neg (show¬(x.Op=4∧Fh x=true)from fun h=>h6 h.1)]
 change (if Ef x=true then some 3 else some 0)=_
 by_cases h8:Ef x=true
 ·rw[if_pos h8,if_pos h8]
 rw[if_neg h8,if_neg h8]
end Go.Ab
namespace Go.Ab
theorem X0{a b:Int}(h:b<a):cmp .gtr a b=true:=by rw[Q6];exact decide_eq_true h
theorem S9{a b:Int}(h:¬b<a):¬(cmp .gtr a b=true):=by rw[Q6];simpa using h
theorem K2{a b:Int}(h:a≠b):cmp .neq a b=true:=by rw[F6];simpa using h
theorem J8{a b:Int}(h:a=b):¬(cmp .neq a b=true):=by rw[F6];simpa using h
noncomputable def K1(x:A9):Int:=if 64<x.pre.length then 5 else if 12<x.dep then 12 else P9 Y0 x.pre
theorem Oe{N:Nat}(hN:40000000≤N){x:A9}(hb:x.bulk≤16777216):Cz N x=some (K1 x):=by
 unfold Cz K1;rw[UQ hN N x (by omega) hb];simp only[Option.bind_some]
 by_cases h1:64<x.pre.length
 ·rw[if_pos h1,if_pos (X0 (by omega))]
 rw[if_neg h1,if_neg (S9 (by omega))]
 by_cases h2:12<x.dep
 ·rw[if_pos h2,if_pos (X0 (by omega))]
 rw[if_neg h2,if_neg (S9 (by omega)),WA hN N x (by omega) hb fun y _=>Xl N y];rfl
theorem MR{N:Nat}(hN:40000000≤N){x:A9}(hb:x.bulk≤16777216):AL N x=some (K1 x):=by
 unfold AL K1;obtain⟨r,h0,c1,c2,c3⟩:=Rx hN 64 N x (by omega) hb;rw[h0];simp only[Option.bind_some]
 by_cases h1:64<x.pre.length
 ·rw[if_pos h1,if_pos (X0 (by omega))]
 rw[if_neg h1,if_neg (S9 (by omega)),MN hN N x (by omega) hb];simp only[Option.bind_some]
 by_cases h2:12<x.dep
 ·rw[if_pos h2,if_pos (X0 (by omega))]
 rw[if_neg h2,if_neg (S9 (by omega)),VA hN (fun y=>VB N y) N x (by omega) hb];rfl
noncomputable def MC(a b:A9):Bool:=Ar.or (Ar.or (Ar.or (Ar.or (Ar.or (cmp .neq a.Op b.Op) (cmp .neq a.Var b.Var)) (cmp .neq a.Field b.Field)) (cmp .neq a.Kind b.Kind)) (nt (an (cmp .eql a.Value.Kind b.Value.Kind) (an (cmp .eql a.Value.Num b.Value.Num) (an (scmp .eql a.Value.Text b.Value.Text) true))))) (cmp .neq (Ar.len a.cL) (Ar.len b.cL))
theorem NB (N:Nat):∀(n:Nat) (a b:A9),DO N n a b=Q1 N n a b
 |0,_,_=>rfl
 |n+1,a,b=>by
  unfold DO Q1;simp only[NB N n]
theorem NA {N:Nat} (hN:40000000≤N) (x:A9):∃b,Q1 N N x (⟨0,[],0,0,0,(⟨0,0,⟨#[]⟩⟩:A4)⟩:A9)=some b:=by
 obtain⟨M,rfl⟩:∃M,N=M+1:=⟨N - 1,by omega⟩;rw[Q1];generalize hz:(⟨0,[],0,0,0,(⟨0,0,⟨#[]⟩⟩:A4)⟩:A9)=z
 change ∃b,(if MC x z=true then some false else _)=some b
 by_cases h:MC x z=true
 ·rw[if_pos h];exact⟨_,rfl⟩
 rw[if_neg h]
 have hlen:x.cL.length=0:=by
  subst hz
  simp only[MC,I9,F6,B1,List.length_nil]at h
  simp at h
  simpa using h.2
 have:x.cL=[]:=List.length_eq_zero_iff.1 hlen;refine⟨true,?_⟩;rw[show M+1=(M+1 - 1)+1 by omega];simp only[loopN,this,C2,B1];rfl
end Go.Ab
namespace Go.Ab
def Da(u:Bool)(n m:Int):Bool:=u&&(decide (n<0)||decide (m<n))
def N5(u:Bool)(n:Int):Bool:=u||decide (n=0)
theorem Hy(N:Nat)(u:Bool)(n m:Int):R0 N u n m=some (!Da u n m):=by
 unfold R0;simp only[I9,L7,Q3,M1,Cg,Da];cases u
 ·rfl
 by_cases h1:n<0<;>by_cases h2:m<n<;>simp[h1,h2]<;>omega
theorem UJ(N:Nat)(u:Bool)(n:Int):K7 N u n=some (N5 u n):=rfl
theorem Ag5(N:Nat)(u:Bool)(n m:Int):Y5 N u n m=some (Da u n m):=rfl
noncomputable def ID(s:J2)(x:A1)(sz:Bool):Int:=
 if Da s.cP x.Typ 15=true then 2
 else if Da s.cP x.Var 15=true then 2
 else if Da s.scope x.cQ 63=true then 2
 else if Da s.span x.Span 1099511627776=true then 2
 else if s.cond=true∧K1 x.cN≠0 then K1 x.cN
 else if(s.cond||sz)=true∧N5 s.cP x.Typ=true∧N5 s.cP x.Var=true∧N5 s.scope x.cQ=true∧N5 s.span x.Span=true then 0 else 3
structure JV (N:Nat) (x:A1) (s:J2) (ng:Bool):Prop where
 tab:B6 G2 x.Op=some s
 var:V3 N x=some s.cP
 neg:X3 N x=some ng
 tim:U1 N x=some s.span
 con:Ah N x=some s.cond
 sco:s.scope=(ng||s.span)
 ari:CU N x=some (decide (s.cS≤x.cL.length∧(x.cL.length:Int)≤s.most))
theorem Ag0(n k:Int):decide (n=k)=(decide (k≤n)&&decide (n≤k)):=by
 rw[←Bool.decide_and];exact decide_eq_decide.2 ⟨fun h=>by omega,fun h=>by omega⟩
theorem LV (N:Nat) (x:A1) (h0:0≤x.Op) (h1:x.Op≤10) (hl:x.cL.length≤64):∃s ng,JV N x s ng:=by
 obtain⟨op,args,typ,var,scope,span,c⟩:=x
 simp only at h0 h1 hl
 have h:op=0∨op=1∨op=2∨op=3∨op=4∨op=5∨op=6∨op=7∨op=8∨op=9∨op=10:=by omega
 rcases h with h|h|h|h|h|h|h|h|h|h|h
 all_goals
  subst h;refine⟨_,_,rfl,rfl,rfl,rfl,rfl,rfl,?_⟩;unfold CU;simp only[C0,M1,B1];simp
  try first|omega|exact Ag0 _ _
theorem Ak2{x:A1}(h0:0≤x.Op)(h1:x.Op≤10):¬(Ar.or (cmp .lss x.Op 0) (cmp .geq x.Op 11)=true):=by
 simp only[I9,C2,M1,Bool.or_eq_true,decide_eq_true_eq];omega
theorem Ae3{x:A1}(h0:0≤x.Op)(h1:x.Op≤10):¬(Ar.or (cmp .lss x.Op 0) (cmp .gtr x.Op 10)=true):=by
 simp only[I9,C2,Q6,Bool.or_eq_true,decide_eq_true_eq];omega
theorem Aa9{x:A1}(h:¬(0≤x.Op∧x.Op≤10)):Ar.or (cmp .lss x.Op 0) (cmp .geq x.Op 11)=true∧Ar.or (cmp .lss x.Op 0) (cmp .gtr x.Op 10)=true:=by
 simp only[I9,C2,M1,Q6,Bool.or_eq_true,decide_eq_true_eq];omega
theorem Wa {N:Nat} (hN:40000000≤N) {x:A1} (hb:x.cN.bulk≤16777216) (h0:0≤x.Op) (h1:x.Op≤10) {s:J2} {ng:Bool} (hs:JV N x s ng) {sz:Bool}
 (hz:Q1 N N x.cN (⟨0,[],0,0,0,(⟨0,0,⟨#[]⟩⟩:A4)⟩:A9)=some sz):
 Q4 N x=some (if s.cS≤x.cL.length∧(x.cL.length:Int)≤s.most then ID s x sz else 15):=by
 unfold Q4;rw[if_neg (Ak2 h0 h1),hs.tab];simp only[Option.bind_some]
 by_cases ha:s.cS≤x.cL.length∧(x.cL.length:Int)≤s.most
 ·rw [if_pos ha,if_neg (by simp only[I9,C2,Q6,B1,Bool.or_eq_true,decide_eq_true_eq];omega)];rw[Hy,Hy,Hy,Hy,Oe hN hb,NB,hz];simp only[UJ,Option.bind_some];unfold ID;generalize Da s.cP x.Typ 15=b1;generalize Da s.cP x.Var 15=b2;generalize Da s.scope x.cQ 63=b3;generalize Da s.span x.Span 1099511627776=b4;generalize N5 s.cP x.Typ=c1;generalize N5 s.cP x.Var=c2;generalize N5 s.scope x.cQ=c3;generalize N5 s.span x.Span=c4;generalize K1 x.cN=ec
  cases b1 with
  |true=>rfl
  | false =>
   cases b2 with
   |true=>rfl
   | false =>
    cases b3 with
    |true=>rfl
    | false=>
     cases b4 with
     |true=>rfl
     | false=>
      cases s.cond with
      | false=>
       cases sz with
       |false=>rfl
       | true=>
        cases c1 with
        |false=>rfl
        | true=>
         cases c2 with
         |false=>rfl
         | true=>
          cases c3 with
          |false=>rfl
          |true=>
           cases c4<;>rfl
      | true=>
       by_cases he:ec=0
       ·subst he
        cases c1 with
        |false=>cases sz<;>rfl
        | true=>
         cases c2 with
         |false=>cases sz<;>rfl
         | true=>
          cases c3 with
          |false=>cases sz<;>rfl
          |true=>
           cases c4<;>cases sz<;>rfl
       simp[Q3,K2 he,he]
 rw[if_neg ha,if_pos (by simp only[I9,C2,Q6,B1,Bool.or_eq_true,decide_eq_true_eq];omega)]
theorem Mz(u:Bool)(n:Int):an (nt u) (cmp .neq n 0)= !N5 u n:=by
 simp only[L7,Q3,F6,N5,Bool.not_or]
theorem Um(u w:Bool)(t v sc:Int):Ar.or (an (nt u) (Ar.or (cmp .neq t 0) (cmp .neq v 0))) (an (nt w) (cmp .neq sc 0))=((!N5 u t|| !N5 u v)|| !N5 w sc):=by
 rw[Mz];simp only[I9,L7,Q3,F6,N5];cases u<;>simp
theorem Gi {N:Nat} (hN:40000000≤N) {x:A1} (hb:x.cN.bulk≤16777216) (h0:0≤x.Op) (h1:x.Op≤10) {s:J2} {ng:Bool} (hs:JV N x s ng) {sz:Bool}
 (hz:Q1 N N x.cN (⟨0,[],0,0,0,(⟨0,0,⟨#[]⟩⟩:A4)⟩:A9)=some sz):
 V4 N x=some (if s.cS≤x.cL.length∧(x.cL.length:Int)≤s.most then ID s x sz else 15):=by
 unfold V4;rw[if_neg (Ae3 h0 h1),hs.ari,hs.var,hs.neg,hs.tim,hs.con,MR hN hb,hz];simp only[Option.bind_some]
 by_cases ha:s.cS≤x.cL.length∧(x.cL.length:Int)≤s.most
 ·rw [if_pos ha,if_neg (by simp[Q3,ha])];have sco:=hs.sco;simp only[Ag5,Option.bind_some];cases ng
  ·rw [if_neg (by simp)]
   simp only[Bool.false_or]at sco
   rw[Um,Mz];unfold ID;rw[sco];generalize Da s.cP x.Typ 15=b1;generalize Da s.cP x.Var 15=b2;generalize Da s.span x.cQ 63=b3;generalize Da s.span x.Span 1099511627776=b4;generalize N5 s.cP x.Typ=c1;generalize N5 s.cP x.Var=c2;generalize N5 s.span x.cQ=c3;generalize N5 s.span x.Span=c4;generalize K1 x.cN=ec
   cases b1 with
   |true=>rfl
   | false=>
    cases b2 with
    |true=>rfl
    | false=>
     cases b3 with
     |true=>rfl
     | false=>
      cases b4 with
      |true=>rfl
      | false=>
       cases s.cond with
       |false=>cases sz<;>cases c1<;>cases c2<;>cases c3<;>cases c4<;>rfl
       |true=>
        by_cases he:ec=0
        ·subst he;cases sz<;>cases c1<;>cases c2<;>cases c3<;>cases c4<;>rfl
        simp[K2 he,he]
  rw[if_pos rfl]
  simp only[Bool.true_or]at sco
  rw[Um,Mz];unfold ID;rw[sco];generalize Da s.cP x.Typ 15=b1;generalize Da s.cP x.Var 15=b2;generalize Da true x.cQ 63=b3;generalize Da s.span x.Span 1099511627776=b4;generalize N5 s.cP x.Typ=c1;generalize N5 s.cP x.Var=c2;generalize N5 true x.cQ=c3;generalize N5 s.span x.Span=c4;generalize K1 x.cN=ec
  cases b1 with
  |true=>rfl
  | false=>
   cases b2 with
   |true=>rfl
   | false=>
    cases b3 with
    |true=>rfl
    | false=>
     cases b4 with
     |true=>rfl
     | false=>
      cases s.cond with
      |false=>cases sz<;>cases c1<;>cases c2<;>cases c3<;>cases c4<;>rfl
      |true=>
       by_cases he:ec=0
       ·subst he;cases sz<;>cases c1<;>cases c2<;>cases c3<;>cases c4<;>rfl
       simp[K2 he,he]
 rw[if_neg ha,if_pos (by simp only[Q3,decide_eq_false ha];rfl)]
end Go.Ab
namespace Go.Ab
mutual
theorem EL:∀(x y:A1),y∈x.pre→y.bulk≤x.bulk∧y.pre.length≤x.pre.length
 |⟨op,args,typ,var,scope,span,c⟩,y,h=>by
  rw[A1.pre]at h
  rcases List.mem_cons.1 h with rfl|h
  ·exact⟨Nat.le_refl _,Nat.le_refl _⟩
  have:=Mr args y h;simp only[A1.bulk,A1.pre,List.length_cons];omega
theorem Mr:∀(l:List A1) (y:A1),y∈A1.pres l→y.bulk≤A1.bulks l∧y.pre.length≤(A1.pres l).length
 |[],y,h=>by simp[A1.pres]at h
 |a::l,y,h=>by
  rw[A1.pres]at h
  rcases List.mem_append.1 h with h|h
  ·have:=EL a y h;simp only[A1.bulks,A1.pres,List.length_append];omega
  have:=Mr l y h;simp only[A1.bulks,A1.pres,List.length_append];omega
end
theorem Og:∀l:List A1,l.length≤(A1.pres l).length
 |[]=>Nat.le_refl _
 |a::l=>by
  have:=Og l;simp only[A1.pres,A1.pre_eq a,List.length_append,List.length_cons];omega
theorem Bx(x:A1):x.cL.length<x.pre.length:=by
 rw[A1.pre_eq];have:=Og x.cL;simp only[List.length_cons];omega
noncomputable def AW(N:Nat)(y:A1):Int:=(V4 N y).getD 0
theorem DL {N:Nat} (hN:40000000≤N) {y:A1} (hb:y.bulk≤16777216) (hl:y.cL.length≤64):Q4 N y=some (AW N y)∧V4 N y=some (AW N y):=by
 have hc:y.cN.bulk≤16777216:=by have:=A1.bulk_eq y;omega
 have key:∃r,Q4 N y=some r∧V4 N y=some r:=by
  by_cases h:0≤y.Op∧y.Op≤10
  ·obtain⟨s,ng,hs⟩:=LV N y h.1 h.2 hl;obtain⟨sz,hz⟩:=NA hN y.cN;exact⟨_,Wa hN hc h.1 h.2 hs hz,Gi hN hc h.1 h.2 hs hz⟩
  obtain⟨h1,h2⟩:=Aa9 h;exact⟨1,by unfold Q4;rw[if_pos h1],by unfold V4;rw[if_pos h2]⟩
 obtain⟨r,h1,h2⟩:=key
 have e:AW N y=r:=by unfold AW;rw[h2];rfl
 rw[e];exact⟨h1,h2⟩
noncomputable def O2(N:Nat)(x:A1):Int:=if 64<x.pre.length then 5 else if 12<x.dep then 12 else P9 (AW N) x.pre
theorem GX{N:Nat}(hN:40000000≤N){x:A1}(hb:x.bulk≤16777216):Q2 N x=some x.pre:=by
 unfold Q2 Z9;rw[YC hN N x (by omega) hb];simp[N2]
theorem YQ{N:Nat}(hN:40000000≤N){x:A1}(hb:x.bulk≤16777216):W8 N x=some (O2 N x):=by
 unfold W8 O2;rw[YJ hN N x (by omega) hb];simp only[Option.bind_some]
 by_cases h1:64<x.pre.length
 ·rw[if_pos h1,if_pos (X0 (by omega))]
 rw[if_neg h1,if_neg (S9 (by omega))]
 by_cases h2:12<x.dep
 ·rw[if_pos h2,if_pos (X0 (by omega))]
 rw[if_neg h2,if_neg (S9 (by omega)),GX hN hb];simp only[Option.bind_some];rw[NH (f:=AW N) fun y hy=>(DL hN (by have:=EL x y hy;omega) (by have:=EL x y hy;have:=Bx y;omega)).1]
 by_cases h3:P9 (AW N) x.pre=0
 ·rw[if_pos h3];simp[h3]
 rw[if_neg h3];rfl
theorem WY {N:Nat} (hN:40000000≤N) {x:A1} (hb:x.bulk≤16777216):Ai N x=some (O2 N x):=by
 unfold Ai O2;obtain⟨r,h0,c1,c2,c3⟩:=PS hN 64 N x (by omega) hb;rw[h0];simp only[Option.bind_some]
 by_cases h1:64<x.pre.length
 ·rw[if_pos h1,if_pos (X0 (by omega))]
 rw[if_neg h1,if_neg (S9 (by omega)),Ru hN N x (by omega) hb];simp only[Option.bind_some]
 by_cases h2:12<x.dep
 ·rw[if_pos h2,if_pos (X0 (by omega))]
 rw[if_neg h2,if_neg (S9 (by omega)),Mm hN N x (by omega) hb];simp only[Option.bind_some];rw[F5 x.pre (by omega) (mk:=fun(_:Unit) i=>i) (body:=As (V4 N)) (fin:=fun _=>.inl ()) (s:=()) (by omega) ?_ ?_]
 ·rw[X4 (f:=AW N) fun y hy=>(DL hN (by have:=EL x y hy;omega) (by have:=EL x y hy;have:=Bx y;omega)).2]
  by_cases h3:P9 (AW N) x.pre=0
  ·simp[h3]
  simp[h3]
 ·intro s i a ha hi;have e:ar .add .i64 (i:Int) 1=i+1:=C4 (by omega) (by omega);simp only[C2,B1,hi,decide_true,if_true,C7,ha,Option.bind_some,e,As,F6]
  cases V4 N a with
  |none=>rfl
  |some r=>by_cases h:r=0<;>simp[h]
 intro s;simp[C2,B1]
end Go.Ab
namespace Go.Ab
def Good(N:Nat)(x:A1):Prop:=∀y∈x.pre,AW N y=0
theorem Iu {a y:A1} (hy:y∈a.pre):∀l:List A1,a∈l→y∈A1.pres l
 |[],h=>by simp at h
 |b::l,h=>by
  rcases List.mem_cons.1 h with rfl|h
  ·simp[A1.pres,hy]
  simp[A1.pres,Iu hy l h]
theorem Good.arg{N:Nat}{x a:A1}(h:Good N x)(ha:a∈x.cL):Good N a:=fun y hy=>h y (by
 rw[A1.pre_eq];exact List.mem_cons_of_mem _ (Iu hy _ ha))
theorem O5{x a:A1}(ha:a∈x.cL):a.pre.length<x.pre.length:=by
 have:=(Mr x.cL a (Iu (by rw[A1.pre_eq];simp) _ ha)).2;rw[A1.pre_eq x];simp only[List.length_cons];omega
theorem Yn {N:Nat} (hN:40000000≤N) {y:A1} (hb:y.bulk≤16777216) (hl:y.cL.length≤64) (h:AW N y=0) (ho:y.Op=1∨y.Op=7∨y.Op=8∨y.Op=9∨y.Op=10):∃a r,y.cL=a::r:=by
 have hc:y.cN.bulk≤16777216:=by have:=A1.bulk_eq y;omega
 obtain⟨s,ng,hs⟩:=LV N y (by omega) (by omega) hl;obtain⟨sz,hz⟩:=NA hN y.cN;have h1:=Gi hN hc (by omega) (by omega) hs hz
 rw[(DL hN hb hl).2,h]at h1
 have h2:s.cS≤y.cL.length:=by
  have h1:=Option.some.inj h1
  by_cases hc:s.cS≤y.cL.length∧(y.cL.length:Int)≤s.most
  ·exact hc.1
  rw[if_neg hc]at h1;cases h1
 have h3:1≤s.cS:=by
  have ht:=hs.tab
  rcases ho with h|h|h|h|h<;>rw[h]at ht<;>cases ht<;>decide
 match he:y.cL,h2 with
 |[],h2=>simp at h2;omega
 |a::r,_=>exact⟨a,r,rfl⟩
theorem few8{N:Nat}(hN:40000000≤N){x:A9}(hb:x.bulk≤16777216):∃b,BL N x=some b:=by
 unfold BL;obtain⟨r,h0,_⟩:=Rx hN 200 N x (by omega) hb;rw[h0];simp only[Option.bind_some]
 split
 ·rw[MN hN N x (by omega) hb];exact⟨_,rfl⟩
 exact⟨_,rfl⟩
theorem GU {α:Type} {F:α→Option Bool}:∀(l:List α),(∀a∈l,∃b,F a=some b)→∃o,G8 (fun(_:Unit) a=>(F a).bind fun r=>if nt r=true then some (Sum.inr (Sum.inr (α:=Unit) ()))else some (.inl ())) l ()=some o
 |[],_=>⟨_,rfl⟩
 |a::l,h=>by
  obtain⟨b,hb⟩:=h a (by simp);unfold G8;rw[hb]
  cases b with
  |false=>exact⟨_,rfl⟩
  |true=>exact GU l fun a ha=>h a (by simp[ha])
theorem few9 {N:Nat} (hN:40000000≤N) {x:A1} (hb:x.bulk≤16777216):∃b,Fm N x=some b:=by
 unfold Fm;obtain⟨r,h0,_⟩:=PS hN 150 N x (by omega) hb;rw[h0];simp only[Option.bind_some]
 split
 ·exact⟨_,rfl⟩
 rw[Ru hN N x (by omega) hb];simp only[Option.bind_some]
 split
 ·exact⟨_,rfl⟩
 rw[Mm hN N x (by omega) hb];simp only[Option.bind_some];have hp:=Ea x;rw[F5 x.pre (by omega) (mk:=fun(_:Unit) i=>i) (body:=fun(_:Unit) a=>(BL N a.cN).bind fun r=>if nt r=true then some (.inr (.inr ()))else some (.inl ())) (fin:=fun _=>.inl ()) (s:=()) (by omega) ?_ ?_]
 ·obtain⟨o,ho⟩:=GU (F:=fun(a:A1)=>BL N a.cN) x.pre fun a ha=>few8 hN (by have:=(EL x a ha).1;have:=A1.bulk_eq a;omega);rw[ho]
  cases o with
  |inl _=>exact⟨_,rfl⟩
  |inr o=>cases o<;>exact⟨_,rfl⟩
 ·intro s i a ha hi;have e:ar .add .i64 (i:Int) 1=i+1:=C4 (by omega) (by omega);simp only[C2,B1,hi,decide_true,if_true,C7,ha,Option.bind_some,e]
  cases BL N a.cN with
  |none=>rfl
  |some r=>cases r<;>rfl
 intro s;simp[C2,B1]
end Go.Ab
namespace Go.Ab
theorem Mw {S R:Type} {step:S→Option (S ⊕ R)} (I:Nat→S→Prop) (Q:R→Prop):∀(k i:Nat) (s:S) (N:Nat),k<N→I i s→
 (∀j s,i≤j→j<i+k→I j s→∃o,step s=some o∧(match o with| .inl s'=>I (j+1) s'| .inr r=>Q r))→
 (∀s,I (i+k) s→∃r,step s=some (.inr r)∧Q r)→∃r,loopN step N s=some r∧Q r
 |0,i,s,N,hN,h0,_,he=>by
  obtain⟨N,rfl⟩:∃M,N=M+1:=⟨N - 1,by omega⟩;obtain⟨r,h1,h2⟩:=he s h0;exact⟨r,by simp only[loopN,h1],h2⟩
 | k+1,i,s,N,hN,h0,hs,he=>by
  obtain⟨N,rfl⟩:∃M,N=M+1:=⟨N - 1,by omega⟩;obtain⟨o,h1,h2⟩:=hs i s (Nat.le_refl _) (by omega) h0
  cases o with
  |inl s'=>
   obtain⟨r,h3,h4⟩:=Mw I Q k (i+1) s' N (by omega) h2 (fun j s a b c=>hs j s (by omega) (by omega) c) (fun s h=>he s (by rw[show i+(k+1)=i+1+k by omega];exact h));exact⟨r,by simp only[loopN,h1,h3],h4⟩
  |inr r=>exact⟨r,by simp only[loopN,h1],h2⟩
noncomputable instance:DecidableEq A9:=Classical.typeDecidableEq _
noncomputable instance:DecidableEq A1:=Classical.typeDecidableEq _
noncomputable instance:DecidableEq JX:=Classical.typeDecidableEq _
noncomputable instance:DecidableEq Py:=Classical.typeDecidableEq _
noncomputable instance:DecidableEq J4:=Classical.typeDecidableEq _
theorem Uo{i:Nat}(h:i<1000000000000):ar .add .i64 (i:Int) 1=((i+1:Nat):Int):=by rw[C4 (by omega) (by omega)];omega
theorem ZI {α:Type} [DecidableEq α] {N:Nat} (l m:List α) (hl:l.length=m.length) (hs:l.length<1000000000000) (f:α→α→Option Bool) (hf:∀x∈l,∀y∈m,f x y=some (decide (x=y))) (hN:l.length<N):
 loopN (fun(i:Int)=>if cmp .lss i (Ar.len l)=true then(B6 l i).bind fun x=>(B6 m i).bind fun y=>(f x y).bind fun r=>if nt r=true then some (Sum.inr (Sum.inr (α:=Unit) ()))else some (.inl (ar .add .i64 i 1))else some (.inr (.inl ()))) N 0=some (if l=m then .inl ()else .inr ()):=by
 obtain⟨r,h1,h2⟩:=Mw (step:=fun(i:Int)=>if cmp .lss i (Ar.len l)=true then(B6 l i).bind fun x=>(B6 m i).bind fun y=>(f x y).bind fun r=>if nt r=true then some (Sum.inr (Sum.inr (α:=Unit) ()))else some (.inl (ar .add .i64 i 1))else some (.inr (.inl ())))
  (fun j s=>s=(j:Int)∧l.take j=m.take j) (fun r=>r=if l=m then .inl ()else .inr ()) l.length 0 0 N hN ⟨rfl,by simp⟩
  (fun j s _ hj ⟨e,ht⟩=>by
   subst e
   simp only[Nat.zero_add]at hj
   have hj2:j<m.length:=by omega
   have e1:l[j]? =some l[j]:=by simp[hj]
   have e2:m[j]? =some m[j]:=by simp[hj2]
   simp only[C2,B1,show((j:Int)<(l.length:Int)) by omega,decide_true,if_true,C7,e1,e2,Option.bind_some,hf _ (List.getElem_mem hj) _ (List.getElem_mem hj2)]
   by_cases h:l[j]=m[j]
   ·simp only[h,decide_true,Q3,Bool.not_true,Bool.false_eq_true,if_false];refine⟨_,rfl,Uo (by omega),?_⟩;rw[List.take_add_one,List.take_add_one,ht,e1,e2,h]
   simp only[h,decide_false,Q3,Bool.not_false,if_true];refine⟨_,rfl,?_⟩
   rw[if_neg fun he=>h (by subst he;rfl)])
  (fun s ⟨e,ht⟩=>by
   subst e
   simp only[Nat.zero_add]at ht ⊢
   refine⟨.inl (),by simp[C2,B1],?_⟩
   rw[List.take_length,hl,List.take_length]at ht
   rw[if_pos ht])
 rw[h1,h2]
theorem JD{a b:A9}:a=b↔(a.Op=b.Op∧a.Var=b.Var∧a.Field=b.Field∧a.Kind=b.Kind∧a.Value=b.Value)∧a.cL=b.cL:=by
 cases a;cases b;simp;constructor
 ·rintro⟨h1,h2,h3,h4,h5,h6⟩;exact⟨⟨h1,h3,h4,h5,h6⟩,h2⟩
 rintro⟨⟨h1,h3,h4,h5,h6⟩,h2⟩;exact⟨h1,h2,h3,h4,h5,h6⟩
theorem VJ{a b:A4}:a=b↔a.Kind=b.Kind∧a.Num=b.Num∧a.Text=b.Text:=by cases a;cases b;simp
theorem NU (a b:A9):MC a b=true↔¬((a.Op=b.Op∧a.Var=b.Var∧a.Field=b.Field∧a.Kind=b.Kind∧a.Value=b.Value)∧a.cL.length=b.cL.length):=by
 simp only[MC,I9,L7,Q3,F6,C0,CN,B1,VJ,Bool.or_eq_true,Bool.not_eq_true',decide_eq_false_iff_not,Bool.and_eq_false_iff,Bool.and_true,decide_eq_true_eq,Classical.not_and_iff_not_or_not]
 constructor
 ·rintro(((((h|h)|h)|h)|h)|h)
  ·simp[h]
  ·simp[h]
  ·simp[h]
  ·simp[h]
  ·rcases h with h|h|h<;>simp[h]
  right;omega
 rintro((h|h|h|h|h)|h)
 ·simp[h]
 ·simp[h]
 ·simp[h]
 ·simp[h]
 ·rcases h with h|h|h<;>simp[h]
 right;omega
theorem Aa5 {N:Nat} (hN:40000000≤N):∀(n:Nat) (a b:A9),a.bulk≤n→a.bulk≤16777216→Q1 N n a b=some (decide (a=b)):=by
 intro n
 induction n with
 |zero=>intro a b h;have:=CD a;omega
 | succ n ih=>
  intro a b hx hb;have hl:=Ee a;unfold Q1
  change (if MC a b=true then some false else _)=_
  by_cases h:MC a b=true
  ·rw[if_pos h]
   rw[NU]at h
   rw[decide_eq_false];intro e;exact h ⟨(JD.1 e).1,by rw[(JD.1 e).2]⟩
  rw[if_neg h]
  rw[NU,Classical.not_not]at h
  rw[ZI a.cL b.cL h.2 (by omega) _ (fun x hx y hy=>ih x y (by have:=X5 hx;omega) (by have:=X5 hx;omega)) (by omega)];simp only[Option.bind_some]
  by_cases he:a.cL=b.cL
  ·rw[if_pos he,decide_eq_true (JD.2 ⟨h.1,he⟩)]
  rw[if_neg he,decide_eq_false fun e=>he (JD.1 e).2]
structure Arity (y:A1):Prop where
 op:0≤y.Op∧y.Op≤10
 ev:y.Op=0→y.cL=[]
 two:1≤y.Op→y.Op≤3→2≤y.cL.length
 one:4≤y.Op→y.Op≠8→∃a,y.cL=[a]
 more:y.Op=8→∃a b,y.cL=[a,b]
end Go.Ab
namespace Go.Ab
abbrev Pr:=JX×J4
def zE:A9:=⟨0,[],0,0,0,⟨0,0,⟨#[]⟩⟩⟩
def zP:A1:=⟨0,[],0,0,0,0,zE⟩
def nd(op:Int)(args:List A1):A1:=⟨op,args,0,0,0,0,zE⟩
def Ac0:J4:=⟨true,zP⟩
def Ab5(op:Int)(l:List A1):A1:=match l with|[x]=>x|l=>nd op l
def Al7(r:J4)(more:List A1):J4:=
 match(if r.done=true then more else r.p::more)with
 |[]=>Ac0
 |l=>⟨false,Ab5 1 l⟩
def Al2(args:List A1)(i:Nat)(r:J4):J4:=
 ⟨false,Ab5 3 (if r.done=true then args.take i++args.drop (i+1)else args.set i r.p)⟩
def Esz(e:JX)(k:Nat):Prop:=e.Opens.length≤k∧e.Closes.length≤k∧e.Checks.length≤k∧e.Limits.length≤k∧e.Inside.length≤k
def Aj7 (p:A1) (x:JX) (done opens:Bool):JX:=
 {x with
  Opens:=if opens=true then p.cQ::x.Opens else x.Opens
  Inside:=if p.Op=5∨p.Op=9 then p.cQ::x.Inside else x.Inside
  Limits:=if p.Op=5∨p.Op=9 then x.Limits else⟨p.cQ,p.Span⟩::x.Limits
  Closes:=if done=true then x.Closes++[p.cQ]else x.Closes}
def rep(again:A1)(y:Pr):List Pr:=
 if y.2.done=true then[y,(y.1,⟨false,again⟩)]else match again.cL with|b::_=>[(y.1,⟨false,nd 8 [y.2.p,b]⟩)]|[]=>[]
def innE(x:A1)(y:Pr):JX:=
 if x.Op=7 then(if y.2.done=true then{y.1 with Checks:=y.1.Checks++[x.cN]}else y.1)
 else Aj7 x y.1 y.2.done (if x.Op=5∨x.Op=9 then decide (x.Op=5)else decide (x.Op=6))
def Al4(x:A1):Int:=if x.Op=7 then 7 else if x.Op=5∨x.Op=9 then 9 else 10
def innR(x:A1)(r:J4):J4:=if r.done=true then r else{r with p:={x with Op:=Al4 x,cL:=[r.p]}}
def inn(x:A1)(y:Pr):Pr:=(innE x y,innR x y.2)
def comb(x:A1)(ls:List (List Pr)):List Pr:=
 if x.Op=0 then[(⟨0,0,x.Var,x.Typ,x.cN,[],[],[],[],[]⟩,Ac0)]
 else if x.Op=1 then(ls.headD []).map fun y=>(y.1,Al7 y.2 (x.cL.drop 1))
 else if x.Op=2 then(List.range x.cL.length).flatMap fun i=>ls.getD i []
 else if x.Op=3 then(List.range x.cL.length).flatMap fun i=>(ls.getD i []).map fun y=>(y.1,Al2 x.cL i y.2)
 else if x.Op=4 then(ls.headD []).flatMap (rep x)
 else if x.Op=8 then(ls.headD []).flatMap (rep (nd 4 (x.cL.drop 1)))
 else(ls.headD []).map (inn x)
mutual
def raw:A1→List Pr
 |⟨op,args,typ,var,scope,span,c⟩=>comb ⟨op,args,typ,var,scope,span,c⟩ (raws args)
def raws:List A1→List (List Pr)
 |[]=>[]
 |a::l=>raw a::raws l
end
theorem Esz.mono{e:JX}{k m:Nat}(h:Esz e k)(hm:k≤m):Esz e m:=by obtain⟨h1,h2,h3,h4,h5⟩:=h;exact⟨by omega,by omega,by omega,by omega,by omega⟩
end Go.Ab
namespace Go.Ab
end Go.Ab
namespace Go.Ab
structure Ts (B:Nat) (R:Nat) (y:Pr):Prop where
 from0:y.1.From=0
 to0:y.1.To=0
 done:y.2.done=true→y.2.p=zP
 cond:y.1.cN.bulk≤B
 checks:∀c∈y.1.Checks,c.bulk≤B
 rest:y.2.p.bulk≤R
theorem Ts.mono{B R B' R':Nat}{y:Pr}(h:Ts B R y)(hB:B≤B')(hR:R≤R'):Ts B' R' y:=⟨h.from0,h.to0,h.done,Nat.le_trans h.cond hB,fun c hc=>Nat.le_trans (h.checks c hc) hB,Nat.le_trans h.rest hR⟩
def wth{α:Type}[DecidableEq α](l:List α)(x:α):List α:=if x∈l then l else l++[x]
def dd{α:Type}[DecidableEq α](l:List α):List α:=l.foldl wth []
section
variable{α:Type}[DecidableEq α]
theorem Ag1(l m:List α):dd (l++m)=m.foldl wth (dd l):=by simp[dd,List.foldl_append]
end
end Go.Ab
namespace Go.Ab
def idxI{α:Type}(P:α→Bool)(l:List α):Int:=match l.findIdx? P with|none=> -1|some i=>(i:Int)
noncomputable abbrev idxP(l:List A1)(p:A1):Int:=idxI (fun q=>decide (p=q)) l
noncomputable def Aj8(l:List A1)(y:Pr):List A1:=if y.2.done=true then l else wth l y.2.p
noncomputable def WX(w:List Pr):List A1:=w.foldl Aj8 []
noncomputable def toOf(l:List A1)(r:J4):Int:=if r.done=true then -1 else idxP l r.p
noncomputable def eg(l:List A1)(y:Pr):JX:={y.1 with To:=toOf l y.2}
def Yt(N:Nat)(w:List Pr):Prop:=2048<(dd w).length∨∃y∈w,y.2.done=false∧O2 N y.2.p≠0
noncomputable instance(N:Nat)(w:List Pr):Decidable (Yt N w):=Classical.propDecidable _
theorem Rv (w v:List Pr):(dd w).length≤(dd (w++v)).length:=by
 rw[Ag1]
 have key:∀(v l:List Pr),l.length≤(v.foldl wth l).length:=fun v=>by
  induction v with
  |nil=>intro l;exact Nat.le_refl _
  |cons x v ih=>
   intro l;refine Nat.le_trans ?_ (ih (wth l x));unfold wth;split<;>simp
 exact key v _
theorem Yt.mono{N:Nat}{w v:List Pr}(h:Yt N w):Yt N (w++v):=by
 rcases h with h|⟨y,hy,h⟩
 ·left;have:=Rv w v;omega
 right;exact⟨y,by simp[hy],h⟩
structure DerInv (N:Nat) (w:List Pr) (s:List A1×List JX):Prop where
 rs:s.1=WX w
 es:s.2=(dd w).map (eg (WX w))
 ok:¬Yt N w
 len:(WX w).length≤(dd w).length
end Go.Ab
namespace Go.Ab
theorem IA {α R:Type} (P:α→Bool) (r:R):∀l:List α,G8 (fun(_:Unit) y=>if P y=true then some (Sum.inr r)else some (.inl ())) l ()=some (if l.any P=true then .inr r else .inl ())
 |[]=>rfl
 | y::l=>by
  unfold G8
  cases h:P y with
  |true=>simp[h]
  |false=>
   simp only[Bool.false_eq_true,if_false,List.any_cons,h,Bool.false_or];exact IA P r l
theorem Good.sub{N:Nat}{x y:A1}(h:Good N x)(hy:y∈x.pre):AW N y=0:=h y hy
theorem Wz {N:Nat} (hN:40000000≤N) {x:A1} (hb:x.bulk≤16777216):Bq N x=some (if O2 N x≠0 then O2 N x else if x.pre.any (fun y=>cmp .geq y.Op 8)=true then 1 else 0):=by
 unfold Bq;rw[YQ hN hb];simp only[Option.bind_some]
 by_cases h:O2 N x=0
 ·rw[if_neg (J8 h),if_neg (by simpa using h),GX hN hb];simp only[Option.bind_some];rw[IA (fun y:A1=>cmp .geq y.Op 8) (1:Int) x.pre]
  by_cases h2:x.pre.any (fun y=>cmp .geq y.Op 8)=true
  ·rw[if_pos h2,if_pos h2];rfl
  rw[if_neg h2,if_neg h2];rfl
 rw[if_pos (K2 h),if_pos h]
theorem HE {N:Nat} {x:A1} (hz:O2 N x=0):x.pre.length≤64∧x.dep≤12∧Good N x:=by
 have hp:x.pre.length≤64:=by
  by_cases h:64<x.pre.length
  ·rw[O2,if_pos h]at hz;cases hz
  omega
 have hd:¬12<x.dep:=fun h=>by rw[O2,if_neg (by omega),if_pos h]at hz;cases hz
 rw[O2,if_neg (by omega),if_neg hd]at hz
 exact⟨hp,by omega,CE.1 hz⟩
theorem Jp(x:A1):x∈x.pre:=by rw[A1.pre_eq];simp
theorem Uy{α β:Type}{m:Option α}{F:α→Option β}{a:α}{r:Option β}(h1:m=some a)(h2:F a=r):m.bind F=r:=by rw[h1];exact h2
end Go.Ab
namespace Go.Ab
mutual
theorem MT:∀x:A9,(∀y∈x.pre,y.Value.Text.size≤64)→x.bulk≤74*x.pre.length
 |⟨op,args,var,field,kind,v⟩,h=>by
  have h1:=Ld args fun y hy=>h y (by rw[A9.pre];exact List.mem_cons_of_mem _ hy);have h2:v.Text.size≤64:=h ⟨op,args,var,field,kind,v⟩ (by rw[A9.pre];exact List.mem_cons_self ..);simp only[A9.bulk,A9.pre,List.length_cons];omega
theorem Ld:∀l:List A9,(∀y∈A9.pres l,y.Value.Text.size≤64)→A9.bulks l≤1+74*(A9.pres l).length
 |[],_=>by simp[A9.bulks]
 |a::l,h=>by
  have h1:=MT a fun y hy=>h y (by rw[A9.pres];exact List.mem_append_left _ hy);have h2:=Ld l fun y hy=>h y (by rw[A9.pres];exact List.mem_append_right _ hy);simp only[A9.bulks,A9.pres,List.length_append];omega
end
mutual
theorem Tp:∀x:A1,(∀y∈x.pre,y.cN.bulk≤4736)→x.bulk≤4743*x.pre.length
 |⟨op,args,typ,var,scope,span,c⟩,h=>by
  have h1:=Lc args fun y hy=>h y (by rw[A1.pre];exact List.mem_cons_of_mem _ hy);have h2:c.bulk≤4736:=h ⟨op,args,typ,var,scope,span,c⟩ (by rw[A1.pre];exact List.mem_cons_self ..);simp only[A1.bulk,A1.pre,List.length_cons];omega
theorem Lc:∀l:List A1,(∀y∈A1.pres l,y.cN.bulk≤4736)→A1.bulks l≤1+4743*(A1.pres l).length
 |[],_=>by simp[A1.bulks]
 |a::l,h=>by
  have h1:=Tp a fun y hy=>h y (by rw[A1.pres];exact List.mem_append_left _ hy);have h2:=Lc l fun y hy=>h y (by rw[A1.pres];exact List.mem_append_right _ hy);simp only[A1.bulks,A1.pres,List.length_append];omega
end
theorem Iw:(⟨#[]⟩:ByteArray).size=0:=rfl
theorem RQ{v:A4}(h:Nr v=true):v.Text.size≤64:=by
 simp only[Nr,L7,C0,CN,Bool.and_eq_true,decide_eq_true_eq]at h
 rw[h.2.2.1,Iw];omega
theorem PM {v:A4} (h:H6 v=0):v.Text.size≤64:=by
 unfold H6 at h
 by_cases h1:v.Kind=0∨v.Kind=1
 ·rw[if_pos h1]at h
  by_cases h2:v.Text≠⟨#[]⟩
  ·rw[if_pos h2]at h;cases h
  have:v.Text=⟨#[]⟩:=Classical.not_not.1 h2;rw[this,Iw];omega
 rw[if_neg h1]at h
 by_cases h2:v.Kind=2
 ·rw[if_pos h2]at h
  by_cases h3:v.Num≠0
  ·rw[if_pos h3]at h;cases h
  rw[if_neg h3]at h
  by_cases h4:64<(v.Text.size:Int)
  ·rw[if_pos h4]at h;cases h
  omega
 rw[if_neg h2]at h;cases h
theorem Pl {x:A9} (h:Y0 x=0):x.Value.Text.size≤64:=by
 unfold Y0 at h
 by_cases h0:x.Op<0∨12<x.Op
 ·rw[if_pos h0]at h;cases h
 rw[if_neg h0]at h
 by_cases h1:(x.cL.length:Int)≠(if x.Op<5 then 0 else if x.Op=12 then 1 else 2)
 ·rw[if_pos h1]at h;cases h
 rw[if_neg h1]at h
 by_cases h2:OP x=true
 ·rw[if_pos h2]at h;cases h
 rw[if_neg h2]at h
 by_cases h3:My x=true
 ·rw[if_pos h3]at h;cases h
 rw[if_neg h3]at h
 by_cases h4:x.Op=4∨x.Op=0
 ·by_cases h5:H6 x.Value=0
  ·exact PM h5
  rw[if_pos ⟨h4,h5⟩]at h;exact absurd h h5
 rw[if_neg (fun e=>h4 e.1),if_neg (fun e=>h4 (.inl e.1))]at h
 by_cases h6:Ef x=true
 ·rw[if_pos h6]at h;cases h
 have h7:Nr x.Value=true:=by
  have n4:¬x.Op=4:=fun e=>h4 (.inl e);have n0:¬x.Op=0:=fun e=>h4 (.inr e)
  cases hz:Nr x.Value with
  |true=>rfl
  |false=>
   refine absurd ?_ h6;simp[Ef,I9,L7,Q3,C0,n4,n0,hz]
 exact RQ h7
theorem Lj{c:A9}(h:K1 c=0):c.bulk≤4736:=by
 have hp:¬64<c.pre.length:=fun e=>by rw[K1,if_pos e]at h;cases h
 have hd:¬12<c.dep:=fun e=>by rw[K1,if_neg hp,if_pos e]at h;cases h
 rw[K1,if_neg hp,if_neg hd]at h
 have:=MT c fun y hy=>Pl (CE.1 h y hy);omega
theorem Mn {N:Nat} (hN:40000000≤N) {y:A1} (hb:y.bulk≤16777216) (hl:y.cL.length≤64) (h:AW N y=0):(0≤y.Op∧y.Op≤10)∧∃s ng,JV N y s ng∧y.cN.bulk≤4736:=by
 have hc:y.cN.bulk≤16777216:=by have:=A1.bulk_eq y;omega
 have hop:0≤y.Op∧y.Op≤10:=by
  by_cases ho:0≤y.Op∧y.Op≤10
  ·exact ho
  have h1:=(DL hN hb hl).1
  unfold Q4 at h1
  rw[if_pos (Aa9 ho).1,h]at h1
  cases h1
 obtain⟨s,ng,hs⟩:=LV N y hop.1 hop.2 hl;have hz:=Aa5 hN N y.cN (⟨0,[],0,0,0,(⟨0,0,⟨#[]⟩⟩:A4)⟩:A9) (by omega) hc;have h1:=Gi hN hc hop.1 hop.2 hs hz
 rw[(DL hN hb hl).2,h]at h1
 have h1:=Option.some.inj h1;refine⟨hop,s,ng,hs,?_⟩
 by_cases ha:s.cS≤y.cL.length∧(y.cL.length:Int)≤s.most
 ·rw[if_pos ha]at h1
  unfold ID at h1
  by_cases e1:Da s.cP y.Typ 15=true
  ·rw[if_pos e1]at h1;cases h1
  rw[if_neg e1]at h1
  by_cases e2:Da s.cP y.Var 15=true
  ·rw[if_pos e2]at h1;cases h1
  rw[if_neg e2]at h1
  by_cases e3:Da s.scope y.cQ 63=true
  ·rw[if_pos e3]at h1;cases h1
  rw[if_neg e3]at h1
  by_cases e4:Da s.span y.Span 1099511627776=true
  ·rw[if_pos e4]at h1;cases h1
  rw[if_neg e4]at h1
  by_cases e5:s.cond=true
  ·by_cases e6:K1 y.cN=0
   ·exact Lj e6
   rw[if_pos ⟨e5,e6⟩]at h1;exact absurd h1.symm e6
  rw[if_neg (fun e=>e5 e.1)]at h1
  by_cases e6:y.cN=(⟨0,[],0,0,0,(⟨0,0,⟨#[]⟩⟩:A4)⟩:A9)
  ·rw[e6];simp only[A9.bulk,A9.bulks,Iw];omega
  rw[if_neg (fun e=>by
   have:=e.1
   rw[decide_eq_false e6]at this
   simp[e5]at this)]at h1
  cases h1
 rw[if_neg ha]at h1;cases h1
end Go.Ab
