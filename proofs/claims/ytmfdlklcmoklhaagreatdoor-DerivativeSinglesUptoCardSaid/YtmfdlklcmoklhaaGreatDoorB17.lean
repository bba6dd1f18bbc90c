/- GHD2 GHD3 GHD4 GHD5 GHD6 GHR1 GHR2 GHV0 GHV1 GHV2 GHV3 -/
import Derived.Test.YtmfdlklcmoklhaaGreatDoorB16
set_option linter.all false
open Go.Ab.Ar (an ar cmp nt)
namespace Go.Ab
theorem PN {β S R:Type}{step:S→Option (List β×(S⊕R))}(st:Nat→S)(f:Nat→List β)(w:List β)(r:R)(k:Nat){s0:S}{N:Nat}(h0:s0=st 0)(hN:k<N)(hs:∀j,j<k→step (st j)=some (f j,.inl (st (j+1))))(he:step (st k)=some (w,.inr r)):
 W2 step N s0=some ((List.range k).flatMap f++w,r):=by
 rw[h0,Uy st f w r k 0 hN (fun j _ h=>hs j (by omega)) (by rw[Q0];exact he),IU]
abbrev Pr :=D7×A6
def zE :B0:=⟨0,[],0,0,0,⟨0,0,⟨#[]⟩⟩⟩
def zP :A0:=⟨0,[],0,0,0,0,zE⟩
def nd (op:Int)(args:List A0):A0:=⟨op,args,0,0,0,0,zE⟩
def Ym :A6:=⟨true,zP⟩
def SH (op:Int)(l:List A0):A0:=match l with|[x]=>x|l=>nd op l
theorem XO (N:Nat)(op:Int)(l:List A0):AD N op l=some (SH op l):=by
 unfold AD
 match l with
 |[]=>rfl
 |[x]=>rfl
 |x::y::l=>rw[A1 (by simp only[C8,B5,J7,D9];omega)];rfl
def KO (r:A6)(more:List A0):A6:=
 match(if r.done=true then more else r.p::more)with
 |[]=>Ym
 |l=>⟨false,SH 1 l⟩
theorem AO8 (N:Nat) (r:A6) (more:List A0) (h:more.length≤1000000):Aq N r more=some (KO r more):=by
 unfold Aq L7 S9 KO;rw[U8 (by simp;omega)];simp only[A4,J1,Q5,XO]
 cases hr:r.done with
 |true=>
  simp only[W5,F6,E4,A4,C7]
  cases more with
  |nil=>rfl
  |cons x l=>rw[A1 (by simp only[C8,B5,J7,D9];omega)]
 | false=>
  have e:OQ more 0 [r.p]=some (r.p::more):=by
   grind [OQ]
  simp only[Cw,C7,e,A4,F6,E4];rw[A1 (by simp only[C8,B5,J7,D9];omega)]
def OO (args:List A0)(i:Nat)(r:A6):A6:=
 ⟨false,SH 3 (if r.done=true then args.take i++args.drop (i+1)else args.set i r.p)⟩
theorem AF2 (N:Nat) (args:List A0) (i:Nat) (r:A6) (hi:i<args.length) (h:args.length≤1000000):BE N args (i:Int) r=some (OO args i r):=by
 unfold BE L7 T3 OO;rw[U8 (by simp;omega)];simp only[A4,J1,XO]
 cases hr:r.done with
 | true=>
  have e:Pf args (i:Int) (ar .add .i64 (i:Int) 1)=some (args.take i++args.drop (i+1)):=by
   rw[Ks (by omega)]
   grind [Pf]
  simp_all
 | false=>
  have e:Kg args (i:Int) (fun _=>r.p)=some (args.set i r.p):=by
   unfold Kg;rw[G2,E2 hi];simp
  have e2:inR args (i:Int)=true:=by simp_all[inR]
  simp only[F6,E4,e,e2,req,C7,A4]
def Tu (e:D7)(k:Nat):Prop:=e.dM.length≤k∧e.dJ.length≤k∧e.dH.length≤k∧e.dN.length≤k∧e.dL.length≤k
theorem Og {α:Type} {N:Nat} (hN:3≤N) (l m:List α) (h:l.length+m.length≤1000000000) (grow:List α→Int→Option (List α)) (hg:∀n,0≤n→n≤1073741824→grow [] n=some []):
 ((loopN (fun(s1:Int×Int)=>(if cmp .lss s1.2 (Ar.len [l,m])=true then(C5 [l,m] s1.2).bind fun x3=>if cmp .lss (ar .add .i64 s1.1 (Ar.len x3)) 0=true then none else some (.inl (ar .add .i64 s1.1 (Ar.len x3),ar .add .i64 s1.2 1))else some (.inr s1.1):Option ((Int×Int)⊕Int))) N (0,0)).bind fun s2=>
  (grow [] s2).bind fun l4=>(loopN (fun(s6:Int×List α)=>(if cmp .lss s6.1 (Ar.len [l,m])=true then(C5 [l,m] s6.1).bind fun x9=>(N6 s6.2 x9).bind fun l11=>some (.inl (ar .add .i64 s6.1 1,l11))else some (.inr s6.2):Option ((Int×List α)⊕List α))) N (0,l4)).bind fun s8=>some s8)=some (l++m):=by
 have e1:ar .add .i64 0 (l.length:Int)=l.length:=by rw[E9 (by omega) (by omega)];omega
 have e2:ar .add .i64 (l.length:Int) (m.length:Int)=l.length+m.length:=by rw[E9 (by omega) (by omega)]
 have e3:ar .add .i64 0 1=1:=by rw[E9 (by omega) (by omega)];rfl
 have e4:ar .add .i64 1 1=2:=by rw[E9 (by omega) (by omega)];rfl
 obtain⟨N,rfl⟩:∃M,N=M+3:=⟨N - 3,by omega⟩;have i0:C5 [l,m] 0=some l:=rfl;have i1:C5 [l,m] 1=some m:=rfl;have c0:cmp .lss 0 (Ar.len [l,m])=true:=rfl;have c1:cmp .lss 1 (Ar.len [l,m])=true:=rfl;have c2:cmp .lss 2 (Ar.len [l,m])=false:=rfl
 have n1:cmp .lss (l.length:Int) 0=false:=by rw[D1];simp_all
 have n2:cmp .lss ((l.length:Int)+m.length) 0=false:=by rw[D1];grind
 have hl:∀x:List α,Ar.len x=(x.length:Int):=fun x=>rfl;simp only[loopN,c0,C7,i0,A4,hl l,e1,n1,F6,E4,e3,c1,i1,hl m,e2,n2,e4,c2];rw[hg _ (by omega) (by omega)];simp only[A4];rw[U8 (by simp;omega)];simp only[A4,e3,c1,C7,i1,J1];rw[U8 (by omega)]
 simp_all
theorem SO {α:Type}(n:Int)(h0:0≤n)(h1:n≤1073741824):SP ([]:List α) n=some []:=by simp_all[SP]
theorem AP0 {N:Nat}(hN:3≤N)(l m:List B0)(h:l.length+m.length≤1000000000):V2 N [l,m]=some (l++m):=Og hN l m h _ fun n a b=>SO n a b
theorem Wd {N:Nat}(hN:3≤N)(l m:List Int)(h:l.length+m.length≤1000000000):T4 N [l,m]=some (l++m):=Og hN l m h _ fun n a b=>SO n a b
theorem AO9 {N:Nat}(hN:3≤N)(l m:List As)(h:l.length+m.length≤1000000000):X1 N [l,m]=some (l++m):=Og hN l m h _ fun n a b=>SO n a b
def QE (p:A0) (x:D7) (done opens:Bool):D7:=
 {x with
  dM:=if opens=true then p.dG::x.dM else x.dM
  dL:=if p.Op=5∨p.Op=9 then p.dG::x.dL else x.dL
  dN:=if p.Op=5∨p.Op=9 then x.dN else⟨p.dG,p.Span⟩::x.dN
  dJ:=if done=true then x.dJ++[p.dG]else x.dJ}
theorem Ae5 {N:Nat} (hN:3≤N) (p:A0) (x:D7) (done opens:Bool) (h:Tu x 1000):U7 N p x done opens=some (QE p x done opens):=by
 obtain⟨h1,h2,h3,h4,h5⟩:=h;unfold U7 QE;simp only[P1,C8,←Bool.decide_or,D9];cases opens<;>cases done<;>by_cases h:p.Op=5∨p.Op=9
 all_goals
  simp only[h,C7,F6,E4,A4]
  try rw[Wd (by omega) [p.dG] x.dM (by simp;omega)]
  try simp only[A4]
  try rw[Wd (by omega) [p.dG] x.dL (by simp;omega)]
  try rw[AO9 (by omega) [⟨p.dG,p.Span⟩] x.dN (by simp;omega)]
  try simp only[A4]
  try rw[Wd (by omega) x.dJ [p.dG] (by simp;omega)]
  rfl
def rep (again:A0)(y:Pr):List Pr:=
 if y.2.done=true then[y,(y.1,⟨false,again⟩)]else match again.dD with|b::_=>[(y.1,⟨false,nd 8 [y.2.p,b]⟩)]|[]=>[]
def Hz (x:A0)(y:Pr):D7:=
 if x.Op=7 then(if y.2.done=true then{y.1 with dH:=y.1.dH++[x.dE]}else y.1)
 else QE x y.1 y.2.done (if x.Op=5∨x.Op=9 then decide (x.Op=5)else decide (x.Op=6))
def AR9 (x:A0):Int:=if x.Op=7 then 7 else if x.Op=5∨x.Op=9 then 9 else 10
def XU (x:A0)(r:A6):A6:=if r.done=true then r else{r with p:={x with Op:=AR9 x,dD:=[r.p]}}
def inn (x:A0)(y:Pr):Pr:=(Hz x y,XU x y.2)
def Ab6 (x:A0)(ls:List (List Pr)):List Pr:=
 if x.Op=0 then[(⟨0,0,x.Var,x.Typ,x.dE,[],[],[],[],[]⟩,Ym)]
 else if x.Op=1 then(ls.headD []).map fun y=>(y.1,KO y.2 (x.dD.drop 1))
 else if x.Op=2 then(List.range x.dD.length).flatMap fun i=>ls.getD i []
 else if x.Op=3 then(List.range x.dD.length).flatMap fun i=>(ls.getD i []).map fun y=>(y.1,OO x.dD i y.2)
 else if x.Op=4 then(ls.headD []).flatMap (rep x)
 else if x.Op=8 then(ls.headD []).flatMap (rep (nd 4 (x.dD.drop 1)))
 else(ls.headD []).map (inn x)
mutual
def raw :A0→List Pr
 |⟨op,args,typ,var,scope,span,c⟩=>Ab6 ⟨op,args,typ,var,scope,span,c⟩ (AK1 args)
def AK1 :List A0→List (List Pr)
 |[]=>[]
 |a::l=>raw a::AK1 l
end
theorem Xj :∀l:List A0,AK1 l=l.map raw
 |[]=>rfl
 |a::l=>by simp[AK1,Xj l]
theorem Si (x:A0):raw x=Ab6 x (x.dD.map raw):=by cases x;simp only[raw,Xj]
theorem Tu.mono {e:D7}{k m:Nat}(h:Tu e k)(hm:k≤m):Tu e m:=by grind [Tu]
theorem AN8 {x:A0}{y:Pr}{k:Nat}(h:Tu y.1 k):Tu (Hz x y) (k+1):=by
 unfold Hz
 grind [Tu,QE]
theorem Vz {a:A0}{y z:Pr}(h:z∈rep a y):z.1=y.1:=by
 unfold rep at h
 grind
theorem Jp {x a:A0} (h:a∈x.dD):a.dep<x.dep:=by
 rw[A0.dep_eq x]
 have key:∀l:List A0,a∈l→a.dep≤A0.deps l:=fun l=>by
  induction l with
  |nil=>simp_all
  |cons b l ih=>
   grind [A0.deps]
 have:=key _ h;omega
theorem FC {l:List A0}{i:Nat}{y:Pr}(h:y∈(l.map raw).getD i []):∃a∈l,y∈raw a:=by
 grind
theorem Ai {l:List A0}{y:Pr}(h:y∈(l.map raw).headD []):∃a∈l,y∈raw a:=by
 cases l with
 |nil=>simp at h
 |cons a l=>simp_all
theorem Zt :∀(d:Nat) (x:A0),x.dep≤d→∀y∈raw x,Tu y.1 d:=by
 intro d
 induction d with
 |zero=>intro x h;rw[A0.dep_eq]at h;omega
 | succ d ih=>
  intro x hd y hy
  rw[Si]at hy
  have hrec:∀a∈x.dD,∀y∈raw a,Tu y.1 d:=fun a ha=>ih a (by have:=Jp ha;omega)
  unfold Ab6 at hy
  split at hy
  ·rw[List.mem_singleton.1 hy];simp[Tu]
  split at hy
  ·obtain⟨z,hz,rfl⟩:=List.mem_map.1 hy;obtain⟨a,ha,hz⟩:=Ai hz
   grind [Tu]
  split at hy
  ·grind [Tu]
  split at hy
  ·grind [Tu]
  split at hy
  ·obtain⟨z,hz,hy⟩:=List.mem_flatMap.1 hy;obtain⟨a,ha,hz⟩:=Ai hz;rw[Vz hy]
   grind [Tu]
  split at hy
  ·obtain⟨z,hz,hy⟩:=List.mem_flatMap.1 hy;obtain⟨a,ha,hz⟩:=Ai hz;rw[Vz hy]
   grind [Tu]
  obtain⟨z,hz,rfl⟩:=List.mem_map.1 hy;obtain⟨a,ha,hz⟩:=Ai hz;exact AN8 (hrec a ha z hz)
theorem Ze {α:Type}{l:List α}(h:1≤l.length):Bg l (some 1) none none=some (l.drop 1):=by
 unfold Bg;rw[A2 (by simp;omega)];simp only[V8,IK,Int.toNat_one,Z8];rw[T8 (by simp)]
end Go.Ab
namespace Go.Ab
theorem or3 {x:A0}:((if cmp .eql x.Op 1=true then some true else if cmp .eql x.Op 2=true then some true else some (cmp .eql x.Op 3)):Option Bool)=some (decide (x.Op=1∨x.Op=2∨x.Op=3)):=by
 simp only[C8,D9]
 grind
theorem Hc {α β:Type}(f:α→β):∀l:List α,l.flatMap (fun x=>[f x])=l.map f
 |[]=>rfl
 |x::l=>by rw[BL,Hc f l];rfl
theorem Mj {l:List A0}{j:Nat}(h:j<l.length):(l.map raw).getD j []=raw l[j]:=by
 rw[N1,W6,E2 h];rfl
theorem AT9 {y:Pr} {ag:A0} {b:A0} {l:List A0} (h:ag.dD=b::l):
 (if nt y.2.done=true then(C5 ag.dD 0).bind fun x11=>J2 (some ([(y.1,(⟨false,(⟨8,[y.2.p,x11],0,0,0,0,(⟨0,[],0,0,0,(⟨0,0,⟨#[]⟩⟩:A7)⟩:B0)⟩:A0)⟩:A6))],())) fun _=>some ([],.inl ())
  else J2 (some ([(y.1,y.2)],())) fun _=>J2 (some ([(y.1,(⟨false,ag⟩:A6))],())) fun _=>some ([],.inl ()):Option (List Pr×(Unit⊕Unit)))=some (rep ag y,.inl ()):=by
 unfold rep;rw[h]
 cases hy:y.2.done with
 |true=>simp[J2,Q5]
 |false=>simp[J2,Q5,C5];rfl
theorem QI (N:Nat)(x1 x2:A0)(n:Nat){l:List Pr}{b:A0}{k:List A0}(hb:x2.dD=b::k)(hp:M5 N n x1=some l):V1 N (n+1) x1 x2=some (l.flatMap (rep x2)):=by
 unfold V1;rw[hp];simp only[A4];rw[Gi (fun y=>rep x2 y) fun y _=>AT9 hb];simp[J2]
theorem AW1 {N:Nat} (hN:3≤N) (x:A0) (y:Pr) (h:Tu y.1 1000):
 (J2 ((if cmp .eql x.Op 7=true then(if y.2.done=true then(V2 N ([y.1.dH,[x.dE]])).bind fun r17=>some ([],(x.Op,{y.1 with dH:=r17}))else some ([],(x.Op,y.1)))
  else J2 ((if cmp .eql x.Op 5=true then some ([],true)else some ([],cmp .eql x.Op 9)):Option (List Pr×Bool)) fun s18=>
   if s18=true then(U7 N x y.1 y.2.done (cmp .eql x.Op 5)).bind fun r21=>some ([],(9,r21))
   else(U7 N x y.1 y.2.done (cmp .eql x.Op 6)).bind fun r22=>some ([],(10,r22))):Option (List Pr×(Int×D7))) fun s14=>
  J2 ((if nt y.2.done=true then(BC N x s14.1 y.2.p).bind fun r26=>some ([],{y.2 with p:=r26})else some ([],y.2)):Option (List Pr×A6)) fun s23=>
  J2 (some ([(s14.2,s23)],())) fun _=>some ([],.inl ()):Option (List Pr×(Unit⊕Unit)))=some ([inn x y],.inl ()):=by
 obtain⟨h1,h2,h3,h4,h5⟩:=id h;unfold inn Hz XU AR9 BC;simp only[C8,D9,Q5]
 by_cases h7:x.Op=7
 ·cases hy:y.2.done with
  |true=>
   rw[A2 h7,A2 rfl,AP0 hN _ _ (by simp;omega)];simp[J2,h7]
  |false=>
   rw[A2 h7,A1 (by simp)];simp[J2,h7]
 rw[A1 h7,A1 h7,A1 h7]
 by_cases h59:x.Op=5∨x.Op=9
 ·have e:((if x.Op=5 then some ([],true)else some ([],decide (x.Op=9))):Option (List Pr×Bool))=some ([],true):=by
   rcases h59 with h|h<;>simp[h]
  rw[e,A2 h59,A2 h59];simp only[J2,A4,C7,Ae5 hN _ _ _ _ h];cases hy:y.2.done<;>simp
 have e:((if x.Op=5 then some ([],true)else some ([],decide (x.Op=9))):Option (List Pr×Bool))=some ([],false):=by
  rw[not_or]at h59;simp_all
 rw[e,A1 h59,A1 h59];simp only[J2,A4,F6,E4,Ae5 hN _ _ _ _ h];cases hy:y.2.done<;>simp
theorem Ay6 {N:Nat} (hN:40000000≤N):∀(d:Nat) (x:A0) (n:Nat),x.dep≤d→d≤100→3*d≤n+2→x.bulk≤16777216→x.pre.length≤64→Good N x→M5 N n x=some (raw x):=by
 intro d
 induction d with
 |zero=>intro x n h;rw[A0.dep_eq]at h;omega
 | succ d ih=>
  intro x n hd hd100 hn hb hp hg;have hap:=It x;have hself:Ey N x=0:=hg x (by rw[A0.pre_eq];simp);have ha:=AG1 hN hb (by omega) hself
  have hrec:∀a∈x.dD,∀m,3*d≤m+2→M5 N m a=some (raw a):=fun a ham m hm=>by
   have:=Fy ham;have:=Ag ham;have:=Jp ham;exact ih a m (by omega) (by omega) hm (by omega) (by omega) (hg.arg ham)
  have hsz:∀a∈x.dD,∀y∈raw a,Tu y.1 1000:=fun a ham y hy=>(Zt d a (by have:=Jp ham;omega) y hy).mono (by omega);obtain⟨n,rfl⟩:∃m,n=m+1:=⟨n - 1,by omega⟩;rw[Si];unfold M5 Ab6
  by_cases h0:x.Op=0
  ·rw[A2 (OY h0),A2 h0];unfold CL;simp[J2];rfl
  rw[A1 (by rw[Ar8 h0];simp),A1 h0,or3];simp only[A4,D9];have hop:=ha.op
  have hd1:1≤d:=by
   have:x.dD≠[]:=by
    by_cases h3:x.Op≤3
    ·have:=ha.two (by omega) h3;grind
    by_cases h8:x.Op=8
    ·obtain⟨a,b,e⟩:=ha.more h8;rw[e];simp
    obtain⟨a,e⟩:=ha.one (by omega) h8;rw[e];simp
   obtain⟨a,hm⟩:=Qt _ this;have:=Jp hm;have:=A0.dep_eq a;omega
  obtain⟨n,rfl⟩:∃m,n=m+2:=⟨n - 2,by omega⟩
  by_cases h123:x.Op=1∨x.Op=2∨x.Op=3
  ·rw [A2 h123];have htwo:=ha.two (by omega) (by omega);unfold AK Z0
   by_cases h1:x.Op=1
   ·rw [A2 h1];rw[PN (s0:=(0:Int)) (st:=fun j=>(j:Int)) (f:=fun j=>(raw (x.dD.getD j zP)).map fun y=>(y.1,KO y.2 (x.dD.drop 1))) (w:=[]) (r:=(Sum.inr ():Unit⊕Unit)) (k:=1) rfl (by omega) ?_ ?_]
    ·match he:x.dD,htwo with
     |a::l,_=>simp[J2]
    ·intro j hj
     obtain rfl:j=0:=by omega
     match he:x.dD,htwo with
     | a::l,htwo=>
      have hm:a∈x.dD:=by rw[he];simp
      rw[A2 (by simp only[D1,B5];simp_all)];have e:C5 (a::l) ((0:Nat):Int)=some a:=rfl;rw[e];simp only[A4];rw[A1 (by simp[N7,CM]),hrec a hm n (by omega)];simp only[A4]
      rw[Gi (fun y=>[(y.1,KO y.2 l)]) fun y _=>by
       rw[A2 (OY h1),Ze (by simp)];simp only[A4,List.drop_succ_cons,IG];rw[AO8 _ _ _ (by rw[he]at hap;grind)]
       simp[J2]]
      simp[J2,Hc];exact Ks (i:=0) (by omega)
    rw[A2 (by simp only[D1,B5];grind)]
    have e:∃b,C5 x.dD ((1:Nat):Int)=some b:=by
     rw[G2,E2 (by omega)];simp_all
    obtain⟨b,e⟩:=e;rw[e];simp only[A4];rw[A2 (by simp[N7,CM,C8,h1])]
   rw[A1 h1]
   by_cases h2:x.Op=2
   ·rw[A2 h2];rw[PN (s0:=(0:Int)) (st:=fun j=>(j:Int)) (f:=fun j=>(x.dD.map raw).getD j []) (w:=[]) (r:=(Sum.inl ():Unit⊕Unit)) (k:=x.dD.length) rfl (by omega) ?_ ?_]
    ·simp[J2]
    ·intro j hj
     have e:C5 x.dD (j:Int)=some x.dD[j]:=by rw[G2,E2 hj]
     have hm:=O9 hj;simp only[e,A4];rw[A2 (by simp only[D1,B5];simp_all),A1 (by simp[N7,C8,h1]),hrec _ hm n (by omega)];simp only[A4]
     rw[Gi (fun y=>[y]) fun y _=>by
      rw[A1 (by simp[C8,h1]),A1 (by simp[C8,h2])]
      simp[J2]]
     rw[Mj hj,Hc (fun y=>y)];simp[J2,Ks (i:=j) (by omega)]
    rw[A1 (by simp[D1,B5])]
   have h3:x.Op=3:=by omega
   rw[A1 h2,A2 h3];rw[PN (s0:=(0:Int)) (st:=fun j=>(j:Int)) (f:=fun j=>((x.dD.map raw).getD j []).map fun y=>(y.1,OO x.dD j y.2)) (w:=[]) (r:=(Sum.inl ():Unit⊕Unit)) (k:=x.dD.length) rfl (by omega) ?_ ?_]
   ·simp[J2]
   ·intro j hj
    have e:C5 x.dD (j:Int)=some x.dD[j]:=by rw[G2,E2 hj]
    have hm:=O9 hj;simp only[e,A4];rw[A2 (by simp only[D1,B5];simp_all),A1 (by simp[N7,C8,h1]),hrec _ hm n (by omega)];simp only[A4]
    rw[Gi (fun y=>[(y.1,OO x.dD j y.2)]) fun y _=>by
     rw[A1 (by simp[C8,h1]),A2 (OY h3),AF2 _ _ _ _ hj (by omega)]
     simp[J2]]
    rw[Mj hj,Hc];simp[J2,Ks (i:=j) (by omega)]
   rw[A1 (by simp[D1,B5])]
  rw[A1 h123,A1 (show¬x.Op=1 by omega),A1 (show¬x.Op=2 by omega),A1 (show¬x.Op=3 by omega)];simp only[C8,D9]
  by_cases h4:x.Op=4
  ·rw[A2 h4,A2 h4];obtain⟨a,e⟩:=ha.one (by omega) (by omega)
   have e0:C5 x.dD 0=some a:=by rw[e];rfl
   rw[e0];simp only[A4];unfold U3;rw[QI N a x n (b:=a) (k:=[]) e (hrec a (by rw[e];simp) n (by omega))];rw[e];rfl
  rw[A1 h4,A1 h4]
  by_cases h8:x.Op=8
  ·rw[A2 h8,A2 h8];obtain⟨a,b,e⟩:=ha.more h8
   have e0:C5 x.dD 0=some a:=by rw[e];rfl
   have e1:Bg x.dD (some 1) (some 2) (some 2)=some [b]:=by rw[e];rfl
   rw[e0,e1];simp only[A4];unfold U3;rw[QI N a _ n (b:=b) (k:=[]) rfl (hrec a (by rw[e];simp) n (by omega))];rw[e];rfl
  rw[A1 h8,A1 h8];obtain⟨a,e⟩:=ha.one (by omega) (by omega)
  have e0:C5 x.dD 0=some a:=by rw[e];rfl
  have hma:a∈x.dD:=by rw[e];simp
  unfold Ci Bj;rw[e0];simp only[A4];rw[hrec a hma n (by omega)];simp only[A4];rw[Gi (fun y=>[inn x y]) fun y hy=>AW1 (by omega) x y (hsz a hma y hy)];rw[e,Hc];simp[J2]
end Go.Ab
namespace Go.Ab
structure Iu (B:Nat) (R:Nat) (y:Pr):Prop where
 from0:y.1.dQ=0
 to0:y.1.To=0
 done:y.2.done=true→y.2.p=zP
 cond:y.1.dE.bulk≤B
 checks:∀c∈y.1.dH,c.bulk≤B
 rest:y.2.p.bulk≤R
theorem Iu.mono {B R B' R':Nat}{y:Pr}(h:Iu B R y)(hB:B≤B')(hR:R≤R'):Iu B' R' y:=⟨h.from0,h.to0,h.done,Nat.le_trans h.cond hB,fun c hc=>Nat.le_trans (h.checks c hc) hB,Nat.le_trans h.rest hR⟩
theorem Ac9 :zE.bulk=10:=by simp[zE,B0.bulk,B0.bulks,ByteArray.size]
theorem OD (op:Int)(l:List A0):(nd op l).bulk=A0.bulks l+16:=by rw[A0.bulk_eq];simp only[nd,Ac9]
theorem Ac8 :zP.bulk=17:=by rw[A0.bulk_eq];simp only[zP,Ac9,A0.bulks]
theorem SG (op:Int)(l:List A0):(SH op l).bulk≤A0.bulks l+16:=by
 match l with
 |[]=>simp only[SH,OD];omega
 |[x]=>grind [SH,A0.bulks]
 |x::y::l=>simp only[SH,OD];omega
theorem Qc :∀(l m:List A0),A0.bulks (l++m)+1=A0.bulks l+A0.bulks m
 |[],m=>by grind [A0.bulks]
 |a::l,m=>by have:=Qc l m;grind [A0.bulks]
theorem KA (l:List A0)(i:Nat):A0.bulks (l.take i)+A0.bulks (l.drop i)=A0.bulks l+1:=by rw[←Qc,Gb]
theorem UR (l:List A0):1≤A0.bulks l:=by
 cases l with
 |nil=>simp[A0.bulks]
 |cons a l=>have:=Mu a;grind [A0.bulks]
theorem UQ :∀(l:List A0) (i:Nat) (p:A0),A0.bulks (l.set i p)≤A0.bulks l+p.bulk
 |[],i,p=>by simp_all
 |a::l,0,p=>by grind [A0.bulks]
 |a::l,i+1,p=>by have:=UQ l i p;grind [A0.bulks]
theorem Ab3 (r:A6)(more:List A0):(KO r more).done=true→(KO r more).p=zP:=by
 unfold KO
 split
 ·intro;rfl
 simp_all
theorem Ab4 (r:A6)(more:List A0):(KO r more).p.bulk≤r.p.bulk+A0.bulks more+16:=by
 have h0:=UR more;unfold KO
 split
 ·simp only[Ym,Ac8];omega
 rename_i l h;have:=SG 1 (if r.done=true then more else r.p::more)
 grind [A0.bulks]
theorem ZQ (args:List A0) (i:Nat) (r:A6):(OO args i r).p.bulk≤r.p.bulk+A0.bulks args+17:=by
 unfold OO
 simp only
 refine O8 (SG _ _) ?_
 split
 ·have h1:=KA args i;have h2:=KA args (i+1);have h0:=Qc (args.take i) (args.drop (i+1))
  have h3:A0.bulks (args.take i)≤A0.bulks (args.take (i+1)):=by
   have:args.take i=(args.take (i+1)).take i:=by rw[List.take_take];grind
   rw[this];have:=KA (args.take (i+1)) i;have:=UR ((args.take (i+1)).drop i);omega
  omega
 have:=UQ args i r.p;omega
theorem Ax9 :∀(d:Nat) (x:A0),x.dep≤d→∀y∈raw x,Iu x.bulk (x.dep*(x.bulk+30)) y:=by
 intro d
 induction d with
 |zero=>intro x h;rw[A0.dep_eq]at h;omega
 | succ d ih=>
  intro x hd y hy
  rw[Si]at hy
  have hdx:=A0.dep_eq x;have hxb:=A0.bulk_eq x
  have key:∀a∈x.dD,a.dep*(a.bulk+30)+(x.bulk+30)≤x.dep*(x.bulk+30):=fun a ha=>by
   have h1:=Jp ha;have h2:=Fy ha;have h3:a.dep*(a.bulk+30)≤(x.dep - 1)*(x.bulk+30):=Ba (by omega) (by omega)
   have h4:(x.dep - 1)*(x.bulk+30)+(x.bulk+30)=x.dep*(x.bulk+30):=by
    obtain⟨k,hk⟩:∃k,x.dep=k+1:=⟨x.dep - 1,by omega⟩;rw[hk];grind
   omega
  have one:x.bulk+30≤x.dep*(x.bulk+30):=by
   have:1*(x.bulk+30)≤x.dep*(x.bulk+30):=Ba (by omega) (C4 _);omega
  have hrec:∀a∈x.dD,∀y∈raw a,Iu x.bulk (a.dep*(a.bulk+30)) y:=fun a ha y hy=>(ih a (by have:=Jp ha;omega) y hy).mono (by have:=Fy ha;omega) (C4 _)
  have hrep:∀(ag:A0),ag.bulk≤x.bulk+16→∀a∈x.dD,∀z∈raw a,∀b∈x.dD,(∃l,ag.dD=b::l)→∀y∈rep ag z,Iu x.bulk (x.dep*(x.bulk+30)) y:=fun ag hag a ha z hz b hb hl y hy=>by
   have hk:=key a ha;have h:=hrec a ha z hz
   unfold rep at hy
   split at hy
   ·rcases List.mem_cons.1 hy with rfl|hy
    ·exact h.mono (C4 _) (by omega)
    rw[List.mem_singleton.1 hy];exact⟨h.from0,h.to0,fun h=>(by cases h),h.cond,h.checks,by grind⟩
   obtain⟨l,hl⟩:=hl
   rw[hl]at hy
   rw[List.mem_singleton.1 hy];refine⟨h.from0,h.to0,fun h=>(by cases h),h.cond,h.checks,?_⟩;have h1:=h.rest;have h2:=Fy hb;simp only[OD,A0.bulks];omega
  unfold Ab6 at hy
  split at hy
  ·rw[List.mem_singleton.1 hy];refine⟨rfl,rfl,fun _=>rfl,by grind,fun c hc=>by simp at hc,?_⟩;simp only[Ym,Ac8];omega
  split at hy
  ·obtain⟨z,hz,rfl⟩:=List.mem_map.1 hy;obtain⟨a,ha,hz⟩:=Ai hz;have h:=hrec a ha z hz;refine⟨h.from0,h.to0,Ab3 _ _,h.cond,h.checks,?_⟩;have h1:=Ab4 z.2 (x.dD.drop 1);have h2:=KA x.dD 1;have h3:=key a ha;have h4:=h.rest
   grind
  split at hy
  ·obtain⟨i,_,hz⟩:=List.mem_flatMap.1 hy;obtain⟨a,ha,hz⟩:=FC hz;exact(hrec a ha y hz).mono (C4 _) (by have:=key a ha;omega)
  split at hy
  ·obtain⟨i,_,hz⟩:=List.mem_flatMap.1 hy;obtain⟨z,hz2,rfl⟩:=List.mem_map.1 hz;obtain⟨a,ha,hz⟩:=FC hz2;have h:=hrec a ha z hz;refine⟨h.from0,h.to0,fun h=>by simp[OO]at h,h.cond,h.checks,?_⟩;have h1:=ZQ x.dD i z.2;have h3:=key a ha;have h4:=h.rest
   grind
  split at hy
  ·rename_i h4;obtain⟨z,hz,hy⟩:=List.mem_flatMap.1 hy
   match he:x.dD,hz with
   |[],hz=>simp at hz
   |a::l,hz=>grind
  split at hy
  ·obtain⟨z,hz,hy⟩:=List.mem_flatMap.1 hy
   match he:x.dD,hz with
   |[],hz=>simp at hz
   | [a],hz=>
    have ha:a∈x.dD:=by rw[he];simp
    have h:=hrec a ha z (by grind)
    rw[he]at hy
    unfold rep at hy
    split at hy
    ·rcases List.mem_cons.1 hy with rfl|hy
     ·exact h.mono (C4 _) (by have:=key a ha;omega)
     rw[List.mem_singleton.1 hy];refine⟨h.from0,h.to0,fun h=>(by cases h),h.cond,h.checks,?_⟩;simp only[OD,List.drop_succ_cons,KV,A0.bulks];omega
    simp[nd]at hy
   |a::b::l,hz=>
    have hb:A0.bulks x.dD=a.bulk+(b.bulk+A0.bulks l):=by rw[he];rfl
    rw[he]at hy
    exact hrep (nd 4 (b::l)) (by simp only[OD,A0.bulks];omega) a (by rw[he];simp) z (by grind) b (by rw[he];simp) ⟨l,rfl⟩ y hy
  obtain⟨z,hz,rfl⟩:=List.mem_map.1 hy;obtain⟨a,ha,hz⟩:=Ai hz;have h:=hrec a ha z hz;have hk:=key a ha;have hr:=h.rest;refine⟨?_,?_,?_,?_,?_,?_⟩
  ·simp only[inn,Hz];split
   ·split
    ·exact h.from0
    exact h.from0
   exact h.from0
  ·simp only[inn,Hz];split
   ·split
    ·exact h.to0
    exact h.to0
   exact h.to0
  ·simp only[inn,XU];split
   ·exact h.done
   simp_all
  ·simp only[inn,Hz];split
   ·split
    ·exact h.cond
    exact h.cond
   exact h.cond
  ·simp only[inn,Hz];split
   ·split
    ·intro c hc
     rcases List.mem_append.1 hc with hc|hc
     ·exact h.checks c hc
     grind
    exact h.checks
   exact h.checks
  simp only[inn,XU];split
  ·omega
  simp only
  rw[A0.bulk_eq];simp only[A0.bulks];omega
def Vd {α:Type}[DecidableEq α](l:List α)(x:α):List α:=if x∈l then l else l++[x]
def dd {α:Type}[DecidableEq α](l:List α):List α:=l.foldl Vd []
section
variable {α:Type}[DecidableEq α]
theorem Ad2 {l:List α}{x y:α}:y∈Vd l x↔y∈l∨y=x:=by
 grind [Vd]
theorem Nk {y:α}:∀{l m:List α},y∈l.foldl Vd m↔y∈m∨y∈l
 |[],m=>by simp
 |x::l,m=>by
  simp only[EV,Nk,Ad2,Dy]
  grind
theorem Wb {l:List α}{y:α}:y∈dd l↔y∈l:=by simp[dd,Nk]
theorem Ai8 (l:List α)(x:α):dd (l++[x])=Vd (dd l) x:=by grind [dd]
theorem AW9 (l m:List α):dd (l++m)=m.foldl Vd (dd l):=by simp[dd]
end
end Go.Ab
namespace Go.Ab
theorem Yg {α:Type}[DecidableEq α]{N:Nat}(l m:List α)(hl:l.length=m.length)(hs:l.length<1000000000000)(t:α→α→Bool)(ht:∀x y,t x y= !decide (x=y))(hN:l.length<N):
 loopN (fun(i:Int)=>if cmp .lss i (Ar.len l)=true then(C5 l i).bind fun x=>(C5 m i).bind fun y=>if t x y=true then some (Sum.inr (Sum.inr (α:=Unit) ()))else some (.inl (ar .add .i64 i 1))else some (.inr (.inl ()))) N 0=some (if l=m then .inl ()else .inr ()):=by
 have:=RB l m hl hs (fun x y=>some (decide (x=y))) (fun _ _ _ _=>rfl) hN;rw[←this]
 congr 1
 funext i
 simp only[A4,ht,Q5]
theorem Aq6 {a b:As}:a=b↔a.dG=b.dG∧a.Span=b.Span:=by cases a;cases b;simp
theorem Aa4 {N:Nat} (l m:List Int) (hs:l.length<1000000) (hN:l.length<N):K2 N l m=some (decide (l=m)):=by
 unfold K2
 by_cases hl:l.length=m.length
 ·rw[A1 (by simp[H8,B5,hl]),Yg l m hl (by omega) (fun x y=>cmp .neq x y) (fun x y=>rfl) hN]
  by_cases h:l=m<;>simp[h]
 rw[A2 (by simp only[H8,B5,Z7,Bd];omega),R8 fun e=>hl (by rw[e])]
theorem AW5 {N:Nat} (l m:List As) (hs:l.length<1000000) (hN:l.length<N):O5 N l m=some (decide (l=m)):=by
 unfold O5
 by_cases hl:l.length=m.length
 ·rw[A1 (by simp[H8,B5,hl]),Yg l m hl (by omega) (fun x y=>nt (an (cmp .eql x.dG y.dG) (an (cmp .eql x.Span y.Span) true))) (fun x y=>by
   simp only[Q5,N7,C8,ET,Aq6,KY]) hN]
  by_cases h:l=m<;>simp[h]
 rw[A2 (by simp only[H8,B5,Z7,Bd];omega),R8 fun e=>hl (by rw[e])]
theorem AW6 {N:Nat} (hN:40000000≤N) (l m:List B0) (hs:l.length<1000000) (hb:∀c∈l,c.bulk≤16777216):J8 N l m (fun y1 y2=>Ch N N y1 y2)=some (decide (l=m)):=by
 unfold J8
 by_cases hl:l.length=m.length
 ·rw[A1 (by simp[H8,B5,hl]),RB l m hl (by omega) _ (fun x hx y _=>by rw[JN];exact Ui hN N x y (by have:=hb x hx;omega) (hb x hx)) (by omega)]
  by_cases h:l=m<;>simp[h]
 rw[A2 (by simp only[H8,B5,Z7,Bd];omega),R8 fun e=>hl (by rw[e])]
theorem SQ {a b:D7}:a=b↔(a.dQ=b.dQ∧a.To=b.To)∧((a.Var=b.Var∧a.Typ=b.Typ)∧a.dE=b.dE∧a.dM=b.dM∧a.dJ=b.dJ∧a.dH=b.dH∧a.dN=b.dN∧a.dL=b.dL):=by
 cases a;cases b;grind
theorem NU {p:Prop}[Decidable p]{q:Prop}[Decidable q]{F:Option Bool}(hF:F=some (decide q)):(if p then F else some false)=some (decide (p∧q)):=by
 by_cases h:p<;>simp[h,hF]
theorem Xd {N:Nat}(hN:40000000≤N)(a b:D7)(hs:Tu a 1000)(hc:a.dE.bulk≤16777216)(hk:∀c∈a.dH,c.bulk≤16777216):AJ N a b=some (decide ((a.Var=b.Var∧a.Typ=b.Typ)∧a.dE=b.dE∧a.dM=b.dM∧a.dJ=b.dJ∧a.dH=b.dH∧a.dN=b.dN∧a.dL=b.dL)):=by
 obtain⟨h1,h2,h3,h4,h5⟩:=hs;unfold AJ;rw[JN,Ui hN N a.dE b.dE (by omega) hc,Aa4 a.dM b.dM (by omega) (by omega),Aa4 a.dJ b.dJ (by omega) (by omega),AW6 hN a.dH b.dH (by omega) hk,AW5 a.dN b.dN (by omega) (by omega),Aa4 a.dL b.dL (by omega) (by omega)];simp only[A4,N7,C8,F3,D9];rw[NU (NU (NU (NU (NU (NU rfl)))))]
theorem NT {α:Type} {N:Nat} (l:List α) (hs:l.length<1000000000000) (f:α→Option Bool) (P:α→Bool) (hf:∀x∈l,f x=some (P x)) (hN:l.length<N):
 loopN (fun(i:Int)=>if cmp .lss i (Ar.len l)=true then(C5 l i).bind fun x=>(f x).bind fun r=>if r=true then some (Sum.inr (Sum.inr (α:=Unit) i))else some (.inl (ar .add .i64 i 1))else some (.inr (.inl ()))) N 0=some (match l.findIdx? P with|none=>.inl ()|some i=>.inr (i:Int)):=by
 obtain⟨r,h1,h2⟩:=OL (step:=fun(i:Int)=>if cmp .lss i (Ar.len l)=true then(C5 l i).bind fun x=>(f x).bind fun r=>if r=true then some (Sum.inr (Sum.inr (α:=Unit) i))else some (.inl (ar .add .i64 i 1))else some (.inr (.inl ())))
  (fun j s=>s=(j:Int)∧∀i (h:i<l.length),i<j→P l[i]=false) (fun r=>r=match l.findIdx? P with|none=>.inl ()|some i=>.inr (i:Int)) l.length 0 0 N hN ⟨rfl,fun i h h2=>by omega⟩
  (fun j s _ hj ⟨e,ht⟩=>by
   subst e
   simp only[Q0]at hj
   have e1:l[j]? =some l[j]:=by simp[hj]
   simp only[D1,B5,show((j:Int)<(l.length:Int)) by omega,I6,C7,G2,e1,A4,hf _ (O9 hj)]
   cases h:P l[j]with
   | true=>
    refine⟨_,rfl,?_⟩
    have:l.findIdx? P=some j:=by
     rw[List.findIdx?_eq_some_iff_getElem]
     simp_all
    rw[this]
   |false=>
    refine⟨_,rfl,Ks (by omega),fun i hi h2=>?_⟩
    grind)
  (fun s ⟨e,ht⟩=>by
   subst e
   simp only[Q0]at ht ⊢
   refine⟨.inl (),by simp[D1,B5],?_⟩
   have:l.findIdx? P=none:=by
    rw[List.findIdx?_eq_none_iff];intro x hx;obtain⟨i,hi,rfl⟩:=N0 hx
    simp_all
   rw[this])
 rw[h1,h2]
def Iz {α:Type}(P:α→Bool)(l:List α):Int:=match l.findIdx? P with|none=> -1|some i=>(i:Int)
theorem Ap9 {N:Nat}(l:List A0)(hs:l.length<1000000000000)(f:A0→Option Bool)(P:A0→Bool)(hf:∀x∈l,f x=some (P x))(hN:l.length<N):M0 N l f=some (Iz P l):=by
 unfold M0 Iz;rw[NT l hs f P hf hN];cases l.findIdx? P<;>rfl
theorem Aq0 {N:Nat}(l:List D7)(hs:l.length<1000000000000)(f:D7→Option Bool)(P:D7→Bool)(hf:∀x∈l,f x=some (P x))(hN:l.length<N):Q8 N l f=some (Iz P l):=by
 unfold Q8 Iz;rw[NT l hs f P hf hN];cases l.findIdx? P<;>rfl
theorem BB {α:Type}{P:α→Bool}{l:List α}:0≤Iz P l↔∃x∈l,P x=true:=by
 grind [Iz]
theorem AD0 {α:Type}{P:α→Bool}{l:List α}(h:¬∃x∈l,P x=true):Iz P l= -1:=by
 grind [Iz]
theorem Ai1 {α:Type} {P:α→Bool} {l:List α} (h:∃x∈l,P x=true):∃(i:Nat) (hi:i<l.length),Iz P l=i∧P l[i]=true:=by
 have h2:=BB.2 h
 unfold Iz at h2 ⊢
 cases hf:l.findIdx? P with
 |none=>rw[hf]at h2;simp at h2
 |some i=>
  obtain⟨hi,hp,_⟩:=List.findIdx?_eq_some_iff_getElem.1 hf
  grind
theorem AD1 {α:Type}{P:α→Bool}{l m:List α}(h:∃x∈l,P x=true):Iz P (l++m)=Iz P l:=by
 have h2:=BB.2 h
 grind [Iz]
theorem Aq2 {α:Type}{P:α→Bool}{l:List α}{x:α}(h:¬∃x∈l,P x=true)(hx:P x=true):Iz P (l++[x])=l.length:=by
 grind [Iz]
noncomputable abbrev VP (l:List A0)(p:A0):Int:=Iz (fun q=>decide (p=q)) l
theorem OW {l:List A0}{p:A0}:(∃x∈l,decide (p=x)=true)↔p∈l:=by
 simp_all
theorem MY {N:Nat}(hN:40000000≤N)(l:List A0)(p:A0)(hl:l.length≤1000000)(hp:p.bulk≤16777216):Ad N l p=some (VP l p):=by
 unfold Ad;rw[Ap9 l (by omega) _ (fun q=>decide (p=q)) (fun x _=>by unfold Bk;rw[Ba5 hN N p x (by omega) hp];rfl) (by omega)];rfl
theorem AC9 {l:List A0} {p q:A0} (hp:p∈l) (h:VP l p=VP l q):p=q:=by
 have hq:q∈l:=by
  rw[←OW];rw[←BB];grind [Iz]
 obtain⟨i,hi,e1,e2⟩:=Ai1 (OW.2 hp);obtain⟨j,hj,e3,e4⟩:=Ai1 (OW.2 hq)
 have:i=j:=by rw[show VP l p=Iz (fun q=>decide (p=q)) l from rfl,e1,show VP l q=Iz (fun r=>decide (q=r)) l from rfl,e3]at h;omega
 simp_all
noncomputable def FU (l:List A0)(y:Pr):List A0:=if y.2.done=true then l else Vd l y.2.p
noncomputable def Y3 (w:List Pr):List A0:=w.foldl FU []
noncomputable def Pz (l:List A0)(r:A6):Int:=if r.done=true then -1 else VP l r.p
noncomputable def eg (l:List A0)(y:Pr):D7:={y.1 with To:=Pz l y.2}
theorem Ge (w:List Pr)(y:Pr):Y3 (w++[y])=FU (Y3 w) y:=by simp[Y3]
theorem An4 {l:List A0}{y:Pr}{p:A0}(h:p∈l):p∈FU l y:=by unfold FU;grind [Vd]
theorem An5 {l:List A0}{y:Pr}(h:¬y.2.done=true):y.2.p∈FU l y:=by unfold FU;rw[A1 h];grind [Vd]
theorem KL {p:A0}:∀{w:List Pr} {l:List A0},p∈l→p∈w.foldl FU l
 |[],l,h=>h
 |y::w,l,h=>KL (w:=w) (An4 h)
theorem JP {w:List Pr} {y:Pr} (hy:y∈w) (h:¬y.2.done=true):y.2.p∈Y3 w:=by
 have key:∀(w:List Pr) (l:List A0),y∈w→y.2.p∈w.foldl FU l:=fun w=>by
  induction w with
  |nil=>simp_all
  |cons z w ih=>
   intro l hy
   rcases List.mem_cons.1 hy with rfl|hy
   ·exact KL (l:=FU l y) (An5 h)
   simp_all
 grind [Y3]
theorem An8 {w:List Pr} {p:A0} (h:p∈Y3 w):∃y∈w,¬y.2.done=true∧y.2.p=p:=by
 have key:∀(w:List Pr) (l:List A0),p∈w.foldl FU l→p∈l∨∃y∈w,¬y.2.done=true∧y.2.p=p:=fun w=>by
  induction w with
  |nil=>simp_all
  | cons z w ih=>
   intro l hy
   rcases ih _ hy with h|⟨y,hy,h⟩
   ·unfold FU at h
    split at h
    ·exact .inl h
    rename_i hd
    rcases Ad2.1 h with h|rfl
    ·exact .inl h
    simp_all
   grind
 rcases key w [] h with h|h
 ·simp at h
 exact h
def TW (N:Nat)(w:List Pr):Prop:=2048<(dd w).length∨∃y∈w,y.2.done=false∧N8 N y.2.p≠0
noncomputable instance (N:Nat)(w:List Pr):Decidable (TW N w):=Classical.propDecidable _
theorem Yn (w v:List Pr):(dd w).length≤(dd (w++v)).length:=by
 rw[AW9]
 have key:∀(v l:List Pr),l.length≤(v.foldl Vd l).length:=fun v=>by
  induction v with
  |nil=>simp_all
  |cons x v ih=>
   intro l;refine O8 ?_ (ih (Vd l x));unfold Vd;split<;>simp
 grind
theorem TW.mono {N:Nat}{w v:List Pr}(h:TW N w):TW N (w++v):=by
 rcases h with h|⟨y,hy,h⟩
 ·left;have:=Yn w v;omega
 right;grind
structure Tr (N:Nat) (w:List Pr) (s:List A0×List D7):Prop where
 rs:s.1=Y3 w
 es:s.2=(dd w).map (eg (Y3 w))
 ok:¬TW N w
 len:(Y3 w).length≤(dd w).length
theorem WE {l:List A0}{r:A6}{y:Pr}(h:¬r.done=true→r.p∈l):Pz (FU l y) r=Pz l r:=by
 unfold Pz
 by_cases hd:r.done=true
 ·rw[A2 hd,A2 hd]
 rw[A1 hd,A1 hd];unfold FU
 split
 ·rfl
 unfold Vd
 split
 ·rfl
 exact AD1 (OW.2 (h hd))
theorem AW7 {l:List A0} {y z:Pr} {B R:Nat} (hy:Iu B R y) (hz:Iu B R z) (hly:¬y.2.done=true→y.2.p∈l) (hlz:¬z.2.done=true→z.2.p∈l) (h:eg l y=eg l z):y=z:=by
 have h1:y.1=z.1:=by
  rw[SQ]at h ⊢
  obtain⟨_,h⟩:=h;exact⟨⟨by rw[hy.from0,hz.from0],by rw[hy.to0,hz.to0]⟩,h⟩
 have ht:Pz l y.2=Pz l z.2:=(SQ.1 h).1.2
 have hx:∀a b:A6,a.done=b.done→a.p=b.p→a=b:=fun a b h1 h2=>by cases a;simp_all
 have h2:y.2=z.2:=by
  unfold Pz at ht
  by_cases hdy:y.2.done=true<;>by_cases hdz:z.2.done=true
  ·exact hx _ _ (by rw[hdy,hdz]) (by rw[hy.done hdy,hz.done hdz])
  ·rw[A2 hdy,A1 hdz]at ht
   have:=BB.2 (OW.2 (hlz hdz))
   grind
  ·rw[A1 hdy,A2 hdz]at ht
   have:=BB.2 (OW.2 (hly hdy))
   simp_all
  rw[A1 hdy,A1 hdz]at ht
  exact hx _ _ (by rw[GH]at hdy hdz;rw[hdy,hdz]) (AC9 (hly hdy) ht)
 grind
noncomputable def Ai7 (N:Nat) (s9:List A0×List D7) (y8:D7×A6):Option ((List A0×List D7)⊕(List A0×List D7×Int)):=
 ((if nt y8.2.done=true then(Ad N s9.1 y8.2.p).bind fun r17=>if cmp .lss r17 0=true then(R0 N y8.2.p).bind fun r18=>if cmp .neq r18 0=true then some (.inr ({y8.1 with To:=r17},17))else(N6 s9.1 ([y8.2.p])).bind fun l20=>some (.inl ({y8.1 with To:=Ar.len s9.1},l20))else some (.inl ({y8.1 with To:=r17},s9.1))else some (.inl ({y8.1 with To:=(-1)},s9.1))):Option ((D7×(List A0))⊕(D7×Int))).bind fun s16=>
  match s16 with
  | .inl y21=>
   (I9 N s9.2 (fun y1=>M7 N y1 y21.1)).bind fun r23=>
   if r23=true then
    some (.inl (y21.2,s9.2))
   else
    (N6 s9.2 ([y21.1])).bind fun l25=>
    if cmp .gtr (Ar.len l25) 2048=true then
     some (.inr (y21.2,l25,17))
    else
     some (.inl (y21.2,l25))
  | .inr y26=>
   some (.inr (s9.1,s9.2,y26.2))
theorem Ys {N:Nat} (hN:40000000≤N) (l:List D7) (e:D7) (hl:l.length≤1000000) (hs:Tu e 1000) (hc:e.dE.bulk≤16777216) (hk:∀c∈e.dH,c.bulk≤16777216) (hf:∀y∈l,e.dQ=y.dQ):I9 N l (fun y1=>M7 N y1 e)=some (decide (e∈l)):=by
 unfold I9
 rw[Aq0 l (by omega) _ (fun y=>decide (e=y)) (fun y hy=>by
  unfold M7;rw[Xd hN e y hs hc hk];simp only[A4,C8,D9];rw[NU rfl]
  congr 1
  rw[decide_eq_decide,SQ]
  grind) (by omega)]
 simp only[A4,R6]
 congr 1
 rw[decide_eq_decide,BB]
 simp_all
theorem AF1 {N:Nat} (hN:40000000≤N) {w:List Pr} {s:List A0×List D7} (hI:Tr N w s) (y:Pr) (hy:Iu 16777216 16777216 y) (hw:∀z∈w,Iu 16777216 16777216 z) (hs:Tu y.1 1000):
 ∃o,Ai7 N s y=some o∧(match o with| .inl s'=>Tr N (w++[y]) s'| .inr q=>q.2.2=17∧TW N (w++[y])):=by
 obtain⟨hrs,hes,hok,hlen⟩:=hI
 have hD:(dd w).length≤2048:=by
  rcases O0 2048 (dd w).length with h|h
  ·exact absurd (.inl h) hok
  exact h
 have hdw:∀z∈dd w,z∈w:=fun z hz=>Wb.1 hz
 have key:N8 N y.2.p=0∨y.2.done=true→∀(T:Int) (L:List A0),L=Y3 (w++[y])→T=Pz (Y3 (w++[y])) y.2→∃o,((I9 N s.2 (fun y1=>M7 N y1 {y.1 with To:=T})).bind fun r23=>if r23=true then some (Sum.inl (L,s.2))else(N6 s.2 ([{y.1 with To:=T}])).bind fun l25=>if cmp .gtr (Ar.len l25) 2048=true then some (.inr (L,l25,(17:Int)))else some (.inl (L,l25)))=some o∧(match o with| .inl s'=>Tr N (w++[y]) s'| .inr q=>q.2.2=17∧TW N (w++[y])):=by
  intro hgood T L hL hT;subst hL;subst hT
  have hE:s.2=(dd w).map (eg (Y3 (w++[y]))):=by
   rw[hes,Ge];apply BM;intro z hz;unfold eg;rw[WE fun h=>JP (hdw z hz) h]
  have hin:eg (Y3 (w++[y])) y∈s.2↔y∈dd w:=by
   rw[hE,BI]
   constructor
   ·rintro⟨z,hz,h⟩;have:=AW7 (hw z (hdw z hz)) hy (fun h=>JP (by grind) h) (fun h=>JP (by simp) h) h;rw[←this];exact hz
   grind
  have hlE:s.2.length=(dd w).length:=by rw[hE,G5]
  change ∃o,((I9 N s.2 (fun y1=>M7 N y1 (eg (Y3 (w++[y])) y))).bind _)=_∧_
  rw[Ys hN s.2 (eg (Y3 (w++[y])) y) (by omega) hs hy.cond hy.checks (fun z hz=>by
   rw[hE]at hz
   obtain⟨v,hv,rfl⟩:=List.mem_map.1 hz;simp only[eg]
   rw[hy.from0,(hw v (hdw v hv)).from0])]
  simp only[A4,D9]
  have hnb:¬∃v∈w++[y],v.2.done=false∧N8 N v.2.p≠0:=by
   rintro⟨v,hv,h1,h2⟩
   rcases List.mem_append.1 hv with hv|hv
   ·exact hok (.inr ⟨v,hv,h1,h2⟩)
   simp_all
  by_cases hyD:y∈dd w
  ·have hdd:dd (w++[y])=dd w:=by rw[Ai8];unfold Vd;rw[A2 hyD]
   have hrr:Y3 (w++[y])=Y3 w:=by
    rw[Ge];unfold FU
    split
    ·rfl
    rename_i hd;unfold Vd;rw[A2 (JP (hdw y hyD) hd)]
   rw[A2 (hin.2 hyD)];refine⟨_,rfl,rfl,?_,?_,?_⟩
   ·rw[hdd];exact hE
   ·rintro(h|h)
    ·rw[hdd]at h;omega
    grind
   simp_all
  have hdd:dd (w++[y])=dd w++[y]:=by rw[Ai8];unfold Vd;rw[A1 hyD]
  rw[A1 fun h=>hyD (hin.1 h),U8 (by simp;omega)];simp only[A4]
  by_cases hbig:2048<(dd w).length+1
  ·rw[A2 (BX (by simp only[B5,K7,J7,T7,hlE];omega))];refine⟨_,rfl,rfl,.inl ?_⟩;rw[hdd];simp;omega
  rw[A1 (An (by simp only[B5,K7,J7,T7,hlE];omega))];refine⟨_,rfl,rfl,?_,?_,?_⟩
  ·simp only[hdd,Z5,D8,H7];rw[hE];rfl
  ·rintro(h|h)
   ·rw[hdd]at h;grind
   grind
  rw[hdd,Ge];unfold FU
  split
  ·simp;omega
  unfold Vd;grind
 unfold Ai7
 by_cases hd:y.2.done=true
 ·rw[A1 (by simp[Q5,hd])];simp only[A4]
  have hrr:Y3 (w++[y])=Y3 w:=by rw[Ge];simp_all[FU]
  exact key (.inr hd) (-1) s.1 (by rw[hrs,hrr]) (by simp_all[Pz])
 rw[A2 (by simp[Q5,hd]),hrs,MY hN _ _ (by omega) hy.rest];simp only[A4,D1]
 by_cases hin:y.2.p∈Y3 w
 ·have h0:=BB.2 (OW.2 hin);rw[A1 (by rw[D9];simp_all)];simp only[A4]
  have hrr:Y3 (w++[y])=Y3 w:=by rw[Ge];unfold FU Vd;rw[A1 hd,A2 hin]
  obtain⟨v,hv,hvd,hvp⟩:=An8 hin
  have hgood:N8 N y.2.p=0:=by
   by_cases h:N8 N y.2.p=0
   ·exact h
   exact absurd (.inr ⟨v,hv,by grind,by rw[hvp];exact h⟩) hok
  exact key (.inl hgood) _ _ (by rw[hrr]) (by rw[hrr];simp_all[Pz])
 rw[A2 (by rw[D9];simp only[VP];rw[AD0 fun h=>hin (OW.1 h)];omega),Vy hN hy.rest];simp only[A4]
 by_cases hgood:N8 N y.2.p=0
 ·rw[A1 (T5 hgood),U8 (by simp;omega)];simp only[A4]
  have hrr:Y3 (w++[y])=Y3 w++[y.2.p]:=by rw[Ge];unfold FU Vd;rw[A1 hd,A1 hin]
  exact key (.inl hgood) _ _ hrr.symm (by rw[hrr];unfold Pz;rw[A1 hd];simp only[VP];rw[Aq2 (fun h=>hin (OW.1 h)) (by simp)];rfl)
 rw[A2 (W0 hgood)];exact⟨_,rfl,rfl,.inr ⟨y,by simp,by grind,hgood⟩⟩
theorem UJ {N:Nat} (hN:40000000≤N):∀(v w:List Pr) (s:List A0×List D7),Tr N w s→(∀z∈w++v,Iu 16777216 16777216 z∧Tu z.1 1000)→∃o,K9 (Ai7 N) v s=some o∧(match o with| .inl s'=>Tr N (w++v) s'| .inr q=>q.2.2=17∧TW N (w++v))
 |[],w,s,hI,_=>⟨_,rfl,by grind⟩
 | y::v,w,s,hI,h=>by
  obtain⟨o,h1,h2⟩:=AF1 hN hI y (h y (by simp)).1 (fun z hz=>(h z (by simp[hz])).1) (h y (by simp)).2;unfold K9;rw[h1]
  cases o with
  |inl s'=>
   have:=UJ hN v (w++[y]) s' h2 (fun z hz=>h z (by grind))
   simp_all
  |inr q=>
   refine⟨_,rfl,h2.1,?_⟩;have:=h2.2.mono (v:=v)
   simp_all
noncomputable def Pc (N:Nat)(w:List Pr):List D7×List A0×Int:=if TW N w then([],[],17)else((dd w).map (eg (Y3 w)),Y3 w,0)
theorem Aa9 {N:Nat} (hN:40000000≤N) {x:A0} (hb:x.bulk≤1100000) (hz:N8 N x=0):Ae N x=some (Pc N (raw x)):=by
 have hp:x.pre.length≤64:=by
  grind [N8]
 have hd:¬12<x.dep:=fun h=>by rw[N8,A1 (by omega),A2 h]at hz;cases hz
 have hg:Good N x:=by
  rw[N8,A1 (by omega),A1 hd]at hz
  exact Fk.1 hz
 unfold Ae;rw[Ay6 hN x.dep x N (C4 _) (by omega) (by omega) (by omega) hp hg];simp only[A4]
 obtain⟨o,h1,h2⟩:=UJ hN (raw x) [] ([],[]) ⟨rfl,rfl,by rintro(h|⟨y,hy,_⟩);simp[dd]at h;simp at hy,by simp[Y3]⟩ (fun z hz=>by
  have hz:z∈raw x:=by grind
  have h1:=Ax9 x.dep x (C4 _) z hz;have h2:=Zt x.dep x (C4 _) z hz;have h3:x.dep*(x.bulk+30)≤12*(1100000+30):=Ba (by omega) (by omega)
  exact⟨h1.mono (by omega) (by omega),h2.mono (by omega)⟩)
 change ((K9 (Ai7 N) (raw x) ([],[])).bind _)=_
 rw[h1];unfold Pc
 cases o with
 |inl s'=>
  simp only[J1]at h2
  simp only[A4];rw[A1 h2.ok,h2.rs,h2.es]
 |inr q=>
  simp_all
end Go.Ab
namespace Go.Ab
theorem So {α R:Type} (P:α→Bool) (r:R):∀l:List α,K9 (fun(_:Unit) y=>if P y=true then some (Sum.inr r)else some (.inl ())) l ()=some (if l.any P=true then .inr r else .inl ())
 |[]=>rfl
 | y::l=>by
  unfold K9
  cases h:P y with
  |true=>simp[h]
  |false=>
   simp only[F6,E4,IB,h,Dz];exact So P r l
theorem Good.sub {N:Nat}{x y:A0}(h:Good N x)(hy:y∈x.pre):Ey N y=0:=h y hy
theorem Av0 {N:Nat} (hN:40000000≤N) {x:A0} (hb:x.bulk≤16777216):El N x=some (if N8 N x≠0 then N8 N x else if x.pre.any (fun y=>cmp .geq y.Op 8)=true then 1 else 0):=by
 unfold El;rw[Vy hN hb];simp only[A4]
 by_cases h:N8 N x=0
 ·rw[A1 (T5 h),A1 (by omega),LT hN hb];simp only[A4];rw[So (fun y:A0=>cmp .geq y.Op 8) (1:Int) x.pre]
  grind
 rw[A2 (W0 h),A2 h]
theorem JQ {N:Nat} {x:A0} (hz:N8 N x=0):x.pre.length≤64∧x.dep≤12∧Good N x:=by
 have hp:x.pre.length≤64:=by
  grind [N8]
 have hd:¬12<x.dep:=fun h=>by rw[N8,A1 (by omega),A2 h]at hz;cases hz
 rw[N8,A1 (by omega),A1 hd]at hz
 exact⟨hp,by omega,Fk.1 hz⟩
theorem AT8 {N:Nat} (hN:40000000≤N) {x:A0} (hb:x.bulk≤16777216):∃b,GW N x=some b∧(b=true→x.pre.length≤9):=by
 unfold GW;obtain⟨r,h0,c1,c2,c3⟩:=Av8 hN 9 N x (by omega) hb;rw[h0];simp only[A4]
 by_cases h:9<r
 ·rw[A2 (BX h)];simp_all
 rw[A1 (An h),Az2 hN N x (by omega) hb];have hpb:=NH x;simp only[A4]
 have key:∃o,loopN (fun(s3:Int)=>((if cmp .lss s3 (Ar.len x.pre)=true then(C5 x.pre s3).bind fun x5=>(AT N N x5.dE 20).bind fun r6=>if cmp .gtr r6 20=true then some (.inr (.inr ()))else some (.inl (ar .add .i64 s3 1))else some (.inr (.inl ()))):Option (Int⊕(Unit⊕Unit)))) N 0=some o∧True:=OL (fun j s=>s=(j:Int)) (fun _=>True) x.pre.length 0 0 N (by omega) rfl (fun j s _ hj e=>by
  subst e
  simp only[Q0]at hj
  have e1:C5 x.pre (j:Int)=some x.pre[j]:=by rw[G2,E2 hj]
  have hm:=(Kq x _ (O9 hj)).1;have hc:=A0.bulk_eq x.pre[j];obtain⟨r6,h6,_⟩:=Yp hN 20 N x.pre[j].dE (by omega) (by omega);rw[A2 (by simp only[D1,B5];simp_all),e1];simp only[A4,h6]
  by_cases h7:20<r6
  ·rw[A2 (BX h7)];simp_all
  ·rw[A1 (An h7)];exact⟨_,rfl,Ks (by omega)⟩) (fun s e=>by
  subst e
  exact⟨.inl (),by simp[D1,B5],trivial⟩)
 obtain⟨o,ho,_⟩:=key;rw[ho]
 have hl:x.pre.length≤9:=by omega
 cases o with
 |inl _=>simp_all
 |inr _=>simp_all
theorem LJ (x:A0):x∈x.pre:=by rw[A0.pre_eq];simp
theorem As4 {N:Nat}(hN:40000000≤N){x:A0}(hb:x.bulk≤1100000)(hz:N8 N x=0):R5 N x=some (Pc N (raw x)):=by
 unfold R5;rw[Vy hN (by omega),Aa9 hN hb hz];simp only[A4];rw[A1 (T5 hz)]
theorem AP2 {α β:Type}{m:Option α}{F:α→Option β}{a:α}{r:Option β}(h1:m=some a)(h2:F a=r):m.bind F=r:=by rw[h1];exact h2
end Go.Ab
namespace Go.Ab
mutual
theorem Tj :∀x:B0,(∀y∈x.pre,y.Value.Text.size≤64)→x.bulk≤74*x.pre.length
 |⟨op,args,var,field,kind,v⟩,h=>by
  have h1:=QY args fun y hy=>h y (by rw[B0.pre];exact Q1 _ hy);have h2:v.Text.size≤64:=h ⟨op,args,var,field,kind,v⟩ (by rw[B0.pre];exact List.mem_cons_self ..);simp only[B0.bulk,B0.pre,J7];omega
theorem QY :∀l:List B0,(∀y∈B0.pres l,y.Value.Text.size≤64)→B0.bulks l≤1+74*(B0.pres l).length
 |[],_=>by simp[B0.bulks]
 |a::l,h=>by
  have h1:=Tj a fun y hy=>h y (by rw[B0.pres];exact Dt _ hy);have h2:=QY l fun y hy=>h y (by rw[B0.pres];exact IV _ hy);simp only[B0.bulks,B0.pres,K7];omega
end
theorem NA :(⟨#[]⟩:ByteArray).size=0:=rfl
theorem YK {v:A7}(h:TX v=true):v.Text.size≤64:=by
 simp only[TX,N7,C8,GT,F3,D9]at h
 rw[h.2.2.1,NA];omega
theorem Wy {v:A7} (h:N3 v=0):v.Text.size≤64:=by
 unfold N3 at h
 by_cases h1:v.Kind=0∨v.Kind=1
 ·rw[A2 h1]at h
  by_cases h2:v.Text≠⟨#[]⟩
  ·rw[A2 h2]at h;cases h
  have:v.Text=⟨#[]⟩:=Classical.not_not.1 h2;rw[this,NA];omega
 rw[A1 h1]at h
 by_cases h2:v.Kind=2
 ·rw[A2 h2]at h
  by_cases h3:v.Num≠0
  ·rw[A2 h3]at h;cases h
  rw[A1 h3]at h
  by_cases h4:64<(v.Text.size:Int)
  ·rw[A2 h4]at h;cases h
  omega
 rw[A1 h2]at h;cases h
theorem VZ {x:B0} (h:BY x=0):x.Value.Text.size≤64:=by
 unfold BY at h
 by_cases h0:x.Op<0∨12<x.Op
 ·rw[A2 h0]at h;cases h
 rw[A1 h0]at h
 by_cases h1:(x.dD.length:Int)≠(if x.Op<5 then 0 else if x.Op=12 then 1 else 2)
 ·rw[A2 h1]at h;cases h
 rw[A1 h1]at h
 by_cases h2:VG x=true
 ·rw[A2 h2]at h;cases h
 rw[A1 h2]at h
 by_cases h3:SK x=true
 ·rw[A2 h3]at h;cases h
 rw[A1 h3]at h
 by_cases h4:x.Op=4∨x.Op=0
 ·by_cases h5:N3 x.Value=0
  ·exact Wy h5
  rw[A2 ⟨h4,h5⟩]at h;exact absurd h h5
 rw[A1 (fun e=>h4 e.1),A1 (fun e=>h4 (.inl e.1))]at h
 by_cases h6:ON x=true
 ·rw[A2 h6]at h;cases h
 have h7:TX x.Value=true:=by
  have n4:¬x.Op=4:=fun e=>h4 (.inl e);have n0:¬x.Op=0:=fun e=>h4 (.inr e)
  cases hz:TX x.Value with
  |true=>rfl
  |false=>
   refine absurd ?_ h6;simp[ON,P1,N7,Q5,C8,n4,n0,hz]
 exact YK h7
theorem Rc {c:B0}(h:R7 c=0):c.bulk≤4736:=by
 have hp:¬64<c.pre.length:=fun e=>by rw[R7,A2 e]at h;cases h
 have hd:¬12<c.dep:=fun e=>by rw[R7,A1 hp,A2 e]at h;cases h
 rw[R7,A1 hp,A1 hd]at h
 have:=Tj c fun y hy=>VZ (Fk.1 h y hy);omega
theorem NI {N:Nat} (hN:40000000≤N) {y:A0} (hb:y.bulk≤16777216) (hl:y.dD.length≤64) (h:Ey N y=0):(0≤y.Op∧y.Op≤10)∧∃s ng,Pq N y s ng∧y.dE.bulk≤4736:=by
 have hc:y.dE.bulk≤16777216:=by have:=A0.bulk_eq y;omega
 have hop:0≤y.Op∧y.Op≤10:=by
  by_cases ho:0≤y.Op∧y.Op≤10
  ·exact ho
  have h1:=(Gl hN hb hl).1
  unfold Ah at h1
  rw[A2 (Ay8 ho).1,h]at h1
  cases h1
 obtain⟨s,ng,hs⟩:=Oy N y hop.1 hop.2 hl;have hz:=Ui hN N y.dE (⟨0,[],0,0,0,(⟨0,0,⟨#[]⟩⟩:A7)⟩:B0) (by omega) hc;have h1:=Gs hN hc hop.1 hop.2 hs hz
 rw[(Gl hN hb hl).2,h]at h1
 have h1:=AA h1;refine⟨hop,s,ng,hs,?_⟩
 by_cases ha:s.dK≤y.dD.length∧(y.dD.length:Int)≤s.most
 ·rw[A2 ha]at h1
  unfold LU at h1
  by_cases e1:EN s.typed y.Typ 15=true
  ·rw[A2 e1]at h1;cases h1
  rw[A1 e1]at h1
  by_cases e2:EN s.typed y.Var 15=true
  ·rw[A2 e2]at h1;cases h1
  rw[A1 e2]at h1
  by_cases e3:EN s.scope y.dG 63=true
  ·rw[A2 e3]at h1;cases h1
  rw[A1 e3]at h1
  by_cases e4:EN s.span y.Span 1099511627776=true
  ·rw[A2 e4]at h1;cases h1
  rw[A1 e4]at h1
  by_cases e5:s.cond=true
  ·by_cases e6:R7 y.dE=0
   ·exact Rc e6
   rw[A2 ⟨e5,e6⟩]at h1;exact absurd h1.symm e6
  rw[A1 (fun e=>e5 e.1)]at h1
  by_cases e6:y.dE=(⟨0,[],0,0,0,(⟨0,0,⟨#[]⟩⟩:A7)⟩:B0)
  ·rw[e6];simp only[B0.bulk,B0.bulks,NA];omega
  rw[A1 (fun e=>by
   have:=e.1
   rw[R8 e6]at this
   simp[e5]at this)]at h1
  cases h1
 rw[A1 ha]at h1;cases h1
end Go.Ab
namespace Go.Ab
def cnt :List (Bool×Bool×A0)→Int→Int→Bool
 |[],_,_=>true
 |y::l,v,s=>(if y.1=true then decide (y.2.2.Var=v)else true)&&(if y.2.1=true then decide (y.2.2.dG=s)else true)&&cnt l (if y.1=true then v+1 else v) (if y.2.1=true then s+1 else s)
noncomputable def Rg (y:A0):Bool:=match C5 K8 y.Op with|some s=>s.typed|none=>false
noncomputable def Rk (y:A0):Bool:=match C5 K8 y.Op with|some s=>s.scope|none=>false
noncomputable def AP1 (l:List A0):Bool:=cnt (l.map fun y=>(Rg y,Rk y,y)) 0 0
def AH1 (N:Nat)(y:A0):Prop:=∃s ng,Pq N y s ng
theorem ZY {N:Nat}(hN:40000000≤N){x:A0}(hb:x.bulk≤16777216)(hz:N8 N x=0):∀y∈x.pre,AH1 N y:=fun y hy=>by
 obtain⟨hp,hd,hg⟩:=JQ hz;have h1:=Kq x y hy;have h2:=It y;obtain⟨_,s,ng,h,_⟩:=NI hN (by omega) (by omega) (hg y hy);exact⟨s,ng,h⟩
theorem Ez {a b:Int}(h:a<b):cmp .lss a b=true:=by rw[D1];exact D5 h
theorem Cb {a b:Int}(h:¬a<b):¬(cmp .lss a b=true):=by rw[D1];simpa using h
noncomputable def Tc (s7:Bool×Int×Int)(y6:A0):Option ((Bool×Int×Int)⊕Unit):=
 (C5 K8 y6.Op).bind fun x11=>((if x11.typed=true then some (an s7.1 (cmp .eql y6.Var s7.2.2),ar .add .i64 s7.2.2 1)else some (s7.1,s7.2.2)):Option (Bool×Int)).bind fun s12=>if x11.scope=true then some (.inl (an s12.1 (cmp .eql y6.dG s7.2.1),ar .add .i64 s7.2.1 1,s12.2))else some (.inl (s12.1,s7.2.1,s12.2))
theorem UM {N:Nat}:∀(l:List A0),(∀y∈l,AH1 N y)→∀(b:Bool) (v s:Int),0≤v→0≤s→v+l.length≤1000000→s+l.length≤1000000→
 ∃v' s',K9 Tc l (b,s,v)=some (.inl (b&&cnt (l.map fun y=>(Rg y,Rk y,y)) v s,s',v'))
 |[],_,b,v,s,_,_,_,_=>⟨v,s,by simp[K9,cnt]⟩
 |y::l,h,b,v,s,hv,hs,hv2,hs2=>by
  simp only[J7]at hv2 hs2
  obtain⟨sh,ng,ok⟩:=h y (by simp)
  have et:Rg y=sh.typed:=by unfold Rg;rw[ok.tab]
  have es:Rk y=sh.scope:=by unfold Rk;rw[ok.tab]
  have ev:ar .add .i64 v 1=v+1:=E9 (by omega) (by omega);have ess:ar .add .i64 s 1=s+1:=E9 (by omega) (by omega);have hr:=fun b v' s' h1 h2 h3 h4=>UM l (fun z hz=>h z (by simp[hz])) b v' s' h1 h2 h3 h4;simp only[D8,cnt,et,es]
  have step:∀b' v2 s2,Tc (b,s,v) y=some (.inl (b',s2,v2))→K9 Tc (y::l) (b,s,v)=K9 Tc l (b',s2,v2):=fun b' v2 s2 h=>by simp only[K9,h]
  have hst:∀b' v2 s2,(some (.inl (b',s2,v2)):Option ((Bool×Int×Int)⊕Unit))=(((if sh.typed=true then some (an b (cmp .eql y.Var v),ar .add .i64 v 1)else some (b,v)):Option (Bool×Int)).bind fun s12=>if sh.scope=true then some (.inl (an s12.1 (cmp .eql y.dG s),ar .add .i64 s 1,s12.2))else some (.inl (s12.1,s,s12.2)))→K9 Tc (y::l) (b,s,v)=K9 Tc l (b',s2,v2):=fun b' v2 s2 h=>step b' v2 s2 (by rw[h];unfold Tc;rw[ok.tab];rfl);cases ht:sh.typed<;>cases hc:sh.scope
  ·obtain⟨v',s',h1⟩:=hr b v s hv hs (by omega) (by omega);exact⟨v',s',by rw[hst b v s (by rw[ht,hc];rfl)];simpa using h1⟩
  ·obtain⟨v',s',h1⟩:=hr (b&&decide (y.dG=s)) v (s+1) hv (by omega) (by omega) (by omega);exact⟨v',s',by rw[hst (b&&decide (y.dG=s)) v (s+1) (by simp[ht,hc,ess,C8,N7])];simpa[KW]using h1⟩
  ·obtain⟨v',s',h1⟩:=hr (b&&decide (y.Var=v)) (v+1) s (by omega) hs (by omega) (by omega);exact⟨v',s',by rw[hst (b&&decide (y.Var=v)) (v+1) s (by rw[ht,hc,ev,C8,N7];rfl)];simpa[KW]using h1⟩
  obtain⟨v',s',h1⟩:=hr (b&&decide (y.Var=v)&&decide (y.dG=s)) (v+1) (s+1) (by omega) (by omega) (by omega) (by omega);exact⟨v',s',by rw[hst (b&&decide (y.Var=v)&&decide (y.dG=s)) (v+1) (s+1) (by rw[ht,hc,ev,ess,C8,C8,N7];rfl)];simpa[KW]using h1⟩
theorem Ao2 {N:Nat}(hN:40000000≤N){x:A0}(hb:x.bulk≤16777216)(hz:N8 N x=0):∃v s,Er N x=some (v,s,AP1 x.pre):=by
 obtain⟨hp,hd,hg⟩:=JQ hz;obtain⟨v,s,h⟩:=UM (N:=N) x.pre (ZY hN hb hz) true 0 0 (by omega) (by omega) (by omega) (by omega);unfold Er;rw[LT hN hb];simp only[A4];refine⟨v,s,AP2 h ?_⟩;simp[AP1]
noncomputable def Wf (N:Nat)(x:A0):Int:=if N8 N x≠0 then N8 N x else if x.pre.any (fun y=>cmp .geq y.Op 8)=true then 1 else if AP1 x.pre=true then 0 else 14
theorem Ur {N:Nat} (hN:40000000≤N) {x:A0} (hb:x.bulk≤16777216):BR N x=some (Wf N x):=by
 unfold BR Wf;rw[Av0 hN hb];simp only[A4]
 by_cases h:N8 N x=0
 ·rw[A1 (show¬(N8 N x≠0) by simpa using h),A1 (show¬(N8 N x≠0) by simpa using h)]
  by_cases h2:x.pre.any (fun y=>cmp .geq y.Op 8)=true
  ·rw[A2 h2,A2 h2,A2 (W0 (by omega))]
  rw[A1 h2,A1 h2,A1 (T5 rfl)];obtain⟨v,s,hr⟩:=Ao2 hN hb h;rw[hr];simp only[A4];cases AP1 x.pre<;>simp[Q5]
 rw[A2 h,A2 (W0 h),A2 h]
end Go.Ab
namespace Go.Ab
theorem SX :∀{l:List B0} {a:B0},a∈l→a.dep≤B0.deps l
 |b::l,a,h=>by
  simp only[B0.deps]
  rcases List.mem_cons.1 h with rfl|h
  ·exact Nat.le_max_left _ _
  exact O8 (SX h) (Nat.le_max_right _ _)
theorem PU :∀{l:List B0} {a y:B0},a∈l→y∈a.pre→y∈B0.pres l
 |b::l,a,y,h,hy=>by
  simp only[B0.pres,Az]
  rcases List.mem_cons.1 h with rfl|h
  ·exact .inl hy
  exact .inr (PU h hy)
theorem NF {α R:Type} {body:Unit→α→Option (Unit⊕R)} {p:α→Bool} {r:R}:∀{l:List α},(∀x∈l,body () x=some (if p x=true then .inl ()else .inr r))→K9 body l ()=some (if l.all p=true then .inl ()else .inr r)
 |[],_=>rfl
 | x::l,h=>by
  unfold K9;rw[h x (by simp),KU]
  by_cases hx:p x=true
  ·rw[A2 hx,hx]
   dsimp only
   rw[NF fun y hy=>h y (by simp[hy])];rfl
  rw[A1 hx]
  dsimp only
  rw[GH]at hx
  rw[hx];rfl
theorem AS1 {x:B0} (h:BY x=0):(x.Op=1∨x.Op=4→0≤x.Field∧x.Field<8)∧(1≤x.Op∧x.Op≤4→0≤x.Var∧x.Var<16):=by
 have h3:VG x=false:=by
  cases hh:VG x with
  |false=>rfl
  |true=>
   exfalso
   unfold BY at h
   by_cases a:x.Op<0∨12<x.Op
   ·rw[A2 a]at h;cases h
   rw[A1 a]at h
   by_cases b:(x.dD.length:Int)≠(if x.Op<5 then 0 else if x.Op=12 then 1 else 2)
   ·rw[A2 b]at h;cases h
   rw[A1 b,A2 hh]at h
   cases h
 unfold VG at h3
 simp only[P1,N7,D1,R6,Bool.or_eq_false_iff,Lt,Bd]at h3
 obtain⟨hv,hf⟩:=h3
 constructor
 ·intro e
  rcases hf with hf|hf
  ·exfalso
   unfold Av4 at hf
   rcases e with e|e<;>simp[e,C8,P1]at hf
  omega
 intro e
 rcases hv with hv|hv
 ·exfalso
  have h4:x.Op=1∨x.Op=2∨x.Op=3∨x.Op=4:=by omega
  unfold Av3 at hv
  rcases h4 with e|e|e|e<;>simp[e,C8,P1]at hv
 omega
end Go.Ab
namespace Go.Ab
noncomputable section
def Bu :A7:=⟨0,0,⟨#[]⟩⟩
def S7 (k:Int)(v:A7):Int:=if N3 v≠0 then N3 v else if v.Kind=0∨(k≠1∧k≠2∧k≠3)then 0 else 9
def No (k:Int)(a b:A7):A7:=
 if k=1 then⟨0,ar .add .i64 a.Num b.Num,⟨#[]⟩⟩else if k=2 then⟨0,Ar.mn a.Num b.Num,⟨#[]⟩⟩else if k=3 then⟨0,Ar.mx a.Num b.Num,⟨#[]⟩⟩else if k=4 then a else if k=5 then b else Bu
def Ei (k:Int)(v:A7):A7:=if k=0 then Bu else v
def Ce (k:Int):List A7→A7
 |[]=>Bu
 |v::l=>l.foldl (fun a b=>No k a (Ei k b)) (Ei k v)
def AG9 (k:Int)(l:List A7)(o:A7):A7×Int:=
 if k<0∨5<k then(Bu,1)else if 4096<l.length then(Bu,5)else if Av (S7 k) l≠0 then(Bu,Av (S7 k) l)else if S7 k o≠0 then(Bu,S7 k o)
 else if k=0 then(⟨0,l.length,⟨#[]⟩⟩,0)else if l=[]∧k≠1 then(o,0)else(Ce k l,0)
theorem RO (N:Nat)(k:Int)(v:A7):AE N k v=some (decide (v.Kind=0∨(k≠1∧k≠2∧k≠3))):=by
 unfold AE;simp only[P1,N7,C8,H8,E6]
 by_cases h0:v.Kind=0<;>by_cases h1:k=1<;>by_cases h2:k=2<;>by_cases h3:k=3<;>simp[h0,h1,h2,h3]
theorem Ww (N:Nat) (k:Int) (v:A7):V5 N k v=some (S7 k v):=by
 unfold V5 S7;rw[Ot,RO];simp only[A4]
 by_cases h:N3 v=0
 ·rw[A1 (T5 h),A1 (show¬N3 v≠0 by simpa using h)]
  by_cases h2:v.Kind=0∨(k≠1∧k≠2∧k≠3)
  ·rw[A1 (by rw[Q5,D5 h2];decide),A2 h2]
  rw[A2 (by rw[Q5,R8 h2];rfl),A1 h2]
 rw[A2 (W0 h),A2 h]
theorem Wv {k:Int}{v:A7}(h:S7 k v=0):N3 v=0∧(v.Kind=0∨(k≠1∧k≠2∧k≠3)):=by
 unfold S7 at h
 split at h
 ·rename_i h1;exact absurd h h1
 rename_i h1
 split at h
 ·rename_i h2;exact⟨by simpa using h1,h2⟩
 cases h
theorem MA {v:A7}(h:N3 v=0)(hk:v.Kind=0):v.Text=⟨#[]⟩∧ -1099511627776≤v.Num∧v.Num≤1099511627776:=by
 unfold N3 at h
 rw[A2 (.inl hk)]at h
 split at h
 ·cases h
 rename_i h1
 split at h
 ·cases h
 rename_i h2;refine⟨by simpa using h1,?_⟩
 simp only[hk,true_and]at h2
 omega
theorem Af4 {n:Int}(h0: -1099511627776≤n)(h1:n≤1099511627776):N3 ⟨0,n,⟨#[]⟩⟩=0:=by
 unfold N3;simp only[true_or,C7,ne_eq,EY,E4];rw[A1 (by simp;omega)]
structure Aj9 (k:Int) (n:Nat) (v:A7):Prop where
 c:k=0→v=Bu
 s:k=1→v.Kind=0∧v.Text=⟨#[]⟩∧ -(1099511627776*(n:Int))≤v.Num∧v.Num≤1099511627776*(n:Int)
 m:k=2∨k=3→N3 v=0∧v.Kind=0
 f:k=4∨k=5→N3 v=0
theorem AD6 {k:Int}{v:A7}(h:S7 k v=0):Aj9 k 1 (Ei k v):=by
 obtain⟨h1,h2⟩:=Wv h;unfold Ei
 by_cases k0:k=0
 ·rw[A2 k0];exact⟨fun _=>rfl,by omega,by omega,by omega⟩
 rw[A1 k0];refine⟨by omega,fun e=>?_,fun e=>⟨h1,by omega⟩,fun _=>h1⟩
 have hk:v.Kind=0:=by omega
 obtain⟨a,b,c⟩:=MA h1 hk;exact⟨hk,a,by omega,by omega⟩
theorem Aq5 {k:Int} {n:Nat} {a v:A7} (ha:Aj9 k n a) (hn:n≤4096) (h:S7 k v=0):Aj9 k (n+1) (No k a (Ei k v)):=by
 obtain⟨h1,h2⟩:=Wv h;unfold No
 by_cases k1:k=1
 ·rw[A2 k1]
  have hk:v.Kind=0:=by omega
  obtain⟨_,b,c⟩:=MA h1 hk;obtain⟨_,_,d,e⟩:=ha.s k1;have e1:Ei k v=v:=A1 (by omega);rw[e1];have e2:ar .add .i64 a.Num v.Num=a.Num+v.Num:=E9 (by omega) (by omega);rw[e2];exact⟨by omega,fun _=>⟨rfl,rfl,by simp only;omega,by simp only;omega⟩,by omega,by omega⟩
 rw[A1 k1]
 by_cases k2:k=2
 ·rw[A2 k2]
  have hk:v.Kind=0:=by omega
  obtain⟨_,b,c⟩:=MA h1 hk;obtain⟨d,e⟩:=ha.m (.inl k2);obtain⟨_,d1,d2⟩:=MA d e;have e1:Ei k v=v:=A1 (by omega);rw[e1];refine⟨by omega,by omega,fun _=>⟨?_,rfl⟩,by omega⟩
  show N3 ⟨0,if v.Num<a.Num then v.Num else a.Num,⟨#[]⟩⟩=0
  split<;>exact Af4 (by omega) (by omega)
 rw[A1 k2]
 by_cases k3:k=3
 ·rw[A2 k3]
  have hk:v.Kind=0:=by omega
  obtain⟨_,b,c⟩:=MA h1 hk;obtain⟨d,e⟩:=ha.m (.inr k3);obtain⟨_,d1,d2⟩:=MA d e;have e1:Ei k v=v:=A1 (by omega);rw[e1];refine⟨by omega,by omega,fun _=>⟨?_,rfl⟩,by omega⟩
  show N3 ⟨0,if a.Num<v.Num then v.Num else a.Num,⟨#[]⟩⟩=0
  split<;>exact Af4 (by omega) (by omega)
 rw[A1 k3]
 by_cases k4:k=4
 ·rw[A2 k4];exact⟨by omega,by omega,by omega,fun _=>ha.f (.inl k4)⟩
 rw[A1 k4]
 by_cases k5:k=5
 ·rw[A2 k5];have e1:Ei k v=v:=A1 (by omega);rw[e1];exact⟨by omega,by omega,by omega,fun _=>h1⟩
 rw[A1 k5];exact⟨fun _=>rfl,by omega,by omega,by omega⟩
theorem Ab5 {N:Nat}{k:Int}(h0:0≤k)(h5:k≤5)(a b:A7):BH N k a b=some (No k a b):=by
 have h:k=0∨k=1∨k=2∨k=3∨k=4∨k=5:=by omega
 rcases h with rfl|rfl|rfl|rfl|rfl|rfl<;>rfl
theorem Al4 (N:Nat)(k:Int)(v:A7):Ck N k v=some (Ei k v):=by
 unfold Ck Ei;rw[C8]
 by_cases h:k=0
 ·rw[A2 (D5 h),A2 h];rfl
 rw[A1 (by simpa using h),A1 h]
def W3 (k:Int)(l:List A7):C6:=⟨k,l.length,Ce k l⟩
theorem NX (k:Int)(l:List A7)(v:A7):Ce k (l++[v])=if l=[]then Ei k v else No k (Ce k l) (Ei k v):=by
 cases l with
 |nil=>rfl
 |cons a l=>simp[Ce,List.foldl_append]
theorem AI5 {N:Nat} {k:Int} (h0:0≤k) (h5:k≤5) (l:List A7) (hl:l.length≤4096) (v:A7):V3 N (W3 k l) v k=some (W3 k (l++[v])):=by
 unfold V3;rw[Al4];simp only[A4];unfold DW;rw[C8,C8]
 have e:W3 k (l++[v])=⟨k,(l.length:Int)+1,if l=[]then Ei k v else No k (Ce k l) (Ei k v)⟩:=by
  unfold W3;rw[NX];simp
 rw[e]
 cases l with
 |nil=>rfl
 | cons a l=>
  have hc:¬(decide ((W3 k (a::l)).Count=0)=true):=by
   show¬decide (((a::l).length:Int)=0)=true
   simp only[J7,D9];omega
  rw[A1 hc,A1 (by simp)]
  show((BH N k (Ce k (a::l)) (Ei k v)).bind _).bind _=_
  rw[Ab5 h0 h5];simp only[A4,W3,reduceCtorEq,E4];rw[E9 (by simp at hl ⊢;omega) (by simp at hl ⊢;omega)]
theorem OU {k:Int}:∀(n:Nat) {l:List A7},l.length=n→l≠[]→l.length≤4096→(∀v∈l,S7 k v=0)→Aj9 k l.length (Ce k l):=by
 intro n
 induction n with
 |zero=>intro l h0 h;exact absurd (Dx h0) h
 |succ n ih=>
  intro l h0 h hn hv
  rcases Dw l with rfl|⟨q,v,rfl⟩
  ·exact absurd rfl h
  rw[Dv]at *
  rw[NX,K7];have hw:=hv v (by simp)
  simp only[K7,J7,T7]at hn h0
  by_cases h:q=[]
  ·subst h;rw[A2 rfl];exact AD6 hw
  rw[A1 h];exact Aq5 (ih (by omega) h (by omega) fun x hx=>hv x (by simp[hx])) (by omega) hw
theorem YD {N:Nat} {k:Int} (h0:0≤k) (h5:k≤5) {l:List A7} (hl:l.length≤4096) (hv:∀v∈l,S7 k v=0):CT N (W3 k l)=some 0:=by
 unfold CT Bs;simp only[A4]
 have e1:¬(nt (an (cmp .geq (W3 k l).Kind 0) (cmp .leq (W3 k l).Kind 5))=true):=by
  show¬((!(decide (0≤k)&&decide (k≤5)))=true)
  simp;omega
 have e2:¬(Ar.or (cmp .lss (W3 k l).Count 0) (cmp .gtr (W3 k l).Count 4096)=true):=by
  show¬((decide ((l.length:Int)<0)||decide (4096<(l.length:Int)))=true)
  simp;omega
 rw[A1 e1,A1 e2]
 by_cases hz:l=[]∨k=0
 ·have e3:Ar.or (cmp .eql (W3 k l).Count 0) (cmp .eql (W3 k l).Kind 0)=true:=by
   show(decide ((l.length:Int)=0)||decide (k=0))=true
   rcases hz with rfl|h
   ·rfl
   simp[h]
  have e4:(W3 k l).Value=Bu:=by
   by_cases hn:l=[]
   ·subst hn;rfl
   exact(OU _ rfl hn hl hv).c (hz.resolve_left hn)
  rw[A2 e3,e4];exact A1 (by simp[Q5,N7,C8,GT,Bu])
 have hn:l≠[]:=fun h=>hz (.inl h);have hk:k≠0:=fun h=>hz (.inr h);have hlen:l.length≠0:=fun h=>hn (Dx h)
 have e3:¬(Ar.or (cmp .eql (W3 k l).Count 0) (cmp .eql (W3 k l).Kind 0)=true):=by
  show¬((decide ((l.length:Int)=0)||decide (k=0))=true)
  simp[hk,hn]
 rw[A1 e3];have g:=OU _ rfl hn hl hv
 by_cases k1:k=1
 ·rw[A2 (show cmp .eql (W3 k l).Kind 1=true from D5 k1)];obtain⟨a,b,c,d⟩:=g.s k1;have ev:(W3 k l).Value=Ce k l:=rfl;have ec:(W3 k l).Count=(l.length:Int):=rfl;have em:ar .mul .i64 (l.length:Int) 1099511627776=(l.length:Int)*1099511627776:=Eh (by omega) (by omega)
  have en:Ar.neg .i64 ((l.length:Int)*1099511627776)= - ((l.length:Int)*1099511627776):=by
   show IntKind.wrap .i64 (0 - (l.length:Int)*1099511627776)=_
   rw[Eh (by omega) (by omega)];omega
  rw[ev,ec,em,en];rw[A1];simp only[Q5,N7,C8,R6,Kw,GT];rw[D5 a,D5 b,D5 (show -((l.length:Int)*1099511627776)≤(Ce k l).Num by omega),D5 (show(Ce k l).Num≤(l.length:Int)*1099511627776 by omega)]
  decide
 rw[A1 (show¬(cmp .eql (W3 k l).Kind 1=true)from(by show¬decide (k=1)=true;simpa using k1))]
 have hvb:N3 (Ce k l)=0:=by
  by_cases h23:k=2∨k=3
  ·exact(g.m h23).1
  exact g.f (by omega)
 have hsu:(Ce k l).Kind=0∨(k≠1∧k≠2∧k≠3):=by
  by_cases h23:k=2∨k=3
  ·exact .inl (g.m h23).2
  exact .inr (by omega)
 show((AQ N (Ce k l)).bind _)=_
 rw[Ot,hvb];simp only[A4];rw[A2 (show cmp .eql 0 0=true from rfl)]
 show((AE N k (Ce k l)).bind _)=_
 rw[RO,D5 hsu];rfl
theorem AX6 {N:Nat} (hN:40000000≤N) (k:Int) {l:List A7} (hl:l.length<1000000) (o:A7):FL N k l o=some (AG9 k l o):=by
 unfold FL AG9 Bs;simp only[A4]
 by_cases h0:k<0∨5<k
 ·rw[A2 (by show(!(decide (0≤k)&&decide (k≤5)))=true;simp;omega),A2 h0];rfl
 rw[A1 (by show¬((!(decide (0≤k)&&decide (k≤5)))=true);simp;omega),A1 h0]
 by_cases h1:4096<l.length
 ·rw[A2 (BX (by rw[B5];omega)),A2 h1];rfl
 rw[A1 (An (by rw[B5];omega)),A1 h1];rw[P6 l (by omega) (mk:=fun(_:Unit) i=>i) (body:=Ex fun v=>V5 N k v) (fin:=fun _=>.inl ()) (s:=()) (by omega) ?_ ?_]
 ·rw [CW (f:=S7 k) fun v _=>Ww N k v]
  by_cases h2:Av (S7 k) l=0
  ·rw [A2 h2,A1 (show¬Av (S7 k) l≠0 by simpa using h2)];have hv:=Fk.1 h2;simp only[A4]
   have hf:L4 N (⟨k,0,⟨0,0,⟨#[]⟩⟩⟩:C6) l (fun y1 y2=>V3 N y1 y2 k)=some (W3 k l):=by
    unfold L4;rw[P6 l (by omega) (mk:=fun(s:C6) i=>(i,s)) (body:=fun s v=>(V3 N s v k).bind fun r=>some (.inl r)) (fin:=fun s=>s) (s:=⟨k,0,⟨0,0,⟨#[]⟩⟩⟩) (by omega) ?_ ?_]
    ·obtain⟨s',k1,p,k2,k3⟩:=DU (R:=C6) (step:=fun s v=>(V3 N s v k).bind fun r=>some (.inl r)) (fun r s=>∃p,p++r=l∧s=W3 k p) (fun v r s ⟨p,e1,e2⟩=>by
      subst e2
      refine⟨_,by rw[AI5 (by omega) (by omega) p (by have:=J5 List.length e1;simp at this;omega)];rfl,p++[v],by simpa using e1,rfl⟩) (l:=l) (s:=⟨k,0,⟨0,0,⟨#[]⟩⟩⟩) ⟨[],rfl,rfl⟩
     simp only[k1,A4]
     rw[F2]at k2
     rw[k3,k2]
    ·intro s i a ha hi;have e:ar .add .i64 (i:Int) 1=i+1:=E9 (by omega) (by omega);simp only[D1,B5,hi,I6,C7,G2,ha,A4,e];cases V3 N s a k<;>rfl
    intro s;simp[D1,B5]
   rw[hf];simp only[A4];unfold DX;rw[YD (by omega) (by omega) (by omega) hv];simp only[A4];rw[A1 (show¬(cmp .neq 0 0=true) by decide)]
   show((V5 N k o).bind _).bind _=_
   rw[Ww];simp only[A4]
   by_cases h3:S7 k o=0
   ·rw[A1 (T5 h3),A1 (show¬S7 k o≠0 by simpa using h3)]
    by_cases h4:k=0
    ·rw[A2 (show cmp .eql (W3 k l).Kind 0=true from D5 h4),A2 h4];rfl
    rw[A1 (show¬(cmp .eql (W3 k l).Kind 0=true)from(by show¬decide (k=0)=true;simpa using h4)),A1 h4]
    by_cases h5:l=[]∧k≠1
    ·rw[A2 (show an (cmp .eql (W3 k l).Count 0) (cmp .neq (W3 k l).Kind 1)=true by show(decide ((l.length:Int)=0)&& !decide (k=1))=true;simp[h5.1,h5.2]),A2 h5];rfl
    rw[A1 (show¬(an (cmp .eql (W3 k l).Count 0) (cmp .neq (W3 k l).Kind 1)=true) by show¬((decide ((l.length:Int)=0)&& !decide (k=1))=true);simpa using h5),A1 h5];rfl
   rw[A2 (W0 h3),A2 h3];rfl
  rw[A1 h2,A2 h2];rfl
 ·intro s i a ha hi;have e:ar .add .i64 (i:Int) 1=i+1:=E9 (by omega) (by omega);simp only[D1,B5,hi,I6,C7,G2,ha,A4,e,Ex,H8]
  cases V5 N k a with
  |none=>rfl
  |some r=>by_cases h:r=0<;>simp[h]
 intro s;simp[D1,B5]
end
end Go.Ab
namespace Go.Ab
noncomputable section
def Gp (env:Cl)(v:Int):List B3:=if v<0∨(env.dO.length:Int)≤v then[]else env.dO.getD v.toNat []
def Il (e:B3)(k:Int):A7×Int:=if(e.Values.length:Int)≤k then(Bu,6)else(e.Values.getD k.toNat Bu,0)
def Ve (rows:List B3)(x:B0):A7×Int:=
 if(rows.all fun e=>decide (x.Field<(e.Values.length:Int)))=true then AG9 x.Kind (rows.map fun e=>e.Values.getD x.Field.toNat Bu) x.Value else(Bu,6)
def NO (rows:List B3)(own:Int)(ev:B3)(v:Int):Option B3:=if v≠own then rows.getLast? else some ev
def Ax8 (y:B3)(x:B0):A7×Int:=
 if x.Op=2 then(⟨0,y.Time,⟨#[]⟩⟩,0)else if(Il y x.Field).2≠0 then(Bu,(Il y x.Field).2)else if N3 (Il y x.Field).1≠0 then(Bu,N3 (Il y x.Field).1)else((Il y x.Field).1,0)
def Ho (env:Cl)(own:Int)(ev:B3)(x:B0):A7×Int:=
 if x.Op=0 then(x.Value,0)else if x.Op=3 then(⟨0,(Gp env x.Var).length,⟨#[]⟩⟩,0)else if x.Op=4 then Ve (Gp env x.Var) x
 else match NO (Gp env x.Var) own ev x.Var with|none=>(Bu,10)|some y=>Ax8 y x
theorem MQ {x:B0}(hx:BY x=0):0≤x.Op∧x.Op≤12∧(x.dD.length:Int)=(if x.Op<5 then 0 else if x.Op=12 then 1 else 2):=by
 unfold BY at hx
 by_cases h1:x.Op<0∨12<x.Op
 ·rw[A2 h1]at hx;cases hx
 rw[A1 h1]at hx
 by_cases h2:(x.dD.length:Int)≠(if x.Op<5 then 0 else if x.Op=12 then 1 else 2)
 ·rw[A2 h2]at hx;cases hx
 exact⟨by omega,by omega,by simpa using h2⟩
def Jd (e:Cl):Prop:=e.dO.length<1000000∧∀l∈e.dO,l.length<1000000
theorem RA {env:Cl}(h:Jd env)(v:Int):(Gp env v).length<1000000:=by
 unfold Gp
 split
 ·simp
 rename_i hv
 have hi:v.toNat<env.dO.length:=by omega
 rw[N1,E2 hi];exact h.2 _ (O9 hi)
theorem QQ (N:Nat)(env:Cl)(own:Int)(ev:B3)(u:Unit)(v:Int):V0 N ⟨env,own,ev,u⟩ v=some (Gp env v):=by
 unfold V0 Gp
 by_cases h:v<0∨(env.dO.length:Int)≤v
 ·rw[A2 (by simp only[P1,D1,R6,B5];simpa using h),A2 h]
 rw[A1 (by simp only[P1,D1,R6,B5];simpa using h),A1 h]
 have hi:v.toNat<env.dO.length:=by omega
 have hv:v=(v.toNat:Int):=by omega
 rw[hv,G2];simp only[N1,Z8,E2 hi,A4,V8]
theorem SW (N:Nat)(e:B3){k:Int}(hk:0≤k):CK N e k=some (Il e k):=by
 unfold CK Il
 by_cases h:(e.Values.length:Int)≤k
 ·rw[A2 (by rw[R6,B5];exact D5 h),A2 h];rfl
 rw[A1 (by rw[R6,B5];simpa using h),A1 h]
 have hi:k.toNat<e.Values.length:=by omega
 have hv:k=(k.toNat:Int):=by omega
 rw[hv,G2];simp only[N1,Z8,E2 hi,A4,V8]
theorem NE {α β R:Type} {body:List β→α→Option (List β⊕R)} {p:α→Bool} {g:α→β} {r:R}:∀{l:List α} {s:List β},s.length+l.length≤1000000→(∀(s:List β) x,x∈l→s.length≤1000000→body s x=some (if p x=true then .inl (s++[g x])else .inr r))→
 K9 body l s=some (if l.all p=true then .inl (s++l.map g)else .inr r)
 |[],s,_,_=>by simp[K9]
 |x::l,s,hl,h=>by
  simp only[K9,h s x (by simp) (by simp at hl;omega)]
  by_cases hp:p x=true
  ·simp only[hp,C7];rw[NE (by simp at hl ⊢;omega) fun s y hy=>h s y (by simp[hy])];simp[hp]
  simp[hp]
theorem Aa1 {N:Nat} (hN:40000000≤N) {env:Cl} (he:Jd env) (own:Int) (ev:B3) (u:Unit) {x:B0} (hf:0≤x.Field):Ao N ⟨env,own,ev,u⟩ x=some (Ve (Gp env x.Var) x):=by
 have hl:=RA he x.Var;unfold Ao Ve;rw[QQ];simp only[A4]
 generalize Gp env x.Var=rows at hl
 rw[P6 rows (by omega) (mk:=fun(s:List A7) i=>(s,i)) (body:=fun s e=>(CK N e x.Field).bind fun r=>if cmp .neq r.2 0=true then some (.inr (.inr r.2))else(N6 s [r.1]).bind fun l=>some (.inl l)) (fin:=fun s=>.inl s) (s:=[]) (by omega) ?_ ?_]
 ·rw[NE (p:=fun e=>decide (x.Field<(e.Values.length:Int))) (g:=fun e=>e.Values.getD x.Field.toNat Bu) (r:=.inr 6) (by simp;omega) (fun s e _ hs=>by
   rw[SW N e hf];unfold Il
   by_cases h:(e.Values.length:Int)≤x.Field
   ·rw[A2 h,A1 (by simpa using h)];rfl
   rw[A1 h,A2 (by simpa using h)];simp only[A4]
   rw[A1 (by decide),U8 (by simp;omega)];rfl)]
  by_cases h:(rows.all fun e=>decide (x.Field<(e.Values.length:Int)))=true
  ·rw[A2 h,A2 h];simp only[A4,J1];rw[AX6 hN _ (by simpa using hl)];rfl
  rw[A1 h,A1 h];rfl
 ·intro s i a ha hi;have e:ar .add .i64 (i:Int) 1=i+1:=E9 (by omega) (by omega);simp only[D1,B5,hi,I6,C7,G2,ha,A4,e]
  cases CK N a x.Field with
  |none=>rfl
  |some r=>
   simp only[A4]
   split
   ·rfl
   cases N6 s [r.1]<;>rfl
 intro s;simp[D1,B5]
theorem Ar6 {N:Nat} (hN:40000000≤N) {env:Cl} (he:Jd env) (own:Int) (ev:B3) (u:Unit) {x:B0} (hx:BY x=0) (ha:x.dD=[]):AI N ⟨env,own,ev,u⟩ x=some (Ho env own ev x):=by
 have hok:=AS1 hx
 have hop:0≤x.Op∧x.Op<5:=by
  have:=MQ hx
  rw[ha]at this
  simp only[T7]at this
  obtain⟨h1,h2,h3⟩:=this
  by_cases h5:x.Op<5
  ·exact⟨h1,h5⟩
  rw[A1 h5]at h3
  split at h3<;>omega
 have hl:=RA he x.Var;unfold AI Ho;rw[QQ];simp only[A4]
 by_cases h0:x.Op=0
 ·rw[A2 (by rw[C8];exact D5 h0),A2 h0]
 rw[A1 (by rw[C8];simpa using h0),A1 h0]
 by_cases h3:x.Op=3
 ·rw[A2 (by rw[C8];exact D5 h3),A2 h3];rfl
 rw[A1 (by rw[C8];simpa using h3),A1 h3]
 by_cases h4:x.Op=4
 ·rw[A2 (by rw[C8];exact D5 h4),A2 h4,Aa1 hN he own ev u (hok.1 (.inr h4)).1];rfl
 rw[A1 (by rw[C8];simpa using h4),A1 h4]
 have key:((if cmp .neq x.Var own=true then if cmp .eql (Ar.len (Gp env x.Var)) 0=true then some (.inr ())else(C5 (Gp env x.Var) (ar .sub .i64 (Ar.len (Gp env x.Var)) 1)).bind fun x6=>some (.inl x6)else some (.inl ev)):Option (B3⊕Unit))=some (match NO (Gp env x.Var) own ev x.Var with|some y=>.inl y|none=>.inr ()):=by
  unfold NO
  by_cases hv:x.Var=own
  ·rw[A1 (T5 hv),A1 (by simpa using hv)]
  rw[A2 (W0 hv),A2 hv]
  generalize Gp env x.Var=rows at hl
  rcases Dw rows with rfl|⟨q,y,rfl⟩
  ·rfl
  rw[Dv]at *
  have e1:ar .sub .i64 (Ar.len (q++[y])) 1=(q.length:Int):=by
   have:ar .sub .i64 (Ar.len (q++[y])) 1=Ar.len (q++[y]) - 1:=Eh (by rw[B5];omega) (by rw[B5];omega);rw[this,B5];simp
  rw[A1 (by rw[C8,B5];simp;omega),e1,G2];simp
 have key2:=J5 (fun o=>o.bind fun s5=>match s5 with
  | .inl y7=>
   if cmp .eql x.Op 2=true then
    some ((⟨0,y7.Time,⟨#[]⟩⟩:A7),(0:Int))
   else
    (CK N y7 x.Field).bind fun r8=>
    ((
     if cmp .eql r8.2 0=true then
      (AQ N r8.1).bind fun r10=>
      some r10
     else
      some r8.2
    ):Option (Int)).bind fun s9=>
    if cmp .neq s9 0=true then
     some ((⟨0,0,⟨#[]⟩⟩:A7),s9)
    else
     some (r8.1,0)
  | .inr y11=>
   some ((⟨0,0,⟨#[]⟩⟩:A7),10)) key
 refine key2.trans ?_
 cases hy:NO (Gp env x.Var) own ev x.Var with
 |none=>rfl
 | some y=>
  simp only[A4];unfold Ax8
  by_cases h2:x.Op=2
  ·rw[A2 (by rw[C8];exact D5 h2),A2 h2]
  rw[A1 (by rw[C8];simpa using h2),A1 h2]
  have h1:x.Op=1:=by omega
  rw[SW N y (hok.1 (.inl h1)).1];simp only[A4]
  by_cases hb:(Il y x.Field).2=0
  ·rw[A2 (by rw[C8];exact D5 hb),Ot,A1 (by simpa using hb)];simp only[A4]
   by_cases hc:N3 (Il y x.Field).1=0
   ·rw[A1 (T5 hc),A1 (by simpa using hc)]
   rw[A2 (W0 hc),A2 hc];rfl
  rw[A1 (by rw[C8];simpa using hb),A2 hb];simp only[A4];rw[A2 (W0 hb)];rfl
end
end Go.Ab
namespace Go.Ab
noncomputable section
def Nl (b:Bool):A7:=if b=true then⟨1,1,⟨#[]⟩⟩else⟨1,0,⟨#[]⟩⟩
def Kr (op:Int)(kinds:List Int)(k:Int):Bool:=
 if op=5∨op=6∨op=7∨op=8 then decide (k=0)else if op=10∨op=11∨op=12 then decide (k=1)else if op=9 then decide (k=kinds.getD 0 0)else true
def KJ (op:Int)(kinds:List Int):Int:=if kinds.all (Kr op kinds)=true then 0 else 9
instance (x y:A7):Decidable (x=y):=by
 obtain⟨a,b,c⟩:=x;obtain⟨d,e,f⟩:=y;exact decidable_of_iff (a=d∧b=e∧c=f) (by simp)
def Wi (op:Int)(l:List A7):A7:=
 let a:=l.getD 0 Bu
 let b:=l.getD (l.length - 1) Bu
 if op=9 then Nl (decide (a=l.getD 1 Bu))else if op=5 then⟨0,ar .add .i64 a.Num b.Num,⟨#[]⟩⟩else if op=6 then⟨0,ar .sub .i64 a.Num b.Num,⟨#[]⟩⟩
 else if op=7 then Nl (decide (a.Num<b.Num))else if op=8 then Nl (decide (a.Num≤b.Num))else if op=10 then Nl (decide (a.Num=1)&&decide (b.Num=1))else if op=11 then Nl (decide (a.Num=1)||decide (b.Num=1))else Nl (!decide (a.Num=1))
mutual
def Jm (R:B0→A7×Int):B0→A7×Int
 |⟨op,args,var,field,kind,val⟩=>
  if args.length=0 then R ⟨op,args,var,field,kind,val⟩else
  match Gr R args with
  | .inr f=>(Bu,f)
  | .inl l=>if KJ op (l.map (·.Kind))≠0 then(Bu,KJ op (l.map (·.Kind)))else(Wi op l,0)
def Gr (R:B0→A7×Int):List B0→List A7⊕Int
 |[]=>.inl []
 |a::r=>if(Jm R a).2≠0 then .inr (Jm R a).2 else match Gr R r with| .inr f=>.inr f| .inl l=>.inl ((Jm R a).1::l)
end
theorem Yf (R:B0→A7×Int)(x:B0):Jm R x=if x.dD.length=0 then R x else
 match Gr R x.dD with
 | .inr f=>(Bu,f)
 | .inl l=>if KJ x.Op (l.map (·.Kind))≠0 then(Bu,KJ x.Op (l.map (·.Kind)))else(Wi x.Op l,0):=by cases x;simp only[Jm]
theorem NZ {R:B0→A7×Int}:∀{l:List B0} {r:List A7},Gr R l= .inl r→r.length=l.length
 |[],r,h=>by simp only[Gr,Sum.inl.injEq]at h;subst h;rfl
 |a::l,r,h=>by
  simp only[Gr]at h
  split at h
  ·cases h
  cases hr:Gr R l with
  |inr f=>rw[hr]at h;cases h
  |inl q=>rw[hr]at h;simp only[Sum.inl.injEq]at h;subst h;simp[NZ hr]
theorem VX (N:Nat)(b:Bool):Cg N b=some (Nl b):=by
 unfold Cg Ke Nl;cases b<;>rfl
theorem Wa {N:Nat} (hN:40000000≤N) (op:Int) {kinds:List Int} (hl:kinds.length<1000000):Es N op kinds=some (KJ op kinds):=by
 unfold Es KJ;rw[P6 kinds (by omega) (mk:=fun(_:Unit) i=>i) (body:=fun _ k=>some (if Kr op kinds k=true then .inl ()else .inr (.inr ()))) (fin:=fun _=>.inl ()) (s:=()) (by omega) ?_ ?_]
 ·rw[NF (p:=Kr op kinds) (r:=.inr ()) fun x _=>rfl]
  by_cases h:kinds.all (Kr op kinds)=true
  ·rw[A2 h,A2 h];rfl
  rw[A1 h,A1 h];rfl
 ·intro s i k hk hi;have e:ar .add .i64 (i:Int) 1=i+1:=E9 (by omega) (by omega)
  have h0:C5 kinds 0=some (kinds.getD 0 0):=by
   have:C5 kinds 0=kinds[0]? :=G2 (i:=0);rw[this,N1,E2 (by omega)];rfl
  simp only[D1,B5,hi,I6,C7,G2,hk,A4,e,C8,h0,Q5];unfold Kr
  by_cases a5:op=5
  ·subst a5;by_cases hz:k=0<;>simp[hz]
  by_cases a6:op=6
  ·subst a6;by_cases hz:k=0<;>simp[hz]
  by_cases a7:op=7
  ·subst a7;by_cases hz:k=0<;>simp[hz]
  by_cases a8:op=8
  ·subst a8;by_cases hz:k=0<;>simp[hz]
  by_cases a10:op=10
  ·subst a10;by_cases hz:k=1<;>simp[hz]
  by_cases a11:op=11
  ·subst a11;by_cases hz:k=1<;>simp[hz]
  by_cases a12:op=12
  ·subst a12;by_cases hz:k=1<;>simp[hz]
  by_cases a9:op=9
  ·subst a9;generalize kinds.getD 0 0=z
   by_cases hz:k=z<;>simp[hz]
  simp[a5,a6,a7,a8,a9,a10,a11,a12]
 intro s;simp[D1,B5]
theorem LQ {α:Type} {F:B0→Option (A7×Int)} {R:B0→A7×Int}:∀{l:List B0} {s:List A7×List Int},s.2=s.1.map (·.Kind)→s.1.length+l.length≤1000000→(∀a∈l,F a=some (Jm R a))→
 K9 (fun(s:List A7×List Int) a=>(F a).bind fun r8=>if cmp .neq r8.2 0=true then some (Sum.inr (Sum.inr (α:=α) r8.2))else(N6 s.1 [r8.1]).bind fun l9=>(N6 s.2 [r8.1.Kind]).bind fun l12=>some (.inl (l9,l12))) l s=
  some (match Gr R l with| .inr f=>.inr (.inr f)| .inl q=>.inl (s.1++q,(s.1++q).map (·.Kind)))
 |[],s,h,_,_=>by obtain⟨a,b⟩:=s;dsimp only at h;subst h;simp[K9,Gr]
 | a::l,s,h,hl,hF=>by
  obtain⟨s1,s2⟩:=s
  dsimp only at h;subst h
  simp only[J7]at hl
  simp only[K9,Gr,hF a (by simp),A4,H8]
  by_cases hz:(Jm R a).2=0
  ·simp only[hz,I6,W5,F6,E4,ne_eq,EY];rw[U8 (by simp;omega),U8 (by simp;omega)];simp only[A4];have ih:=LQ (α:=α) (F:=F) (R:=R) (l:=l) (s:=(s1++[(Jm R a).1],s1.map (·.Kind)++[(Jm R a).1.Kind])) (by simp) (by simp;omega) fun b hb=>hF b (by simp[hb])
   simp only[H8]at ih
   rw[ih]
   cases Gr R l with
   |inr f=>rfl
   |inl q=>simp
  simp[hz]
theorem Mk {l:List A7}{i:Nat}(h:i<l.length):l[i]? =some (l.getD i Bu):=by
 rw[N1,E2 h];rfl
theorem Ar7 {N:Nat} (hN:40000000≤N) {env:Cl} (he:Jd env) (own:Int) (ev:B3) (u:Unit):∀(n:Nat) (x:B0),x.dep≤n→x.bulk≤16777216→(∀y∈x.pre,BY y=0)→N9 N n ⟨env,own,ev,u⟩ x=some (Jm (Ho env own ev) x):=by
 intro n
 induction n with
 |zero=>intro x h;rw[B0.dep_eq]at h;omega
 | succ n ih=>
  intro x hd hb hbad;have hx:=hbad x (by rw[B0.pre_eq];simp);have hd':=B0.dep_eq x;unfold N9;rw[Yf]
  by_cases h0:x.dD.length=0
  ·rw[A2 (by rw[C8,B5];exact D5 (by omega)),A2 h0,Ar6 hN he own ev u hx (Dx h0)];rfl
  rw[A1 (by rw[C8,B5];simpa using(show¬(x.dD.length:Int)=0 by omega)),A1 h0];obtain⟨a1,a2,a3⟩:=MQ hx
  have hlen:x.dD.length≤2:=by
   split at a3
   ·omega
   split at a3<;>omega
  have hop5:5≤x.Op:=by
   by_cases h5:x.Op<5
   ·rw[A2 h5]at a3;omega
   omega
  have hF:∀a∈x.dD,N9 N n ⟨env,own,ev,u⟩ a=some (Jm (Ho env own ev) a):=fun a ha=>ih a (by have:=SX ha;omega) (by have:=BT ha;omega) fun y hy=>hbad y (by rw[B0.pre_eq];exact Q1 _ (PU ha hy));rw[P6 x.dD (by omega) (mk:=fun(s:List A7×List Int) i=>(s.1,s.2,i)) (body:=fun(s:List A7×List Int) a=>(N9 N n ⟨env,own,ev,u⟩ a).bind fun r8=>if cmp .neq r8.2 0=true then some (.inr (.inr r8.2))else(N6 s.1 [r8.1]).bind fun l9=>(N6 s.2 [r8.1.Kind]).bind fun l12=>some (.inl (l9,l12))) (fin:=fun s=>.inl s) (s:=([],[])) (by omega) ?_ ?_]
  ·rw [LQ (R:=Ho env own ev) rfl (by simp;omega) hF]
   cases hq:Gr (Ho env own ev) x.dD with
   |inr f=>rfl
   | inl q=>
    simp only[A4,J1];have hql:=NZ hq;rw[Wa hN _ (by simp;omega)];simp only[A4]
    by_cases hz:KJ x.Op (q.map (·.Kind))=0
    ·rw[A1 (T5 hz),A1 (show¬KJ x.Op (q.map (·.Kind))≠0 by simpa using hz)]
     have hi0:C5 q 0=some (q.getD 0 Bu):=by
      have:C5 q 0=q[0]? :=G2 (i:=0);rw[this,Mk (by omega)]
     have hiL:C5 q (ar .sub .i64 (Ar.len q) 1)=some (q.getD (q.length - 1) Bu):=by
      have e:ar .sub .i64 (Ar.len q) 1=((q.length - 1:Nat):Int):=by
       have:ar .sub .i64 (Ar.len q) 1=Ar.len q - 1:=Eh (by rw[B5];omega) (by rw[B5];omega);rw[this,B5];omega
      rw[e,G2,Mk (by omega)]
     unfold Wi
     by_cases h9:x.Op=9
     ·rw[A2 (by rw[C8];exact D5 h9)]
      have h2:x.dD.length=2:=by rw[A1 (by omega),A1 (by omega)]at a3;omega
      have hi1:C5 q 1=some (q.getD 1 Bu):=by
       have:C5 q 1=q[1]? :=G2 (i:=1);rw[this,Mk (by omega)]
      rw[hi0,hi1];simp only[A4];rw[VX];simp only[A4,h9,C7,E6,IE,K6]
      congr 1
      generalize q.getD 0 Bu=v;generalize q.getD 1 Bu=w;obtain⟨v1,v2,v3⟩:=v;obtain⟨w1,w2,w3⟩:=w;simp only[N7,C8,GT,A7.mk.injEq,ET,KY]
     rw[A1 (by rw[C8];simpa using h9)];rw[hi0,hiL];simp only[A4,X8,Dl,Dk,Dj,Di,Dh,Dg,Df,VX,C8,D1,Kw,N7,P1,H8,A1 h9]
     have hop:x.Op=5∨x.Op=6∨x.Op=7∨x.Op=8∨x.Op=10∨x.Op=11∨x.Op=12:=by omega
     rcases hop with h|h|h|h|h|h|h<;>simp[h]
    rw[A2 (W0 hz),A2 hz];rfl
  ·intro s i a ha hi;have e:ar .add .i64 (i:Int) 1=i+1:=E9 (by omega) (by omega);simp only[D1,B5,hi,I6,C7,G2,ha,A4,e]
   cases N9 N n ⟨env,own,ev,u⟩ a with
   |none=>rfl
   | some r=>
    simp only[A4]
    split
    ·rfl
    cases N6 s.1 [r.1]with
    |none=>rfl
    |some l=>
     simp only[A4];cases N6 s.2 [r.1.Kind]<;>rfl
  intro s;simp[D1,B5]
def OX (env:Cl)(own:Int)(ev:B3)(x:B0):A7×Int:=if R7 x=0 then Jm (Ho env own ev) x else(Bu,R7 x)
theorem Nm {x:B0}(h:R7 x=0):∀y∈x.pre,BY y=0:=by
 unfold R7 at h
 split at h
 ·omega
 split at h
 ·omega
 exact Fk.1 h
theorem AO3 {N:Nat}(hN:40000000≤N){env:Cl}(he:Jd env)(own:Int)(ev:B3){x:B0}(hb:x.bulk≤16777216):JY N x env own ev=some (OX env own ev x):=by
 unfold JY OX;rw[UP hN hb];simp only[A4]
 by_cases h:R7 x=0
 ·rw[A1 (T5 h),A2 h];have hd:=Of x;rw[Ar7 hN he own ev () N x (by omega) hb (Nm h)];rfl
 rw[A2 (W0 h),A1 h];rfl
end
end Go.Ab
