/- GTV1 GTV2 GTV3 GTV5 GTV6 GTV7 GTW0 GTW1 GTW2 GTW3 -/
import Derived.Test.YtanbgjgaafeplaaGreatDoorM16
set_option linter.all false
open List (any_cons append_nil concat_eq_append)
open Go.Ab.Ar (an ar cmp scmp)
namespace Go.Ab
noncomputable section
def W2 :A4:=⟨0,0,⟨#[]⟩⟩
def K9 (k:Int)(v:A4):Int:=if H6 v≠0 then H6 v else if v.Kind=0∨(k≠1∧k≠2∧k≠3)then 0 else 9
def Ii (k:Int)(a b:A4):A4:=
 if k=1 then⟨0,ar .add .i64 a.Num b.Num,⟨#[]⟩⟩else if k=2 then⟨0,Ar.mn a.Num b.Num,⟨#[]⟩⟩else if k=3 then⟨0,Ar.mx a.Num b.Num,⟨#[]⟩⟩else if k=4 then a else if k=5 then b else W2
def Bm (k:Int)(v:A4):A4:=if k=0 then W2 else v
def Y8 (k:Int):List A4→A4
 |[]=>W2
 |v::l=>l.foldl (fun a b=>Ii k a (Bm k b)) (Bm k v)
def Yi (k:Int)(l:List A4)(o:A4):A4×Int:=
 if k<0∨5<k then(W2,1)else if 4096<l.length then(W2,5)else if P9 (K9 k) l≠0 then(W2,P9 (K9 k) l)else if K9 k o≠0 then(W2,K9 k o)
 else if k=0 then(⟨0,l.length,⟨#[]⟩⟩,0)else if l=[]∧k≠1 then(o,0)else(Y8 k l,0)
theorem LI (N:Nat)(k:Int)(v:A4):S5 N k v=some (decide (v.Kind=0∨(k≠1∧k≠2∧k≠3))):=by
 unfold S5;simp only[I8,L7,C0,F6,Option.some.injEq]
 by_cases h0:v.Kind=0<;>by_cases h1:k=1<;>by_cases h2:k=2<;>by_cases h3:k=3<;>simp[h0,h1,h2,h3]
theorem PH (N:Nat) (k:Int) (v:A4):M9 N k v=some (K9 k v):=by
 unfold M9 K9;rw[Jj,LI];simp only[Option.bind_some]
 by_cases h:H6 v=0
 ·rw[if_neg (J7 h),if_neg (show¬H6 v≠0 by simpa using h)]
  by_cases h2:v.Kind=0∨(k≠1∧k≠2∧k≠3)
  ·rw[if_neg (by rw[Q3,decide_eq_true h2];decide),if_pos h2]
  rw[if_pos (by rw[Q3,decide_eq_false h2];rfl),if_neg h2]
 rw[if_pos (K1 h),if_pos h]
theorem PG {k:Int}{v:A4}(h:K9 k v=0):H6 v=0∧(v.Kind=0∨(k≠1∧k≠2∧k≠3)):=by
 unfold K9 at h
 split at h
 ·rename_i h1;exact absurd h h1
 rename_i h1
 split at h
 ·rename_i h2;exact⟨by simpa using h1,h2⟩
 cases h
theorem HA {v:A4}(h:H6 v=0)(hk:v.Kind=0):v.Text=⟨#[]⟩∧ -1099511627776≤v.Num∧v.Num≤1099511627776:=by
 unfold H6 at h
 rw[if_pos (.inl hk)]at h
 split at h
 ·cases h
 rename_i h1
 split at h
 ·cases h
 rename_i h2;refine⟨by simpa using h1,?_⟩
 simp only[hk,true_and]at h2
 omega
theorem TO {n:Int}(h0: -1099511627776≤n)(h1:n≤1099511627776):H6 ⟨0,n,⟨#[]⟩⟩=0:=by
 unfold H6;simp only[true_or,if_true,ne_eq,not_true_eq_false,if_false];rw[if_neg (by simp;omega)]
structure Ux (k:Int) (n:Nat) (v:A4):Prop where
 c:k=0→v=W2
 s:k=1→v.Kind=0∧v.Text=⟨#[]⟩∧ -(1099511627776*(n:Int))≤v.Num∧v.Num≤1099511627776*(n:Int)
 m:k=2∨k=3→H6 v=0∧v.Kind=0
 f:k=4∨k=5→H6 v=0
theorem XI {k:Int}{v:A4}(h:K9 k v=0):Ux k 1 (Bm k v):=by
 obtain⟨h1,h2⟩:=PG h;unfold Bm
 by_cases k0:k=0
 ·rw[if_pos k0];exact⟨fun _=>rfl,by omega,by omega,by omega⟩
 rw[if_neg k0];refine⟨by omega,fun e=>?_,fun e=>⟨h1,by omega⟩,fun _=>h1⟩
 have hk:v.Kind=0:=by omega
 obtain⟨a,b,c⟩:=HA h1 hk;exact⟨hk,a,by omega,by omega⟩
theorem VE {k:Int} {n:Nat} {a v:A4} (ha:Ux k n a) (hn:n≤4096) (h:K9 k v=0):Ux k (n+1) (Ii k a (Bm k v)):=by
 obtain⟨h1,h2⟩:=PG h;unfold Ii
 by_cases k1:k=1
 ·rw[if_pos k1]
  have hk:v.Kind=0:=by omega
  obtain⟨_,b,c⟩:=HA h1 hk;obtain⟨_,_,d,e⟩:=ha.s k1;have e1:Bm k v=v:=if_neg (by omega);rw[e1];have e2:ar .add .i64 a.Num v.Num=a.Num+v.Num:=C4 (by omega) (by omega);rw[e2];exact⟨by omega,fun _=>⟨rfl,rfl,by simp only;omega,by simp only;omega⟩,by omega,by omega⟩
 rw[if_neg k1]
 by_cases k2:k=2
 ·rw[if_pos k2]
  have hk:v.Kind=0:=by omega
  obtain⟨_,b,c⟩:=HA h1 hk;obtain⟨d,e⟩:=ha.m (.inl k2);obtain⟨_,d1,d2⟩:=HA d e;have e1:Bm k v=v:=if_neg (by omega);rw[e1];refine⟨by omega,by omega,fun _=>⟨?_,rfl⟩,by omega⟩
  show H6 ⟨0,if v.Num<a.Num then v.Num else a.Num,⟨#[]⟩⟩=0
  split<;>exact TO (by omega) (by omega)
 rw[if_neg k2]
 by_cases k3:k=3
 ·rw[if_pos k3]
  have hk:v.Kind=0:=by omega
  obtain⟨_,b,c⟩:=HA h1 hk;obtain⟨d,e⟩:=ha.m (.inr k3);obtain⟨_,d1,d2⟩:=HA d e;have e1:Bm k v=v:=if_neg (by omega);rw[e1];refine⟨by omega,by omega,fun _=>⟨?_,rfl⟩,by omega⟩
  show H6 ⟨0,if a.Num<v.Num then v.Num else a.Num,⟨#[]⟩⟩=0
  split<;>exact TO (by omega) (by omega)
 rw[if_neg k3]
 by_cases k4:k=4
 ·rw[if_pos k4];exact⟨by omega,by omega,by omega,fun _=>ha.f (.inl k4)⟩
 rw[if_neg k4]
 by_cases k5:k=5
 ·rw[if_pos k5];have e1:Bm k v=v:=if_neg (by omega);rw[e1];exact⟨by omega,by omega,by omega,fun _=>h1⟩
 rw[if_neg k5];exact⟨fun _=>rfl,by omega,by omega,by omega⟩
theorem Tf {N:Nat}{k:Int}(h0:0≤k)(h5:k≤5)(a b:A4):X2 N k a b=some (Ii k a b):=by
 have h:k=0∨k=1∨k=2∨k=3∨k=4∨k=5:=by omega
 rcases h with rfl|rfl|rfl|rfl|rfl|rfl<;>rfl
theorem UL (N:Nat)(k:Int)(v:A4):Z0 N k v=some (Bm k v):=by
 unfold Z0 Bm;rw[C0]
 by_cases h:k=0
 ·rw[if_pos (decide_eq_true h),if_pos h];rfl
 rw[if_neg (by simpa using h),if_neg h]
def N3 (k:Int)(l:List A4):B9:=⟨k,l.length,Y8 k l⟩
theorem IU (k:Int)(l:List A4)(v:A4):Y8 k (l++[v])=if l=[]then Bm k v else Ii k (Y8 k l) (Bm k v):=by
 cases l with
 |nil=>rfl
 |cons a l=>simp[Y8,List.foldl_append]
theorem YA {N:Nat} {k:Int} (h0:0≤k) (h5:k≤5) (l:List A4) (hl:l.length≤4096) (v:A4):M7 N (N3 k l) v k=some (N3 k (l++[v])):=by
 unfold M7;rw[UL];simp only[Option.bind_some];unfold Bb;rw[C0,C0]
 have e:N3 k (l++[v])=⟨k,(l.length:Int)+1,if l=[]then Bm k v else Ii k (Y8 k l) (Bm k v)⟩:=by
  unfold N3;rw[IU];simp
 rw[e]
 cases l with
 |nil=>rfl
 | cons a l=>
  have hc:¬(decide ((N3 k (a::l)).Count=0)=true):=by
   show¬decide (((a::l).length:Int)=0)=true
   simp only[List.length_cons,decide_eq_true_eq];omega
  rw[if_neg hc,if_neg (by simp)]
  show((X2 N k (Y8 k (a::l)) (Bm k v)).bind _).bind _=_
  rw[Tf h0 h5];simp only[Option.bind_some,N3,reduceCtorEq,if_false];rw[C4 (by simp at hl ⊢;omega) (by simp at hl ⊢;omega)]
theorem JC {k:Int}:∀(n:Nat) {l:List A4},l.length=n→l≠[]→l.length≤4096→(∀v∈l,K9 k v=0)→Ux k l.length (Y8 k l):=by
 intro n
 induction n with
 |zero=>intro l h0 h;exact absurd (List.eq_nil_of_length_eq_zero h0) h
 |succ n ih=>
  intro l h0 h hn hv
  rcases List.eq_nil_or_concat l with rfl|⟨q,v,rfl⟩
  ·exact absurd rfl h
  rw[concat_eq_append]at *
  rw[IU,List.length_append];have hw:=hv v (by simp)
  simp only[List.length_append,List.length_cons,List.length_nil]at hn h0
  by_cases h:q=[]
  ·subst h;rw[if_pos rfl];exact XI hw
  rw[if_neg h];exact VE (ih (by omega) h (by omega) fun x hx=>hv x (by simp[hx])) (by omega) hw
theorem RD {N:Nat} {k:Int} (h0:0≤k) (h5:k≤5) {l:List A4} (hl:l.length≤4096) (hv:∀v∈l,K9 k v=0):Ak N (N3 k l)=some 0:=by
 unfold Ak W1;simp only[Option.bind_some]
 have e1:¬(Ar.nt (an (cmp .geq (N3 k l).Kind 0) (cmp .leq (N3 k l).Kind 5))=true):=by
  show¬((!(decide (0≤k)&&decide (k≤5)))=true)
  simp;omega
 have e2:¬(Ar.or (cmp .lss (N3 k l).Count 0) (cmp .gtr (N3 k l).Count 4096)=true):=by
  show¬((decide ((l.length:Int)<0)||decide (4096<(l.length:Int)))=true)
  simp;omega
 rw[if_neg e1,if_neg e2]
 by_cases hz:l=[]∨k=0
 ·have e3:Ar.or (cmp .eql (N3 k l).Count 0) (cmp .eql (N3 k l).Kind 0)=true:=by
   show(decide ((l.length:Int)=0)||decide (k=0))=true
   rcases hz with rfl|h
   ·rfl
   simp[h]
  have e4:(N3 k l).Value=W2:=by
   by_cases hn:l=[]
   ·subst hn;rfl
   exact(JC _ rfl hn hl hv).c (hz.resolve_left hn)
  rw[if_pos e3,e4];exact if_neg (by simp[Q3,L7,C0,CN,W2])
 have hn:l≠[]:=fun h=>hz (.inl h);have hk:k≠0:=fun h=>hz (.inr h);have hlen:l.length≠0:=fun h=>hn (List.eq_nil_of_length_eq_zero h)
 have e3:¬(Ar.or (cmp .eql (N3 k l).Count 0) (cmp .eql (N3 k l).Kind 0)=true):=by
  show¬((decide ((l.length:Int)=0)||decide (k=0))=true)
  simp[hk,hn]
 rw[if_neg e3];have g:=JC _ rfl hn hl hv
 by_cases k1:k=1
 ·rw[if_pos (show cmp .eql (N3 k l).Kind 1=true from decide_eq_true k1)];obtain⟨a,b,c,d⟩:=g.s k1;have ev:(N3 k l).Value=Y8 k l:=rfl;have ec:(N3 k l).Count=(l.length:Int):=rfl;have em:ar .mul .i64 (l.length:Int) 1099511627776=(l.length:Int)*1099511627776:=AF (by omega) (by omega)
  have en:Ar.neg .i64 ((l.length:Int)*1099511627776)= - ((l.length:Int)*1099511627776):=by
   show IntKind.wrap .i64 (0 - (l.length:Int)*1099511627776)=_
   rw[AF (by omega) (by omega)];omega
  rw[ev,ec,em,en];rw[if_neg];simp only[Q3,L7,C0,M1,Ce,CN];rw[decide_eq_true a,decide_eq_true b,decide_eq_true (show -((l.length:Int)*1099511627776)≤(Y8 k l).Num by omega),decide_eq_true (show(Y8 k l).Num≤(l.length:Int)*1099511627776 by omega)]
  decide
 rw[if_neg (show¬(cmp .eql (N3 k l).Kind 1=true)from(by show¬decide (k=1)=true;simpa using k1))]
 have hvb:H6 (Y8 k l)=0:=by
  by_cases h23:k=2∨k=3
  ·exact(g.m h23).1
  exact g.f (by omega)
 have hsu:(Y8 k l).Kind=0∨(k≠1∧k≠2∧k≠3):=by
  by_cases h23:k=2∨k=3
  ·exact .inl (g.m h23).2
  exact .inr (by omega)
 show((T9 N (Y8 k l)).bind _)=_
 rw[Jj,hvb];simp only[Option.bind_some];rw[if_pos (show cmp .eql 0 0=true from rfl)]
 show((S5 N k (Y8 k l)).bind _)=_
 rw[LI,decide_eq_true hsu];rfl
theorem Ag2 {N:Nat} (hN:40000000≤N) (k:Int) {l:List A4} (hl:l.length<1000000) (o:A4):Ci N k l o=some (Yi k l o):=by
 unfold Ci Yi W1;simp only[Option.bind_some]
 by_cases h0:k<0∨5<k
 ·rw[if_pos (by show(!(decide (0≤k)&&decide (k≤5)))=true;simp;omega),if_pos h0];rfl
 rw[if_neg (by show¬((!(decide (0≤k)&&decide (k≤5)))=true);simp;omega),if_neg h0]
 by_cases h1:4096<l.length
 ·rw[if_pos (X0 (by rw[B1];omega)),if_pos h1];rfl
 rw[if_neg (S9 (by rw[B1];omega)),if_neg h1];rw[F5 l (by omega) (mk:=fun(_:Unit) i=>i) (body:=As fun v=>M9 N k v) (fin:=fun _=>.inl ()) (s:=()) (by omega) ?_ ?_]
 ·rw [X4 (f:=K9 k) fun v _=>PH N k v]
  by_cases h2:P9 (K9 k) l=0
  ·rw [if_pos h2,if_neg (show¬P9 (K9 k) l≠0 by simpa using h2)];have hv:=CE.1 h2;simp only[Option.bind_some]
   have hf:G4 N (⟨k,0,⟨0,0,⟨#[]⟩⟩⟩:B9) l (fun y1 y2=>M7 N y1 y2 k)=some (N3 k l):=by
    unfold G4;rw[F5 l (by omega) (mk:=fun(s:B9) i=>(i,s)) (body:=fun s v=>(M7 N s v k).bind fun r=>some (.inl r)) (fin:=fun s=>s) (s:=⟨k,0,⟨0,0,⟨#[]⟩⟩⟩) (by omega) ?_ ?_]
    ·obtain⟨s',k1,p,k2,k3⟩:=V9 (R:=B9) (step:=fun s v=>(M7 N s v k).bind fun r=>some (.inl r)) (fun r s=>∃p,p++r=l∧s=N3 k p) (fun v r s ⟨p,e1,e2⟩=>by
      subst e2
      refine⟨_,by rw[YA (by omega) (by omega) p (by have:=congrArg List.length e1;simp at this;omega)];rfl,p++[v],by simpa using e1,rfl⟩) (l:=l) (s:=⟨k,0,⟨0,0,⟨#[]⟩⟩⟩) ⟨[],rfl,rfl⟩
     simp only[k1,Option.bind_some]
     rw[append_nil]at k2
     rw[k3,k2]
    ·intro s i a ha hi;have e:ar .add .i64 (i:Int) 1=i+1:=C4 (by omega) (by omega);simp only[C2,B1,hi,decide_true,if_true,C7,ha,Option.bind_some,e];cases M7 N s a k<;>rfl
    intro s;simp[C2,B1]
   rw[hf];simp only[Option.bind_some];unfold Bc;rw[RD (by omega) (by omega) (by omega) hv];simp only[Option.bind_some];rw[if_neg (show¬(cmp .neq 0 0=true) by decide)]
   show((M9 N k o).bind _).bind _=_
   rw[PH];simp only[Option.bind_some]
   by_cases h3:K9 k o=0
   ·rw[if_neg (J7 h3),if_neg (show¬K9 k o≠0 by simpa using h3)]
    by_cases h4:k=0
    ·rw[if_pos (show cmp .eql (N3 k l).Kind 0=true from decide_eq_true h4),if_pos h4];rfl
    rw[if_neg (show¬(cmp .eql (N3 k l).Kind 0=true)from(by show¬decide (k=0)=true;simpa using h4)),if_neg h4]
    by_cases h5:l=[]∧k≠1
    ·rw[if_pos (show an (cmp .eql (N3 k l).Count 0) (cmp .neq (N3 k l).Kind 1)=true by show(decide ((l.length:Int)=0)&& !decide (k=1))=true;simp[h5.1,h5.2]),if_pos h5];rfl
    rw[if_neg (show¬(an (cmp .eql (N3 k l).Count 0) (cmp .neq (N3 k l).Kind 1)=true) by show¬((decide ((l.length:Int)=0)&& !decide (k=1))=true);simpa using h5),if_neg h5];rfl
   rw[if_pos (K1 h3),if_pos h3];rfl
  rw[if_neg h2,if_pos h2];rfl
 ·intro s i a ha hi;have e:ar .add .i64 (i:Int) 1=i+1:=C4 (by omega) (by omega);simp only[C2,B1,hi,decide_true,if_true,C7,ha,Option.bind_some,e,As,F6]
  cases M9 N k a with
  |none=>rfl
  |some r=>by_cases h:r=0<;>simp[h]
 intro s;simp[C2,B1]
end
end Go.Ab
namespace Go.Ab
noncomputable section
def Fd (env:Bd)(v:Int):List A7:=if v<0∨(env.cT.length:Int)≤v then[]else env.cT.getD v.toNat []
def Eh (e:A7)(k:Int):A4×Int:=if(e.Values.length:Int)≤k then(W2,6)else(e.Values.getD k.toNat W2,0)
def Om (rows:List A7)(x:B0):A4×Int:=
 if(rows.all fun e=>decide (x.Field<(e.Values.length:Int)))=true then Yi x.Kind (rows.map fun e=>e.Values.getD x.Field.toNat W2) x.Value else(W2,6)
def IM (rows:List A7)(own:Int)(ev:A7)(v:Int):Option A7:=if v≠own then rows.getLast? else some ev
def WU (y:A7)(x:B0):A4×Int:=
 if x.Op=2 then(⟨0,y.Time,⟨#[]⟩⟩,0)else if(Eh y x.Field).2≠0 then(W2,(Eh y x.Field).2)else if H6 (Eh y x.Field).1≠0 then(W2,H6 (Eh y x.Field).1)else((Eh y x.Field).1,0)
def Fu (env:Bd)(own:Int)(ev:A7)(x:B0):A4×Int:=
 if x.Op=0 then(x.Value,0)else if x.Op=3 then(⟨0,(Fd env x.Var).length,⟨#[]⟩⟩,0)else if x.Op=4 then Om (Fd env x.Var) x
 else match IM (Fd env x.Var) own ev x.Var with|none=>(W2,10)|some y=>WU y x
theorem HT {x:B0}(hx:Y0 x=0):0≤x.Op∧x.Op≤12∧(x.cL.length:Int)=(if x.Op<5 then 0 else if x.Op=12 then 1 else 2):=by
 unfold Y0 at hx
 by_cases h1:x.Op<0∨12<x.Op
 ·rw[if_pos h1]at hx;cases hx
 rw[if_neg h1]at hx
 by_cases h2:(x.cL.length:Int)≠(if x.Op<5 then 0 else if x.Op=12 then 1 else 2)
 ·rw[if_pos h2]at hx;cases hx
 exact⟨by omega,by omega,by simpa using h2⟩
def Gr (e:Bd):Prop:=e.cT.length<1000000∧∀l∈e.cT,l.length<1000000
theorem Lz {env:Bd}(h:Gr env)(v:Int):(Fd env v).length<1000000:=by
 unfold Fd
 split
 ·simp
 rename_i hv
 have hi:v.toNat<env.cT.length:=by omega
 rw[List.getD_eq_getElem?_getD,List.getElem?_eq_getElem hi];exact h.2 _ (List.getElem_mem hi)
theorem KR (N:Nat)(env:Bd)(own:Int)(ev:A7)(u:Unit)(v:Int):M5 N ⟨env,own,ev,u⟩ v=some (Fd env v):=by
 unfold M5 Fd
 by_cases h:v<0∨(env.cT.length:Int)≤v
 ·rw[if_pos (by simp only[I8,C2,M1,B1];simpa using h),if_pos h]
 rw[if_neg (by simp only[I8,C2,M1,B1];simpa using h),if_neg h]
 have hi:v.toNat<env.cT.length:=by omega
 have hv:v=(v.toNat:Int):=by omega
 rw[hv,C7];simp only[List.getD_eq_getElem?_getD,Int.toNat_natCast,List.getElem?_eq_getElem hi,Option.bind_some,Option.getD_some]
theorem MG (N:Nat)(e:A7){k:Int}(hk:0≤k):Ad N e k=some (Eh e k):=by
 unfold Ad Eh
 by_cases h:(e.Values.length:Int)≤k
 ·rw[if_pos (by rw[M1,B1];exact decide_eq_true h),if_pos h];rfl
 rw[if_neg (by rw[M1,B1];simpa using h),if_neg h]
 have hi:k.toNat<e.Values.length:=by omega
 have hv:k=(k.toNat:Int):=by omega
 rw[hv,C7];simp only[List.getD_eq_getElem?_getD,Int.toNat_natCast,List.getElem?_eq_getElem hi,Option.bind_some,Option.getD_some]
theorem IB {α β R:Type} {body:List β→α→Option (List β ⊕ R)} {p:α→Bool} {g:α→β} {r:R}:∀{l:List α} {s:List β},s.length+l.length≤1000000→(∀(s:List β) x,x∈l→s.length≤1000000→body s x=some (if p x=true then .inl (s++[g x])else .inr r))→
 G8 body l s=some (if l.all p=true then .inl (s++l.map g)else .inr r)
 |[],s,_,_=>by simp[G8]
 |x::l,s,hl,h=>by
  simp only[G8,h s x (by simp) (by simp at hl;omega)]
  by_cases hp:p x=true
  ·simp only[hp,if_true];rw[IB (by simp at hl ⊢;omega) fun s y hy=>h s y (by simp[hy])];simp[hp]
  simp[hp]
theorem SW {N:Nat} (hN:40000000≤N) {env:Bd} (he:Gr env) (own:Int) (ev:A7) (u:Unit) {x:B0} (hf:0≤x.Field):R5 N ⟨env,own,ev,u⟩ x=some (Om (Fd env x.Var) x):=by
 have hl:=Lz he x.Var;unfold R5 Om;rw[KR];simp only[Option.bind_some]
 generalize Fd env x.Var=rows at hl
 rw[F5 rows (by omega) (mk:=fun(s:List A4) i=>(s,i)) (body:=fun s e=>(Ad N e x.Field).bind fun r=>if cmp .neq r.2 0=true then some (.inr (.inr r.2))else(H8 s [r.1]).bind fun l=>some (.inl l)) (fin:=fun s=>.inl s) (s:=[]) (by omega) ?_ ?_]
 ·rw[IB (p:=fun e=>decide (x.Field<(e.Values.length:Int))) (g:=fun e=>e.Values.getD x.Field.toNat W2) (r:=.inr 6) (by simp;omega) (fun s e _ hs=>by
   rw[MG N e hf];unfold Eh
   by_cases h:(e.Values.length:Int)≤x.Field
   ·rw[if_pos h,if_neg (by simpa using h)];rfl
   rw[if_neg h,if_pos (by simpa using h)];simp only[Option.bind_some]
   rw[if_neg (by decide),M2 (by simp;omega)];rfl)]
  by_cases h:(rows.all fun e=>decide (x.Field<(e.Values.length:Int)))=true
  ·rw[if_pos h,if_pos h];simp only[Option.bind_some,List.nil_append];rw[Ag2 hN _ (by simpa using hl)];rfl
  rw[if_neg h,if_neg h];rfl
 ·intro s i a ha hi;have e:ar .add .i64 (i:Int) 1=i+1:=C4 (by omega) (by omega);simp only[C2,B1,hi,decide_true,if_true,C7,ha,Option.bind_some,e]
  cases Ad N a x.Field with
  |none=>rfl
  |some r=>
   simp only[Option.bind_some]
   split
   ·rfl
   cases H8 s [r.1]<;>rfl
 intro s;simp[C2,B1]
theorem VM {N:Nat} (hN:40000000≤N) {env:Bd} (he:Gr env) (own:Int) (ev:A7) (u:Unit) {x:B0} (hx:Y0 x=0) (ha:x.cL=[]):T3 N ⟨env,own,ev,u⟩ x=some (Fu env own ev x):=by
 have hok:=Ab2 hx
 have hop:0≤x.Op∧x.Op<5:=by
  have:=HT hx
  rw[ha]at this
  simp only[List.length_nil]at this
  obtain⟨h1,h2,h3⟩:=this
  by_cases h5:x.Op<5
  ·exact⟨h1,h5⟩
  rw[if_neg h5]at h3
  split at h3<;>omega
 have hl:=Lz he x.Var;unfold T3 Fu;rw[KR];simp only[Option.bind_some]
 by_cases h0:x.Op=0
 ·rw[if_pos (by rw[C0];exact decide_eq_true h0),if_pos h0]
 rw[if_neg (by rw[C0];simpa using h0),if_neg h0]
 by_cases h3:x.Op=3
 ·rw[if_pos (by rw[C0];exact decide_eq_true h3),if_pos h3];rfl
 rw[if_neg (by rw[C0];simpa using h3),if_neg h3]
 by_cases h4:x.Op=4
 ·rw[if_pos (by rw[C0];exact decide_eq_true h4),if_pos h4,SW hN he own ev u (hok.1 (.inr h4)).1];rfl
 rw[if_neg (by rw[C0];simpa using h4),if_neg h4]
 have key:((if cmp .neq x.Var own=true then if cmp .eql (Ar.len (Fd env x.Var)) 0=true then some (.inr ())else(B6 (Fd env x.Var) (ar .sub .i64 (Ar.len (Fd env x.Var)) 1)).bind fun x6=>some (.inl x6)else some (.inl ev)):Option (A7 ⊕ Unit))=some (match IM (Fd env x.Var) own ev x.Var with|some y=>.inl y|none=>.inr ()):=by
  unfold IM
  by_cases hv:x.Var=own
  ·rw[if_neg (J7 hv),if_neg (by simpa using hv)]
  rw[if_pos (K1 hv),if_pos hv]
  generalize Fd env x.Var=rows at hl
  rcases List.eq_nil_or_concat rows with rfl|⟨q,y,rfl⟩
  ·rfl
  rw[concat_eq_append]at *
  have e1:ar .sub .i64 (Ar.len (q++[y])) 1=(q.length:Int):=by
   have:ar .sub .i64 (Ar.len (q++[y])) 1=Ar.len (q++[y]) - 1:=AF (by rw[B1];omega) (by rw[B1];omega);rw[this,B1];simp
  rw[if_neg (by rw[C0,B1];simp;omega),e1,C7];simp
 have key2:=congrArg (fun o=>o.bind fun s5=>match s5 with
  | .inl y7=>
   if cmp .eql x.Op 2=true then
    some ((⟨0,y7.Time,⟨#[]⟩⟩:A4),(0:Int))
   else
    (Ad N y7 x.Field).bind fun r8=>
    ((
     if cmp .eql r8.2 0=true then
      (T9 N r8.1).bind fun r10=>
      some r10
     else
      some r8.2
    ):Option (Int)).bind fun s9=>
    if cmp .neq s9 0=true then
     some ((⟨0,0,⟨#[]⟩⟩:A4),s9)
    else
     some (r8.1,0)
  | .inr y11=>
   some ((⟨0,0,⟨#[]⟩⟩:A4),10)) key
 refine key2.trans ?_
 cases hy:IM (Fd env x.Var) own ev x.Var with
 |none=>rfl
 | some y=>
  simp only[Option.bind_some];unfold WU
  by_cases h2:x.Op=2
  ·rw[if_pos (by rw[C0];exact decide_eq_true h2),if_pos h2]
  rw[if_neg (by rw[C0];simpa using h2),if_neg h2]
  have h1:x.Op=1:=by omega
  rw[MG N y (hok.1 (.inl h1)).1];simp only[Option.bind_some]
  by_cases hb:(Eh y x.Field).2=0
  ·rw[if_pos (by rw[C0];exact decide_eq_true hb),Jj,if_neg (by simpa using hb)];simp only[Option.bind_some]
   by_cases hc:H6 (Eh y x.Field).1=0
   ·rw[if_neg (J7 hc),if_neg (by simpa using hc)]
   rw[if_pos (K1 hc),if_pos hc];rfl
  rw[if_neg (by rw[C0];simpa using hb),if_pos hb];simp only[Option.bind_some];rw[if_pos (K1 hb)];rfl
end
end Go.Ab
namespace Go.Ab
noncomputable section
def Ie (b:Bool):A4:=if b=true then⟨1,1,⟨#[]⟩⟩else⟨1,0,⟨#[]⟩⟩
def Ga (op:Int)(kinds:List Int)(k:Int):Bool:=
 if op=5∨op=6∨op=7∨op=8 then decide (k=0)else if op=10∨op=11∨op=12 then decide (k=1)else if op=9 then decide (k=kinds.getD 0 0)else true
def Gs (op:Int)(kinds:List Int):Int:=if kinds.all (Ga op kinds)=true then 0 else 9
instance (x y:A4):Decidable (x=y):=by
 obtain⟨a,b,c⟩:=x;obtain⟨d,e,f⟩:=y;exact decidable_of_iff (a=d∧b=e∧c=f) (by simp)
def Po (op:Int)(l:List A4):A4:=
 let a:=l.getD 0 W2
 let b:=l.getD (l.length - 1) W2
 if op=9 then Ie (decide (a=l.getD 1 W2))else if op=5 then⟨0,ar .add .i64 a.Num b.Num,⟨#[]⟩⟩else if op=6 then⟨0,ar .sub .i64 a.Num b.Num,⟨#[]⟩⟩
 else if op=7 then Ie (decide (a.Num<b.Num))else if op=8 then Ie (decide (a.Num≤b.Num))else if op=10 then Ie (decide (a.Num=1)&&decide (b.Num=1))else if op=11 then Ie (decide (a.Num=1)||decide (b.Num=1))else Ie (!decide (a.Num=1))
mutual
def EP (R:B0→A4×Int):B0→A4×Int
 |⟨op,args,var,field,kind,val⟩=>
  if args.length=0 then R ⟨op,args,var,field,kind,val⟩else
  match CA R args with
  | .inr f=>(W2,f)
  | .inl l=>if Gs op (l.map (·.Kind))≠0 then(W2,Gs op (l.map (·.Kind)))else(Po op l,0)
def CA (R:B0→A4×Int):List B0→List A4 ⊕ Int
 |[]=>.inl []
 |a::r=>if(EP R a).2≠0 then .inr (EP R a).2 else match CA R r with| .inr f=>.inr f| .inl l=>.inl ((EP R a).1::l)
end
theorem Rj (R:B0→A4×Int)(x:B0):EP R x=if x.cL.length=0 then R x else
 match CA R x.cL with
 | .inr f=>(W2,f)
 | .inl l=>if Gs x.Op (l.map (·.Kind))≠0 then(W2,Gs x.Op (l.map (·.Kind)))else(Po x.Op l,0):=by cases x;simp only[EP]
theorem IW {R:B0→A4×Int}:∀{l:List B0} {r:List A4},CA R l= .inl r→r.length=l.length
 |[],r,h=>by simp only[CA,Sum.inl.injEq]at h;subst h;rfl
 |a::l,r,h=>by
  simp only[CA]at h
  split at h
  ·cases h
  cases hr:CA R l with
  |inr f=>rw[hr]at h;cases h
  |inl q=>rw[hr]at h;simp only[Sum.inl.injEq]at h;subst h;simp[IW hr]
theorem Pf (N:Nat)(b:Bool):Y9 N b=some (Ie b):=by
 unfold Y9 FM Ie;cases b<;>rfl
theorem Pi {N:Nat} (hN:40000000≤N) (op:Int) {kinds:List Int} (hl:kinds.length<1000000):Bt N op kinds=some (Gs op kinds):=by
 unfold Bt Gs;rw[F5 kinds (by omega) (mk:=fun(_:Unit) i=>i) (body:=fun _ k=>some (if Ga op kinds k=true then .inl ()else .inr (.inr ()))) (fin:=fun _=>.inl ()) (s:=()) (by omega) ?_ ?_]
 ·rw[IC (p:=Ga op kinds) (r:=.inr ()) fun x _=>rfl]
  by_cases h:kinds.all (Ga op kinds)=true
  ·rw[if_pos h,if_pos h];rfl
  rw[if_neg h,if_neg h];rfl
 ·intro s i k hk hi;have e:ar .add .i64 (i:Int) 1=i+1:=C4 (by omega) (by omega)
  have h0:B6 kinds 0=some (kinds.getD 0 0):=by
   have:B6 kinds 0=kinds[0]? :=C7 (i:=0);rw[this,List.getD_eq_getElem?_getD,List.getElem?_eq_getElem (by omega)];rfl
  simp only[C2,B1,hi,decide_true,if_true,C7,hk,Option.bind_some,e,C0,h0,Q3];unfold Ga
  by_cases a5:op=5
  ·subst a5;by_cases hz:k=0<;>simp[hz]
  by_cases a6:op=6
  ·subst a6;by_cases hz:k=0<;>simp[hz]
  by_cases a7:op=7
  ·subst a7;by_cases hz:k=0<;>simp[hz]
  by_cases a8:op=8
  ·subst a8;by_cases hz:k=0<;>simp[hz]
  by_cases a10:op=10
  ·subst a10;by_cases hz:k=1<;>simp[hz]
  by_cases a11:op=11
  ·subst a11;by_cases hz:k=1<;>simp[hz]
  by_cases a12:op=12
  ·subst a12;by_cases hz:k=1<;>simp[hz]
  by_cases a9:op=9
  ·subst a9;generalize kinds.getD 0 0=z
   by_cases hz:k=z<;>simp[hz]
  simp[a5,a6,a7,a8,a9,a10,a11,a12]
 intro s;simp[C2,B1]
theorem GV {α:Type} {F:B0→Option (A4×Int)} {R:B0→A4×Int}:∀{l:List B0} {s:List A4×List Int},s.2=s.1.map (·.Kind)→s.1.length+l.length≤1000000→(∀a∈l,F a=some (EP R a))→
 G8 (fun(s:List A4×List Int) a=>(F a).bind fun r8=>if cmp .neq r8.2 0=true then some (Sum.inr (Sum.inr (α:=α) r8.2))else(H8 s.1 [r8.1]).bind fun l9=>(H8 s.2 [r8.1.Kind]).bind fun l12=>some (.inl (l9,l12))) l s=
  some (match CA R l with| .inr f=>.inr (.inr f)| .inl q=>.inl (s.1++q,(s.1++q).map (·.Kind)))
 |[],s,h,_,_=>by obtain⟨a,b⟩:=s;dsimp only at h;subst h;simp[G8,CA]
 | a::l,s,h,hl,hF=>by
  obtain⟨s1,s2⟩:=s
  dsimp only at h;subst h
  simp only[List.length_cons]at hl
  simp only[G8,CA,hF a (by simp),Option.bind_some,F6]
  by_cases hz:(EP R a).2=0
  ·simp only[hz,decide_true,Bool.not_true,Bool.false_eq_true,if_false,ne_eq,not_true_eq_false];rw[M2 (by simp;omega),M2 (by simp;omega)];simp only[Option.bind_some];have ih:=GV (α:=α) (F:=F) (R:=R) (l:=l) (s:=(s1++[(EP R a).1],s1.map (·.Kind)++[(EP R a).1.Kind])) (by simp) (by simp;omega) fun b hb=>hF b (by simp[hb])
   simp only[F6]at ih
   rw[ih]
   cases CA R l with
   |inr f=>rfl
   |inl q=>simp
  simp[hz]
theorem Hn {l:List A4}{i:Nat}(h:i<l.length):l[i]? =some (l.getD i W2):=by
 rw[List.getD_eq_getElem?_getD,List.getElem?_eq_getElem h];rfl
theorem VO {N:Nat} (hN:40000000≤N) {env:Bd} (he:Gr env) (own:Int) (ev:A7) (u:Unit):∀(n:Nat) (x:B0),x.dep≤n→x.bulk≤16777216→(∀y∈x.pre,Y0 y=0)→I1 N n ⟨env,own,ev,u⟩ x=some (EP (Fu env own ev) x):=by
 intro n
 induction n with
 |zero=>intro x h;rw[B0.dep_eq]at h;omega
 | succ n ih=>
  intro x hd hb hbad;have hx:=hbad x (by rw[B0.pre_eq];simp);have hd':=B0.dep_eq x;unfold I1;rw[Rj]
  by_cases h0:x.cL.length=0
  ·rw[if_pos (by rw[C0,B1];exact decide_eq_true (by omega)),if_pos h0,VM hN he own ev u hx (List.eq_nil_of_length_eq_zero h0)];rfl
  rw[if_neg (by rw[C0,B1];simpa using(show¬(x.cL.length:Int)=0 by omega)),if_neg h0];obtain⟨a1,a2,a3⟩:=HT hx
  have hlen:x.cL.length≤2:=by
   split at a3
   ·omega
   split at a3<;>omega
  have hop5:5≤x.Op:=by
   by_cases h5:x.Op<5
   ·rw[if_pos h5]at a3;omega
   omega
  have hF:∀a∈x.cL,I1 N n ⟨env,own,ev,u⟩ a=some (EP (Fu env own ev) a):=fun a ha=>ih a (by have:=MH ha;omega) (by have:=X5 ha;omega) fun y hy=>hbad y (by rw[B0.pre_eq];exact List.mem_cons_of_mem _ (Kr ha hy));rw[F5 x.cL (by omega) (mk:=fun(s:List A4×List Int) i=>(s.1,s.2,i)) (body:=fun(s:List A4×List Int) a=>(I1 N n ⟨env,own,ev,u⟩ a).bind fun r8=>if cmp .neq r8.2 0=true then some (.inr (.inr r8.2))else(H8 s.1 [r8.1]).bind fun l9=>(H8 s.2 [r8.1.Kind]).bind fun l12=>some (.inl (l9,l12))) (fin:=fun s=>.inl s) (s:=([],[])) (by omega) ?_ ?_]
  ·rw [GV (R:=Fu env own ev) rfl (by simp;omega) hF]
   cases hq:CA (Fu env own ev) x.cL with
   |inr f=>rfl
   | inl q=>
    simp only[Option.bind_some,List.nil_append];have hql:=IW hq;rw[Pi hN _ (by simp;omega)];simp only[Option.bind_some]
    by_cases hz:Gs x.Op (q.map (·.Kind))=0
    ·rw[if_neg (J7 hz),if_neg (show¬Gs x.Op (q.map (·.Kind))≠0 by simpa using hz)]
     have hi0:B6 q 0=some (q.getD 0 W2):=by
      have:B6 q 0=q[0]? :=C7 (i:=0);rw[this,Hn (by omega)]
     have hiL:B6 q (ar .sub .i64 (Ar.len q) 1)=some (q.getD (q.length - 1) W2):=by
      have e:ar .sub .i64 (Ar.len q) 1=((q.length - 1:Nat):Int):=by
       have:ar .sub .i64 (Ar.len q) 1=Ar.len q - 1:=AF (by rw[B1];omega) (by rw[B1];omega);rw[this,B1];omega
      rw[e,C7,Hn (by omega)]
     unfold Po
     by_cases h9:x.Op=9
     ·rw[if_pos (by rw[C0];exact decide_eq_true h9)]
      have h2:x.cL.length=2:=by rw[if_neg (by omega),if_neg (by omega)]at a3;omega
      have hi1:B6 q 1=some (q.getD 1 W2):=by
       have:B6 q 1=q[1]? :=C7 (i:=1);rw[this,Hn (by omega)]
      rw[hi0,hi1];simp only[Option.bind_some];rw[Pf];simp only[Option.bind_some,h9,if_true,Option.some.injEq,Prod.mk.injEq,and_true]
      congr 1
      generalize q.getD 0 W2=v;generalize q.getD 1 W2=w;obtain⟨v1,v2,v3⟩:=v;obtain⟨w1,w2,w3⟩:=w;simp only[L7,C0,CN,A4.mk.injEq,Bool.and_true,Bool.decide_and]
     rw[if_neg (by rw[C0];simpa using h9)];rw[hi0,hiL];simp only[Option.bind_some,O7,AC,AB,AA,Az,Ay,Ax,Aw,Pf,C0,C2,Ce,L7,I8,F6,if_neg h9]
     have hop:x.Op=5∨x.Op=6∨x.Op=7∨x.Op=8∨x.Op=10∨x.Op=11∨x.Op=12:=by omega
     rcases hop with h|h|h|h|h|h|h<;>simp[h]
    rw[if_pos (K1 hz),if_pos hz];rfl
  ·intro s i a ha hi;have e:ar .add .i64 (i:Int) 1=i+1:=C4 (by omega) (by omega);simp only[C2,B1,hi,decide_true,if_true,C7,ha,Option.bind_some,e]
   cases I1 N n ⟨env,own,ev,u⟩ a with
   |none=>rfl
   | some r=>
    simp only[Option.bind_some]
    split
    ·rfl
    cases H8 s.1 [r.1]with
    |none=>rfl
    |some l=>
     simp only[Option.bind_some];cases H8 s.2 [r.1.Kind]<;>rfl
  intro s;simp[C2,B1]
def KS (env:Bd)(own:Int)(ev:A7)(x:B0):A4×Int:=if K0 x=0 then EP (Fu env own ev) x else(W2,K0 x)
theorem Ig {x:B0}(h:K0 x=0):∀y∈x.pre,Y0 y=0:=by
 unfold K0 at h
 split at h
 ·omega
 split at h
 ·omega
 exact CE.1 h
theorem ZB {N:Nat}(hN:40000000≤N){env:Bd}(he:Gr env)(own:Int)(ev:A7){x:B0}(hb:x.bulk≤16777216):FA N x env own ev=some (KS env own ev x):=by
 unfold FA KS;rw[Ob hN hb];simp only[Option.bind_some]
 by_cases h:K0 x=0
 ·rw[if_neg (J7 h),if_pos h];have hd:=IZ x;rw[VO hN he own ev () N x (by omega) hb (Ig h)];rfl
 rw[if_pos (K1 h),if_neg h];rfl
end
end Go.Ab
namespace Go.Ab
noncomputable section
open Classical
theorem RX (x y:A4):an (cmp .eql x.Kind y.Kind) (an (cmp .eql x.Num y.Num) (an (scmp .eql x.Text y.Text) true))=decide (x=y):=by
 rw[CN];simp only[L7,C0,Bool.and_true];cases x;cases y;simp only[A4.mk.injEq];rw[Bool.eq_iff_iff];simp
def Dd (env:Bd)(own:Int)(ev:A7)(x:B0):Bool:=decide ((KS env own ev x).2=0)&&decide ((KS env own ev x).1=⟨1,1,⟨#[]⟩⟩)
theorem PL {N:Nat}(hN:40000000≤N){env:Bd}(he:Gr env)(own:Int)(ev:A7){x:B0}(hb:x.bulk≤16777216):Cx N x env own ev=some (Dd env own ev x):=by
 unfold Cx Dd;rw[ZB hN he own ev hb];simp only[Option.bind_some];rw[C0]
 by_cases h:(KS env own ev x).2=0
 ·rw[if_pos (decide_eq_true h),Pf];simp only[Option.bind_some,decide_eq_true h,Bool.true_and];rw[RX];exact congrArg some (decide_eq_decide.2 Iff.rfl)
 rw[if_neg (by simpa using h),decide_eq_false h];rfl
end
end Go.Ab
namespace Go.Ab
noncomputable section
theorem KI (N:Nat){k:Int}(h0:0≤k)(h5:k≤5)(v:A4):U5 N k v=some (decide (v.Kind=0∨(k≠1∧k≠2∧k≠3))):=by
 unfold U5;simp only[I8,C0,Option.some.injEq]
 have h:k=0∨k=1∨k=2∨k=3∨k=4∨k=5:=by omega
 by_cases hz:v.Kind=0<;>rcases h with rfl|rfl|rfl|rfl|rfl|rfl<;>simp[hz]
theorem Nz (N:Nat) {k:Int} (h0:0≤k) (h5:k≤5) (v:A4):Z3 N k v=some (K9 k v):=by
 unfold Z3 K9;rw[Hz];simp only[Option.bind_some]
 by_cases h:H6 v=0
 ·rw[if_neg (J7 h),if_neg (show¬H6 v≠0 by simpa using h),KI N h0 h5];simp only[Option.bind_some]
  by_cases h2:v.Kind=0∨(k≠1∧k≠2∧k≠3)
  ·rw[if_neg (by rw[Q3,decide_eq_true h2];decide),if_pos h2]
  rw[if_pos (by rw[Q3,decide_eq_false h2];rfl),if_neg h2]
 rw[if_pos (K1 h),if_pos h]
theorem Qq (N:Nat)(k:Int)(a b:A4):Bo N k a b=some (Ii k a b):=by
 unfold Bo Ii;simp only[C0,decide_eq_true_eq]
 repeat (split;rfl)
 rfl
theorem Qk (N:Nat)(k:Int):DW N k=some (decide (0≤k)&&decide (k≤5)):=rfl
theorem Jr {N:Nat} {k:Int} (h0:0≤k) (h5:k≤5) {l:List A4} (hl:l.length≤4096) (hv:∀v∈l,K9 k v=0):BL N (N3 k l)=some 0:=by
 unfold BL;rw[Qk];simp only[Option.bind_some]
 have e1:¬(Ar.nt (decide (0≤(N3 k l).Kind)&&decide ((N3 k l).Kind≤5))=true):=by
  show¬((!(decide (0≤k)&&decide (k≤5)))=true)
  simp;omega
 have e2:¬(Ar.or (cmp .lss (N3 k l).Count 0) (cmp .gtr (N3 k l).Count 4096)=true):=by
  show¬((decide ((l.length:Int)<0)||decide (4096<(l.length:Int)))=true)
  simp;omega
 rw[if_neg e1,if_neg e2]
 by_cases hz:l=[]∨k=0
 ·have e3:Ar.or (cmp .eql (N3 k l).Count 0) (cmp .eql (N3 k l).Kind 0)=true:=by
   show(decide ((l.length:Int)=0)||decide (k=0))=true
   rcases hz with rfl|h
   ·rfl
   simp[h]
  have e4:(N3 k l).Value=W2:=by
   by_cases hn:l=[]
   ·subst hn;rfl
   exact(JC _ rfl hn hl hv).c (hz.resolve_left hn)
  rw[if_pos e3,e4];exact if_neg (by simp[Q3,L7,C0,CN,W2])
 have hn:l≠[]:=fun h=>hz (.inl h);have hk:k≠0:=fun h=>hz (.inr h);have hlen:l.length≠0:=fun h=>hn (List.eq_nil_of_length_eq_zero h)
 have e3:¬(Ar.or (cmp .eql (N3 k l).Count 0) (cmp .eql (N3 k l).Kind 0)=true):=by
  show¬((decide ((l.length:Int)=0)||decide (k=0))=true)
  simp[hk,hn]
 rw[if_neg e3];have g:=JC _ rfl hn hl hv
 by_cases k1:k=1
 ·rw[if_pos (show cmp .eql (N3 k l).Kind 1=true from decide_eq_true k1)];obtain⟨a,b,c,d⟩:=g.s k1;have ev:(N3 k l).Value=Y8 k l:=rfl;have ec:(N3 k l).Count=(l.length:Int):=rfl;have em:ar .mul .i64 (l.length:Int) 1099511627776=(l.length:Int)*1099511627776:=AF (by omega) (by omega)
  have en:Ar.neg .i64 ((l.length:Int)*1099511627776)= - ((l.length:Int)*1099511627776):=by
   show IntKind.wrap .i64 (0 - (l.length:Int)*1099511627776)=_
   rw[AF (by omega) (by omega)];omega
  rw[ev,ec,em,en];rw[if_neg];rw[show scmp .neq (Y8 k l).Text ⟨#[]⟩= !(scmp .eql (Y8 k l).Text ⟨#[]⟩)from rfl,CN];simp only[I8,F6,C2,Q6];rw[decide_eq_true a,decide_eq_true b,decide_eq_false (show¬(Y8 k l).Num< -((l.length:Int)*1099511627776) by omega),decide_eq_false (show¬(l.length:Int)*1099511627776<(Y8 k l).Num by omega)]
  decide
 rw[if_neg (show¬(cmp .eql (N3 k l).Kind 1=true)from(by show¬decide (k=1)=true;simpa using k1))]
 have hvb:H6 (Y8 k l)=0:=by
  by_cases h23:k=2∨k=3
  ·exact(g.m h23).1
  exact g.f (by omega)
 have hsu:(Y8 k l).Kind=0∨(k≠1∧k≠2∧k≠3):=by
  by_cases h23:k=2∨k=3
  ·exact .inl (g.m h23).2
  exact .inr (by omega)
 show((W7 N (Y8 k l)).bind _)=_
 rw[Hz,hvb];simp only[Option.bind_some];rw[if_neg (show¬(cmp .neq 0 0=true) by decide)]
 show((U5 N k (Y8 k l)).bind _)=_
 rw[KI N h0 h5,decide_eq_true hsu];rfl
theorem YT {N:Nat} {k:Int} (h0:0≤k) (h5:k≤5) {l:List A4} (hl:l.length<4096) (hv:∀v∈l,K9 k v=0) (v:A4):
 ∃z,BM N (N3 k l) v=some (if K9 k v=0 then(N3 k (l++[v]),0)else(z,K9 k v)):=by
 refine⟨⟨0,0,W2⟩,?_⟩;unfold BM;rw[Jr h0 h5 (by omega) hv];simp only[Option.bind_some];rw[if_neg (show¬(cmp .neq 0 0=true) by decide)]
 show((Z3 N k v).bind _)=_
 rw[Nz N h0 h5];simp only[Option.bind_some]
 by_cases hw:K9 k v=0
 ·rw[if_neg (J7 hw),if_pos hw];have ec:(N3 k l).Count=(l.length:Int):=rfl;have ek:(N3 k l).Kind=k:=rfl;have ev:(N3 k l).Value=Y8 k l:=rfl
  have ea:N3 k (l++[v])=⟨k,(l.length:Int)+1,if l=[]then Bm k v else Ii k (Y8 k l) (Bm k v)⟩:=by
   unfold N3;rw[IU];simp
  rw[ec,ek,ev,ea,C4 (a:=(l.length:Int)) (by omega) (by omega)];rw[if_neg (show¬(cmp .eql (l.length:Int) 4096=true) by rw[C0];simp;omega)]
  by_cases k0:k=0
  ·subst k0;rw[if_pos (show cmp .eql 0 0=true by rfl)]
   have:(if l=[]then Bm 0 v else Ii 0 (Y8 0 l) (Bm 0 v))=W2:=by split<;>rfl
   rw[this];rfl
  rw[if_neg (show¬(cmp .eql k 0=true) by rw[C0];simpa using k0)];have es:Bm k v=v:=if_neg k0;rw[es]
  by_cases hn:l=[]
  ·subst hn;rw[if_neg (show¬(cmp .gtr (([]:List A4).length:Int) 0=true) by decide),if_pos rfl]
  have:0<l.length:=List.length_pos_iff.2 hn;rw[if_pos (show cmp .gtr (l.length:Int) 0=true from decide_eq_true (by omega)),Qq,if_neg hn];rfl
 rw[if_pos (K1 hw),if_neg hw];rfl
theorem KK {N:Nat} {k:Int} (h0:0≤k) (h5:k≤5):∀(l p:List A4),p.length+l.length≤4096→(∀v∈p,K9 k v=0)→
 ∃z,G8 (fun(s:B9) v=>(BM N s v).bind fun r=>if cmp .neq r.2 0=true then some (Sum.inr (Sum.inr (α:=B9) (r.2,s)))else some (.inl r.1)) l (N3 k p)=
  some (if P9 (K9 k) l=0 then .inl (N3 k (p++l))else .inr (.inr (P9 (K9 k) l,z)))
 |[],p,_,_=>⟨N3 k p,by simp[G8,P9]⟩
 |v::l,p,hl,hp=>by
  simp only[List.length_cons]at hl
  obtain⟨z,hz⟩:=YT (N:=N) h0 h5 (l:=p) (by omega) hp v;simp only[G8,hz,Option.bind_some,P9]
  by_cases hw:K9 k v=0
  ·obtain⟨z',h'⟩:=KK (N:=N) h0 h5 l (p++[v]) (by simp;omega) (by intro x hx;rcases List.mem_append.1 hx with h|h;exact hp x h;rw[List.mem_singleton.1 h];exact hw);refine⟨z',?_⟩;simp only[hw,if_true,if_neg (J7 (rfl:(0:Int)=0))];rw[h',List.append_assoc];rfl
  refine⟨N3 k p,?_⟩;simp only[hw,if_false,if_pos (K1 hw)]
theorem YS {N:Nat} (hN:40000000≤N) (k:Int) (l:List A4) (o:A4):GS N k l o=some (Yi k l o):=by
 unfold GS Yi;rw[Qk];simp only[Option.bind_some]
 by_cases h0:k<0∨5<k
 ·rw[if_pos (by show(!(decide (0≤k)&&decide (k≤5)))=true;simp;omega),if_pos h0];rfl
 rw[if_neg (by show¬((!(decide (0≤k)&&decide (k≤5)))=true);simp;omega),if_neg h0]
 by_cases h1:4096<l.length
 ·rw[if_pos (X0 (by rw[B1];omega)),if_pos h1];rfl
 rw[if_neg (S9 (by rw[B1];omega)),if_neg h1];rw[F5 l (by omega) (mk:=fun(s:B9) i=>(i,s)) (body:=fun(s:B9) v=>(BM N s v).bind fun r=>if cmp .neq r.2 0=true then some (Sum.inr (Sum.inr (α:=B9) (r.2,s)))else some (.inl r.1)) (fin:=fun s=>.inl s) (s:=⟨k,0,⟨0,0,⟨#[]⟩⟩⟩) (by omega) ?_ ?_]
 ·obtain⟨z,hz⟩:=KK (N:=N) (k:=k) (by omega) (by omega) l [] (by simpa using by omega) (by simp);rw[show(⟨k,0,⟨0,0,⟨#[]⟩⟩⟩:B9)=N3 k []from rfl,hz]
  by_cases h2:P9 (K9 k) l=0
  ·rw[if_pos h2,if_neg (show¬P9 (K9 k) l≠0 by simpa using h2)];have hv:=CE.1 h2;simp only[Option.bind_some,List.nil_append];unfold Dr;rw[Jr (by omega) (by omega) (by omega) hv];simp only[Option.bind_some];rw[if_neg (show¬(cmp .neq 0 0=true) by decide)]
   show((Z3 N k o).bind _).bind _=_
   rw[Nz N (by omega) (by omega)];simp only[Option.bind_some]
   by_cases h3:K9 k o=0
   ·rw[if_neg (J7 h3),if_neg (show¬K9 k o≠0 by simpa using h3)]
    by_cases h4:k=0
    ·rw[if_pos (show cmp .eql (N3 k l).Kind 0=true from decide_eq_true h4),if_pos h4];rfl
    rw[if_neg (show¬(cmp .eql (N3 k l).Kind 0=true)from(by show¬decide (k=0)=true;simpa using h4)),if_neg h4]
    by_cases h5:l=[]∧k≠1
    ·rw[if_pos (show an (cmp .eql (N3 k l).Count 0) (cmp .neq (N3 k l).Kind 1)=true by show(decide ((l.length:Int)=0)&& !decide (k=1))=true;simp[h5.1,h5.2]),if_pos h5];rfl
    rw[if_neg (show¬(an (cmp .eql (N3 k l).Count 0) (cmp .neq (N3 k l).Kind 1)=true) by show¬((decide ((l.length:Int)=0)&& !decide (k=1))=true);simpa using h5),if_neg h5];rfl
   rw[if_pos (K1 h3),if_pos (show K9 k o≠0 from h3)];rfl
  rw[if_neg h2,if_pos (show P9 (K9 k) l≠0 from h2)];rfl
 ·intro s i a ha hi;have e:ar .add .i64 (i:Int) 1=i+1:=C4 (by omega) (by omega);simp only[C2,B1,hi,decide_true,if_true,C7,ha,Option.bind_some,e]
  cases BM N s a with
  |none=>rfl
  |some r=>simp only[Option.bind_some];split<;>rfl
 intro s;simp[C2,B1]
end
end Go.Ab
namespace Go.Ab
noncomputable section
theorem LV (N:Nat)(b:Bool):O3 N b=some (Ie b):=by unfold O3 Ie;cases b<;>rfl
theorem OE (N:Nat)(env:Bd)(v:Int):Z8 N env v=some (Fd env v):=by
 unfold Z8 Fd
 by_cases h:v<0∨(env.cT.length:Int)≤v
 ·rw[if_pos (by simp only[I8,C2,M1,B1];simpa using h),if_pos h]
 rw[if_neg (by simp only[I8,C2,M1,B1];simpa using h),if_neg h]
 have hi:v.toNat<env.cT.length:=by omega
 have hv:v=(v.toNat:Int):=by omega
 rw[hv,C7];simp only[List.getD_eq_getElem?_getD,Int.toNat_natCast,List.getElem?_eq_getElem hi,Option.bind_some,Option.getD_some]
theorem Rb {l:List A4}{k:Int}(h0:0≤k)(h1:k<l.length):B6 l k=some (l.getD k.toNat W2):=by
 obtain⟨i,rfl⟩:=Int.eq_ofNat_of_zero_le h0
 have hi:i<l.length:=by omega
 rw[C7];simp[List.getD_eq_getElem?_getD,List.getElem?_eq_getElem hi]
theorem WO (N:Nat) {env:Bd} (he:Gr env) (v own:Int) (ev:A7):DU N env v own ev=some (match IM (Fd env v) own ev v with|some y=>(y,true)|none=>(⟨0,0,0,0,[]⟩,false)):=by
 have hl:=Lz he v;unfold DU IM
 by_cases hv:v=own
 ·rw[if_pos (by rw[C0];exact decide_eq_true hv),if_neg (by simpa using hv)]
 rw[if_neg (by rw[C0];simpa using hv),if_pos hv,OE];simp only[Option.bind_some]
 generalize Fd env v=rows at hl
 rcases List.eq_nil_or_concat rows with rfl|⟨q,y,rfl⟩
 ·rfl
 rw[concat_eq_append]at *
 have e1:ar .sub .i64 (Ar.len (q++[y])) 1=(q.length:Int):=by
  have:ar .sub .i64 (Ar.len (q++[y])) 1=Ar.len (q++[y]) - 1:=AF (by rw[B1];omega) (by rw[B1];omega);rw[this,B1];simp
 rw[if_neg (by rw[C0,B1];simp;omega),e1,C7];simp
theorem WN {N:Nat} (hN:40000000≤N) {env:Bd} (he:Gr env) (own:Int) (ev:A7) {x:B0} (hx:Y0 x=0) (ha:x.cL=[]):DT N x env own ev=some (Fu env own ev x):=by
 have hok:=Ab2 hx
 have hop:0≤x.Op∧x.Op<5:=by
  have:=HT hx
  rw[ha]at this
  simp only[List.length_nil]at this
  obtain⟨h1,h2,h3⟩:=this
  by_cases h5:x.Op<5
  ·exact⟨h1,h5⟩
  rw[if_neg h5]at h3
  split at h3<;>omega
 have hl:=Lz he x.Var;unfold DT Fu
 by_cases h0:x.Op=0
 ·rw[if_pos (by rw[C0];exact decide_eq_true h0),if_pos h0]
 rw[if_neg (by rw[C0];simpa using h0),if_neg h0]
 by_cases h3:x.Op=3
 ·rw[if_pos (by rw[C0];exact decide_eq_true h3),if_pos h3,OE];rfl
 rw[if_neg (by rw[C0];simpa using h3),if_neg h3]
 by_cases h4:x.Op=4
 ·have hf:=(hok.1 (.inr h4)).1;rw[if_pos (by rw[C0];exact decide_eq_true h4),if_pos h4,OE];simp only[Option.bind_some];unfold Om
  generalize Fd env x.Var=rows at hl
  rw[F5 rows (by omega) (mk:=fun(s:List A4) i=>(s,i)) (body:=fun s e=>if cmp .geq x.Field (Ar.len e.Values)=true then some (.inr (.inr ()))else(B6 e.Values x.Field).bind fun v=>(H8 s [v]).bind fun l=>some (.inl l)) (fin:=fun s=>.inl s) (s:=[]) (by omega) ?_ ?_]
  ·rw[IB (p:=fun e=>decide (x.Field<(e.Values.length:Int))) (g:=fun e=>e.Values.getD x.Field.toNat W2) (r:=.inr ()) (by simp;omega) (fun s e _ hs=>by
    by_cases h:(e.Values.length:Int)≤x.Field
    ·rw[if_pos (by rw[M1,B1];exact decide_eq_true h),if_neg (by simpa using h)]
    rw[if_neg (by rw[M1,B1];simpa using h),if_pos (by simpa using h),Rb hf (by omega)];simp only[Option.bind_some]
    rw[M2 (by simp;omega)];rfl)]
   by_cases h:(rows.all fun e=>decide (x.Field<(e.Values.length:Int)))=true
   ·rw[if_pos h,if_pos h];simp only[Option.bind_some,List.nil_append];rw[YS hN];rfl
   rw[if_neg h,if_neg h];rfl
  ·intro s i a ha hi;have e:ar .add .i64 (i:Int) 1=i+1:=C4 (by omega) (by omega);simp only[C2,B1,hi,decide_true,if_true,C7,ha,Option.bind_some,e]
   split
   ·rfl
   cases B6 a.Values x.Field with
   |none=>rfl
   |some v=>
    simp only[Option.bind_some];cases H8 s [v]<;>rfl
  intro s;simp[C2,B1]
 rw[if_neg (by rw[C0];simpa using h4),if_neg h4,WO N he];simp only[Option.bind_some]
 cases hy:IM (Fd env x.Var) own ev x.Var with
 |none=>rfl
 |some y=>
  simp only[Q3,Bool.not_true,Bool.false_eq_true,if_false];unfold WU
  by_cases h2:x.Op=2
  ·rw[if_pos (by rw[C0];exact decide_eq_true h2),if_pos h2]
  rw[if_neg (by rw[C0];simpa using h2),if_neg h2]
  have h1:x.Op=1:=by omega
  have hf:=(hok.1 (.inl h1)).1;unfold Eh
  by_cases hb:(y.Values.length:Int)≤x.Field
  ·rw[if_pos (by rw[M1,B1];exact decide_eq_true hb),if_pos hb];rfl
  rw[if_neg (by rw[M1,B1];simpa using hb),if_neg hb,Rb hf (by omega)];simp only[Option.bind_some];rw[Hz];simp only[Option.bind_some];rw[if_neg (show¬((0:Int)≠0) by simp)]
  by_cases hc:H6 (y.Values.getD x.Field.toNat W2)=0
  ·rw[if_neg (J7 hc),if_neg (show¬H6 (y.Values.getD x.Field.toNat W2)≠0 by simpa using hc)]
  rw[if_pos (K1 hc),if_pos hc];rfl
theorem YP (N:Nat)(op:Int):AJ N op=some (if op=5∨op=6∨op=7∨op=8 then 0 else if op=10∨op=11∨op=12 then 1 else -1):=by
 unfold AJ;simp only[C0,decide_eq_true_eq]
 by_cases h5:op=5
 ·simp[h5]
 by_cases h6:op=6
 ·simp[h6]
 by_cases h7:op=7
 ·simp[h7]
 by_cases h8:op=8
 ·simp[h8]
 simp only[h5,h6,h7,h8,if_false,Option.bind_some,decide_false,Bool.false_eq_true,or_self,false_or]
 by_cases h10:op=10
 ·simp[h10]
 by_cases h11:op=11
 ·simp[h11]
 by_cases h12:op=12
 ·simp[h12]
 simp[h10,h11,h12]
theorem OD {N:Nat} (hN:40000000≤N) (op:Int) {kinds:List Int} (hl:kinds.length<1000000):AI N op kinds=some (Gs op kinds):=by
 unfold AI Gs;rw[F5 kinds (by omega) (mk:=fun(_:Unit) i=>i) (body:=fun _ k=>some (if Ga op kinds k=true then .inl ()else .inr (.inr ()))) (fin:=fun _=>.inl ()) (s:=()) (by omega) ?_ ?_]
 ·rw[IC (p:=Ga op kinds) (r:=.inr ()) fun x _=>rfl]
  by_cases h:kinds.all (Ga op kinds)=true
  ·rw[if_pos h,if_pos h];rfl
  rw[if_neg h,if_neg h];rfl
 ·intro s i k hk hi;have e:ar .add .i64 (i:Int) 1=i+1:=C4 (by omega) (by omega)
  have h0:B6 kinds 0=some (kinds.getD 0 0):=by
   have:B6 kinds 0=kinds[0]? :=C7 (i:=0);rw[this,List.getD_eq_getElem?_getD,List.getElem?_eq_getElem (by omega)];rfl
  simp only[C2,B1,hi,decide_true,if_true,C7,hk,Option.bind_some,e,C0,h0,Q3,YP,F6,M1];unfold Ga
  by_cases a5:op=5
  ·subst a5;by_cases hz:k=0<;>simp[hz]
  by_cases a6:op=6
  ·subst a6;by_cases hz:k=0<;>simp[hz]
  by_cases a7:op=7
  ·subst a7;by_cases hz:k=0<;>simp[hz]
  by_cases a8:op=8
  ·subst a8;by_cases hz:k=0<;>simp[hz]
  by_cases a10:op=10
  ·subst a10;by_cases hz:k=1<;>simp[hz]
  by_cases a11:op=11
  ·subst a11;by_cases hz:k=1<;>simp[hz]
  by_cases a12:op=12
  ·subst a12;by_cases hz:k=1<;>simp[hz]
  by_cases a9:op=9
  ·subst a9;generalize kinds.getD 0 0=z
   by_cases hz:k=z<;>simp[hz]
  simp[a5,a6,a7,a8,a9,a10,a11,a12]
 intro s;simp[C2,B1]
theorem Ss {N:Nat} (hN:40000000≤N) {env:Bd} (he:Gr env) (own:Int) (ev:A7):∀(n:Nat) (x:B0),x.dep≤n→x.bulk≤16777216→(∀y∈x.pre,Y0 y=0)→Z7 N n x env own ev=some (EP (Fu env own ev) x):=by
 intro n
 induction n with
 |zero=>intro x h;rw[B0.dep_eq]at h;omega
 | succ n ih=>
  intro x hd hb hbad;have hx:=hbad x (by rw[B0.pre_eq];simp);have hd':=B0.dep_eq x;unfold Z7;rw[Rj]
  by_cases h0:x.cL.length=0
  ·rw[if_pos (by rw[C0,B1];exact decide_eq_true (by omega)),if_pos h0,WN hN he own ev hx (List.eq_nil_of_length_eq_zero h0)];rfl
  rw[if_neg (by rw[C0,B1];simpa using(show¬(x.cL.length:Int)=0 by omega)),if_neg h0];obtain⟨a1,a2,a3⟩:=HT hx
  have hlen:x.cL.length≤2:=by
   split at a3
   ·omega
   split at a3<;>omega
  have hop5:5≤x.Op:=by
   by_cases h5:x.Op<5
   ·rw[if_pos h5]at a3;omega
   omega
  have hF:∀a∈x.cL,Z7 N n a env own ev=some (EP (Fu env own ev) a):=fun a ha=>ih a (by have:=MH ha;omega) (by have:=X5 ha;omega) fun y hy=>hbad y (by rw[B0.pre_eq];exact List.mem_cons_of_mem _ (Kr ha hy));rw[F5 x.cL (by omega) (mk:=fun(s:List A4×List Int) i=>(s.1,s.2,i)) (body:=fun(s:List A4×List Int) a=>(Z7 N n a env own ev).bind fun r8=>if cmp .neq r8.2 0=true then some (.inr (.inr r8.2))else(H8 s.1 [r8.1]).bind fun l9=>(H8 s.2 [r8.1.Kind]).bind fun l12=>some (.inl (l9,l12))) (fin:=fun s=>.inl s) (s:=([],[])) (by omega) ?_ ?_]
  ·rw [GV (R:=Fu env own ev) rfl (by simp;omega) hF]
   cases hq:CA (Fu env own ev) x.cL with
   |inr f=>rfl
   | inl q=>
    simp only[Option.bind_some,List.nil_append];have hql:=IW hq;rw[OD hN _ (by simp;omega)];simp only[Option.bind_some]
    by_cases hz:Gs x.Op (q.map (·.Kind))=0
    ·rw[if_neg (J7 hz),if_neg (show¬Gs x.Op (q.map (·.Kind))≠0 by simpa using hz)]
     have hi0:B6 q 0=some (q.getD 0 W2):=by
      have:B6 q 0=q[0]? :=C7 (i:=0);rw[this,Hn (by omega)]
     unfold EG
     by_cases h12:x.Op=12
     ·have e1:q.length - 1=0:=by rw[if_neg (by omega),if_pos h12]at a3;omega
      rw[h12];simp only[C0,hi0,Option.bind_some,LV,F6];rfl
     have h2:q.length=2:=by rw[if_neg (by omega),if_neg h12]at a3;omega
     have hi1:B6 q 1=some (q.getD 1 W2):=by
      have:B6 q 1=q[1]? :=C7 (i:=1);rw[this,Hn (by omega)]
     have e1:q.length - 1=1:=by omega
     unfold Po;rw[e1];simp only[C0,hi0,hi1,Option.bind_some,LV,F6,C2,Ce];generalize q.getD 0 W2=v;generalize q.getD 1 W2=w
     have hop:x.Op=5∨x.Op=6∨x.Op=7∨x.Op=8∨x.Op=9∨x.Op=10∨x.Op=11:=by omega
     rcases hop with h|h|h|h|h|h|h
     ·simp[h]
     ·simp[h]
     ·simp[h]
     ·simp[h]
     ·simp only[h];have:=RX v w
      simp only[C0]at this
      rw[this];simp
     ·simp only[h]
      by_cases hv:v.Num=1<;>simp[hv]
     simp only[h]
     by_cases hv:v.Num=1<;>simp[hv]
    rw[if_pos (K1 hz),if_pos hz];rfl
  ·intro s i a ha hi;have e:ar .add .i64 (i:Int) 1=i+1:=C4 (by omega) (by omega);simp only[C2,B1,hi,decide_true,if_true,C7,ha,Option.bind_some,e]
   cases Z7 N n a env own ev with
   |none=>rfl
   | some r=>
    simp only[Option.bind_some]
    split
    ·rfl
    cases H8 s.1 [r.1]with
    |none=>rfl
    |some l=>
     simp only[Option.bind_some];cases H8 s.2 [r.1.Kind]<;>rfl
  intro s;simp[C2,B1]
theorem WQ {N:Nat}(hN:40000000≤N){env:Bd}(he:Gr env)(own:Int)(ev:A7){x:B0}(hb:x.bulk≤16777216):DV N x env own ev=some (KS env own ev x):=by
 unfold DV KS;rw[MO hN hb];simp only[Option.bind_some]
 by_cases h:K0 x=0
 ·rw[if_neg (J7 h),if_pos h];have hd:=IZ x;rw[Ss hN he own ev N x (by omega) hb (Ig h)];rfl
 rw[if_pos (K1 h),if_neg h];rfl
theorem Kf {N:Nat}(hN:40000000≤N){env:Bd}(he:Gr env)(own:Int)(ev:A7){x:B0}(hb:x.bulk≤16777216):AK N x env own ev=some (Dd env own ev x):=by
 unfold AK Dd;rw[WQ hN he own ev hb];simp only[Option.bind_some];rw[C0]
 by_cases h:(KS env own ev x).2=0
 ·rw[if_pos (decide_eq_true h),LV];simp only[Option.bind_some,decide_eq_true h,Bool.true_and];rw[RX];exact congrArg some (decide_eq_decide.2 Iff.rfl)
 rw[if_neg (by simpa using h),decide_eq_false h];rfl
end
end Go.Ab
namespace Go.Ab
open Classical
noncomputable section
abbrev BD :=A0
abbrev PR :=A2
def pr (b:BD):PR:=⟨b.cR,b.at_⟩
def Jm (b:PR):BD:=⟨b.Var,b.At⟩
theorem YX (b:PR):pr (Jm b)=b:=rfl
theorem Tw (b:BD):Jm (pr b)=b:=rfl
abbrev G9 (s:List BD):List PR:=s.map pr
theorem P1 (s:List PR):G9 (s.map Jm)=s:=by rw[G9,List.map_map];exact(List.map_congr_left fun x _=>YX x).trans (List.map_id s)
theorem Ad4 {a b:BD}(h:pr a=pr b):a=b:=by have:=congrArg Jm h;simpa[Tw]using this
theorem HF {a b:List BD}(h:G9 a=G9 b):a=b:=(List.map_inj_right (fun _ _ h=>Ad4 h)).1 h
def mrg :List PR→List PR→List PR
 |[],b=>b
 |x::a,[]=>x::a
 |x::a,y::b=>if x.At<y.At then x::mrg a (y::b)else y::mrg (x::a) b
 termination_by a b=>a.length+b.length
theorem FY (b:List PR):mrg [] b=b:=by unfold mrg;rfl
theorem Mm (a:List PR):mrg a []=a:=by cases a<;>(unfold mrg;rfl)
theorem Mn (x y:PR)(a b:List PR):mrg (x::a) (y::b)=if x.At<y.At then x::mrg a (y::b)else y::mrg (x::a) b:=by rw[mrg]
theorem He :∀(n:Nat) (a b:List PR),a.length+b.length≤n→(mrg a b).Perm (a++b)
 |_,[],b,_=>by rw[FY];exact .refl _
 |_,x::a,[],_=>by rw[Mm];simp
 |0,x::a,y::b,h=>by simp at h
 |n+1,x::a,y::b,h=>by
  simp only[List.length_cons]at h
  rw[Mn]
  split
  ·exact(He n a (y::b) (by simp;omega)).cons x
  exact((He n (x::a) b (by simp;omega)).cons y).trans (List.perm_middle.symm)
theorem CL {a b:List PR}{x:PR}:x∈mrg a b↔x∈a∨x∈b:=by rw[(He _ a b (Nat.le_refl _)).mem_iff,List.mem_append]
theorem TV (a b:List PR):(mrg a b).length=a.length+b.length:=by rw[(He _ a b (Nat.le_refl _)).length_eq,List.length_append]
def We (a:List PR):Prop:=a.Pairwise fun x y=>x.At<y.At
def BT (a b:List PR):Prop:=∀x∈a,∀y∈b,x.At≠y.At
theorem Lt :∀(n:Nat) {a b:List PR},a.length+b.length≤n→We a→We b→BT a b→We (mrg a b)
 |_,[],b,_,_,hb,_=>by rw[FY];exact hb
 |_,x::a,[],_,ha,_,_=>by rw[Mm];exact ha
 |0,x::a,y::b,h,_,_,_=>by simp at h
 | n+1,x::a,y::b,h,ha,hb,hd=>by
  simp only[List.length_cons]at h
  unfold We at ha hb
  rw[List.pairwise_cons]at ha hb
  rw[Mn];have hxy:=hd x (by simp) y (by simp)
  split
  ·rename_i hlt;refine List.pairwise_cons.2 ⟨fun z hz=>?_,Lt n (by simp;omega) ha.2 (List.pairwise_cons.2 hb) fun u hu v hv=>hd u (by simp[hu]) v hv⟩
   rcases CL.1 hz with hz|hz
   ·exact ha.1 z hz
   rcases List.mem_cons.1 hz with rfl|hz
   ·exact hlt
   have:=hb.1 z hz;omega
  rename_i hlt;refine List.pairwise_cons.2 ⟨fun z hz=>?_,Lt n (by simp;omega) (List.pairwise_cons.2 ha) hb.2 fun u hu v hv=>hd u hu v (by simp[hv])⟩
  rcases CL.1 hz with hz|hz
  ·rcases List.mem_cons.1 hz with rfl|hz
   ·omega
   have:=ha.1 z hz;omega
  exact hb.1 z hz
theorem Co {α:Type}(x:α)(l:List α):N1 (x::l) (some 1) none none=some l:=by
 unfold N1;rw[if_pos (by simp;omega)];simp
theorem On {N:Nat}:∀(k:Nat) (a b out:List PR),a.length+b.length≤k→out.length+a.length+b.length≤1000000→∀n,k<n→loopN
 (fun (s1:(List A2)×(List A2)×(List A2))=>
  (
   if Ar.or (cmp .gtr (Ar.len s1.1) 0) (cmp .gtr (Ar.len s1.2.1) 0)=true then
    if cmp .eql (Ar.len s1.2.1) 0=true then
     ((
      (B6 s1.1 0).bind fun x85=>
      (H8 s1.2.2 ([x85])).bind fun l206=>
      (N1 s1.1 (some 1) none none).bind fun l285=>
      some (l285,l206)
     ):Option (((List A2)×(List A2)))).bind fun s4=>
     some (.inl (s4.1,s1.2.1,s4.2))
    else
     if cmp .gtr (Ar.len s1.1) 0=true then
      (B6 s1.1 0).bind fun x446=>
      (B6 s1.2.1 0).bind fun x447=>
      if cmp .lss x446.At x447.At=true then
       ((
        (B6 s1.1 0).bind fun x529=>
        (H8 s1.2.2 ([x529])).bind fun l650=>
        (N1 s1.1 (some 1) none none).bind fun l729=>
        some (l729,l650)
       ):Option (((List A2)×(List A2)))).bind fun s448=>
       some (.inl (s448.1,s1.2.1,s448.2))
      else
       ((
        (B6 s1.2.1 0).bind fun x971=>
        (H8 s1.2.2 ([x971])).bind fun l1092=>
        (N1 s1.2.1 (some 1) none none).bind fun l1171=>
        some (l1171,l1092)
       ):Option (((List A2)×(List A2)))).bind fun s890=>
       some (.inl (s1.1,s890.1,s890.2))
     else
      ((
       (B6 s1.2.1 0).bind fun x1413=>
       (H8 s1.2.2 ([x1413])).bind fun l1534=>
       (N1 s1.2.1 (some 1) none none).bind fun l1613=>
       some (l1613,l1534)
      ):Option (((List A2)×(List A2)))).bind fun s1332=>
      some (.inl (s1.1,s1332.1,s1332.2))
   else
    some (.inr s1.2.2)
   :Option (((List A2)×(List A2)×(List A2)) ⊕ (((List A2))))))
 n (a,b,out)=some (out++mrg a b):=by
 intro k;have h0:∀(x:PR) l,B6 (x::l) 0=some x:=fun x l=>rfl
 induction k with
 |zero=>
  intro a b out h _ n hn;obtain⟨n,rfl⟩:∃m,n=m+1:=⟨n - 1,by omega⟩
  cases a<;>cases b<;>simp at h
  simp[loopN,FY,B1,Q6,I8]
 | succ k ih=>
  intro a b out h ho n hn;obtain⟨n,rfl⟩:∃m,n=m+1:=⟨n - 1,by omega⟩
  cases a with
  | nil=>
   cases b with
   |nil=>simp[loopN,FY,B1,Q6,I8]
   |cons y b=>
    simp only[List.length_cons,List.length_nil]at h ho
    have:=ih [] b (out++[y]) (by simp;omega) (by simp;omega) n (by omega)
    rw[FY]at this ⊢
    unfold loopN;simp only[B1,Q6,C0,I8,List.length_nil,List.length_cons,h0,Option.bind_some,Co];rw[if_pos (by simp<;>omega),if_neg (by simp<;>omega),if_neg (by simp),M2 (by simp<;>omega)];simp only[Option.bind_some]
    simp only[B1,Q6,C0,I8]at this
    rw[this];simp
  | cons x a=>
   cases b with
   |nil=>
    simp only[List.length_cons,List.length_nil]at h ho
    have:=ih a [] (out++[x]) (by simp;omega) (by simp;omega) n (by omega)
    rw[Mm]at this ⊢
    unfold loopN;simp only[B1,Q6,C0,I8,List.length_nil,List.length_cons,h0,Option.bind_some,Co];rw[if_pos (by simp<;>omega),if_pos (by simp),M2 (by simp<;>omega)];simp only[Option.bind_some]
    simp only[B1,Q6,C0,I8]at this
    rw[this];simp
   |cons y b=>
    simp only[List.length_cons]at h ho
    have h1:=ih a (y::b) (out++[x]) (by simp;omega) (by simp;omega) n (by omega);have h2:=ih (x::a) b (out++[y]) (by simp;omega) (by simp;omega) n (by omega);rw[Mn];unfold loopN
    simp only[B1,Q6,C0,C2,I8,List.length_cons,h0,Option.bind_some,Co]at h1 h2 ⊢
    rw[if_pos (by simp<;>omega),if_neg (by simp<;>omega),if_pos (by simp<;>omega),M2 (by simp<;>omega),M2 (by simp<;>omega)]
    by_cases hlt:x.At<y.At
    ·rw[if_pos (decide_eq_true hlt),if_pos hlt];simp only[Option.bind_some];rw[h1];simp
    rw[if_neg (by simpa using hlt),if_neg hlt];simp only[Option.bind_some];rw[h2];simp
theorem EB {N:Nat}(hN:40000000≤N){a b:List PR}(h:a.length+b.length≤1000000):G3 N a b=some (mrg a b):=by
 unfold G3;rw[On (N:=N) _ a b [] (Nat.le_refl _) (by simpa using h) N (by omega)];rfl
def InS (n:Int)(s:List PR):Prop:=∀x∈s,0≤x.At∧x.At<n
theorem FN {a b:Int}(h0: -9223372036854775808≤a - b)(h1:a - b<9223372036854775808):ar .sub .i64 a b=a - b:=AF h0 h1
theorem Lw {N:Nat} {a b:List BD} {n:Int} (hn:n≤1000000) (hla:a.length≤1000000) (hlb:b.length≤1000000) (ha:We (G9 a)) (hb:We (G9 b)) (hd:BT (G9 a) (G9 b)) (ia:InS n (G9 a)) (ib:InS n (G9 b)):
 ∃c,K6 N a b=some c∧G9 c=mrg (G9 a) (G9 b):=by
 refine⟨(mrg (G9 a) (G9 b)).map Jm,?_,P1 _⟩;unfold K6
 have h1:TW 0 (ar .add .i64 (Ar.len a) (Ar.len b)) (⟨0,0⟩:BD)=some []:=by
  rw[B1,B1,C4 (by omega) (by omega)];unfold TW;rw[if_pos (by omega)];rfl
 rw[h1];simp only[Option.bind_some];rw[M2 (by simp;omega)];simp only[Option.bind_some,List.nil_append];rw[M2 (by omega)];simp only[Option.bind_some];have hm:=Lt _ (Nat.le_refl _) ha hb hd;have hin:∀x∈mrg (G9 a) (G9 b),0≤x.At∧x.At<n:=fun x hx=>(CL.1 hx).elim (ia x) (ib x)
 have hs:GL (fun y1 y2=>AU N y1 y2) (a++b)=some ((mrg (G9 a) (G9 b)).map Jm):=by
  refine PV ?_ (BH.2 ⟨?_,?_⟩) (by simp;omega)
  ·have:=(He _ (G9 a) (G9 b) (Nat.le_refl _)).map Jm;refine this.trans (List.Perm.of_eq ?_);rw[←List.map_append,List.map_map];exact(List.map_congr_left fun x _=>Tw x).trans (List.map_id _)
  ·intro x _
   show(match some (ar .sub .i64 x.at_ x.at_)with|some c=>decide (0≤c)|none=>false)=true
   rw[FN (by omega) (by omega)];simp
  rw[List.pairwise_map];refine List.Pairwise.imp_of_mem (fun{x y} hx hy hlt=>?_) hm;have:=hin x hx;have:=hin y hy
  constructor
  ·show(match some (ar .sub .i64 x.At y.At)with|some c=>decide (c<0)|none=>false)=true
   rw[FN (by omega) (by omega)];simp;omega
  show(match some (ar .sub .i64 y.At x.At)with|some c=>decide (0≤c)|none=>false)=true
  rw[FN (by omega) (by omega)];simp;omega
 rw[hs];rfl
def IR (s:List PR)(i:Int):Bool:=s.any fun x=>decide (x.At=i)
def Cv (a b:List PR):Bool:=a.any fun x=>IR b x.At
theorem OY {s:List PR}{i:Int}:IR s i=true↔∃x∈s,x.At=i:=by simp[IR]
theorem Kl {a b:List PR}:Cv a b=false↔BT a b:=by
 unfold Cv BT;rw[List.any_eq_false]
 constructor
 ·intro h x hx y hy e;exact h x hx (OY.2 ⟨y,hy,e.symm⟩)
 intro h x hx hc;obtain⟨y,hy,e⟩:=OY.1 hc;exact h x hx y hy e.symm
theorem P3 {α:Type}{l:List α}{i:Int}(h:i<l.length):cmp .lss i (Ar.len l)=true:=Av h
theorem S4 {α:Type}{l:List α}:¬cmp .lss (l.length:Int) (Ar.len l)=true:=W9 (Int.lt_irrefl _)
theorem QU {α A B:Type} {N:Nat} {l:List α} (hl:l.length<N) (hN:l.length<1000000000) {step:Int→Option (Int ⊕ (A ⊕ B))} (P:α→Bool) (u:A) (r:Int→B)
 (hstep:∀(i:Nat) x,l[i]? =some x→(i:Int)<l.length→step i=some (if P x=true then .inr (.inr (r i))else .inl ((i:Int)+1)))
 (hend:step (l.length:Int)=some (.inr (.inl u))):∃i,loopN step N 0=some (if l.any P=true then .inr (r i)else .inl u)∧0≤i:=by
 have key:∀(k i n:Nat),i+k=l.length→k<n→∃j,loopN step n (i:Int)=some (if(l.drop i).any P=true then .inr (r j)else .inl u)∧0≤j:=by
  intro k
  induction k with
  |zero=>
   intro i n hi hn;obtain⟨n,rfl⟩:∃m,n=m+1:=⟨n - 1,by omega⟩;refine⟨0,?_,by omega⟩;rw[List.drop_eq_nil_of_le (by omega),show(i:Int)=l.length by omega];simp[loopN,hend]
  | succ k ih=>
   intro i n hi hn;obtain⟨n,rfl⟩:∃m,n=m+1:=⟨n - 1,by omega⟩
   have hlt:i<l.length:=by omega
   obtain⟨j,h,hj⟩:=ih (i+1) n (by omega) (by omega);rw[List.drop_eq_getElem_cons hlt,any_cons];have hs:=hstep i l[i] (by simp[hlt]) (by omega)
   by_cases hp:P l[i]=true
   ·refine⟨i,?_,by omega⟩
    rw[if_pos hp]at hs
    simp[loopN,hs,hp]
   refine⟨j,?_,hj⟩
   rw[if_neg hp]at hs
   simp only[loopN,hs];rw[show((i:Int)+1)=((i+1:Nat):Int) by omega,h];simp[hp]
 obtain⟨j,h,hj⟩:=key l.length 0 N (by omega) hl;exact⟨j,by simpa using h,hj⟩
theorem BQ {α:Type}{N:Nat}{l:List α}{step:Int→Option (Int ⊕ (Unit ⊕ Unit))}(P:α→Bool)(hl:l.length<N)(hN:l.length<1000000000)
 (hstep:∀(i:Nat) x,l[i]? =some x→(i:Int)<l.length→step i=some (if P x=true then .inr (.inr ())else .inl ((i:Int)+1)))
 (hend:step (l.length:Int)=some (.inr (.inl ()))):loopN step N 0=some (if l.any P=true then .inr ()else .inl ()):=by
 obtain⟨_,h,_⟩:=QU hl hN P () (fun _=>()) hstep hend;exact h
theorem Fs {α S σ R:Type} {L:List α} {N:Nat} {step:S→Option (S ⊕ R)} (mk:σ→Int→S) (g:σ→α→σ) (fin:σ→R) (Inv:Nat→σ→Prop) {s0:σ} (hN:L.length<N) (hl:L.length<1000000000) (h0:Inv 0 s0)
 (hs:∀s (i:Nat) x,L[i]? =some x→(i:Int)<L.length→x∈L→ar .add .i64 (i:Int) 1=i+1→Inv i s→step (mk s i)=some (.inl (mk (g s x) ((i:Int)+1)))∧Inv (i+1) (g s x)) (he:∀s,step (mk s L.length)=some (.inr (fin s))):loopN step N (mk s0 0)=some (fin (L.foldl g s0))∧Inv L.length (L.foldl g s0):=by
 have key:∀(k i N:Nat) (s:σ),i+k=L.length→k<N→Inv i s→loopN step N (mk s (i:Int))=some (fin ((L.drop i).foldl g s))∧Inv L.length ((L.drop i).foldl g s):=by
  intro k
  induction k with
  |zero=>
   intro i N s hi hN ho;obtain⟨N,rfl⟩:∃m,N=m+1:=⟨N - 1,by omega⟩
   have e:i=L.length:=by omega
   subst e;rw[List.drop_length];exact⟨by simp[loopN,he],ho⟩
  |succ k ih=>
   intro i N s hi hN ho;obtain⟨N,rfl⟩:∃m,N=m+1:=⟨N - 1,by omega⟩
   have hlt:i<L.length:=by omega
   obtain⟨h1,h2⟩:=hs s i L[i] (by simp[hlt]) (by omega) (List.getElem_mem hlt) (C4 (by omega) (by omega)) ho;rw[List.drop_eq_getElem_cons hlt];simp only[loopN,h1];exact ih (i+1) N _ (by omega) (by omega) h2
 simpa using key L.length 0 N s0 (by omega) hN h0
theorem JJ {N:Nat} (hN:40000000≤N) {s:List BD} (hl:s.length≤1000000) {f:BD→Option Bool} {P:BD→Bool} (hf:∀x∈s,f x=some (P x)):G6 N s f=some (s.any P):=by
 unfold G6 N7
 obtain⟨j,h,hj⟩:=QU (N:=N) (l:=s) (by omega) (by omega) (A:=Unit) (B:=Int) (step:=(fun(s1:Int)=>
  (
   if cmp .lss s1 (Ar.len s)=true then
    (B6 s s1).bind fun x3=>
    (f x3).bind fun r4=>
    if r4=true then
     some (.inr (.inr s1))
    else
     some (.inl (ar .add .i64 s1 1))
   else
    some (.inr (.inl ()))
   :Option ((Int) ⊕ (Unit ⊕ Int))))) P () (fun i=>i) (fun i x hx hi=>by
  have e:ar .add .i64 (i:Int) 1=i+1:=C4 (by omega) (by omega);simp only[C2,B1,hi,decide_true,if_true,C7,hx,Option.bind_some,e,hf x (List.mem_of_getElem? hx)]
  split<;>rfl) (by simp[C2,B1])
 rw[h]
 by_cases ha:s.any P=true
 ·rw[if_pos ha,ha];simp only[Option.bind_some,M1,decide_eq_true hj]
 rw[if_neg ha];simp only[Option.bind_some,M1]
 rw[Bool.not_eq_true]at ha
 rw[ha];rfl
theorem TD {N:Nat}(hN:40000000≤N){s:List BD}(hl:s.length≤1000000)(i:Int):R7 N s i=some (IR (G9 s) i):=by
 unfold R7;rw[JJ hN hl (f:=fun y1=>S7 N y1 i) (P:=fun x=>decide (x.at_=i)) fun x _=>rfl];simp only[Option.bind_some,IR,G9,List.any_map];rfl
theorem UG {N:Nat}(hN:40000000≤N){a b:List BD}(ha:a.length≤1000000)(hb:b.length≤1000000):Ag N a b=some (Cv (G9 a) (G9 b)):=by
 unfold Ag;rw[JJ hN ha (P:=fun x=>IR (G9 b) x.at_) fun x _=>by unfold W4;rw[TD hN hb];rfl];simp only[Option.bind_some,Cv,G9,List.any_map];rfl
theorem TH {N:Nat} (hN:40000000≤N) {s:List PR} (hl:s.length≤1000000) (i:Int):DE N s i=some (IR s i):=by
 unfold DE
 rw [BQ (l:=s) (fun x=>decide (x.At=i)) (by omega) (by omega) (fun i x hx hi=>by
     have e:ar .add .i64 (i:Int) 1=i+1:=C4 (by omega) (by omega);simp only[C2,B1,hi,decide_true,if_true,C7,hx,Option.bind_some,e,C0]
     split<;>rfl) (by simp[C2,B1])]
 unfold IR
 by_cases ha:(s.any fun x=>decide (x.At=i))=true
 ·rw[if_pos ha,ha];rfl
 rw[if_neg ha]
 rw[Bool.not_eq_true]at ha
 rw[ha];rfl
theorem Vk {N:Nat} (hN:40000000≤N) {a b:List PR} (ha:a.length≤1000000) (hb:b.length≤1000000):BJ N a b=some (!Cv a b):=by
 unfold BJ
 rw [BQ (l:=a) (fun x=>IR b x.At) (by omega) (by omega) (fun i x hx hi=>by
     have e:ar .add .i64 (i:Int) 1=i+1:=C4 (by omega) (by omega);simp only[C2,B1,hi,decide_true,if_true,C7,hx,Option.bind_some,e,TH hN hb]
     split<;>rfl) (by simp[C2,B1])]
 unfold Cv
 by_cases ha:(a.any fun x=>IR b x.At)=true
 ·rw[if_pos ha,ha];rfl
 rw[if_neg ha]
 rw[Bool.not_eq_true]at ha
 rw[ha];rfl
def Wg (s:List PR):Int:=match s with|[]=>0|x::_=>x.At
def Y6 (s:List PR):Int:=match s.getLast? with|none=>0|some x=>x.At
theorem Hk {α:Type} {l:List α} (h:l≠[]) (hl:l.length≤1000000):B6 l (ar .sub .i64 (Ar.len l) 1)=l.getLast? :=by
 rcases List.eq_nil_or_concat l with rfl|⟨q,y,rfl⟩
 ·exact absurd rfl h
 rw[concat_eq_append]at *
 have e1:ar .sub .i64 (Ar.len (q++[y])) 1=(q.length:Int):=by
  have:ar .sub .i64 (Ar.len (q++[y])) 1=Ar.len (q++[y]) - 1:=FN (by rw[B1];omega) (by rw[B1];omega);rw[this,B1];simp
 rw[e1,C7];simp
theorem DK {s:List PR}(h:s≠[]):∃x,s.getLast? =some x∧x∈s∧Y6 s=x.At:=by
 cases hs:s.getLast? with
 |none=>exact absurd (List.getLast?_eq_none_iff.1 hs) h
 |some x=>exact⟨x,rfl,List.mem_of_getLast? hs,by simp[Y6,hs]⟩
theorem PY {N:Nat}{s:List BD}(h:s≠[])(hl:s.length≤1000000):K3 N s=some (Y6 (G9 s)):=by
 unfold K3;rw[Hk h hl];unfold Y6;rw[G9,List.getLast?_map]
 cases hs:s.getLast? with
 |none=>exact absurd (List.getLast?_eq_none_iff.1 hs) h
 |some x=>rfl
theorem Hl {α:Type}(x:α)(l:List α):B6 (x::l) 0=some x:=rfl
theorem MU {s:List PR}(ha:We s):∀x∈s,x.At≤Y6 s:=by
 intro x hx
 rcases List.eq_nil_or_concat s with rfl|⟨q,y,rfl⟩
 ·cases hx
 rw[concat_eq_append]at *
 have e:Y6 (q++[y])=y.At:=by simp[Y6]
 rw[e]
 unfold We at ha
 rw[List.pairwise_append]at ha
 rcases List.mem_append.1 hx with h|h
 ·have:=ha.2.2 x h y (by simp);omega
 rw[List.mem_singleton.1 h];exact Int.le_refl _
theorem Ut :∀{s:List PR} {k:Int} {m:Nat},We s→(∀x∈s,k≤x.At∧x.At<k+m)→s.length≤m
 |[],_,_,_,_=>Nat.zero_le _
 |x::s,k,m,ha,h=>by
  unfold We at ha
  rw[List.pairwise_cons]at ha
  have hx:=h x (by simp);obtain⟨m,rfl⟩:∃q,m=q+1:=⟨m - 1,by omega⟩
  have:=Ut (s:=s) (k:=x.At+1) (m:=m) ha.2 fun y hy=>by have:=ha.1 y hy;have:=h y (by simp[hy]);omega
  simp;omega
end
end Go.Ab
namespace Go.Ab
open Classical
noncomputable section
def Nb (l:List A7)(s:List PR)(b v:Int):List A7:=s.filterMap fun x=>if x.At<b∧x.Var=v then l[x.At.toNat]? else none
def Ks (l:List A7)(s:List PR)(b:Int):Bd:=⟨(List.range 16).map fun(v:Nat)=>Nb l s b (v:Int)⟩
def RI (l:List A7)(s:List PR):Prop:=∀x∈s,(0≤x.Var∧x.Var<16)∧(0≤x.At∧x.At<l.length)
theorem RI.ins {l:List A7}{s:List PR}(h:RI l s):InS l.length s:=fun x hx=>(h x hx).2
theorem Qj (l:List A7)(s:List PR)(b v:Int):(Nb l s b v).length≤s.length:=List.length_filterMap_le ..
theorem FB (l:List A7){s:List PR}(hs:s.length<1000000)(b:Int):Gr (Ks l s b):=by
 constructor
 ·simp[Ks]
 intro r hr
 simp only[Ks,List.mem_map]at hr
 obtain⟨v,_,rfl⟩:=hr;have:=Qj l s b v;omega
theorem NB (l:List A7)(p:List PR)(x:PR)(b v:Int):Nb l (p++[x]) b v=Nb l p b v++(if x.At<b∧x.Var=v then(l[x.At.toNat]?).toList else[]):=by
 unfold Nb;rw[List.filterMap_append]
 congr 1
 by_cases h:x.At<b∧x.Var=v
 ·simp only[List.filterMap_cons,List.filterMap_nil,if_pos h];cases l[x.At.toNat]? <;>rfl
 simp only[List.filterMap_cons,List.filterMap_nil,if_neg h]
theorem Ma {α R:Type} (f:α→PR) (l:List A7) (b:Int) {s:List α} (hs:s.length≤1000000) (hw:RI l (s.map f)):
 G8 (R:=R) (fun rows x=>if cmp .lss (f x).At b=true then(B6 rows (f x).Var).bind fun x9=>(B6 l (f x).At).bind fun x14=>(H8 x9 [x14]).bind fun l15=>(HU rows (f x).Var (fun _=>l15)).bind fun l13=>some (.inl l13)else some (.inl rows)) s (List.replicate 16 [])=
  some (.inl ((List.range 16).map fun(v:Nat)=>Nb l (s.map f) b (v:Int))):=by
 obtain⟨s',h1,p,h2,h3⟩:=V9 (R:=R) (step:=fun rows x=>if cmp .lss (f x).At b=true then(B6 rows (f x).Var).bind fun x9=>(B6 l (f x).At).bind fun x14=>(H8 x9 [x14]).bind fun l15=>(HU rows (f x).Var (fun _=>l15)).bind fun l13=>some (.inl l13)else some (.inl rows))
  (fun r rows=>∃p,p++r=s∧rows=(List.range 16).map fun(v:Nat)=>Nb l (p.map f) b (v:Int)) (fun x r rows ⟨p,e1,e2⟩=>by
   subst e2
   have hx:x∈s:=by rw[←e1];simp
   obtain⟨⟨v0,v1⟩,a0,a1⟩:=hw (f x) (List.mem_map.2 ⟨x,hx,rfl⟩)
   have hpl:p.length≤1000000:=by have:=congrArg List.length e1;simp at this;omega
   by_cases hb:(f x).At<b
   ·rw[if_pos (by rw[C2];exact decide_eq_true hb)]
    generalize hv:(f x).Var=vv at *
    generalize ha:(f x).At=aa at *
    obtain⟨v,rfl⟩:=Int.eq_ofNat_of_zero_le v0;obtain⟨a,rfl⟩:=Int.eq_ofNat_of_zero_le a0
    have hva:v<16:=by omega
    have haa:a<l.length:=by omega
    have e1':B6 ((List.range 16).map fun(v:Nat)=>Nb l (p.map f) b (v:Int)) (v:Int)=some (Nb l (p.map f) b v):=by
     rw[C7];simp[hva]
    have e2':B6 l (a:Int)=some l[a]:=by rw[C7];simp[haa]
    have hpl':=Qj l (p.map f) b v;simp only[e1',e2',Option.bind_some];rw[M2 (by simp at hpl' ⊢;omega)];simp only[Option.bind_some];refine⟨_,by unfold HU;rw[e1'];rfl,p++[x],by simpa using e1,?_⟩;apply List.ext_getElem?;intro j;rw[List.getElem?_set]
    by_cases hj:j<16
    ·simp only[List.getElem?_map,List.getElem?_range hj,List.map_append,List.map_cons,List.map_nil,NB,hv,ha,Int.toNat_natCast,List.length_map,List.length_range,Option.map_some]
     by_cases hjv:v=j
     ·subst hjv;simp[hb,hj,haa]
     have:¬((v:Int)=(j:Int)):=by omega
     simp[hjv,this]
    have:¬(v=j):=by omega
    simp[hj,this]
   rw[if_neg (by rw[C2];simpa using hb)];refine⟨_,rfl,p++[x],by simpa using e1,?_⟩;apply List.map_congr_left;intro v _
   rw[List.map_append,List.map_cons,List.map_nil,NB,if_neg (by omega),append_nil]) (l:=s) (s:=List.replicate 16 []) ⟨[],rfl,by simp[Nb];rfl⟩
 rw[h1]
 rw[append_nil]at h2
 rw[h3,h2]
theorem TE {N:Nat} (hN:40000000≤N) {l:List A7} {s:List BD} (hs:s.length≤1000000) (hw:RI l (G9 s)) (f:Bool) (b:Int):P0 N ⟨l,f⟩ s b=some (Ks l (G9 s) b):=by
 unfold P0;have h1:TW 16 16 ([]:List A7)=some (List.replicate 16 []):=rfl;rw[h1];simp only[Option.bind_some];rw[F5 s (by omega) (mk:=fun(rows:List (List A7)) i=>(i,rows)) (body:=fun rows x=>if cmp .lss (pr x).At b=true then(B6 rows (pr x).Var).bind fun x9=>(B6 l (pr x).At).bind fun x14=>(H8 x9 [x14]).bind fun l15=>(HU rows (pr x).Var (fun _=>l15)).bind fun l13=>some (.inl l13)else some (.inl rows)) (fin:=fun s=>s) (s:=List.replicate 16 []) (by omega) ?_ ?_]
 ·rw[Ma pr l b hs hw];rfl
 ·intro rows i x hx hi;have e:ar .add .i64 (i:Int) 1=i+1:=C4 (by omega) (by omega);simp only[C2,B1,hi,decide_true,if_true,C7,hx,Option.bind_some,e]
  show(if decide (x.at_<b)=true then _ else _)=Option.bind (if decide (x.at_<b)=true then _ else _) _
  by_cases hb:x.at_<b
  ·rw [if_pos (decide_eq_true hb),if_pos (decide_eq_true hb)]
   show((B6 rows x.cR).bind _)=((B6 rows x.cR).bind _).bind _
   cases B6 rows x.cR with
   |none=>rfl
   | some r=>
    simp only[Option.bind_some]
    show((B6 l x.at_).bind _)=((B6 l x.at_).bind _).bind _
    cases B6 l x.at_ with
    |none=>rfl
    | some y=>
     simp only[Option.bind_some]
     cases H8 r [y]with
     |none=>rfl
     |some q=>
      simp only[Option.bind_some]
      show((HU rows x.cR _).bind _)=((HU rows x.cR _).bind _).bind _
      cases HU rows x.cR fun _=>q<;>rfl
  rw[if_neg (by simpa using hb),if_neg (by simpa using hb)];rfl
 intro s;simp[C2,B1]
theorem OF {N:Nat} (hN:40000000≤N) {l:List A7} {s:List PR} (hs:s.length≤1000000) (hw:RI l s) (b:Int):Cq N l s b=some (Ks l s b):=by
 unfold Cq;have h1:TW 16 16 ([]:List A7)=some (List.replicate 16 []):=rfl;rw[h1];simp only[Option.bind_some];rw[F5 s (by omega) (mk:=fun(rows:List (List A7)) i=>(i,rows)) (body:=fun rows x=>if cmp .lss x.At b=true then(B6 rows x.Var).bind fun x9=>(B6 l x.At).bind fun x14=>(H8 x9 [x14]).bind fun l15=>(HU rows x.Var (fun _=>l15)).bind fun l13=>some (.inl l13)else some (.inl rows)) (fin:=fun s=>s) (s:=List.replicate 16 []) (by omega) ?_ ?_]
 ·have h:=Ma (R:=List (List A7)) (fun x:PR=>x) l b hs (by simpa using hw);rw[h];simp only[Option.bind_some,List.map_id'];rfl
 ·intro rows i x hx hi;have e:ar .add .i64 (i:Int) 1=i+1:=C4 (by omega) (by omega);have c1:cmp .lss (i:Int) (s.length:Int)=true:=Av hi
  by_cases hb:x.At<b
  ·have c2:cmp .lss x.At b=true:=Av hb;simp only[c1,c2,B1,if_true,C7,hx,Option.bind_some,e]
   cases B6 rows x.Var with
   |none=>rfl
   | some r=>
    simp only[Option.bind_some]
    cases B6 l x.At with
    |none=>rfl
    | some y=>
     simp only[Option.bind_some]
     cases H8 r [y]with
     |none=>rfl
     |some q=>
      simp only[Option.bind_some];cases HU rows x.Var fun _=>q<;>rfl
  have c2:cmp .lss x.At b=false:=by simpa using W9 hb
  simp only[c1,c2,B1,if_true,C7,hx,Option.bind_some,e,Bool.false_eq_true,if_false]
 intro s;simp[C2,B1]
theorem Et {l:List A7}{i:Nat}(h:i<l.length):B6 l (i:Int)=some l[i]:=by rw[C7];simp[h]
theorem Jq {N:Nat}(hN:40000000≤N){l:List A7}{s:List BD}(hs:s.length<1000000)(hw:RI l (G9 s))(f:Bool){c:B0}(hc:c.bulk≤16777216)(own:Int){i:Nat}(hi:i<l.length):
 G7 N ⟨l,f⟩ c s own i=some (Dd (Ks l (G9 s) i) own l[i] c):=by
 unfold G7;rw[TE hN (by omega) hw];simp only[Option.bind_some];rw[Et hi];simp only[Option.bind_some];rw[PL hN (FB l (by simpa using hs) _) own _ hc];rfl
def RY {β:Type}(T:Nat→Bool)(g:Nat→β):Nat→Nat→List β
 |0,_=>[]
 |k+1,i=>if T i=true then g i::RY T g k (i+1)else RY T g k (i+1)
theorem Jl {β:Type}(T:Nat→Bool)(g:Nat→β)(k i:Nat):RY T g (k+1) i=if T i=true then g i::RY T g k (i+1)else RY T g k (i+1):=rfl
theorem Lu {β:Type} {T:Nat→Bool} {g:Nat→β} {x:β}:∀{k i:Nat},x∈RY T g k i↔∃j,i≤j∧j<i+k∧T j=true∧x=g j
 |0,i=>by simp[RY];intro j a b;omega
 | k+1,i=>by
  rw[Jl];have ih:=Lu (T:=T) (g:=g) (x:=x) (k:=k) (i:=i+1)
  constructor
  ·intro h
   by_cases ht:T i=true
   ·rw[if_pos ht]at h
    rcases List.mem_cons.1 h with h|h
    ·exact⟨i,by omega,by omega,ht,h⟩
    obtain⟨j,a,b,c⟩:=ih.1 h;exact⟨j,by omega,by omega,c⟩
   rw[if_neg ht]at h
   obtain⟨j,a,b,c⟩:=ih.1 h;exact⟨j,by omega,by omega,c⟩
  rintro⟨j,a,b,c,d⟩
  by_cases hij:j=i
  ·subst hij;rw[if_pos c,d];simp
  have:=ih.2 ⟨j,by omega,by omega,c,d⟩
  split
  ·exact List.mem_cons_of_mem _ this
  exact this
theorem Kj {β:Type} {T:Nat→Bool} {g:Nat→β} (hg:∀i j,g i=g j→i=j):∀{k i:Nat},(RY T g k i).Nodup
 |0,i=>by simp[RY]
 |k+1,i=>by
  rw[Jl]
  split
  ·refine List.nodup_cons.2 ⟨fun h=>?_,Kj hg⟩;obtain⟨j,a,b,c,d⟩:=Lu.1 h;have:=hg _ _ d;omega
  exact Kj hg
theorem QW {β A:Type} {n:Nat} {step:Int→Option (List β×(Int ⊕ A))} {T:Nat→Bool} {g:Nat→β} {u:A} (hs:∀i,i<n→step (i:Int)=some (if T i=true then[g i]else[],.inl ((i:Int)+1))) (he:step (n:Int)=some ([],.inr u)):
 ∀(k i N:Nat),i+k=n→k<N→V5 step N (i:Int)=some (RY T g k i,u)
 |0,i,N,h,hN=>by
  obtain⟨N,rfl⟩:∃m,N=m+1:=⟨N - 1,by omega⟩;rw[show(i:Int)=n by omega];simp[V5,he,RY]
 |k+1,i,N,h,hN=>by
  obtain⟨N,rfl⟩:∃m,N=m+1:=⟨N - 1,by omega⟩;have ih:=QW hs he k (i+1) N (by omega) (by omega);simp only[V5,hs i (by omega)];rw[show((i:Int)+1)=((i+1:Nat):Int) by omega,ih];rw[Jl]
  by_cases ht:T i=true<;>simp[ht]
theorem QV {β S:Type} {n:Nat} {mk:List β→Int→S} {step:S→Option (S ⊕ List β)} {T:Nat→Bool} {g:Nat→β} (hs:∀(out:List β) i,out.length≤n→i<n→step (mk out (i:Int))=some (.inl (mk (if T i=true then out++[g i]else out) ((i:Int)+1)))) (he:∀out:List β,step (mk out (n:Int))=some (.inr out)):
 ∀(k i N:Nat) (out:List β),i+k=n→k<N→out.length≤i→loopN step N (mk out (i:Int))=some (out++RY T g k i)
 |0,i,N,out,h,hN,_=>by
  obtain⟨N,rfl⟩:∃m,N=m+1:=⟨N - 1,by omega⟩;rw[show(i:Int)=n by omega];simp[loopN,he,RY]
 |k+1,i,N,out,h,hN,ho=>by
  obtain⟨N,rfl⟩:∃m,N=m+1:=⟨N - 1,by omega⟩;simp only[loopN,hs out i (by omega) (by omega)];rw[show((i:Int)+1)=((i+1:Nat):Int) by omega,QV hs he k (i+1) N _ (by omega) (by omega) (by by_cases ht:T i=true<;>simp[ht]<;>omega)];rw[Jl]
  split<;>simp
end
end Go.Ab
namespace Go.Ab
open Classical
noncomputable section
theorem IJ {A:Type} {n:Nat} {step:Int→Option (Int ⊕ (A ⊕ Unit))} {P:Nat→Bool} {u:A} (m:Nat) (hs:∀i,m≤i→i<n→step (i:Int)=some (if P i=true then .inr (.inr ())else .inl ((i:Int)+1))) (he:∀i:Nat,n≤i→step (i:Int)=some (.inr (.inl u))):
 ∀(k i N:Nat),n≤i+k→m≤i→k<N→loopN step N (i:Int)=some (if(List.range' i (n - i)).any P=true then .inr ()else .inl u)
 |0,i,N,h,_,hN=>by
  obtain⟨N,rfl⟩:∃m,N=m+1:=⟨N - 1,by omega⟩;rw[show n - i=0 by omega];simp[loopN,he i (by omega)]
 | k+1,i,N,h,hm,hN=>by
  obtain⟨N,rfl⟩:∃m,N=m+1:=⟨N - 1,by omega⟩
  by_cases hi:i<n
  ·have ih:=IJ m hs he k (i+1) N (by omega) (by omega) (by omega);simp only[loopN,hs i hm hi];rw[show n - i=(n - (i+1))+1 by omega,List.range'_succ,any_cons]
   by_cases hp:P i=true
   ·simp[hp]
   rw[if_neg hp]
   dsimp only
   rw[show((i:Int)+1)=((i+1:Nat):Int) by omega,ih];simp[hp]
  rw[show n - i=0 by omega];simp[loopN,he i (by omega)]
def Tz (l:List A7)(i:Int):Int:=match l[i.toNat]? with|some e=>e.Time|none=>0
def MT (l:List A7)(p:A1)(b s:List PR)(i:Nat):Bool:=match l[i]? with|some e=>decide (e.Typ=p.Typ)&&(!IR s i)&&Dd (Ks l (mrg b s) i) p.Var e p.cN|none=>false
def MM (l:List A7)(p:A1)(b s:List PR):Bool:= !((List.range l.length).any fun i=>decide (Wg s<(i:Int))&&decide ((i:Int)<Y6 s)&&MT l p b s i)
def Dg (l:List A7)(p:A1)(b s:List PR):Bool:=
 if p.Op=6 then decide (ar .sub .i64 (Tz l (Y6 s)) (Tz l (Wg s))≤p.Span)else if p.Op=7 then Dd (Ks l (mrg b s) l.length) (-1) ⟨0,0,0,0,[]⟩ p.cN else MM l p b s
structure Gd (l:List A7) (s:List PR):Prop where
 wf:RI l s
 asc:We s
theorem Gd.len {l:List A7}{s:List PR}(h:Gd l s):s.length≤l.length:=Ut (k:=0) h.asc fun x hx=>by have:=(h.wf x hx).2;omega
theorem Gd.nil (l:List A7):Gd l []:=⟨fun _ h=>absurd h List.not_mem_nil,List.Pairwise.nil⟩
theorem Gd.mrg {l:List A7}{a b:List PR}(ha:Gd l a)(hb:Gd l b)(h:BT a b):Gd l (mrg a b):=⟨fun x hx=>(CL.1 hx).elim (ha.wf x) (hb.wf x),Lt _ (Nat.le_refl _) ha.asc hb.asc h⟩
theorem Gd.lst {l:List A7}{s:List PR}(h:Gd l s)(hn:s≠[]):0≤Y6 s∧Y6 s<l.length:=by
 obtain⟨x,_,hx,e⟩:=DK hn;rw[e];exact(h.wf x hx).2
theorem Gd.hd {l:List A7} {s:List PR} (h:Gd l s) (hn:s≠[]):0≤Wg s∧Wg s<l.length∧Wg s≤Y6 s∧IR s (Wg s)=true:=by
 cases s with
 |nil=>exact absurd rfl hn
 |cons x s=>
  have:=(h.wf x (by simp)).2;exact⟨this.1,this.2,MU h.asc x (by simp),OY.2 ⟨x,by simp,rfl⟩⟩
theorem Ll {l:List A7}{i:Int}(h0:0≤i)(h1:i<l.length):∃e,B6 l i=some e∧e.Time=Tz l i:=by
 obtain⟨i,rfl⟩:=Int.eq_ofNat_of_zero_le h0
 have hi:i<l.length:=by omega
 exact⟨l[i],Et hi,by simp[Tz,hi]⟩
theorem Ae9 {s:List PR}(h:s≠[]):∃x,B6 s 0=some x∧x.At=Wg s:=by
 cases s with
 |nil=>exact absurd rfl h
 |cons x s=>exact⟨x,rfl,rfl⟩
theorem Zx {s:List BD}(h:s≠[]):∃x,B6 s 0=some x∧x.at_=Wg (G9 s):=by
 cases s with
 |nil=>exact absurd rfl h
 |cons x s=>exact⟨x,rfl,rfl⟩
theorem Ad3 {s:List BD}(h:s≠[]):G9 s≠[]:=fun e=>h (List.map_eq_nil_iff.1 e)
theorem NO {l:List A7} {p:A1} {b s:List PR} {a n:Nat} (h1:(a:Int)≤Wg s+1) (h2:Wg s≤(a:Int)) (hn:(n:Int)=Y6 s) (hh:IR s (Wg s)=true) (hl:Y6 s<l.length):
 (List.range' a (n - a)).any (MT l p b s)= !MM l p b s:=by
 unfold MM;rw[Bool.not_not,Bool.eq_iff_iff,List.any_eq_true,List.any_eq_true]
 constructor
 ·rintro⟨i,hi,hb⟩
  rw[List.mem_range'_1]at hi
  refine⟨i,List.mem_range.2 (by omega),?_⟩
  have hne:Wg s≠(i:Int):=by
   intro e
   rw[e]at hh
   unfold MT at hb
   split at hb
   ·rw[hh]at hb;simp at hb
   cases hb
  simp only[Bool.and_eq_true,decide_eq_true_eq];exact⟨⟨by omega,by omega⟩,hb⟩
 rintro⟨i,hi,hb⟩
 simp only[Bool.and_eq_true,decide_eq_true_eq]at hb
 exact⟨i,List.mem_range'_1.2 (by omega),hb.2⟩
theorem Vf {N:Nat} (hN:40000000≤N) {l:List A7} (hl:l.length≤10) {p:A1} (hc:p.cN.bulk≤16777216) (hop:5≤p.Op∧p.Op≤7) {b s:List PR} (gb:Gd l b) (gs:Gd l s) (hn:s≠[]) (hd:BT b s):
 CO N p l b s=some (Dg l p b s):=by
 have lb:=gb.len;have ls:=gs.len;have gm:=gb.mrg gs hd;have lm:=gm.len;have hlst:=gs.lst hn;obtain⟨h0,h1,h2,hh⟩:=gs.hd hn;obtain⟨x0,hx0,e0⟩:=Ae9 hn;obtain⟨x1,hx1,_,e1⟩:=DK hn;unfold CO Dg;rw[hx0,Hk hn (by omega),hx1];simp only[Option.bind_some,EB hN (show b.length+s.length≤1000000 by omega),OF hN (show(mrg b s).length≤1000000 by omega) gm.wf,Kf hN (FB l (show(mrg b s).length<1000000 by omega) _) _ _ hc]
 by_cases h6:p.Op=6
 ·rw[if_neg (by rw[C0];simp;omega),if_pos (by rw[C0];exact decide_eq_true h6),if_pos h6];obtain⟨y1,hy1,t1⟩:=Ll (l:=l) (i:=x1.At) (by omega) (by omega);obtain⟨y0,hy0,t0⟩:=Ll (l:=l) (i:=x0.At) (by omega) (by omega);rw[hy1,hy0];simp only[Option.bind_some,Ce,t1,t0,e0,e1]
 rw[if_neg h6]
 by_cases h7:p.Op=7
 ·rw[if_neg (by rw[C0];simp;omega),if_neg (by rw[C0];simp;omega),if_pos h7];rfl
 rw[if_neg h7,if_pos (by rw[C0];simp;omega)];unfold EF;rw[hx0];simp only[Option.bind_some];rw[e0];obtain⟨a,ha⟩:=Int.eq_ofNat_of_zero_le h0;obtain⟨n,hnn⟩:=Int.eq_ofNat_of_zero_le hlst.1;rw[ha];rw[IJ (A:=Unit) (n:=n) (P:=MT l p b s) (u:=()) 0 ?_ ?_ n a N (by omega) (by omega) (by omega),NO (by omega) (by omega) (by omega) hh hlst.2]
 ·cases MM l p b s<;>rfl
 ·intro i _ hi
  have hil:i<l.length:=by omega
  have e:ar .add .i64 (i:Int) 1=i+1:=C4 (by omega) (by omega);rw[Hk hn (by omega),hx1];simp only[Option.bind_some];rw[if_pos (Av (by omega)),TH hN (by omega),Et hil,EB hN (by omega)];simp only[Option.bind_some];rw[OF hN (by omega) gm.wf];simp only[Option.bind_some,e];rw[Kf hN (FB l (by omega) _) _ _ hc];simp only[Option.bind_some,Q3,C0];unfold MT;simp only[List.getElem?_eq_getElem hil];cases IR s (i:Int)<;>by_cases ht:l[i].Typ=p.Typ<;>cases Dd (Ks l (mrg b s) (i:Int)) p.Var l[i] p.cN<;>simp[ht]
 intro i hi;rw[Hk hn (by omega),hx1];simp only[Option.bind_some];rw[if_neg (W9 (by omega))]
theorem UJ {N:Nat} (hN:40000000≤N) {l:List A7} (hl:l.length≤10) {p:A1} (hc:p.cN.bulk≤16777216) (hop:5≤p.Op∧p.Op≤7) {b s:List BD} (gb:Gd l (G9 b)) (gs:Gd l (G9 s)) (hn:s≠[]) (hd:BT (G9 b) (G9 s)) (f:Bool):
 P6 N ⟨l,f⟩ p b s=some (Dg l p (G9 b) (G9 s)):=by
 have lb:=gb.len;have ls:=gs.len
 rw[List.length_map]at lb ls
 have gm:=gb.mrg gs hd;have lm:=gm.len;have hnp:=Ad3 hn;have hlst:=gs.lst hnp;obtain⟨h0,h1,h2,hh⟩:=gs.hd hnp;obtain⟨x0,hx0,e0⟩:=Zx hn;obtain⟨c,hj,ec⟩:=Lw (N:=N) (n:=l.length) (by omega) (by omega) (by omega) gb.asc gs.asc hd gb.wf.ins gs.wf.ins
 have lc:c.length≤10:=by have:=congrArg List.length ec;rw[List.length_map]at this;omega
 have wc:RI l (G9 c):=by rw[ec];exact gm.wf
 unfold P6 Dg;rw[hx0,PY hn (by omega),hj];simp only[Option.bind_some,TE hN (show c.length≤1000000 by omega) wc,PL hN (FB l (show(G9 c).length<1000000 by rw[List.length_map];omega) _) _ _ hc]
 by_cases h6:p.Op=6
 ·rw[if_pos (by rw[C0];exact decide_eq_true h6),if_pos h6];obtain⟨y1,hy1,t1⟩:=Ll (l:=l) (i:=Y6 (G9 s)) (by omega) (by omega);obtain⟨y0,hy0,t0⟩:=Ll (l:=l) (i:=x0.at_) (by omega) (by omega);rw[hy1,hy0];simp only[Option.bind_some,Ce,t1,t0,e0]
 rw[if_neg h6,if_neg (by rw[C0];simpa using h6)]
 by_cases h7:p.Op=7
 ·rw[if_pos (by rw[C0];exact decide_eq_true h7),if_pos h7,ec];rfl
 rw[if_neg h7,if_neg (by rw[C0];simpa using h7)];obtain⟨n,hnn⟩:=Int.eq_ofNat_of_zero_le hlst.1;obtain⟨a,ha⟩:=Int.eq_ofNat_of_zero_le h0;rw[e0,ha,C4 (a:=((a:Nat):Int)) (by omega) (by omega),show((a:Int)+1)=((a+1:Nat):Int) by omega];rw[IJ (A:=Unit) (n:=n) (P:=MT l p (G9 b) (G9 s)) (u:=()) 0 ?_ ?_ n (a+1) N (by omega) (by omega) (by omega),NO (by omega) (by omega) (by omega) hh hlst.2]
 ·cases MM l p (G9 b) (G9 s)<;>rfl
 ·intro i _ hi
  have hil:i<l.length:=by omega
  have e:ar .add .i64 (i:Int) 1=i+1:=C4 (by omega) (by omega);rw[if_pos (Av (by omega)),TD hN (by omega),Et hil,Jq hN (by omega) wc _ hc _ hil,ec];simp only[Option.bind_some,Q3,C0,e];unfold MT;simp only[List.getElem?_eq_getElem hil];cases IR (G9 s) (i:Int)<;>by_cases ht:l[i].Typ=p.Typ<;>cases Dd (Ks l (mrg (G9 b) (G9 s)) (i:Int)) p.Var l[i] p.cN<;>simp[ht]
 intro i hi;rw[if_neg (W9 (by omega))]
theorem Vi {N:Nat} (hN:40000000≤N) {a b:List PR} (ha:a.length≤1000000):CQ N a b=some (decide (a=b)):=by
 unfold CQ
 by_cases hlen:a.length=b.length
 ·rw [if_neg (by rw[F6,B1,B1];simp;omega)]
  have hz:(a.zip b).length=a.length:=by simp;omega
  rw [BQ (l:=a.zip b) (fun q=> !(decide (q.1.Var=q.2.Var)&&decide (q.1.At=q.2.At))) (by omega) (by omega) (fun i x hx hi=>by
      have e:ar .add .i64 (i:Int) 1=i+1:=C4 (by omega) (by omega);obtain⟨hx1,hx2⟩:=List.getElem?_zip_eq_some.1 hx;rw[if_pos (P3 (by omega)),C7,hx1,C7,hx2];simp only[Option.bind_some,e,Q3,L7,C0,Bool.and_true]
      split<;>rfl) (by rw[hz];simp[C2,B1])]
  have hiff:((a.zip b).any fun q=> !(decide (q.1.Var=q.2.Var)&&decide (q.1.At=q.2.At)))= !decide (a=b):=by
   induction a generalizing b with
   |nil=>cases b with
    |nil=>simp
    |cons y b=>simp at hlen
   | cons x a ih=>
    cases b with
    |nil=>simp at hlen
    |cons y b=>
     rw[List.zip_cons_cons,any_cons,ih (by simp at ha;omega) (by simpa using hlen) (by simp at hlen ⊢;omega)]
     have hxy:(x=y)↔(x.Var=y.Var∧x.At=y.At):=by cases x;cases y;simp
     rw[Bool.eq_iff_iff];simp only[List.cons.injEq,hxy,Bool.or_eq_true,Bool.not_eq_true',Bool.and_eq_false_iff,decide_eq_false_iff_not,not_and]
     by_cases h1:x.Var=y.Var<;>by_cases h2:x.At=y.At<;>simp[h1,h2]
  rw[hiff]
  by_cases he:a=b<;>simp[he]
 rw[if_pos (by rw[F6,B1,B1];simp;omega),decide_eq_false (fun e=>hlen (by rw[e]))]
end
end Go.Ab
namespace Go.Ab
open Classical
noncomputable section
theorem WL {N:Nat} (hN:40000000≤N) {L:List (List PR)} {s:List PR} (hL:L.length≤1000000) (hl:∀x∈L,x.length≤1000000):S2 N L s=some (if s∈L then L else L++[s]):=by
 unfold S2
 rw [BQ (l:=L) (fun x=>decide (x=s)) (by omega) (by omega) (fun i x hx hi=>by
     have e:ar .add .i64 (i:Int) 1=i+1:=C4 (by omega) (by omega);simp only[C2,B1,hi,decide_true,if_true,C7,hx,Option.bind_some,e,Vi hN (hl x (List.mem_of_getElem? hx))]
     split<;>rfl) (by simp[C2,B1])]
 have hiff:(L.any fun x=>decide (x=s))=decide (s∈L):=by
  rw[Bool.eq_iff_iff];simp
 rw[hiff]
 by_cases hs:s∈L
 ·rw[if_pos (decide_eq_true hs),if_pos hs];rfl
 rw[if_neg (by simpa using hs),if_neg hs];simp only[Option.bind_some];rw[M2 (by simp;omega)];rfl
def KE (l:List A7)(p:A1)(b:List PR)(i:Nat):Bool:=match l[i]? with|some e=>decide (e.Typ=p.Typ)&&Dd (Ks l b i) p.Var e p.cN|none=>false
theorem UW {N:Nat} (hN:40000000≤N) {l:List A7} (hl:l.length≤10) {p:A1} (hc:p.cN.bulk≤16777216) {b:List BD} (gb:Gd l (G9 b)) (f:Bool) {i:Nat} (hi:i≤l.length):
 J5 N ⟨l,f⟩ p b (i:Int)=some (RY (KE l p (G9 b)) (fun j=>[(⟨p.Var,(j:Int)⟩:BD)]) (l.length - i) i):=by
 have lb:=gb.len
 rw[List.length_map]at lb
 unfold J5 R8
 have h:=QW (β:=List BD) (A:=Unit) (n:=l.length) (T:=KE l p (G9 b)) (g:=fun j=>[(⟨p.Var,(j:Int)⟩:BD)]) (u:=()) (step:=(fun(s1:Int)=>
  (
   if cmp .lss s1 (Ar.len (⟨l,f⟩:B3).cU)=true then
    (B6 (⟨l,f⟩:B3).cU s1).bind fun x7=>
    if cmp .eql x7.Typ p.Typ=true then
     (G7 N ⟨l,f⟩ p.cN b p.Var s1).bind fun r8=>
     if r8=true then
      N2 (some ([[(⟨p.Var,s1⟩:A0)]],())) fun _=>
      some ([],.inl (ar .add .i64 s1 1))
     else
      some ([],.inl (ar .add .i64 s1 1))
    else
     some ([],.inl (ar .add .i64 s1 1))
   else
    some ([],.inr ())
   :Option (List (List A0)×((Int) ⊕ (Unit)))))) ?_ ?_ (l.length - i) i N (by omega) (by omega)
 ·rw[h];simp[N2]
 ·intro j hj;have e:ar .add .i64 (j:Int) 1=j+1:=C4 (by omega) (by omega);rw[if_pos (Av (by rw[B1];show(j:Int)<(l.length:Int);omega))]
  show((B6 l (j:Int)).bind _)=_
  rw[Et hj,Jq hN (by omega) gb.wf _ hc _ hj,e];simp only[Option.bind_some,C0,N2];unfold KE;simp only[List.getElem?_eq_getElem hj]
  by_cases ht:l[j].Typ=p.Typ<;>cases Dd (Ks l (G9 b) (j:Int)) p.Var l[j] p.cN<;>simp[ht]
 rw[if_neg S4]
theorem Vh {N:Nat} (hN:40000000≤N) {l:List A7} (hl:l.length≤10) {p:A1} (hc:p.cN.bulk≤16777216) {b:List PR} (gb:Gd l b) {i:Nat} (hi:i≤l.length):
 CP N p l b (i:Int)=some (RY (KE l p b) (fun j=>[(⟨p.Var,(j:Int)⟩:PR)]) (l.length - i) i):=by
 have lb:=gb.len;unfold CP;rw[QV (β:=List PR) (n:=l.length) (mk:=fun out i=>(out,i)) (T:=KE l p b) (g:=fun j=>[(⟨p.Var,(j:Int)⟩:PR)]) ?_ ?_ (l.length - i) i N [] (by omega) (by omega) (by simp)]
 ·rfl
 ·intro out j ho hj;have e:ar .add .i64 (j:Int) 1=j+1:=C4 (by omega) (by omega)
  dsimp only
  rw[if_pos (P3 (by omega)),Et hj,OF hN (by omega) gb.wf,e];simp only[Option.bind_some];rw[Kf hN (FB l (by omega) _) _ _ hc,M2 (by simp;omega)];simp only[Option.bind_some,C0];unfold KE;simp only[List.getElem?_eq_getElem hj]
  by_cases ht:l[j].Typ=p.Typ<;>cases Dd (Ks l b (j:Int)) p.Var l[j] p.cN<;>simp[ht]
 intro out
 dsimp only
 rw[if_neg S4]
def RZ (x:PR):List UInt8:=V1 x.Var.toNat++64::(V1 x.At.toNat++[32])
def IP (s:List PR):List UInt8:=s.flatMap RZ
def Gj (l:List UInt8):List Int:=l.map fun b=>(b.toNat:Int)
theorem Ac3 {n:Int}(h0:0≤n)(h1:n<1000):Ar.wr .i64 n=n:=AF (by omega) (by omega)
theorem Ac2 {n:Int} (h0:0≤n) (h1:n<1000):Ar.wr .u64 n=n:=by
 have e:IntKind.wrap .u64 n=n % 18446744073709551616:=by
  unfold IntKind.wrap;simp[IntKind.bits,IntKind.signed]
 exact e.trans (by omega)
theorem JR {N:Nat} {d:List Int} (hd:d.length≤1000000) {i:Int} (h0:0≤i) (h1:i<100):G0 N d i 10=some (d++Gj (V1 i.toNat)):=by
 unfold G0 X9 V0 EZ;rw[if_neg (W9 (by omega)),Ac2 h0 (by omega),if_pos (show cmp .eql 10 10=true by rfl),if_pos (Av h1),Ac3 h0 (by omega)]
 have hs:LM i=some ⟨(V1 i.toNat).toArray⟩:=by
  unfold LM;rw[if_pos (by simp;omega)]
 rw[hs];simp only[Option.bind_some]
 have hl:(V1 i.toNat).length≤2:=by unfold V1;split<;>simp
 rw[M2 (by simp[Kw];omega)];rfl
theorem Yz (x:PR):(RZ x).length≤6:=by
 have h:∀i,(V1 i).length≤2:=fun i=>by unfold V1;split<;>simp
 have:=h x.Var.toNat;have:=h x.At.toNat;simp[RZ];omega
theorem Uf :∀s:List PR,(IP s).length≤6*s.length
 |[]=>by simp[IP]
 |x::s=>by
  have:=Uf s;have:=Yz x
  simp only[IP,List.flatMap_cons,List.length_append,List.length_cons]at *
  omega
theorem YC {N:Nat} (hN:40000000≤N) {l:List A7} (hl:l.length≤10) {s:List BD} (hs:s.length≤1000) (hw:RI l (G9 s)):L9 N s=TB (Gj (IP (G9 s))):=by
 unfold L9;rw[F5 s (by omega) (mk:=fun(out:List Int) i=>(i,out)) (body:=fun out x=>(G0 N out x.cR 10).bind fun l6=>(H8 l6 [64]).bind fun l90=>(G0 N l90 x.at_ 10).bind fun l209=>(H8 l209 [32]).bind fun l290=>some (.inl l290)) (fin:=fun s=>s) (s:=[]) (by omega) ?_ ?_]
 ·obtain⟨s',h1,p,h2,h3⟩:=V9 (R:=List Int) (step:=fun out x=>(G0 N out x.cR 10).bind fun l6=>(H8 l6 [64]).bind fun l90=>(G0 N l90 x.at_ 10).bind fun l209=>(H8 l209 [32]).bind fun l290=>some (.inl l290))
   (fun r out=>∃p,p++r=s∧out=Gj (IP (G9 p))) (fun x r out ⟨p,e1,e2⟩=>by
    subst e2
    have hx:x∈s:=by rw[←e1];simp
    obtain⟨⟨v0,v1⟩,a0,a1⟩:=hw (pr x) (List.mem_map.2 ⟨x,hx,rfl⟩);have hv0:0≤x.cR:=v0;have hv1:x.cR<16:=v1;have ha0:0≤x.at_:=a0;have ha1:x.at_<l.length:=a1
    have hp:p.length≤1000:=by have:=congrArg List.length e1;simp at this;omega
    have hk:(Gj (IP (G9 p))).length≤6000:=by
     have:=Uf (G9 p)
     rw[List.length_map]at this
     simp[Gj];omega
    have hsm:∀i,(Gj (V1 i)).length≤2:=fun i=>by simp only[Gj,List.length_map];unfold V1;split<;>simp
    have:=hsm x.cR.toNat;have:=hsm x.at_.toNat;refine⟨Gj (IP (G9 p))++Gj (V1 x.cR.toNat)++[64]++Gj (V1 x.at_.toNat)++[32],?_,p++[x],by simpa using e1,?_⟩
    ·rw[JR (by omega) hv0 (by omega)];simp only[Option.bind_some];rw[M2 (by simp only[List.length_append,List.length_cons,List.length_nil];omega)];simp only[Option.bind_some];rw[JR (by simp only[List.length_append,List.length_cons,List.length_nil];omega) ha0 (by omega)];simp only[Option.bind_some];rw[M2 (by simp only[List.length_append,List.length_cons,List.length_nil];omega)];rfl
    simp[Gj,IP,RZ,G9,pr]) (l:=s) (s:=[]) ⟨[],rfl,rfl⟩
  rw[h1];simp only[Option.bind_some]
  rw[append_nil]at h2
  rw[h3,h2];cases TB (Gj (IP (G9 s)))<;>rfl
 ·intro out i x hx hi;have e:ar .add .i64 (i:Int) 1=i+1:=C4 (by omega) (by omega);simp only[C2,B1,hi,decide_true,if_true,C7,hx,Option.bind_some,e]
  cases G0 N out x.cR 10 with
  |none=>rfl
  | some a=>
   simp only[Option.bind_some]
   cases H8 a [64]with
   |none=>rfl
   | some b=>
    simp only[Option.bind_some]
    cases G0 N b x.at_ 10 with
    |none=>rfl
    |some c=>
     simp only[Option.bind_some];cases H8 c [32]<;>rfl
 intro s;simp[C2,B1]
theorem Ms {m:UInt8}:∀{a b r q:List UInt8},m∉a→m∉b→a++m::r=b++m::q→a=b∧r=q
 |[],[],r,q,_,_,h=>⟨rfl,by simpa using h⟩
 |[],y::b,r,q,_,hb,h=>by simp at h;exact absurd h.1 (by intro e;exact hb (by simp[e]))
 |x::a,[],r,q,ha,_,h=>by simp at h;exact absurd h.1 (by intro e;exact ha (by simp[←e]))
 |x::a,y::b,r,q,ha,hb,h=>by
  simp only[List.cons_append,List.cons.injEq]at h
  have:=Ms (fun e=>ha (by simp[e])) (fun e=>hb (by simp[e])) h.2;exact⟨by rw[h.1,this.1],this.2⟩
theorem ED {i:Nat}(h:i<100):(64:UInt8)∉V1 i∧(32:UInt8)∉V1 i:=by
 have:∀i<100,(64:UInt8)∉V1 i∧(32:UInt8)∉V1 i:=by decide
 exact this i h
theorem Nt {i j:Nat}(hi:i<16)(hj:j<16)(h:V1 i=V1 j):i=j:=by
 have:∀i<16,∀j<16,V1 i=V1 j→i=j:=by decide
 exact this i hi j hj h
theorem LT {l:List A7} (hl:l.length≤10):∀{a b:List PR},RI l a→RI l b→IP a=IP b→a=b
 |[],[],_,_,_=>rfl
 |[],y::b,_,_,h=>by simp[IP,RZ]at h
 |x::a,[],_,_,h=>by simp[IP,RZ]at h
 | x::a,y::b,ha,hb,h=>by
  obtain⟨⟨v0,v1⟩,a0,a1⟩:=ha x (by simp);obtain⟨⟨w0,w1⟩,b0,b1⟩:=hb y (by simp);obtain⟨m1,m2⟩:=ED (i:=x.Var.toNat) (by omega);obtain⟨m3,m4⟩:=ED (i:=x.At.toNat) (by omega);obtain⟨n1,n2⟩:=ED (i:=y.Var.toNat) (by omega);obtain⟨n3,n4⟩:=ED (i:=y.At.toNat) (by omega)
  simp only[IP,List.flatMap_cons,RZ,List.append_assoc,List.cons_append,List.nil_append]at h
  obtain⟨e1,e2⟩:=Ms m1 n1 h;obtain⟨e3,e4⟩:=Ms m4 n4 e2;have i1:=Nt (by omega) (by omega) e1;have i2:=Nt (by omega) (by omega) e3
  have hxy:x=y:=by
   cases x;cases y
   simp only[A2.mk.injEq]at *
   omega
  rw[hxy,LT hl (fun z hz=>ha z (by simp[hz])) (fun z hz=>hb z (by simp[hz])) e4]
end
end Go.Ab
