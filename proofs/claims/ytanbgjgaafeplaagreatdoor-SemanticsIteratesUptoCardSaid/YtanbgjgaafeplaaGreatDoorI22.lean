/- GTJ4 GTJ5 GTJ6 GTIn GTPr -/
import Derived.Test.YtanbgjgaafeplaaGreatDoorI21
import Derived.Test.YtanbgjgaafeplaaGreatDoorRows
import Derived.WalkKit
import Derived.ProofKit
import Derived.OpenShut
import Derived.Deep.DeepHandedRow
import Derived.Carry
import Derived.Test.YtanbgjgaafeplaaGreatDoorTie
set_option linter.all false
open List (Nodup)
open Go.Ab.Ar (ar cmp lst lst_eq nt)
namespace Go.Ab
open Classical
noncomputable section
def VV :List Nat→List (List Nat)
 |[]=>[]
 |a::r=>[a]::(VV r++(VV r).map (a:: ·))
theorem Uq :∀l:List Nat,(VV l).length+1=2 ^ l.length
 |[]=>rfl
 |a::r=>by
  have:=Uq r;simp only[VV,List.length_cons,List.length_append,List.length_map,Nat.pow_succ];omega
theorem XI :∀{l:List Nat},∀js∈VV l,js≠[]
 |[],_,h=>absurd h List.not_mem_nil
 |a::r,js,h=>by
  simp only[VV,List.mem_cons,List.mem_append,List.mem_map]at h
  rcases h with rfl|h|⟨q,_,rfl⟩
  ·simp
  ·exact XI js h
  simp
theorem Lj :∀{l:List Nat},l.Pairwise (· < ·)→∀js,js∈VV l↔js≠[]∧js.Pairwise (· < ·)∧∀j∈js,j∈l
 |[],_,js=>by
  constructor
  ·intro h;exact absurd h List.not_mem_nil
  rintro⟨h1,_,h3⟩
  cases js with
  |nil=>exact absurd rfl h1
  |cons j js=>exact absurd (h3 j List.mem_cons_self) List.not_mem_nil
 | a ::r,hp,js=>by
  obtain⟨ha,hr⟩:=List.pairwise_cons.1 hp;have ih:=Lj hr;simp only[VV,List.mem_cons,List.mem_append,List.mem_map]
  constructor
  ·rintro(rfl|h|⟨q,hq,rfl⟩)
   ·exact⟨by simp,by simp,by simp⟩
   ·obtain⟨h1,h2,h3⟩:=(ih js).1 h;exact⟨h1,h2,fun j hj=>.inr (h3 j hj)⟩
   obtain⟨h1,h2,h3⟩:=(ih q).1 hq;refine⟨by simp,List.pairwise_cons.2 ⟨fun j hj=>ha j (h3 j hj),h2⟩,fun j hj=>?_⟩
   rcases List.mem_cons.1 hj with rfl|hj
   ·exact .inl rfl
   exact .inr (h3 j hj)
  rintro⟨h1,h2,h3⟩
  cases js with
  |nil=>exact absurd rfl h1
  | cons j js=>
   obtain⟨hj,hjs⟩:=List.pairwise_cons.1 h2
   have hin:∀k∈js,k∈r:=fun k hk=>by
    rcases h3 k (List.mem_cons_of_mem _ hk)with rfl|h
    ·rcases h3 j List.mem_cons_self with e|h'
     ·have:=hj k hk;omega
     have:=hj k hk;have:=ha j h';omega
    exact h
   rcases h3 j List.mem_cons_self with rfl|h
   ·cases js with
    |nil=>exact .inl rfl
    |cons k js=>exact .inr (.inr ⟨k::js,(ih _).2 ⟨by simp,hjs,hin⟩,rfl⟩)
   exact .inr (.inl ((ih _).2 ⟨by simp,h2,fun k hk=>by
    rcases List.mem_cons.1 hk with rfl|hk
    ·exact h
    exact hin k hk⟩))
theorem NS :∀{l:List Nat},l.Pairwise (· < ·)→(VV l).Nodup
 |[],_=>List.nodup_nil
 | a::r,hp=>by
  obtain⟨ha,hr⟩:=List.pairwise_cons.1 hp;have ih:=NS hr;have hm:=Lj hr
  have hna:∀q∈VV r,a∉q:=fun q hq h=>by
   have:=ha a (((hm q).1 hq).2.2 a h);omega
  rw[VV,List.nodup_cons,List.nodup_append];refine⟨fun h=>?_,ih,?_,fun x hx y hy e=>?_⟩
  ·rcases List.mem_append.1 h with h|h
   ·exact hna _ h List.mem_cons_self
   obtain⟨q,hq,e⟩:=List.mem_map.1 h;exact XI q hq (List.cons.inj e).2
  ·rw[Nodup,List.pairwise_map];exact ih.imp fun h e=>h (List.cons.inj e).2
  obtain⟨q,hq,rfl⟩:=List.mem_map.1 hy;exact hna x hx (by rw[e];exact List.mem_cons_self)
def Gp (l:List A6)(p:A0):List Nat:=(List.range l.length).filter fun j=>testE l p [] j
theorem An {l:List A6}{p:A0}{j:Nat}:j∈Gp l p↔j<l.length∧testE l p [] j=true:=by unfold Gp;rw[List.mem_filter,List.mem_range]
theorem Dg (l:List A6)(p:A0):(Gp l p).Pairwise (· < ·):=List.Pairwise.filter _ List.pairwise_lt_range
def Sg (v:Int)(js:List Nat):List PR:=js.map fun(j:Nat)=>⟨v,(j:Int)⟩
theorem Li {v:Int}:∀{a b:List Nat},Sg v a=Sg v b→a=b
 |[],[],_=>rfl
 |[],b::_,h=>by cases h
 |a::_,[],h=>by cases h
 |a::q,b::r,h=>by
  simp only[Sg,List.map_cons,List.cons.injEq,I0.mk.injEq]at h
  have h1:a=b:=by have:=h.1.2;omega
  rw[h1,Li h.2]
theorem Xj {l:List A6}{p:A0}(h0:p.Op=0){s:List PR}:Sm l p [] 0 s↔s∈(Gp l p).map fun j=>Sg p.Var [j]:=by
 rw[Sm.i0 h0,List.mem_map]
 constructor
 ·rintro⟨j,_,h2,h3,rfl⟩;exact⟨j,An.2 ⟨h2,h3⟩,rfl⟩
 rintro⟨j,hj,rfl⟩;obtain⟨h2,h3⟩:=An.1 hj;exact⟨j,by omega,h2,h3,rfl⟩
theorem Mr (v:Int) (j:Nat):∀js:List Nat,(∀k∈js,j<k)→mrg [⟨v,(j:Int)⟩] (Sg v js)=Sg v (j::js)
 |[],_=>by rw[show Sg v []=[]from rfl,GZ];rfl
 |k::js,h=>by
  have:=h k List.mem_cons_self
  show mrg [⟨v,(j:Int)⟩] (⟨v,(k:Int)⟩::Sg v js)=_
  rw[DZ,if_pos (by show(j:Int)<k;omega),Cg];rfl
theorem Zp {l:List A6} {p q:A0} (h4:p.Op=4) (ha:p.cO=[q]) (h0:q.Op=0) (hT:∀b j,testE l q b j=testE l q [] j):
 ∀(n:Nat) (b:List PR) (f:Int) (s:List PR),(l.length:Int) - f≤n→(Sm l p b f s↔∃js:List Nat,js≠[]∧js.Pairwise (· < ·)∧(∀j∈js,f≤(j:Int)∧j∈Gp l q)∧s=Sg q.Var js):=by
 intro n
 induction n with
 | zero=>
  intro b f s hn
  constructor
  ·intro h
   rcases(Sm.i4 h4 ha).1 h with h|⟨u,t,h,_⟩
   ·obtain⟨j,h1,h2,_⟩:=(Sm.i0 h0).1 h;omega
   obtain⟨j,h1,h2,_⟩:=(Sm.i0 h0).1 h;omega
  rintro⟨js,h1,_,h3,_⟩
  cases js with
  |nil=>exact absurd rfl h1
  |cons j js=>
   obtain⟨a,c⟩:=h3 j List.mem_cons_self;have:=(An.1 c).1;omega
 | succ n ih=>
  intro b f s hn;rw[Sm.i4 h4 ha,Sm.i0 h0]
  constructor
  ·rintro(⟨j,h1,h2,h3,rfl⟩|⟨u,t,hu,ht,rfl⟩)
   ·exact⟨[j],by simp,by simp,fun k hk=>by
     rw[List.mem_singleton]at hk
     subst hk
     exact⟨h1,An.2 ⟨h2,by rw[←hT b];exact h3⟩⟩,rfl⟩
   obtain⟨j,h1,h2,h3,rfl⟩:=(Sm.i0 h0).1 hu;obtain⟨js,k1,k2,k3,rfl⟩:=(ih _ _ _ (by show(l.length:Int) - (j+1)≤n;omega)).1 ht;have k3:∀k∈js,(j:Int)+1≤k∧k∈Gp l q:=k3;refine⟨j::js,by simp,List.pairwise_cons.2 ⟨fun k hk=>by have:=(k3 k hk).1;omega,k2⟩,fun k hk=>?_,Mr _ _ _ fun k hk=>by have:=(k3 k hk).1;omega⟩
   rcases List.mem_cons.1 hk with rfl|hk
   ·exact⟨h1,An.2 ⟨h2,by rw[←hT b];exact h3⟩⟩
   exact⟨by have:=(k3 k hk).1;omega,(k3 k hk).2⟩
  rintro⟨js,h1,h2,h3,rfl⟩
  cases js with
  |nil=>exact absurd rfl h1
  | cons j js=>
   obtain⟨a,c⟩:=h3 j List.mem_cons_self;obtain⟨c1,c2⟩:=An.1 c;obtain⟨hj,hjs⟩:=List.pairwise_cons.1 h2
   cases js with
   |nil=>exact .inl ⟨j,a,c1,by rw[hT b];exact c2,rfl⟩
   |cons k js=>
    refine .inr ⟨[⟨q.Var,(j:Int)⟩],Sg q.Var (k::js),(Sm.i0 h0).2 ⟨j,a,c1,by rw[hT b];exact c2,rfl⟩,(ih _ _ _ (by show(l.length:Int) - (j+1)≤n;omega)).2 ⟨k::js,by simp,hjs,fun i hi=>⟨?_,(h3 i (List.mem_cons_of_mem _ hi)).2⟩,rfl⟩,(Mr _ _ _ hj).symm⟩;have:=hj i hi
    show(j:Int)+1≤i
    omega
theorem Xi {l:List A6}{p q:A0}(h4:p.Op=4)(ha:p.cO=[q])(h0:q.Op=0)(hT:∀b j,testE l q b j=testE l q [] j){s:List PR}:Sm l p [] 0 s↔s∈(VV (Gp l q)).map (Sg q.Var):=by
 rw[Zp h4 ha h0 hT l.length [] 0 s (by omega),List.mem_map]
 constructor
 ·rintro⟨js,h1,h2,h3,rfl⟩;exact⟨js,(Lj (Dg l q) js).2 ⟨h1,h2,fun j hj=>(h3 j hj).2⟩,rfl⟩
 rintro⟨js,h,rfl⟩;obtain⟨h1,h2,h3⟩:=(Lj (Dg l q) js).1 h;exact⟨js,h1,h2,fun j hj=>⟨by omega,h3 j hj⟩,rfl⟩
def Dm (a b:List Nat):List (Nat×Nat):=a.flatMap fun i=>(b.filter fun j=>decide (i<j)).map fun j=>(i,j)
theorem Iz {a b:List Nat}{i j:Nat}:(i,j)∈Dm a b↔i∈a∧j∈b∧i<j:=by
 unfold Dm;simp only[List.mem_flatMap,List.mem_map,List.mem_filter,decide_eq_true_eq,Prod.mk.injEq]
 constructor
 ·rintro⟨i',h1,j',⟨h2,h3⟩,rfl,rfl⟩;exact⟨h1,h2,h3⟩
 rintro⟨h1,h2,h3⟩;exact⟨i,h1,j,⟨h2,h3⟩,rfl,rfl⟩
theorem Je :∀{a b:List Nat},a.Nodup→b.Nodup→(Dm a b).Nodup
 |[],_,_,_=>List.nodup_nil
 |i::a,b,ha,hb=>by
  obtain⟨h1,h2⟩:=List.nodup_cons.1 ha;have ih:=Je h2 hb
  have e:Dm (i::a) b=((b.filter fun j=>decide (i<j)).map fun j=>(i,j))++Dm a b:=by unfold Dm;rw[List.flatMap_cons]
  rw[e,List.nodup_append];refine⟨?_,ih,fun x hx y hy e=>?_⟩
  ·rw[Nodup,List.pairwise_map];exact(List.Pairwise.filter _ hb).imp fun h e=>h (Prod.mk.inj e).2
  obtain⟨j,_,rfl⟩:=List.mem_map.1 hx;subst e;exact h1 (Iz.1 hy).1
theorem Mh :∀a b:List Nat,(Dm a b).length=(a.map fun i=>b.countP fun j=>decide (i<j)).sum
 |[],_=>rfl
 |i::a,b=>by
  have e:Dm (i::a) b=((b.filter fun j=>decide (i<j)).map fun j=>(i,j))++Dm a b:=by unfold Dm;rw[List.flatMap_cons]
  rw[e,List.length_append,List.length_map,Mh a b,List.map_cons,List.sum_cons,List.countP_eq_length_filter]
def prP (x:Nat×Nat):List PR:=[⟨0,(x.1:Int)⟩,⟨1,(x.2:Int)⟩]
theorem Ah1 {l:List A6} {p x y z:A0} (h1:p.Op=1) (ha:p.cO=[x,y]) (hx:x.Op=0) (hxv:x.Var=0) (hy:y.Op=0) (hyv:y.Var=1) (hT:∀(i j:Nat),testE l y [⟨0,(i:Int)⟩] j=testE l z [] j) {s:List PR}:
 Sm l p [] 0 s↔s∈(Dm (Gp l x) (Gp l z)).map prP:=by
 rw[Sm.i1c h1 ha,List.mem_map];have hi:∀b f t,Sm l {p with cO:=[y]} b f t↔Sm l y b f t:=fun b f t=>Sm.i1 (p:={p with cO:=[y]}) h1 rfl
 constructor
 ·rintro⟨u,t,hu,ht,rfl⟩;obtain⟨i,_,a2,a3,rfl⟩:=(Sm.i0 hx).1 hu;obtain⟨j,b1,b2,b3,rfl⟩:=(Sm.i0 hy).1 ((hi _ _ _).1 ht)
  rw[hxv,Cg]at b3
  rw[hT i j]at b3
  have b1:(i:Int)+1≤j:=b1;refine⟨(i,j),Iz.2 ⟨An.2 ⟨a2,a3⟩,An.2 ⟨b2,b3⟩,by omega⟩,?_⟩;rw[DZ,if_pos (show(i:Int)<j by omega),Cg,hxv,hyv];rfl
 rintro⟨⟨i,j⟩,h,rfl⟩;obtain⟨h1,h2,h3⟩:=Iz.1 h;obtain⟨a2,a3⟩:=An.1 h1;obtain⟨b2,b3⟩:=An.1 h2;refine⟨[⟨x.Var,(i:Int)⟩],[⟨y.Var,(j:Int)⟩],(Sm.i0 hx).2 ⟨i,by omega,a2,a3,rfl⟩,(hi _ _ _).2 ((Sm.i0 hy).2 ⟨j,?_,b2,?_,rfl⟩),?_⟩
 ·show(i:Int)+1≤j;omega
 ·rw[Cg,hxv,hT i j];exact b3
 rw[DZ,if_pos (show(i:Int)<j by omega),Cg,hxv,hyv];rfl
end
end Go.Ab
namespace Go.Ab
open Classical
noncomputable section
theorem YK {N:Nat}{p:A0}(h:Gt N p=0):I4 N p=0:=by
 unfold Gt at h
 by_cases hr:I4 N p=0
 ·exact hr
 rw[if_pos (show I4 N p≠0 from hr)]at h;exact absurd h hr
theorem Rf {N:Nat}{p:A0}(h:Gt N p=0){y:A0}(hy:y∈p.pre):Q9 N y=0:=(Fd (YK h)).2.2 y hy
theorem JY {N:Nat}(hN:40000000≤N){y:A0}(hb:y.bulk≤16777216)(hl:y.cO.length≤64)(h0:0≤y.Op∧y.Op≤10):∃s ng,Ge N y s ng∧Q9 N y=if s.cU≤y.cO.length∧(y.cO.length:Int)≤s.most then ET s y (decide (y.cP=(⟨0,[],0,0,0,(⟨0,0,⟨#[]⟩⟩:A5)⟩:A3)))else 15:=by
 obtain⟨s,ng,hs⟩:=Ja N y h0.1 h0.2 hl
 have hc:y.cP.bulk≤16777216:=by have:=A0.bulk_eq y;omega
 have hz:=Xq hN N y.cP (⟨0,[],0,0,0,(⟨0,0,⟨#[]⟩⟩:A5)⟩:A3) (by omega) hc;have h1:=El hN hc h0.1 h0.2 hs hz
 rw[(CE hN hb hl).2]at h1
 exact⟨s,ng,hs,Option.some.inj h1⟩
theorem RU {N:Nat}(hN:40000000≤N){p:A0}(hb:p.bulk≤16777216)(h:Gt N p=0){y:A0}(hy:y∈p.pre)(h0:y.Op=0):y.cO=[]:=((Nz hN hb h).1 y hy).a0 h0
theorem Ak5 {N:Nat} {y:A0} (h0:y.Op=0) (ha:y.cO=[]) (hv:y.Var=0) (hn:Q9 N y=0):Gt N y=0:=by
 have hp:y.pre=[y]:=by rw[A0.pre_eq,ha];rfl
 have hr:I4 N y=0:=by
  unfold I4;rw[hp,A0.dep_eq,ha,if_neg (by simp),if_neg (by simp[A0.deps]),Z3];intro z hz
  rw[List.mem_singleton]at hz
  rw[hz];exact hn
 unfold Gt;rw[if_neg (show¬I4 N y≠0 by simpa using hr),hp,if_neg (by simp[K2,h0]),if_pos];unfold MV CP CR;simp only[List.map_cons,List.map_nil,h0];rw[show B7 D0 0=some ⟨0,0,true,true,false,false⟩from rfl];simp[cnt,hv]
theorem Ab5 {y:A0}(h0:y.Op=0)(ha:y.cO=[]):evs y=1:=by rw[Ej,if_pos h0,ha];rfl
def AO (x:A0):A0:=⟨4,[x],0,0,0,0,⟨0,[],0,0,0,⟨0,0,⟨#[]⟩⟩⟩⟩
theorem Ak4 {N:Nat} (hN:40000000≤N) {y:A0} (hb:y.bulk≤1048576) (h0:y.Op=0) (ha:y.cO=[]) (hv:y.Var=0) (hn:Q9 N y=0):Gt N (AO y)=0∧evs (AO y)=1:=by
 have hp:(AO y).pre=[AO y,y]:=by rw[A0.pre_eq];simp[AO,A0.pres,A0.pre_eq y,ha]
 have hbp:(AO y).bulk≤16777216:=by have:(⟨#[]⟩:ByteArray).size=0:=rfl;simp[AO,A0.bulk,A0.bulks,A3.bulk,A3.bulks];omega
 have hn2:Q9 N (AO y)=0:=by
  obtain⟨s,ng,hs,e⟩:=JY hN hbp (by simp[AO]) ⟨by simp[AO],by simp[AO]⟩;have ht:=hs.tab;have ht:B7 D0 4=some s:=ht
  rw[show B7 D0 4=some ⟨1,1,false,false,false,false⟩from rfl]at ht
  have ht:=(Option.some.inj ht).symm;subst ht;rw[e,if_pos (by simp[AO])];simp[ET,AO,BC,N3]
 have hr:I4 N (AO y)=0:=by
  unfold I4;rw[hp,if_neg (by simp),if_neg (by rw[A0.dep_eq];simp[AO,A0.deps,A0.dep_eq y,ha]),Z3];intro z hz
  rcases List.mem_cons.1 hz with rfl|hz
  ·exact hn2
  rw[List.mem_singleton]at hz
  rw[hz];exact hn
 refine⟨?_,?_⟩
 ·unfold Gt;rw[if_neg (show¬I4 N (AO y)≠0 by simpa using hr),hp,if_neg (by simp[K2,h0,AO]),if_pos];unfold MV CP CR;simp only[List.map_cons,List.map_nil,h0];rw[show B7 D0 0=some ⟨0,0,true,true,false,false⟩from rfl,show B7 D0 (AO y).Op=some ⟨1,1,false,false,false,false⟩from rfl];simp[cnt,hv]
 rw[Ej];simp[AO,A0.pres,A0.pre_eq y,ha,h0]
def QD (y:A0):A0:={y with Var:=0,cP:=Bj y.cP}
theorem Re {N:Nat} (hN:40000000≤N) {y:A0} (hb:y.bulk≤16777216) (h0:y.Op=0) (ha:y.cO=[]) (hn:Q9 N y=0):E7 y.cP=0∧Q9 N (QD y)=0:=by
 have hb2:(QD y).bulk≤16777216:=by
  rw[A0.bulk_eq]at hb ⊢
  show A0.bulks y.cO+(Bj y.cP).bulk+6≤_
  rw[JW];exact hb
 obtain⟨s,ng,hs,e⟩:=JY hN hb (by rw[ha];simp) ⟨by omega,by omega⟩;obtain⟨s',ng',hs',e'⟩:=JY hN hb2 (by show y.cO.length≤64;rw[ha];simp) ⟨by show 0≤y.Op;omega,by show y.Op≤10;omega⟩;have ht:=hs.tab;have ht':B7 D0 y.Op=some s':=hs'.tab
 rw[h0,show B7 D0 0=some ⟨0,0,true,true,false,false⟩from rfl]at ht ht'
 have ht:=(Option.some.inj ht).symm;have ht':=(Option.some.inj ht').symm;subst ht;subst ht'
 rw[hn,if_pos (by rw[ha];simp)]at e
 rw[e',if_pos (by show(0:Int)≤(y.cO.length:Int)∧(y.cO.length:Int)≤0;rw[ha];simp)];have e:=e.symm
 unfold ET at e ⊢
 dsimp only at e ⊢
 split at e
 ·cases e
 rename_i h1
 split at e
 ·cases e
 split at e
 ·cases e
 rename_i h3
 split at e
 ·cases e
 rename_i h4
 split at e
 ·rename_i h5;exact absurd e h5.2
 rename_i h5
 have hc:E7 y.cP=0:=by
  by_cases k:E7 y.cP=0
  ·exact k
  exact absurd ⟨rfl,k⟩ h5
 refine⟨hc,?_⟩
 split at e
 ·rename_i h6;rw[if_neg (show¬BC true (QD y).Typ 15=true from h1),if_neg (show¬BC true (QD y).Var 15=true by show¬BC true 0 15=true;decide),if_neg (show¬BC false (QD y).cR 63=true from h3),if_neg (show¬BC false (QD y).Span 1099511627776=true from h4),if_neg (fun k=>k.2 (Ow hc)),if_pos];exact⟨rfl,h6.2.1,rfl,h6.2.2.2.1,h6.2.2.2.2⟩
 cases e
end
end Go.Ab
namespace Go.Ab
open Classical
noncomputable section
def VH (m:D1):Gv:=match m.cQ with|b::_=>b.Ref|[]=>⟨0,0,0⟩
def FY (a b:D1):Bool:=decide (L8 (HP (VH a)) (HP (VH b))<0)
theorem UH {m:D1}(h:m.cQ≠[]):∃b,B7 m.cQ 0=some b∧b.Ref=VH m:=by
 unfold VH
 cases hm:m.cQ with
 |nil=>exact absurd hm h
 |cons b q=>exact⟨b,rfl,rfl⟩
theorem Ak2 {N:Nat} (hN:40000000≤N) {r:List D1} (hr:r.length≤1500) (hb:∀x∈r,x.cQ≠[]) {a:D1} (ha:a.cQ≠[]) {n:Nat} (hn:n≤10000000):loopN
 (fun(s26:Int×Int)=>
  (
   if cmp .lss s26.2 (Ar.len r)=true then
    (B7 r s26.2).bind fun x28=>
    (B7 a.cQ 0).bind fun x29=>
    (B7 x28.cQ 0).bind fun x30=>
    (R6 N x29.Ref x30.Ref).bind fun r31=>
    if cmp .lss r31 0=true then
     some (.inl (ar .add .i64 s26.1 1,ar .add .i64 s26.2 1))
    else
     some (.inl (s26.1,ar .add .i64 s26.2 1))
   else
    some (.inr s26.1)
   :Option ((Int×Int) ⊕ (Int)))) N ((n:Int),0)=some (((n+r.countP (FY a):Nat)):Int):=by
 have ex:∀{o:Option Int},(∃t,o.bind some=some t∧t=((n+r.countP (FY a):Nat):Int))→o=some ((n+r.countP (FY a):Nat):Int):=fun{o} ⟨t,t1,t2⟩=>by
  cases o with
  |none=>cases t1
  |some v=>exact t1.trans (congrArg some t2)
 refine ex (Mx (fun(j:Nat) (s:Int×Int)=>s.2=(j:Int)∧s.1=((n+(r.take j).countP (FY a):Nat):Int)) r.length (by omega) ⟨rfl,by simp⟩ (fun j s hj ⟨e,e1⟩=>?_) (fun s ⟨e,e1⟩=>?_))
 ·obtain⟨i,q⟩:=s
  dsimp only at e e1
  subst e;subst e1;have hm:=List.getElem_mem hj;obtain⟨b1,h1,h2⟩:=UH ha;obtain⟨b2,k1,k2⟩:=UH (hb _ hm);have hc:=List.countP_le_length (p:=FY a) (l:=r.take j)
  rw[List.length_take]at hc
  dsimp only
  rw[if_pos (R9 (by omega)),D9,List.getElem?_eq_getElem hj];simp only[Option.bind_some,h1,k1,QZ,h2,k2,C1];have et:=Hu hj
  have ec:(r.take (j+1)).countP (FY a)=(r.take j).countP (FY a)+if FY a r[j]=true then 1 else 0:=by
   rw[et,List.countP_append,List.countP_singleton]
  by_cases h:L8 (HP (VH a)) (HP (VH r[j]))<0
  ·rw[if_pos (decide_eq_true h)];refine⟨_,rfl,EI (by omega),?_⟩
   dsimp only
   rw[ec,if_pos (show FY a r[j]=true from decide_eq_true h),EI (by omega)]
   congr 1
  rw[if_neg (by simpa using h)];refine⟨_,rfl,EI (by omega),?_⟩
  dsimp only
  rw[ec,if_neg (show¬FY a r[j]=true by unfold FY;simpa using h)];rfl
 obtain⟨i,q⟩:=s
 dsimp only at e e1
 subst e;subst e1
 dsimp only
 rw[if_neg V9,List.take_length];exact⟨_,rfl,_,rfl,rfl⟩
theorem Ac1 {N:Nat} (hN:40000000≤N) {r q:List D1} (hr:r.length≤1500) (hq:q.length≤1500) (hb:∀x∈r,x.cQ≠[]) (hc:∀x∈q,x.cQ≠[]):loopN
 (fun (s23:Int×Int)=>
  (
   if cmp .lss s23.2 (Ar.len q)=true then
    (B7 q s23.2).bind fun x25=>
    (loopN
     (fun(s26:Int×Int)=>
      (
       if cmp .lss s26.2 (Ar.len r)=true then
        (B7 r s26.2).bind fun x28=>
        (B7 x25.cQ 0).bind fun x29=>
        (B7 x28.cQ 0).bind fun x30=>
        (R6 N x29.Ref x30.Ref).bind fun r31=>
        if cmp .lss r31 0=true then
         some (.inl (ar .add .i64 s26.1 1,ar .add .i64 s26.2 1))
        else
         some (.inl (s26.1,ar .add .i64 s26.2 1))
       else
        some (.inr s26.1)
       :Option ((Int×Int) ⊕ (Int))))
     N (s23.1,0)).bind fun s27=>
    some (.inl (s27,ar .add .i64 s23.2 1))
   else
    some (.inr s23.1)
   :Option ((Int×Int) ⊕ (Int)))) N (0,0)=some (((q.map fun a=>r.countP (FY a)).sum:Nat):Int):=by
 have ex:∀{o:Option Int},(∃t,o.bind some=some t∧t=(((q.map fun a=>r.countP (FY a)).sum:Nat):Int))→o=some (((q.map fun a=>r.countP (FY a)).sum:Nat):Int):=fun{o} ⟨t,t1,t2⟩=>by
  cases o with
  |none=>cases t1
  |some v=>exact t1.trans (congrArg some t2)
 have hs:∀q:List D1,(q.map fun a=>r.countP (FY a)).sum≤q.length*1500:=fun q=>by
  induction q with
  |nil=>simp
  |cons a q ih=>
   have:=List.countP_le_length (p:=FY a) (l:=r);rw[List.map_cons,List.sum_cons,List.length_cons];omega
 refine ex (Mx (fun(j:Nat) (s:Int×Int)=>s.2=(j:Int)∧s.1=((((q.take j).map fun a=>r.countP (FY a)).sum:Nat):Int)) q.length (by omega) ⟨rfl,by simp⟩ (fun j s hj ⟨e,e1⟩=>?_) (fun s ⟨e,e1⟩=>?_))
 ·obtain⟨i,k⟩:=s
  dsimp only at e e1
  subst e;subst e1;have hm:=List.getElem_mem hj;have hle:=hs (q.take j)
  rw[List.length_take]at hle
  dsimp only
  rw[if_pos (R9 (by omega)),D9,List.getElem?_eq_getElem hj];simp only[Option.bind_some];rw[Ak2 hN hr hb (hc _ hm) (by omega)];refine⟨_,rfl,EI (by omega),?_⟩
  dsimp only
  rw[Hu hj,List.map_append,List.sum_append];simp
 obtain⟨i,k⟩:=s
 dsimp only at e e1
 subst e;subst e1
 dsimp only
 rw[if_neg V9,List.take_length];exact⟨_,rfl,_,rfl,rfl⟩
theorem Ln {N:Nat} (hN:40000000≤N) {p:A0} (hb:p.bulk≤16777216) {l:List A6} (g:KY N p l) {S:List (List PR)} (hS:S.Nodup) (hm:∀s,Sm l p [] 0 s↔s∈S):
 ∃r,F2 N p l=some (r,true)∧r.Perm (S.map (W5 l))∧(∀x∈r,x.cQ≠[])∧r.length≤1500:=by
 obtain⟨r,h1,h2,h3,h4⟩:=Hb hN hb g;obtain⟨r',k1,k6,⟨L,m1,m2,m3⟩,k3,k4⟩:=Ug hN hb g.len g.sml g.p0 g.s0
 have hm':Zf l p r':=⟨k6,fun x=>by
  rw[m3.mem_iff,List.mem_map]
  exact⟨fun⟨s,a,b⟩=>⟨s,(m2 s).1 a,b.symm⟩,fun⟨s,a,b⟩=>⟨s,(m2 s).2 a,b.symm⟩⟩⟩
 have e:=h2.uniq hm';subst e;exact⟨r,h1,m3.trans (((List.perm_ext_iff_of_nodup m1 hS).2 fun s=>by rw[m2,hm]).map _),fun x hx=>(h3 x hx).2,h4⟩
theorem ZD {l:List A6} (hl:l.length≤10) (hc:Gs l=0) {i j:Nat} (hi:i<l.length) (hj:j<l.length):decide (L8 (HP (Ez l i)) (HP (Ez l j))<0)=decide (i<j):=by
 have he:∀k (hk:k<l.length),HP (Ez l (k:Int))=Z6 l[k]:=fun k hk=>by
  unfold Ez;rw[Int.toNat_natCast,List.getElem?_eq_getElem hk];rfl
 rw[he i hi,he j hj]
 rcases Nat.lt_trichotomy i j with h|h|h
 ·have:=Jz hl hc (j - i - 1) i (by omega) hi (by omega)
  have ej:i+(j - i - 1)+1=j:=by omega
  simp only[ej]at this
  rw[decide_eq_true this,decide_eq_true h]
 ·subst h;rw[DO,decide_eq_false (by omega),decide_eq_false (by omega)]
 have:=Jz hl hc (i - j - 1) j (by omega) hj (by omega)
 have ej:j+(i - j - 1)+1=i:=by omega
 simp only[ej]at this
 rw[My]at this
 rw[decide_eq_false (by omega),decide_eq_false (by omega)]
theorem Wb {N :Nat} (hN:40000000≤N) (awake:E4 N=some true) {x y:A0} (hx:x.bulk≤1048576) (hy:y.bulk≤1048576) {l:List A6} (hl:l.length≤1048576) (h8:l.length≤8)
 (x0:x.Op=0) (xv:x.Var=0) (y0:y.Op=0) (hc:Gs l=0) {r5:List D1} (p5:r5.Perm ((Gp l x).map fun j=>W5 l (Sg 0 [j]))) (b5:∀z∈r5,z.cQ≠[]) (l5:r5.length≤1500):
 ((Ag N (⟨1, [x,{y with Var:=1}],0,0,0,0,(⟨0,[],0,0,0,(⟨0,0,⟨#[]⟩⟩:A5)⟩:A3)⟩:A0) l).bind fun r14=>
  if nt r14=true then
   (E4 N).bind fun r15=>
   some r15
  else
   (M7 N y.cP).bind fun r16=>
   (G8 N r16 0).bind fun r17=>
   if r17=true then
    (E4 N).bind fun r18=>
    some r18
   else
    (F2 N (⟨1,[x,{y with Var:=1}],0,0,0,0,(⟨0,[],0,0,0,(⟨0,0,⟨#[]⟩⟩:A5)⟩:A3)⟩:A0) l).bind fun r19=>
    (V0 N y.cP).bind fun r20=>
    if Ar.or (nt r19.2) (nt r20.2)=true then
     if r19.2=true then
      (E4 N).bind fun r21=>
      some r21
     else
      some false
    else
     (F2 N ({y with Var:=0,cP:=r20.1}) l).bind fun r22=>
     (loopN
      (fun (s23:Int×Int)=>
       (
        if cmp .lss s23.2 (Ar.len r5)=true then
         (B7 r5 s23.2).bind fun x25=>
         (loopN
          (fun(s26:Int×Int)=>
           (
            if cmp .lss s26.2 (Ar.len r22.1)=true then
             (B7 r22.1 s26.2).bind fun x28=>
             (B7 x25.cQ 0).bind fun x29=>
             (B7 x28.cQ 0).bind fun x30=>
             (R6 N x29.Ref x30.Ref).bind fun r31=>
             if cmp .lss r31 0=true then
              some (.inl (ar .add .i64 s26.1 1,ar .add .i64 s26.2 1))
             else
              some (.inl (s26.1,ar .add .i64 s26.2 1))
            else
             some (.inr s26.1)
            :Option ((Int×Int) ⊕ (Int))))
          N (s23.1,0)).bind fun s27=>
         some (.inl (s27,ar .add .i64 s23.2 1))
        else
         some (.inr s23.1)
        :Option ((Int×Int) ⊕ (Int))))
      N (0,0)).bind fun s24=>
     if Ar.an r22.2 (cmp .eql s24 (Ar.len r19.1))=true then
      (E4 N).bind fun r32=>
      some r32
     else
      some false)=some true:=by
 have hz:(⟨#[]⟩:ByteArray).size=0:=rfl
 have hpb:(⟨1,[x,{y with Var:=1}],0,0,0,0,(⟨0,[],0,0,0,(⟨0,0,⟨#[]⟩⟩:A5)⟩:A3)⟩:A0).bulk≤16777216:=by
  have:=A0.bulk_eq y;simp[A0.bulk,A0.bulks,A3.bulk,A3.bulks];omega
 obtain⟨b,g1,g2⟩:=UI hN hpb (l:=l) (by omega);rw[g1];simp only[Option.bind_some]
 by_cases hb:nt b=true
 ·rw[if_pos hb,awake];rfl
 rw[if_neg hb];have gp:=g2 (by rw[U3]at hb;simpa using hb)
 have hyb:y.cP.bulk≤16777216:=by have:=A0.bulk_eq y;omega
 have hmem:({y with Var:=1}:A0)∈(⟨1,[x,{y with Var:=1}],0,0,0,0,(⟨0,[],0,0,0,(⟨0,0,⟨#[]⟩⟩:A5)⟩:A3)⟩:A0).pre:=by
  rw[A0.pre_eq];refine List.mem_cons_of_mem _ (O8.2 ⟨{y with Var:=1},by simp,Am _⟩)
 have hya:y.cO=[]:=RU (y:={y with Var:=1}) hN hpb gp.p0 hmem y0;obtain⟨hyc,hyn⟩:=Re hN (y:={y with Var:=1}) (by rw[A0.bulk_eq];have:=A0.bulk_eq y;show A0.bulks y.cO+y.cP.bulk+6≤_;omega) y0 hya (Rf gp.p0 hmem);have hyc:E7 y.cP=0:=hyc;rw[OK hN hyb];simp only[Option.bind_some];rw[Aj3 hN (GU _)];simp only[Option.bind_some]
 by_cases hv:((Kb y.cP).any fun v=>decide (0=v))=true
 ·rw[if_pos hv,awake];rfl
 rw[if_neg hv];have eqS:QD {y with Var:=1}={y with Var:=0,cP:=Bj y.cP}:=rfl
 rcases SQ hN hyb hyc with⟨h1,hr⟩|hr
 ·have hT:∀i j:Nat,testE l {y with Var:=1} [⟨0,(i:Int)⟩] j=testE l {y with Var:=0,cP:=Bj y.cP} [] j:=fun i j=>by
   unfold testE
   cases l[j]? with
   |none=>rfl
   |some e=>
    show(decide (e.Typ=y.Typ)&&T9 (DE l [⟨0,(i:Int)⟩] j) 1 e y.cP)=(decide (e.Typ=y.Typ)&&T9 (DE l [] j) 0 e (Bj y.cP))
    rw[Vf (v:=1) (env:=DE l [⟨0,(i:Int)⟩] j) (env':=DE l [] j) h1 hyc (Ow hyc) (by simp[Ft,DE,Jc,List.range,List.range.loop]) e]
  obtain⟨r19,m1,m2,m3,m4⟩:=Ln hN hpb gp (S:=(Dm (Gp l x) (Gp l {y with Var:=0,cP:=Bj y.cP})).map prP)
   (by
    rw[Nodup,List.pairwise_map]
    exact(Je ((Dg l x).imp fun h=>Nat.ne_of_lt h) ((Dg l _).imp fun h=>Nat.ne_of_lt h)).imp fun h e=>h (by
     simp only[prP,List.cons.injEq,I0.mk.injEq]at e
     exact Prod.ext (by omega) (by omega)))
   (fun s=>Ah1 (y:={y with Var:=1}) rfl rfl x0 xv y0 rfl hT)
  have gs:KY N {y with Var:=0,cP:=Bj y.cP} l:=⟨by omega,.inl (by
   rw[←eqS,Ab5 (y:=QD {y with Var:=1}) y0 hya]
   exact Nat.le_trans (Nat.pow_le_pow_right (by decide) h8) (by decide)),by rw[←eqS];exact Ak5 y0 hya rfl hyn,hc⟩
  have hsb:({y with Var:=0,cP:=Bj y.cP}:A0).bulk≤16777216:=by
   rw[A0.bulk_eq]
   show A0.bulks y.cO+(Bj y.cP).bulk+6≤_
   rw[JW];have:=A0.bulk_eq y;omega
  obtain⟨r22,n1,n2,n3,n4⟩:=Ln hN hsb gs (S:=(Gp l {y with Var:=0,cP:=Bj y.cP}).map fun j=>Sg 0 [j])
   (by
    rw[Nodup,List.pairwise_map]
    exact(Dg l _).imp fun h e=>by have:=Li e;simp only[List.cons.injEq]at this;omega)
   (fun s=>Xj (p:={y with Var:=0,cP:=Bj y.cP}) y0)
  rw[m1,hr];simp only[Option.bind_some];rw[if_neg (by decide),n1];simp only[Option.bind_some];rw[Ac1 hN n4 l5 n3 b5];simp only[Option.bind_some]
  have e:(r5.map fun a=>r22.countP (FY a)).sum=r19.length:=by
   rw[m2.length_eq,List.length_map,List.length_map,Mh,(p5.map _).sum_nat,List.map_map]
   congr 1
   refine List.map_congr_left fun i hi=>?_;have hi':=(An.1 hi).1
   show r22.countP (FY (W5 l (Sg 0 [i])))=_
   rw[n2.countP_eq,List.map_map,List.countP_map];refine List.countP_congr fun j hj=>?_;have hj':=(An.1 hj).1;rw[←ZD (by omega) hc hi' hj'];rfl
  rw[if_pos (by rw[e,B5,C4,L4];simp),awake];rfl
 obtain⟨r19,m1,_⟩:=Hb hN hpb gp;rw[m1,hr];simp only[Option.bind_some];rw[if_pos (by decide),if_pos trivial,awake];rfl
theorem Ah2 {n:Nat}(h:n≤8):ar .sub .i64 (Ar.sh .shl .i64 1 (n:Int)) 1=((2 ^ n - 1:Nat):Int):=by
 have:n=0∨n=1∨n=2∨n=3∨n=4∨n=5∨n=6∨n=7∨n=8:=by omega
 rcases this with rfl|rfl|rfl|rfl|rfl|rfl|rfl|rfl|rfl<;>rfl
theorem Pt {N:Nat} (hN:40000000≤N) (awake:E4 N=some true) {x y:A0} (hx:x.bulk≤1048576) (hy:y.bulk≤1048576) {l:List A6} (hl:l.length≤1048576):S6 N x y l=some true:=by
 unfold S6
 by_cases hg:Ar.or (Ar.or (Ar.or (cmp .neq x.Op 0) (cmp .neq y.Op 0)) (cmp .neq x.Var 0)) (cmp .gtr (Ar.len l) 8)=true
 ·rw[if_pos hg,awake];rfl
 rw[if_neg hg]
 simp only[M9,H9,Bg,B5,Bool.or_eq_true,decide_eq_true_eq,not_or,Int.not_lt,Bool.not_eq_true',decide_eq_false_iff_not,Decidable.not_not]at hg
 obtain⟨⟨⟨x0,y0⟩,xv⟩,h8⟩:=hg
 have h8:l.length≤8:=by omega
 obtain⟨b,g1,g2⟩:=UI hN (p:=x) (by omega) (l:=l) (by omega);rw[g1];simp only[Option.bind_some]
 by_cases hb:nt b=true
 ·rw[if_pos hb,awake];rfl
 rw[if_neg hb];have gx:=g2 (by rw[U3]at hb;simpa using hb);have hxa:x.cO=[]:=RU hN (by omega) gx.p0 (Am x) x0;have hxn:Q9 N x=0:=Rf gx.p0 (Am x)
 have hxb:x.cP.bulk≤16777216:=by have:=A0.bulk_eq x;omega
 obtain⟨q1,q2⟩:=Ak4 hN hx x0 hxa xv hxn;have hxc:E7 x.cP=0:=(Re hN (y:=x) (by omega) x0 hxa hxn).1;have gp:KY N (AO x) l:=⟨gx.len,.inl (by rw[q2];exact Nat.le_trans (Nat.pow_le_pow_right (by decide) h8) (by decide)),q1,gx.s0⟩
 have hpb:(AO x).bulk≤16777216:=by have:(⟨#[]⟩:ByteArray).size=0:=rfl;simp[AO,A0.bulk,A0.bulks,A3.bulk,A3.bulks];omega
 have hnd:(Gp l x).Nodup:=(Dg l x).imp fun h=>Nat.ne_of_lt h
 obtain⟨r5,m1,m2,m3,m4⟩:=Ln hN (p:=x) (by omega) gx (S:=(Gp l x).map fun j=>Sg 0 [j])
  (by
   rw[Nodup,List.pairwise_map]
   exact(Dg l _).imp fun h e=>by have:=Li e;simp only[List.cons.injEq]at this;omega)
  (fun s=>by rw[Xj x0,xv])
 obtain⟨r6,n1,n2,_,_⟩:=Hb hN hpb gp
 rw[List.map_map]at m2
 have n1:F2 N (⟨4,[x],0,0,0,0,(⟨0,[],0,0,0,(⟨0,0,⟨#[]⟩⟩:A5)⟩:A3)⟩:A0) l=some (r6,true):=n1;rw[m1,n1];simp only[Option.bind_some];rw[if_neg (by decide),OK hN hxb];simp only[Option.bind_some]
 obtain⟨_,v1,_⟩:=Jm (N:=N) (l:=Kb x.cP) (step:=(fun(s8:Int)=>
  (
   if cmp .lss s8 (Ar.len (Kb x.cP))=true then
    (B7 (Kb x.cP) s8).bind fun x10=>
    if cmp .neq x10 0=true then
     (E4 N).bind fun r11=>
     some (.inr (.inr r11))
    else
     some (.inl (ar .add .i64 s8 1))
   else
    some (.inr (.inl ()))
   :Option ((Int) ⊕ (Unit ⊕ Bool))))) (by have:=GU x.cP;omega) (by have:=GU x.cP;omega) (fun v=>decide (v≠0)) () (fun _=>true)
  (fun i v hv hi=>by
   have e:ar .add .i64 (i:Int) 1=i+1:=C5 (by omega) (by have:=GU x.cP;omega);rw[if_pos (R9 hi),D9,hv];simp only[Option.bind_some,awake,e]
   by_cases h:v=0
   ·rw[if_neg (N2 h),if_neg (by simpa using h)]
   rw[if_pos (S5 h),if_pos (decide_eq_true h)]) (by rw[if_neg V9])
 rw[v1];simp only[Option.bind_some]
 by_cases hv:((Kb x.cP).any fun v=>decide (v≠0))=true
 ·rw[if_pos hv]
 rw[if_neg hv]
 dsimp only
 rw[Ac8 hN N x.cP (by omega) hxb];simp only[Option.bind_some];have tail:=Wb hN awake hx hy hl h8 x0 xv y0 gx.s0 m2 m3 m4
 by_cases ha:(x.cP.pre.any fun y=>decide (y.Op=3∨y.Op=4))=true
 ·rw[if_neg (by rw[ha];decide)];exact tail
 rw[if_pos (by rw[U3];simpa using ha)]
 have how:OwnC x.Var x.cP:=fun z hz hu=>by
  refine⟨?_,?_⟩
  ·rw[xv]
   by_cases e:z.Var=0
   ·exact e
   exact absurd (List.any_eq_true.2 ⟨z.Var,(Rn hxc).2 ⟨z,hz,hu,rfl⟩,decide_eq_true e⟩) hv
  rw[Bool.not_eq_true,List.any_eq_false]at ha
  have:=ha z hz
  rw[decide_eq_true_eq]at this
  omega
 have hT:∀b j,testE l x b j=testE l x [] j:=fun b j=>by
  unfold testE
  cases l[j]? with
  |none=>rfl
  |some e=>dsimp only;rw[Vg how (DE l b j) (DE l [] j)]
 have hS:((VV (Gp l x)).map (Sg x.Var)).Nodup:=by
  rw[Nodup,List.pairwise_map];exact(NS (Dg l x)).imp fun h e=>h (Li e)
 obtain⟨r6',k1,k2,_,_⟩:=Ln hN hpb gp hS fun s=>Xi (p:=AO x) rfl rfl x0 hT;have k1:F2 N (⟨4,[x],0,0,0,0,(⟨0,[],0,0,0,(⟨0,0,⟨#[]⟩⟩:A5)⟩:A3)⟩:A0) l=some (r6',true):=k1
 rw[k1]at n1
 have e6:r6'=r6:=(Prod.mk.inj (Option.some.inj n1)).1
 have l6:r6.length=2 ^ r5.length - 1:=by
  rw[←e6,k2.length_eq,List.length_map,List.length_map,m2.length_eq,List.length_map];have:=Uq (Gp l x);omega
 have l5:r5.length≤8:=by
  rw[m2.length_eq,List.length_map];unfold Gp;have:=List.length_filter_le (fun j=>testE l x [] j) (List.range l.length)
  rw[List.length_range]at this
  omega
 rw[show QI (cmp .geq (Ar.len r5) 0)=some () by unfold QI;rw[if_pos (by rw[K2,B5];simp)]];simp only[Option.bind_some];rw[B5,B5,Ah2 l5,if_neg (N2 (by rw[l6]))];exact tail
end
end Go.Ab
namespace Go.Ab
open Go.RowKit Go.ChangeShapes Go.WideShapes Go.ChangeAt Go.Proofs Go.Proofs.YtanbgjgaafeplaaGreatDoor
set_option maxRecDepth 100000
mutual
def YH :A3→V
 |⟨op,args,var,field,kind,val⟩=>.agg [.int .i64 op,.sl (RF args) .ro,.int .i64 var,.int .i64 field,.int .i64 kind,.int .i64 val.Kind,.int .i64 val.Num,.str val.Text]
def RF :List A3→List V
 |[]=>[]
 |a::r=>YH a::RF r
end
theorem Om :∀l:List A3,RF l=l.map YH
 |[]=>by simp[RF]
 |a::r=>by simp[RF,Om r]
mutual
def Ab8 :A0→V
 |⟨op,args,typ,var,scope,span,c⟩=>.agg [.int .i64 op,.sl (RE args) .ro,.int .i64 typ,.int .i64 var,.int .i64 scope,.int .i64 span,.int .i64 c.Op,.sl (c.cO.map YH) .ro,.int .i64 c.Var,.int .i64 c.Field,.int .i64 c.Kind,.int .i64 c.Value.Kind,.int .i64 c.Value.Num,.str c.Value.Text]
def RE :List A0→List V
 |[]=>[]
 |a::r=>Ab8 a::RE r
end
theorem Oj :∀l:List A0,RE l=l.map Ab8
 |[]=>by simp[RE]
 |a::r=>by simp[RE,Oj r]
noncomputable def Ok (x:A5):V:=.agg [.int .i64 x.Kind,.int .i64 x.Num,.str x.Text]
noncomputable def Ol (x:A6):V:=.agg [.int .i64 x.Source,.int .i64 x.Seq,.int .i64 x.Typ,.int .i64 x.Time,.sl (lst Ok x.Values) .ro]
noncomputable def KM (x:E8):V:=.agg [.int .i64 x.Var,.int .i64 x.Ref.Time,.int .i64 x.Ref.Source,.int .i64 x.Ref.Seq]
noncomputable def Wr (x:D1):V:=.agg [.sl (lst KM x.cQ) .ro]
noncomputable def Ws (x:PM):V:=.agg [.int .i64 x.cR,.int .i64 x.Span]
noncomputable def Du (x:A1):V:=.agg [.int .i64 x.cT,.int .i64 x.at_]
noncomputable def Cl (x:I0):V:=.agg [.int .i64 x.Var,.int .i64 x.At]
noncomputable def Jw (x:J3):V:=.agg [.int .i64 x.cU,.int .i64 x.most,.bool x.cS,.bool x.cond,.bool x.scope,.bool x.span]
noncomputable def HQ (x:C9):V:=.agg [.int .i64 x.source,.int .i64 x.seq]
noncomputable def TE (x:List A6):V:=.sl (lst Ol x) .ro
noncomputable def Df (x:List A1):V:=.sl (lst Du x) .ro
noncomputable def Gr (x:List (List A1)):V:=.sl (lst Df x) .ro
noncomputable def Fu (x:List I0):V:=.sl (lst Cl x) .ro
noncomputable instance encsInst :H6 where
 eAs2:=Ok
 eAr9:=fun _=>rfl
 eAr7:=YH
 eAs1:=fun⟨_,_,_,_,_,_⟩=>by simp only[YH,Om];rfl
 eAr4:=Ab8
 eAr3:=fun⟨_,_,_,_,_,_,_⟩=>by simp only[Ab8,Oj];rfl
 eAr6:=Ol
 eAs0:=fun _=>rfl
 eAs3:=KM
 eAs5:=fun _=>rfl
 eAr5:=Wr
 eAs4:=fun _=>rfl
 eAt6:=Ws
 eAt9:=fun _=>rfl
 eAr2:=Du
 eAs6:=fun _=>rfl
 eAt3:=Cl
 eAu0:=fun _=>rfl
 eAt4:=Jw
 eAt8:=fun _=>rfl
 eAs9:=HQ
 eAt1:=fun _=>rfl
 eAt0:=TE
 eAt5:=fun _=>rfl
 eAs8:=Gr
 eAt2:=fun _=>rfl
 eAr8:=Df
 eAs7:=fun _=>rfl
 eAt7:=Fu
 eAu1:=fun _=>rfl
def NT {α:Type}(f:α→Nat):List α→Nat
 |[]=>1
 |a::l=>f a+NT f l
theorem Uv {α:Type}{f:α→Nat}(hf:∀a,1≤f a):∀l:List α,l.length+1≤NT f l
 |[]=>by simp[NT]
 |b::l=>by have:=hf b;have:=Uv hf l;simp only[NT,List.length_cons];omega
section
variable [I5]{H:Type}{enc:TypeId×Value→H}{W:World}{base:Nat}{spare:Nat→Bool}{held:Bool}
abbrev bk (d:DataW H):Nat:=Rows.uptoBulk d
noncomputable def Pz (P:Program)(t:TypeId):Array Field:=match P.underlying t with|some (.struct fs)=>fs|_=> #[]
theorem I3 {P:Program} {t ty off sz:Nat} {xs:List (DataW H×List MemPlace)} {cs:List Value} {n:Nat} (hl:xs.length=(Pz P t).size)
 (hf:∀(i:Nat) (f:Field),(Pz P t)[i]? =some f→DataW.trod enc P W base spare held n f.type ((cs.drop f.offset).take (P.cellsOf f.type))=xs[i]?) (i:Nat)
 (h:((Pz P t)[i]?.map fun f=>(f.type,f.offset,P.cellsOf f.type))=some (ty,off,sz)):∃y,xs[i]? =some y∧DataW.trod enc P W base spare held n ty ((cs.drop off).take sz)=some y:=by
 cases hi:(Pz P t)[i]? with
 |none=>rw[hi]at h;cases h
 |some f=>
  rw[hi]at h
  simp only[Option.map_some,Option.some.injEq,Prod.mk.injEq]at h
  obtain⟨rfl,rfl,rfl⟩:=h;exact Ty hl hf i hi
theorem Opens.down {α:Type}{P:Program}{t:TypeId}{f:α→V}{R:α→DataW H→Prop}{n:Nat}(h:Opens enc P W base spare held t f R (n+1)):Opens enc P W base spare held t f R n:=fun cs x hx=>h cs x (DataW.trod_le (Nat.le_succ n) hx)
theorem Opens.imp {α:Type}{P:Program}{t:TypeId}{f:α→V}{R R':α→DataW H→Prop}{n:Nat}(h:Opens enc P W base spare held t f R n)(hi:∀a d,R a d→R' a d):Opens enc P W base spare held t f R' n:=fun cs x hx=>by
 obtain⟨a,r,q⟩:=h cs x hx;exact⟨a,r,hi _ _ q⟩
theorem Opens.congr {α:Type}{P:Program}{t:TypeId}{f g:α→V}{R:α→DataW H→Prop}{n:Nat}(h:Opens enc P W base spare held t f R n)(hg:∀x,f x=g x):Opens enc P W base spare held t g R n:=fun cs x hx=>by
 obtain⟨a,r,q⟩:=h cs x hx;exact⟨a,by rw[←hg];exact r,q⟩
theorem Ae3 {α:Type} {f:α→Nat}:∀(l:List α) (ds:List (DataW H)),RL (fun a d=>f a≤bk d) l ds→NT f l≤Rows.uptoBulkAll ds+1
 |[],ds,h=>by simp[NT]
 |a::l,[],h=>by have:=h.1;simp at this
 |a::l,d::ds,h=>by
  have h1:f a≤bk d:=h.2 0 a d rfl rfl;have h2:=Ae3 l ds ⟨by simpa using h.1,fun i a d hi hd=>h.2 (i+1) a d (by simpa using hi) (by simpa using hd)⟩;simp only[NT,Rows.uptoBulkAll];have h3:bk d=Rows.uptoBulk d:=rfl;omega
theorem Uf {α:Type}{f:α→Nat}{l:List α}{d:DataW H}(h:RS (fun a d=>f a≤bk d) l d):NT f l≤bk d:=by
 obtain⟨_,h⟩:=h
 rcases h with⟨rfl,rfl⟩|⟨es,sp,rfl,h⟩
 ·simp[bk,Rows.uptoBulk,NT]
 have:=Ae3 l es h;simp only[bk,Rows.uptoBulk];omega
theorem RP :∀l:List A3,A3.bulks l=NT A3.bulk l
 |[]=>by simp[A3.bulks,NT]
 |a::l=>by simp[A3.bulks,NT,RP l]
theorem YM {l:List A3}{d:DataW H}(h:RS (fun a d=>A3.bulk a≤bk d) l d):A3.bulks l≤bk d:=by rw[RP];exact Uf h
theorem Oy :∀l:List A0,A0.bulks l=NT A0.bulk l
 |[]=>by simp[A0.bulks,NT]
 |a::l=>by simp[A0.bulks,NT,Oy l]
theorem RQ {l:List A0}{d:DataW H}(h:RS (fun a d=>A0.bulk a≤bk d) l d):A0.bulks l≤bk d:=by rw[Oy];exact Uf h
theorem Aj1 {β:Type}{xs:List β}{a b c:β}(hl:xs.length=3)(h0:xs[0]? =some a)(h1:xs[1]? =some b)(h2:xs[2]? =some c):xs=[a,b,c]:=by
 match xs,hl with
 |[x0,x1,x2],_=>simp at h0 h1 h2;rw[h0,h1,h2]
theorem Aj0 {β:Type}{xs:List β}{a b c d e:β}(hl:xs.length=5)(h0:xs[0]? =some a)(h1:xs[1]? =some b)(h2:xs[2]? =some c)(h3:xs[3]? =some d)(h4:xs[4]? =some e):xs=[a,b,c,d,e]:=by
 match xs,hl with
 |[x0,x1,x2,x3,x4],_=>simp at h0 h1 h2 h3 h4;rw[h0,h1,h2,h3,h4]
theorem Ai9 {β:Type}{xs:List β}{a b c d e f:β}(hl:xs.length=6)(h0:xs[0]? =some a)(h1:xs[1]? =some b)(h2:xs[2]? =some c)(h3:xs[3]? =some d)(h4:xs[4]? =some e)(h5:xs[5]? =some f):xs=[a,b,c,d,e,f]:=by
 match xs,hl with
 |[x0,x1,x2,x3,x4,x5],_=>simp at h0 h1 h2 h3 h4 h5;rw[h0,h1,h2,h3,h4,h5]
theorem Ai8 {β:Type}{xs:List β}{a b c d e f g:β}(hl:xs.length=7)(h0:xs[0]? =some a)(h1:xs[1]? =some b)(h2:xs[2]? =some c)(h3:xs[3]? =some d)(h4:xs[4]? =some e)(h5:xs[5]? =some f)(h6:xs[6]? =some g):xs=[a,b,c,d,e,f,g]:=by
 match xs,hl with
 |[x0,x1,x2,x3,x4,x5,x6],_=>simp at h0 h1 h2 h3 h4 h5 h6;rw[h0,h1,h2,h3,h4,h5,h6]
theorem u27 :Tryz.prog.underlying 27=some (.struct (Pz Tryz.prog 27)):=by kernel_rfl
theorem u23 :Tryz.prog.underlying 23=some (.slice 27):=by kernel_rfl
theorem u3 :Tryz.prog.underlying 3=some (.int .i64):=by kernel_rfl
theorem BJ (n:Nat):Opens enc Tryz.prog W base spare held 3 (V.int .i64) (fun a d=>(fun _:Int=>1) a≤bk d) n:=(Ka u3).imp fun a d h=>by subst h;simp[bk,Rows.uptoBulk]
theorem u25 :Tryz.prog.underlying 25=some (.struct (Pz Tryz.prog 25)):=by kernel_rfl
theorem u9 :Tryz.prog.underlying 9=some .string:=by kernel_rfl
theorem Ah8 (n:Nat):Opens enc Tryz.prog W base spare held 9 V.str (fun a d=>(fun s:ByteArray=>s.size+1) a≤bk d) n:=(VN u9).imp fun a d h=>by obtain⟨rfl,_⟩:=h;simp[bk,Rows.uptoBulk]
def A5.mu (x:A5):Nat:=(fun _:Int=>1) x.Kind+(fun _:Int=>1) x.Num+(fun s:ByteArray=>s.size+1) x.Text+1
theorem Uk (n:Nat):Opens enc Tryz.prog W base spare held 25 H6.eAs2 (fun(a:A5) d=>A5.mu a≤bk d) n:=by
 intro cs x h;obtain⟨xs,m,hm,rfl,hcl,hl,hf⟩:=DataW.trod_struct u25 h;subst hm;obtain⟨y0,k0,t0⟩:=I3 hl hf 0 (ty:=3) (off:=0) (sz:=1) (by kernel_rfl);obtain⟨y1,k1,t1⟩:=I3 hl hf 1 (ty:=3) (off:=1) (sz:=1) (by kernel_rfl);obtain⟨y2,k2,t2⟩:=I3 hl hf 2 (ty:=9) (off:=2) (sz:=1) (by kernel_rfl);have hxs:=Aj1 (hl.trans (by kernel_rfl)) k0 k1 k2;obtain⟨a0,r0,q0⟩:=BJ _ _ _ t0;obtain⟨a1,r1,q1⟩:=BJ _ _ _ t1;obtain⟨a2,r2,q2⟩:=Ah8 _ _ _ t2;refine⟨⟨a0,a1,a2⟩,?_,?_⟩
 ·have hc3:cs.length=3:=hcl.trans (by kernel_rfl);have:=(r0.join r1).join r2;rw[H6.eAr9]
  simp only[lst_eq]at this ⊢
  simpa[List.take_of_length_le,hc3,V.cells]using this
 simp only[bk]at q0 q1 q2
 rw[hxs];simp only[List.map_cons,List.map_nil,bk,Rows.uptoBulk,Rows.uptoBulkAll,A5.mu];omega
theorem ZP :∀n:Nat,Opens enc Tryz.prog W base spare held 27 H6.eAr7 (fun(a:A3) d=>A3.bulk a≤bk d) n:=by
 intro n
 induction n with
 |zero=>intro cs x h;simp[DataW.trod]at h
 |succ n ih=>
 intro cs x h;obtain⟨xs,m,hm,rfl,hcl,hl,hf⟩:=DataW.trod_struct u27 h;cases hm;obtain⟨y0,k0,t0⟩:=I3 hl hf 0 (ty:=3) (off:=0) (sz:=1) (by kernel_rfl);obtain⟨y1,k1,t1⟩:=I3 hl hf 1 (ty:=23) (off:=1) (sz:=1) (by kernel_rfl);obtain⟨y2,k2,t2⟩:=I3 hl hf 2 (ty:=3) (off:=2) (sz:=1) (by kernel_rfl);obtain⟨y3,k3,t3⟩:=I3 hl hf 3 (ty:=3) (off:=3) (sz:=1) (by kernel_rfl);obtain⟨y4,k4,t4⟩:=I3 hl hf 4 (ty:=3) (off:=4) (sz:=1) (by kernel_rfl);obtain⟨y5,k5,t5⟩:=I3 hl hf 5 (ty:=25) (off:=5) (sz:=3) (by kernel_rfl);have hxs:=Ai9 (hl.trans (by kernel_rfl)) k0 k1 k2 k3 k4 k5;obtain⟨a0,r0,q0⟩:=BJ _ _ _ t0
 obtain⟨a1,r1,q1⟩:∃a:List A3,Ds (g0 W) W ((cs.drop 1).take 1) (V.sl (a.map H6.eAr7) .ro).cells∧A3.bulks a≤bk y1.1:=by
  cases n with
  |zero=>simp[DataW.trod]at t1
  |succ n=>
   obtain⟨a,r,q⟩:=ED u23 (show 0<Tryz.prog.cellsOf 27 by rw[show Tryz.prog.cellsOf 27=8 by kernel_rfl];decide) ih.down _ _ t1;exact⟨a,r,YM q⟩
 obtain⟨a2,r2,q2⟩:=BJ _ _ _ t2;obtain⟨a3,r3,q3⟩:=BJ _ _ _ t3;obtain⟨a4,r4,q4⟩:=BJ _ _ _ t4;obtain⟨a5,r5,q5⟩:=Uk _ _ _ t5;refine⟨⟨a0,a1,a2,a3,a4,a5⟩,?_,?_⟩
 ·have hc3:cs.length=8:=hcl.trans (by kernel_rfl)
  rw[H6.eAr9]at r5
  have:=((((r0.join r1).join r2).join r3).join r4).join r5;rw[H6.eAs1]
  simp only[lst_eq]at this ⊢
  simpa[List.take_of_length_le,hc3,V.cells]using this
 simp only[bk]at q0 q1 q2 q3 q4 q5
 rw[hxs]
 simp only[List.map_cons,List.map_nil,bk,Rows.uptoBulk,Rows.uptoBulkAll,A3.bulk,A5.mu]at *
 omega
theorem u29 :Tryz.prog.underlying 29=some (.struct (Pz Tryz.prog 29)):=by kernel_rfl
theorem u22 :Tryz.prog.underlying 22=some (.slice 29):=by kernel_rfl
theorem ZO :∀n:Nat,Opens enc Tryz.prog W base spare held 29 H6.eAr4 (fun(a:A0) d=>A0.bulk a≤bk d) n:=by
 intro n
 induction n with
 |zero=>intro cs x h;simp[DataW.trod]at h
 |succ n ih=>
 intro cs x h;obtain⟨xs,m,hm,rfl,hcl,hl,hf⟩:=DataW.trod_struct u29 h;cases hm;obtain⟨y0,k0,t0⟩:=I3 hl hf 0 (ty:=3) (off:=0) (sz:=1) (by kernel_rfl);obtain⟨y1,k1,t1⟩:=I3 hl hf 1 (ty:=22) (off:=1) (sz:=1) (by kernel_rfl);obtain⟨y2,k2,t2⟩:=I3 hl hf 2 (ty:=3) (off:=2) (sz:=1) (by kernel_rfl);obtain⟨y3,k3,t3⟩:=I3 hl hf 3 (ty:=3) (off:=3) (sz:=1) (by kernel_rfl);obtain⟨y4,k4,t4⟩:=I3 hl hf 4 (ty:=3) (off:=4) (sz:=1) (by kernel_rfl);obtain⟨y5,k5,t5⟩:=I3 hl hf 5 (ty:=3) (off:=5) (sz:=1) (by kernel_rfl);obtain⟨y6,k6,t6⟩:=I3 hl hf 6 (ty:=27) (off:=6) (sz:=8) (by kernel_rfl);have hxs:=Ai8 (hl.trans (by kernel_rfl)) k0 k1 k2 k3 k4 k5 k6;obtain⟨a0,r0,q0⟩:=BJ _ _ _ t0
 obtain⟨a1,r1,q1⟩:∃a:List A0,Ds (g0 W) W ((cs.drop 1).take 1) (V.sl (a.map H6.eAr4) .ro).cells∧A0.bulks a≤bk y1.1:=by
  cases n with
  |zero=>simp[DataW.trod]at t1
  |succ n=>
   obtain⟨a,r,q⟩:=ED u22 (show 0<Tryz.prog.cellsOf 29 by rw[show Tryz.prog.cellsOf 29=14 by kernel_rfl];decide) ih.down _ _ t1;exact⟨a,r,RQ q⟩
 obtain⟨a2,r2,q2⟩:=BJ _ _ _ t2;obtain⟨a3,r3,q3⟩:=BJ _ _ _ t3;obtain⟨a4,r4,q4⟩:=BJ _ _ _ t4;obtain⟨a5,r5,q5⟩:=BJ _ _ _ t5;obtain⟨a6,r6,q6⟩:=ZP _ _ _ t6;refine⟨⟨a0,a1,a2,a3,a4,a5,a6⟩,?_,?_⟩
 ·have hc3:cs.length=14:=hcl.trans (by kernel_rfl)
  rw[H6.eAs1]at r6
  have:=(((((r0.join r1).join r2).join r3).join r4).join r5).join r6;rw[H6.eAr3]
  simp only[lst_eq]at this ⊢
  simpa[List.take_of_length_le,hc3,V.cells]using this
 simp only[bk]at q0 q1 q2 q3 q4 q5 q6
 rw[hxs]
 simp only[List.map_cons,List.map_nil,bk,Rows.uptoBulk,Rows.uptoBulkAll,A0.bulk,A5.mu]at *
 omega
theorem u62 :Tryz.prog.underlying 62=some (.struct (Pz Tryz.prog 62)):=by kernel_rfl
theorem u60 :Tryz.prog.underlying 60=some (.slice 25):=by kernel_rfl
theorem ZM (n:Nat):Opens enc Tryz.prog W base spare held 60 (fun l:List A5=>.sl (lst H6.eAs2 l) .ro) (fun a d=>(NT A5.mu) a≤bk d) n:=
 Opens.down (((ED u60 (show 0<Tryz.prog.cellsOf 25 by rw[show Tryz.prog.cellsOf 25=3 by kernel_rfl];decide) (Uk n)).imp fun a d h=>Uf h).congr fun x=>by rw[lst_eq])
def A6.mu (x:A6):Nat:=(fun _:Int=>1) x.Source+(fun _:Int=>1) x.Seq+(fun _:Int=>1) x.Typ+(fun _:Int=>1) x.Time+(NT A5.mu) x.Values+1
theorem ZL (n:Nat):Opens enc Tryz.prog W base spare held 62 H6.eAr6 (fun(a:A6) d=>A6.mu a≤bk d) n:=by
 intro cs x h;obtain⟨xs,m,hm,rfl,hcl,hl,hf⟩:=DataW.trod_struct u62 h;subst hm;obtain⟨y0,k0,t0⟩:=I3 hl hf 0 (ty:=3) (off:=0) (sz:=1) (by kernel_rfl);obtain⟨y1,k1,t1⟩:=I3 hl hf 1 (ty:=3) (off:=1) (sz:=1) (by kernel_rfl);obtain⟨y2,k2,t2⟩:=I3 hl hf 2 (ty:=3) (off:=2) (sz:=1) (by kernel_rfl);obtain⟨y3,k3,t3⟩:=I3 hl hf 3 (ty:=3) (off:=3) (sz:=1) (by kernel_rfl);obtain⟨y4,k4,t4⟩:=I3 hl hf 4 (ty:=60) (off:=4) (sz:=1) (by kernel_rfl);have hxs:=Aj0 (hl.trans (by kernel_rfl)) k0 k1 k2 k3 k4;obtain⟨a0,r0,q0⟩:=BJ _ _ _ t0;obtain⟨a1,r1,q1⟩:=BJ _ _ _ t1;obtain⟨a2,r2,q2⟩:=BJ _ _ _ t2;obtain⟨a3,r3,q3⟩:=BJ _ _ _ t3;obtain⟨a4,r4,q4⟩:=ZM _ _ _ t4;refine⟨⟨a0,a1,a2,a3,a4⟩,?_,?_⟩
 ·have hc3:cs.length=5:=hcl.trans (by kernel_rfl);have:=(((r0.join r1).join r2).join r3).join r4;rw[H6.eAs0]
  simp only[lst_eq]at this ⊢
  simpa[List.take_of_length_le,hc3,V.cells]using this
 simp only[bk]at q0 q1 q2 q3 q4
 rw[hxs];simp only[List.map_cons,List.map_nil,bk,Rows.uptoBulk,Rows.uptoBulkAll,A6.mu];omega
theorem u30 :Tryz.prog.underlying 30=some (.slice 62):=by kernel_rfl
theorem ZN (n:Nat):Opens enc Tryz.prog W base spare held 30 (fun l:List A6=>.sl (lst H6.eAr6 l) .ro) (fun a d=>(NT A6.mu) a≤bk d) n:=
 Opens.down (((ED u30 (show 0<Tryz.prog.cellsOf 62 by rw[show Tryz.prog.cellsOf 62=5 by kernel_rfl];decide) (ZL n)).imp fun a d h=>Uf h).congr fun x=>by rw[lst_eq])
theorem JF {v:Value}{d:DataW H}{p:List MemPlace}(hv:Value.okWide Tryz.prog W .any base 29 v)(h:DataW.Trod enc Tryz.prog W 0 (fun _=>true) true 29 v d p):∃x:A0,VR (g0 W) W v (H6.eAr4 x)∧A0.bulk x≤Rows.uptoBulk d:=by
 obtain⟨fuel,ht⟩:=h;obtain⟨cs,rfl,hcs⟩:=okWide_struct u29 hv;obtain⟨x,hr,hb⟩:=ZO fuel _ _ ht;have hr':Ds (g0 W) W cs.toList (H6.eAr4 x).cells:=hr;refine⟨x,?_,hb⟩;have:=hr'.agg
 rw[H6.eAr3]at this ⊢
 exact this
theorem RV {v:Value}{d:DataW H}{p:List MemPlace}(hv:Value.okWide Tryz.prog W .any base 30 v)(h:DataW.Trod enc Tryz.prog W 0 (fun _=>true) true 30 v d p):∃x:List A6,VR (g0 W) W v (.sl (lst H6.eAr6 x) .ro)∧(NT A6.mu) x≤Rows.uptoBulk d:=by
 obtain⟨fuel,ht⟩:=h;obtain⟨a,len,cap,rfl⟩:=okWide_slice u30 hv;obtain⟨x,hr,hb⟩:=ZN fuel _ _ ht;exact⟨x,(hr.2 0 (by simp[V.cells])).2,hb⟩
theorem u4 :Tryz.prog.underlying 4=some .bool:=by kernel_rfl
theorem Aa3 {f:FuncId}{vals:Array Value}{args:List V}(hg:∀n,VR (g0 W) W (.pointer (some ⟨n,0,none⟩)) (I5.gl n))(hcall:∀vals w,(callFunc f vals).run Tryz.prog w= .ok (.enter f vals) w)(law:B3 Tryz.prog f args (.bool true))(hA:Args (g0 W) W vals args):
 Calls Tryz.prog f vals W fun e W'=>e= .returned (.bool true)∧Below W.heap.size W W':=by
 have hc:=law (fun _=>none) (g0 W) W vals (rl0 hg) hA
 rw[hcall]at hc
 refine(callsIn_wide.1 hc).mono fun e W' ⟨v,he,g',y,H',hs,hR,hvy,hy,_⟩=>?_;subst hy;cases hvy;exact⟨he,hs.low⟩
theorem Aq4 {v0 v1 v2:Value}{x0 x1 x2:V}(h0:VR (g0 W) W v0 x0)(h1:VR (g0 W) W v1 x1)(h2:VR (g0 W) W v2 x2):Args (g0 W) W #[v0,v1,v2] [x0,x1,x2]:=⟨rfl,fun i hi=>by
 match i,hi with
 |0,_=>exact h0
 |1,_=>exact h1
 |2,_=>exact h2⟩
end
end Go.Ab
namespace Go.Ab
open Go.RowKit Go.ChangeShapes Go.WideShapes Go.ChangeAt Go.Proofs Go.Proofs.YtanbgjgaafeplaaGreatDoor
set_option maxRecDepth 100000
section
variable {H:Type}{enc:TypeId×Value→H}{W:World}{base:Nat}{spare:Nat→Bool}{held:Bool}
theorem u196 :Tryz.prog.underlying 196=some (.array D0.length 195):=by kernel_rfl
theorem u195 :Tryz.prog.underlying 195=some (.struct (Pz Tryz.prog 195)):=by kernel_rfl
theorem Tb (n:Nat):Opens enc Tryz.prog W base spare held 195 H6.eAt4 (fun(a:J3) d=>d= .agg [.lit (.int .i64 a.cU),.lit (.int .i64 a.most),.lit (.bool a.cS),.lit (.bool a.cond),.lit (.bool a.scope),.lit (.bool a.span)]) n:=by
 intro cs x h;obtain⟨xs,m,rfl,rfl,hcl,hl,hf⟩:=DataW.trod_struct u195 h;obtain⟨y0,k0,t0⟩:=I3 hl hf 0 (ty:=3) (off:=0) (sz:=1) (by kernel_rfl);obtain⟨y1,k1,t1⟩:=I3 hl hf 1 (ty:=3) (off:=1) (sz:=1) (by kernel_rfl);obtain⟨y2,k2,t2⟩:=I3 hl hf 2 (ty:=4) (off:=2) (sz:=1) (by kernel_rfl);obtain⟨y3,k3,t3⟩:=I3 hl hf 3 (ty:=4) (off:=3) (sz:=1) (by kernel_rfl);obtain⟨y4,k4,t4⟩:=I3 hl hf 4 (ty:=4) (off:=4) (sz:=1) (by kernel_rfl);obtain⟨y5,k5,t5⟩:=I3 hl hf 5 (ty:=4) (off:=5) (sz:=1) (by kernel_rfl)
 have hxs:xs=[y0,y1,y2,y3,y4,y5]:=match xs,hl.trans (show _=6 by kernel_rfl),k0,k1,k2,k3,k4,k5 with|[_,_,_,_,_,_],_,rfl,rfl,rfl,rfl,rfl,rfl=>rfl
 obtain⟨a0,r0,q0⟩:=Ka u3 _ _ t0;obtain⟨a1,r1,q1⟩:=Ka u3 _ _ t1;obtain⟨a2,r2,q2⟩:=FJ u4 _ _ t2;obtain⟨a3,r3,q3⟩:=FJ u4 _ _ t3;obtain⟨a4,r4,q4⟩:=FJ u4 _ _ t4;obtain⟨a5,r5,q5⟩:=FJ u4 _ _ t5;refine⟨⟨a0,a1,a2,a3,a4,a5⟩,?_,?_⟩
 ·have hc3:cs.length=6:=hcl.trans (by kernel_rfl);have:=((((r0.join r1).join r2).join r3).join r4).join r5;rw[H6.eAt8]
  simpa[List.take_of_length_le,hc3,V.cells]using this
 rw[hxs];simp only[List.map_cons,List.map_nil,q0,q1,q2,q3,q4,q5]
theorem NF :∀(l k:List J3),(RL (H:=H) (fun(a:J3) d=>d= .agg [.lit (.int .i64 a.cU),.lit (.int .i64 a.most),.lit (.bool a.cS),.lit (.bool a.cond),.lit (.bool a.scope),.lit (.bool a.span)]) l
 (k.map fun a=>.agg [.lit (.int .i64 a.cU),.lit (.int .i64 a.most),.lit (.bool a.cS),.lit (.bool a.cond),.lit (.bool a.scope),.lit (.bool a.span)]))→l=k
 |[],[],_=>rfl
 |[],_::_,h=>by have:=h.1;simp at this
 |_::_,[],h=>by have:=h.1;simp at this
 |a::l,b::k,h=>by
  have h0:=h.2 0 a _ rfl rfl;have h1:=NF l k ⟨by simpa using h.1,fun i a d hi hd=>h.2 (i+1) a d (by simpa using hi) (by simpa using hd)⟩;subst h1;obtain⟨a0,a1,a2,a3,a4,a5⟩:=a;obtain⟨b0,b1,b2,b3,b4,b5⟩:=b
  simp at h0
  simp[h0]
theorem Rr (h:laidMetH Tryz.prog Rows.semanticsMatchesRow.laid W):VR (g0 W) W (.pointer (some ⟨0,0,none⟩)) (I5.gl 0):=by
 have h':laidMet Tryz.prog Rows.semanticsMatchesRow.laid W:=h;obtain⟨ps,⟨_,_,_,_,_,q1,_,_,_,_,L1,_⟩,_⟩:=h';obtain⟨_,_,_,_,_,q2,_,_,_,_,L2,_⟩:=L1;obtain⟨_,_,_,_,_,q3,_,_,_,_,L3,_⟩:=L2;obtain⟨g',t',cs,fuel,p,q,hg',ht',hvar,hd,_,_⟩:=L3;obtain rfl:g'=0:=Option.some.inj (hg'.symm.trans (by kernel_rfl));obtain rfl:t'=196:=Option.some.inj (ht'.symm.trans (by kernel_rfl));obtain⟨l,hr,ds,hds,hl⟩:=Rc u196 (by kernel_rfl) (by decide) (fun n=>Tb n) hd
 have e:ds=D0.map fun a=>.agg [.lit (.int .i64 a.cU),.lit (.int .i64 a.most),.lit (.bool a.cS),.lit (.bool a.cond),.lit (.bool a.scope),.lit (.bool a.span)]:=by
  have e2:(Rows.laid_tidegate_pattern_shapes:DataW Unit)= .agg ds:=hds;have e3:(Rows.laid_tidegate_pattern_shapes:DataW Unit)= .agg (D0.map fun a=>.agg [.lit (.int .i64 a.cU),.lit (.int .i64 a.most),.lit (.bool a.cS),.lit (.bool a.cond),.lit (.bool a.scope),.lit (.bool a.span)]):=rfl
  rw[e3]at e2
  exact(DataW.agg.inj e2).symm
 subst e;obtain rfl:=NF _ _ hl;exact Rx hg' hvar hr
theorem Aj4 (h:laidMetH Tryz.prog Rows.semanticsMatchesRow.laid W):∀n,VR (g0 W) W (.pointer (some ⟨n,0,none⟩)) (I5.gl n)
 |0=>Rr h
 |_+1=>.bad _
end
end Go.Ab
