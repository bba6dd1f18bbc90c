/- . -/
import Derived.Test.YtjhobbohibnioaaGreatDoorG19
set_option linter.all false
open List (Nodup)
open Go.Ab.Ar (ar cmp)
namespace Go.Ab
open Classical
noncomputable section
def L1 (p:A2):Prop:=∀y∈p.pre,y.Op=4→∀a∈y.cQ,BM a
def L1.arg {p q:A2}(h:L1 p)(hq:q∈p.cQ):L1 q:=fun y hy=>h y (by rw[A2.pre_eq];exact List.mem_cons_of_mem _ (V9.2 ⟨q,hq,hy⟩))
def BM.l1 {p:A2}(h:BM p):L1 p:=fun y hy h4=>absurd h4 (h y hy)
def Kp {p:A2}(hw:FF p){d:A4}(hs:Su d p)(h4:p.Op=4):∃q,p.cQ=[q]∧∀i,K6 p d.Choice i=q∧AB p d.Choice i=0:=by
 obtain⟨q,hq⟩:=hw.self.a2 (by omega)
 simp_all[K6,AB]
def Qj {l:List A8} (hl:l.length≤4096) (hchk:Al l=0):∀(n:Nat) (p:A2) (d d':A4) (o:Nat) (s s':List PR),NG d≤n→Tr l d p s→Tr l d' p s'→FF p→p.pre.length≤64→L1 p→(∀x,x∈He l d p o↔x∈He l d' p o)→d=d'
 |0,p,d,d',o,s,s',h,_,_,_,_,_,_=>by rw[V2]at h;omega
 | n+1,p,d,d',o,s,s',h,ht,ht',hw,hpp,h1,hc=>by
  have hdp:=V2 d
  by_cases h0:p.Op=0
  ·refine XI (NG d) p d d' o (B1 _) ht.2.1 ht'.2.1 hw (fun y hy=>?_) (FP hl hchk _ p d o s (B1 _) hw hpp ht).2 (FP hl hchk _ p d' o s' (B1 _) hw hpp ht').2 fun x hx=>(hc x).1 hx
   rw[A2.pre_eq,hw.self.a0 h0]at hy
   have e:y=p:=by simpa[A2.pres]using hy
   rw[e];omega
  have hS:=Du ht.2.1;have hS':=Du ht'.2.1;obtain⟨r1,c1⟩:=HF ht.2.1;obtain⟨r2,c2⟩:=HF ht'.2.1
  have ext:d.Ref=d'.Ref→d.Choice=d'.Choice→d.Kids=d'.Kids→d=d':=by
   intro a b c;cases d;cases d'
   simp_all
  obtain⟨X,q1,q2,q3,_⟩:=ht.kids hl hchk hw hpp h0;obtain⟨X',q1',q2',q3',_⟩:=ht'.kids hl hchk hw hpp h0
  by_cases h4:p.Op=4
  ·
   refine ext (by rw[r1 h0,r2 h0]) (by rw[c1 (by omega),c2 (by omega)]) ?_;obtain⟨q,hq,ha⟩:=Kp hw hS h4;obtain⟨q',hq',ha'⟩:=Kp hw hS' h4
   rw[hq]at hq'
   obtain rfl:q=q':=(LD hq').1
   have hqm:q∈p.cQ:=by rw[hq];simp
   have hwq:=hw.arg hqm;have hpq:=K7 hqm;have hnq:BM q:=h1 p (GW p) h4 q hqm
   have kd:∀k∈d.Kids,FV k q=0∧Fnd l k q∧He l k q o≠[]:=by
    intro k hk;obtain⟨i,hi,rfl⟩:=List.mem_iff_getElem.1 hk;have t:=q1 i hi
    rw[(ha i).1]at t
    exact⟨t.2.1,(FP hl hchk _ q _ o (X i) (B1 _) hwq (by omega) t).2,(FB _ q _ o (B1 _) t.2.1 hwq).2⟩
   have kd':∀k∈d'.Kids,FV k q=0∧Fnd l k q∧He l k q o≠[]:=by
    intro k hk;obtain⟨i,hi,rfl⟩:=List.mem_iff_getElem.1 hk;have t:=q1' i hi
    rw[(ha' i).1]at t
    exact⟨t.2.1,(FP hl hchk _ q _ o (X' i) (B1 _) hwq (by omega) t).2,(FB _ q _ o (B1 _) t.2.1 hwq).2⟩
   refine VH (C:=fun k=>He l k q o) d.Kids d'.Kids (fun k hk=>(kd k hk).2.2) (fun k hk=>(kd' k hk).2.2)
    (fun k hk k' hk' hx=>XI (NG k) q k k' o (B1 _) (kd k hk).1 (kd' k' hk').1 hwq hnq (kd k hk).2.1 (kd' k' hk').2.1 hx)
    (fun k' hk' k hk hx=>XI (NG k') q k' k o (B1 _) (kd' k' hk').1 (kd k hk).1 hwq hnq (kd' k' hk').2.1 (kd k hk).2.1 hx) ?_ ?_ fun x=>?_
   ·rw[Y9];intro i j hi hj hij x hx y hy;have t:=q1 i hi;have u:=q1 j hj
    rw[(ha i).1]at t;rw[(ha j).1]at u
    obtain⟨a,a1,a2⟩:=(FP hl hchk _ q _ o (X i) (B1 _) hwq (by omega) t).1 x hx;obtain⟨b,b1,b2⟩:=(FP hl hchk _ q _ o (X j) (B1 _) hwq (by omega) u).1 y hy;have:=q3 (.inr h4) i j hij hj a a1 b b1;omega
   ·rw[Y9];intro i j hi hj hij x hx y hy;have t:=q1' i hi;have u:=q1' j hj
    rw[(ha' i).1]at t;rw[(ha' j).1]at u
    obtain⟨a,a1,a2⟩:=(FP hl hchk _ q _ o (X' i) (B1 _) hwq (by omega) t).1 x hx;obtain⟨b,b1,b2⟩:=(FP hl hchk _ q _ o (X' j) (B1 _) hwq (by omega) u).1 y hy;have:=q3' (.inr h4) i j hij hj a a1 b b1;omega
   have m1:∀(e:A4),(∀i,K6 p e.Choice i=q∧AB p e.Choice i=0)→(x∈He l e p o↔∃k∈e.Kids,x∈He l k q o):=by
    intro e he;rw[FD h0]
    constructor
    ·grind
    rintro⟨k,hk,hx⟩;obtain⟨i,hi,rfl⟩:=List.mem_iff_getElem.1 hk
    grind
   grind
  obtain⟨e1,e2,e3,e4⟩:=Kv ht.2.1 ht'.2.1 hw h0 h4 (fun x hx=>(hc x).1 hx);obtain⟨_,_,_,e5⟩:=Kv ht'.2.1 ht.2.1 hw h0 h4 (fun x hx=>(hc x).2 hx);refine ext e1 e2 (GG e3 fun i hi hi'=>?_);have hma:=(G9 hw.self hS.n hi hS.c).1;have hm:=E4 hi;have h9:=Ak hm;have hp2:=K7 hma;have t':=q1' i hi'
  rw[←e2]at t'
  have e5':=e5 i hi' hi
  rw[←e2]at e5'
  exact Qj hl hchk n (K6 p d.Choice i) _ _ (o+AB p d.Choice i) (X i) (X' i) (by omega) (q1 i hi) t' (hw.arg hma) (by omega) (h1.arg hma) fun x=>⟨e4 i hi hi' x,e5' x⟩
def AL4 {α:Type} (m:α→Nat):∀L:List α,L≠[]→∃y∈L,∀w∈L,m y≤m w
 |[],h=>absurd rfl h
 |[a],_=>⟨a,by simp,fun w hw=>by rw[List.mem_singleton.1 hw];omega⟩
 |a::b::r,_=>by
  obtain⟨y,hy,h⟩:=AL4 m (b::r) (by simp)
  grind
abbrev FC:=Nat×Nat×Bool
def flg (C:List (Nat×Nat)):List FC:=C.map fun x=>(x.1,x.2,decide (∀y∈C,x.1≤y.1))
def Fm {C:List (Nat×Nat)}{z:FC}:z∈flg C↔(z.1,z.2.1)∈C∧z.2.2=decide (∀y∈C,z.1≤y.1):=by
 unfold flg;rw[GA]
 grind
def QQ {C:List (Nat×Nat)}{x:Nat×Nat}(h:x∈C):(x.1,x.2,decide (∀y∈C,x.1≤y.1))∈flg C:=Fm.2 ⟨h,rfl⟩
def Tn {C:A4→List (Nat×Nat)}:∀(ks ks':List A4),(∀k∈ks,C k≠[])→(∀k∈ks',C k≠[])→
 (∀k∈ks,∀k'∈ks',(∀x,x∈C k↔x∈C k')→k=k')→
 ks.Pairwise (fun k k'=>∀x∈C k,∀y∈C k',x.1<y.1)→ks'.Pairwise (fun k k'=>∀x∈C k,∀y∈C k',x.1<y.1)→
 (∀z,(∃k∈ks,z∈flg (C k))↔∃k∈ks',z∈flg (C k))→ks=ks'
 |[],[],_,_,_,_,_,_=>rfl
 |[],k'::ks',_,n2,_,_,_,he=>by
  obtain⟨x,hx⟩:=BH _ (n2 k' (by simp));obtain⟨k,hk,_⟩:=(he _).2 ⟨k',by simp,QQ hx⟩;cases hk
 |k::ks,[],n1,_,_,_,_,he=>by
  obtain⟨x,hx⟩:=BH _ (n1 k (by simp));obtain⟨k,hk,_⟩:=(he _).1 ⟨k,by simp,QQ hx⟩;cases hk
 | k::ks,k'::ks',n1,n2,i1,p1,p2,he=>by
  rw[Ew]at p1 p2
  have half:∀(k k':A4) (ks ks':List A4),(∀a∈ks,∀x∈C k,∀y∈C a,x.1<y.1)→(∀a∈ks',∀x∈C k',∀y∈C a,x.1<y.1)→(∀a∈ks',C a≠[])→C k'≠[]→(∀z,(∃a∈k::ks,z∈flg (C a))↔∃a∈k'::ks',z∈flg (C a))→∀x∈C k,x∈C k':=by
   intro k k' ks ks' p1 p2 n2 n3 he x hx;obtain⟨a,ha,hxa⟩:=(he _).1 ⟨k,by simp,QQ hx⟩;have hxa:=(Fm.1 hxa).1
   rcases List.mem_cons.1 ha with rfl|ha
   ·exact hxa
   exfalso;obtain⟨y,hy,hmin⟩:=AL4 (fun w:Nat×Nat=>w.1) (C a) (n2 a ha);obtain⟨b,hb,hyb⟩:=(he _).2 ⟨a,by simp[ha],QQ hy⟩;obtain⟨hyb,hfl⟩:=Fm.1 hyb
   simp only at hyb hfl
   rw[J1 hmin]at hfl
   have hfl:=GJ hfl.symm;have hyx:=hmin x hxa
   rcases List.mem_cons.1 hb with rfl|hb
   ·obtain⟨w,hw⟩:=BH _ n3;have hwy:=p2 a ha w hw y hy;obtain⟨e,hee,hwe⟩:=(he _).2 ⟨k',by simp,QQ hw⟩;have hwe:=(Fm.1 hwe).1
    grind
   grind
  have hkk:k=k':=i1 k (by simp) k' (by simp) fun x=>⟨half k k' ks ks' p1.1 p2.1 (fun a ha=>n2 a (by simp[ha])) (n2 k' (by simp)) he x,half k' k ks' ks p2.1 p1.1 (fun a ha=>n1 a (by simp[ha])) (n1 k (by simp)) (fun z=>(he z).symm) x⟩;subst hkk;refine I4 _ (Tn ks ks' (fun a ha=>n1 a (by simp[ha])) (fun a ha=>n2 a (by simp[ha])) (fun a ha b hb=>i1 a (by simp[ha]) b (by simp[hb])) p1.2 p2.2 fun z=>?_)
  constructor
  ·rintro⟨a,ha,hx⟩;obtain⟨b,hb,hx'⟩:=(he z).1 ⟨a,by simp[ha],hx⟩
   rcases List.mem_cons.1 hb with rfl|hb
   ·have:=p1.1 a ha _ (Fm.1 hx').1 _ (Fm.1 hx).1;omega
   grind
  rintro⟨a,ha,hx⟩;obtain⟨b,hb,hx'⟩:=(he z).2 ⟨a,by simp[ha],hx⟩
  rcases List.mem_cons.1 hb with rfl|hb
  ·have:=p2.1 a ha _ (Fm.1 hx').1 _ (Fm.1 hx).1;omega
  grind
mutual
def cd2 (l:List A8):A4→A2→Nat→List FC
 |⟨r,c,ks⟩,p,o=>if L1 p then(He l ⟨r,c,ks⟩ p o).map (fun x=>(x.1,x.2,false))else if p.Op=4 then ks.flatMap (fun k=>flg (He l k (K6 p c 0) o))else AC3 l ks p c 0 o
def AC3 (l:List A8):List A4→A2→Int→Nat→Nat→List FC
 |[],_,_,_,_=>[]
 |k::ks,p,c,i,o=>cd2 l k (K6 p c i) (o+AB p c i)++AC3 l ks p c (i+1) o
end
def XJ (l:List A8)(d:A4)(p:A2)(o:Nat):cd2 l d p o=if L1 p then(He l d p o).map (fun x=>(x.1,x.2,false))else if p.Op=4 then d.Kids.flatMap (fun k=>flg (He l k (K6 p d.Choice 0) o))else AC3 l d.Kids p d.Choice 0 o:=by cases d;simp only[cd2]
def KC {l:List A8}:∀{ks:List A4} {p:A2} {c:Int} {j o:Nat} {x:FC},x∈AC3 l ks p c j o↔∃i,∃h:i<ks.length,x∈cd2 l ks[i] (K6 p c (j+i)) (o+AB p c (j+i))
 |[],p,c,j,o,x=>by simp[AC3]
 | k::ks,p,c,j,o,x=>by
  rw[AC3,Dp,KC]
  constructor
  ·rintro(h|⟨i,h,hx⟩)
   ·exact⟨0,by simp,h⟩
   exact⟨i+1,by grind,by rw[show j+(i+1)=j+1+i by omega];exact hx⟩
  grind
def Ei {l:List A8}:∀(n:Nat) (p:A2) (d:A4) (o:Nat),NG d≤n→FV d p=0→FF p→∀y:Nat×Nat,(∃b,(y.1,y.2,b)∈cd2 l d p o)↔y∈He l d p o
 |0,p,d,o,h,_,_=>by rw[V2]at h;omega
 | n+1,p,d,o,h,hsu,hw=>by
  intro y;have hdp:=V2 d;have hS:=Du hsu;rw[XJ]
  by_cases h1:L1 p
  ·rw[A1 h1]
   simp_all
  rw[A0 h1]
  have h0:p.Op≠0:=by
   intro h0;refine h1 fun z hz=>?_
   rw[A2.pre_eq,hw.self.a0 h0]at hz
   have e:z=p:=by simpa[A2.pres]using hz
   rw[e,h0];omega
  by_cases h4:p.Op=4
  ·rw[A1 h4];obtain⟨q,hq,ha⟩:=Kp hw hS h4;rw[FD h0]
   constructor
   ·rintro⟨b,hb⟩;obtain⟨k,hk,hx⟩:=List.mem_flatMap.1 hb;obtain⟨i,hi,rfl⟩:=List.mem_iff_getElem.1 hk;have:=(Fm.1 hx).1
    rw[(ha 0).1]at this
    grind
   rintro⟨i,hi,hx⟩
   rw[(ha i).1,(ha i).2]at hx
   exact⟨_,List.mem_flatMap.2 ⟨_,E4 hi,by rw[(ha 0).1];exact QQ hx⟩⟩
  rw[A0 h4,FD h0]
  have ih:∀(i:Nat) (hi:i<d.Kids.length),(∃b,(y.1,y.2,b)∈cd2 l d.Kids[i] (K6 p d.Choice i) (o+AB p d.Choice i))↔y∈He l d.Kids[i] (K6 p d.Choice i) (o+AB p d.Choice i):=by
   intro i hi;have h9:=Ak (E4 hi);exact Ei n _ _ _ (by omega) (hS.k i hi) (hw.arg (G9 hw.self hS.n hi hS.c).1) y
  constructor
  ·rintro⟨b,hb⟩;obtain⟨i,hi,hx⟩:=KC.1 hb
   grind
  rintro⟨i,hi,hx⟩;obtain⟨b,hb⟩:=(ih i hi).2 hx;exact⟨b,KC.2 ⟨i,hi,by simp_all⟩⟩
def Am2 {l:List A8} (hl:l.length≤4096) (hchk:Al l=0):∀(n:Nat) (p:A2) (d:A4) (o:Nat) (s:List PR),NG d≤n→Tr l d p s→FF p→p.pre.length≤64→∀x∈He l d p o,∀y∈He l d p o,x.1=y.1→x=y
 |0,p,d,o,s,h,_,_,_=>by rw[V2]at h;omega
 | n+1,p,d,o,s,h,ht,hw,hpp=>by
  intro x hx y hy e;have hdp:=V2 d
  by_cases h0:p.Op=0
  ·rw[Pj,A1 h0,Cq]at hx hy
   rw[hx,hy]
  have hS:=Du ht.2.1;obtain⟨X,q1,q2,_,q4⟩:=ht.kids hl hchk hw hpp h0;obtain⟨i,hi,hxi⟩:=(FD h0).1 hx;obtain⟨j,hj,hyj⟩:=(FD h0).1 hy;have wi:=hw.arg (G9 hw.self hS.n hi hS.c).1;have wj:=hw.arg (G9 hw.self hS.n hj hS.c).1;have pi:=K7 (G9 hw.self hS.n hi hS.c).1;have pj:=K7 (G9 hw.self hS.n hj hS.c).1;obtain⟨a,a1,a2⟩:=(FP hl hchk _ _ _ _ (X i) (B1 _) wi (by omega) (q1 i hi)).1 x hxi;obtain⟨b,b1,b2⟩:=(FP hl hchk _ _ _ _ (X j) (B1 _) wj (by omega) (q1 j hj)).1 y hyj
  have hij:i=j:=by
   grind
  subst hij;have h9:=Ak (E4 hi);exact Am2 hl hchk n _ _ _ (X i) (by omega) (q1 i hi) wi (by omega) x hxi y hyj e
def Ub {l:List A8} {p:A2} {d:A4} {o:Nat} (hsu:FV d p=0) (hw:FF p) (h0:p.Op≠0) (h4:p.Op≠4) {i j:Nat} (hi:i<d.Kids.length) (hj:j<d.Kids.length) {x y:Nat×Nat} (hx:x∈He l d.Kids[i] (K6 p d.Choice i) (o+AB p d.Choice i)) (hy:y∈He l d.Kids[j] (K6 p d.Choice j) (o+AB p d.Choice j)) (e:x.2=y.2):i=j:=by
 have hS:=Du hsu;have g1:=(FB (l:=l) (NG d.Kids[i]) _ _ (o+AB p d.Choice i) (B1 _) (hS.k i hi) (hw.arg (G9 hw.self hS.n hi hS.c).1)).1 x hx;have g2:=(FB (l:=l) (NG d.Kids[j]) _ _ (o+AB p d.Choice j) (B1 _) (hS.k j hj) (hw.arg (G9 hw.self hS.n hj hS.c).1)).1 y hy
 by_cases h1:p.Op=1∨p.Op=3
 ·have m1:=(G9 hw.self hS.n hi hS.c).2.1 h1;have m2:=(G9 hw.self hS.n hj hS.c).2.1 h1;obtain⟨a1,a2⟩:=List.getElem?_eq_some_iff.1 m1;obtain⟨b1,b2⟩:=List.getElem?_eq_some_iff.1 m2
  have o1:AB p d.Choice i=((p.cQ.map Y2).take i).sum:=by simp_all[AB]
  have o2:AB p d.Choice j=((p.cQ.map Y2).take j).sum:=by simp_all[AB]
  rw[o1,←a2]at g1
  rw[o2,←b2]at g2
  have e1:=EP (L:=p.cQ.map Y2) (i:=i) (by grind);have e2:=EP (L:=p.cQ.map Y2) (i:=j) (by grind)
  rw[Dq]at e1 e2
  rcases El i j with h|h|h
  ·have:=EO (p.cQ.map Y2) (i+1) j h;omega
  ·exact h
  have:=EO (p.cQ.map Y2) (j+1) i h;omega
 have:=hS.one h0 h1 h4;omega
def L2 (p:A2):Prop:=∀y∈p.pre,y.Op=4→∀a∈y.cQ,L1 a
def L2.arg {p q:A2}(h:L2 p)(hq:q∈p.cQ):L2 q:=fun y hy=>h y (by rw[A2.pre_eq];exact List.mem_cons_of_mem _ (V9.2 ⟨q,hq,hy⟩))
def At9 {l:List A8} (hl:l.length≤4096) (hchk:Al l=0):∀(n:Nat) (p:A2) (d d':A4) (o:Nat) (s s':List PR),NG d≤n→Tr l d p s→Tr l d' p s'→FF p→p.pre.length≤64→L2 p→(∀x,x∈cd2 l d p o↔x∈cd2 l d' p o)→d=d'
 |0,p,d,d',o,s,s',h,_,_,_,_,_,_=>by rw[V2]at h;omega
 | n +1,p,d,d',o,s,s',h,ht,ht',hw,hpp,h2,hc=>by
  have hdp:=V2 d
  have hcA:∀x,x∈He l d p o↔x∈He l d' p o:=fun x=>by
   rw[←Ei _ p d o (B1 _) ht.2.1 hw x,←Ei _ p d' o (B1 _) ht'.2.1 hw x]
   simp_all
  by_cases h1:L1 p
  ·exact Qj hl hchk _ p d d' o s s' (B1 _) ht ht' hw hpp h1 hcA
  have h0:p.Op≠0:=by
   intro h0;refine h1 fun z hz=>?_
   rw[A2.pre_eq,hw.self.a0 h0]at hz
   have e:z=p:=by simpa[A2.pres]using hz
   rw[e,h0];omega
  have hS:=Du ht.2.1;have hS':=Du ht'.2.1;obtain⟨r1,c1⟩:=HF ht.2.1;obtain⟨r2,c2⟩:=HF ht'.2.1
  have ext:d.Ref=d'.Ref→d.Choice=d'.Choice→d.Kids=d'.Kids→d=d':=by
   intro a b c;cases d;cases d'
   simp_all
  obtain⟨X,q1,q2,q3,_⟩:=ht.kids hl hchk hw hpp h0;obtain⟨X',q1',q2',q3',_⟩:=ht'.kids hl hchk hw hpp h0
  by_cases h4:p.Op=4
  ·refine ext (by rw[r1 h0,r2 h0]) (by rw[c1 (by omega),c2 (by omega)]) ?_;obtain⟨q,hq,ha⟩:=Kp hw hS h4;obtain⟨q',hq',ha'⟩:=Kp hw hS' h4
   rw[hq]at hq'
   obtain rfl:q=q':=(LD hq').1
   have hqm:q∈p.cQ:=by rw[hq];simp
   have hwq:=hw.arg hqm;have hpq:=K7 hqm;have hlq:L1 q:=h2 p (GW p) h4 q hqm
   have tk:∀k∈d.Kids,∃x,Tr l k q x:=by
    intro k hk;obtain⟨i,hi,rfl⟩:=List.mem_iff_getElem.1 hk;have t:=q1 i hi
    rw[(ha i).1]at t
    grind
   have tk':∀k∈d'.Kids,∃x,Tr l k q x:=by
    intro k hk;obtain⟨i,hi,rfl⟩:=List.mem_iff_getElem.1 hk;have t:=q1' i hi
    rw[(ha' i).1]at t
    grind
   have ne:∀k,(∃x,Tr l k q x)→He l k q o≠[]:=fun k ⟨x,t⟩=>(FB _ q k o (B1 _) t.2.1 hwq).2
   refine Tn (C:=fun k=>He l k q o) d.Kids d'.Kids (fun k hk=>ne k (tk k hk)) (fun k hk=>ne k (tk' k hk))
    (fun k hk k' hk' hx=>by
     obtain⟨x,t⟩:=tk k hk;obtain⟨x',t'⟩:=tk' k' hk'
     exact Qj hl hchk _ q k k' o x x' (B1 _) t t' hwq (by omega) hlq hx) ?_ ?_ fun z=>?_
   ·rw[Y9];intro i j hi hj hij x hx y hy;have t:=q1 i hi;have u:=q1 j hj
    rw[(ha i).1]at t;rw[(ha j).1]at u
    obtain⟨a,a1,a2⟩:=(FP hl hchk _ q _ o (X i) (B1 _) hwq (by omega) t).1 x hx;obtain⟨b,b1,b2⟩:=(FP hl hchk _ q _ o (X j) (B1 _) hwq (by omega) u).1 y hy;have:=q3 (.inr h4) i j hij hj a a1 b b1;omega
   ·rw[Y9];intro i j hi hj hij x hx y hy;have t:=q1' i hi;have u:=q1' j hj
    rw[(ha' i).1]at t;rw[(ha' j).1]at u
    obtain⟨a,a1,a2⟩:=(FP hl hchk _ q _ o (X' i) (B1 _) hwq (by omega) t).1 x hx;obtain⟨b,b1,b2⟩:=(FP hl hchk _ q _ o (X' j) (B1 _) hwq (by omega) u).1 y hy;have:=q3' (.inr h4) i j hij hj a a1 b b1;omega
   have m1:∀e:A4,(∀i,K6 p e.Choice i=q∧AB p e.Choice i=0)→(z∈cd2 l e p o↔∃k∈e.Kids,z∈flg (He l k q o)):=by
    intro e he;rw[XJ,A0 h1,A1 h4,List.mem_flatMap,(he 0).1]
   grind
  obtain⟨e1,e2,e3,e4⟩:=Kv ht.2.1 ht'.2.1 hw h0 h4 (fun x hx=>(hcA x).1 hx);obtain⟨_,_,_,e5⟩:=Kv ht'.2.1 ht.2.1 hw h0 h4 (fun x hx=>(hcA x).2 hx)
  have m2:∀(e:A4) (z:FC),z∈cd2 l e p o↔∃i,∃h:i<e.Kids.length,z∈cd2 l e.Kids[i] (K6 p e.Choice i) (o+AB p e.Choice i):=by
   intro e z;rw[XJ,A0 h1,A0 h4,KC]
   grind
  refine ext e1 e2 (GG e3 fun i hi hi'=>?_);have hma:=(G9 hw.self hS.n hi hS.c).1;have h9:=Ak (E4 hi);have hp2:=K7 hma;have t':=q1' i hi'
  rw[←e2]at t'
  refine At9 hl hchk n (K6 p d.Choice i) _ _ (o+AB p d.Choice i) (X i) (X' i) (by omega) (q1 i hi) t' (hw.arg hma) (by omega) (h2.arg hma) fun z=>⟨fun hz=>?_,fun hz=>?_⟩
  ·obtain⟨j,hj,hz'⟩:=(m2 d' z).1 ((hc z).1 ((m2 d z).2 ⟨i,hi,hz⟩));have c1:=(Ei _ _ _ _ (B1 _) (hS.k i hi) (hw.arg hma) (z.1,z.2.1)).1 ⟨z.2.2,hz⟩;have c2:=e4 i hi hi' _ c1;have c3:=(Ei _ _ _ _ (B1 _) (hS'.k j hj) (hw.arg (G9 hw.self hS'.n hj hS'.c).1) (z.1,z.2.1)).1 ⟨z.2.2,hz'⟩
   rw[e2]at c2
   have hij:=Ub ht'.2.1 hw h0 h4 hi' hj c2 c3 rfl
   grind
  rw[e2]at hz
  obtain⟨j,hj,hz'⟩:=(m2 d z).1 ((hc z).2 ((m2 d' z).2 ⟨i,hi',hz⟩));have c1:=(Ei _ _ _ _ (B1 _) (hS'.k i hi') (by rw[←e2];exact hw.arg hma) (z.1,z.2.1)).1 ⟨z.2.2,hz⟩;have c2:=e5 i hi' hi _ c1;have c3:=(Ei _ _ _ _ (B1 _) (hS.k j hj) (hw.arg (G9 hw.self hS.n hj hS.c).1) (z.1,z.2.1)).1 ⟨z.2.2,hz'⟩
  rw[←e2]at c2
  have hij:=Ub ht.2.1 hw h0 h4 hi hj c2 c3 rfl
  grind
def Lt (B:Nat)(w:Nat→Nat):Nat→Nat
 |0=>0
 |m+1=>Lt B w m*B+w m
def Ap9 {B:Nat} {w:Nat→Nat}:∀{m:Nat},(∀i,i<m→w i<B)→Lt B w m<B ^ m
 |0,_=>by simp[Lt]
 | m+1,h=>by
  have h1:=Ap9 (m:=m) fun i hi=>h i (by omega);have h2:=h m (by omega);rw[Lt,LA]
  calc Lt B w m*B+w m<Lt B w m*B+B:=by omega
   _=(Lt B w m+1)*B:=by rw[E2,U0]
   _≤B ^ m*B:=G3 B h1
def Zu {B:Nat} {w v:Nat→Nat}:∀{m:Nat},(∀i,i<m→w i<B)→(∀i,i<m→v i<B)→Lt B w m=Lt B v m→∀i,i<m→w i=v i
 |0,_,_,_,i,hi=>absurd hi (Nat.not_lt_zero i)
 | m+1,hw,hv,h,i,hi=>by
  rw[Lt,Lt]at h
  have h1:=hw m (by omega);have h2:=hv m (by omega)
  have hB:0<B:=by omega
  have e1:(Lt B w m*B+w m) / B=Lt B w m:=by
   rw[IK,Mf _ _ hB,LQ h1,J7]
  have e2:(Lt B v m*B+v m) / B=Lt B v m:=by
   rw[IK,Mf _ _ hB,LQ h2,J7]
  have e:Lt B w m=Lt B v m:=by rw[←e1,←e2,h]
  rcases Bn i m with him|him
  ·exact Zu (fun i hi=>hw i (by omega)) (fun i hi=>hv i (by omega)) e i him
  grind
def Zv {α:Type} {L:List α} {g:α→Nat} {B:Nat} (hn:L.Nodup) (hi:∀a∈L,∀b∈L,g a=g b→a=b) (hb:∀a∈L,g a<B):L.length≤B:=by
 have h1:(L.map g).Nodup:=by
  unfold Nodup at *
  rw[R5];exact hn.imp_of_mem fun{a b} ha hb hab e=>hab (hi a ha b hb e)
 have:=Mj h1 (l₂:=List.range B) fun x hx=>by
  grind
 simp_all
def WI {α:Type}(pos let_:α→Nat)(C:List α)(i:Nat):Nat:=match C.find? (fun x=>decide (pos x=i))with|some x=>let_ x+1|none=>0
def WH {α:Type}{pos let_:α→Nat}{C:List α}{B:Nat}(hb:∀x∈C,let_ x<B)(i:Nat):WI pos let_ C i<B+1:=by
 grind[WI]
def MV {α β:Type}{L:List β}{C:β→List α}{pos let_:α→Nat}{m B:Nat}(hn:L.Nodup)(hp:∀x y:α,pos x=pos y→let_ x=let_ y→x=y)(hf:∀d∈L,∀x∈C d,∀y∈C d,pos x=pos y→x=y)(hC:∀d∈L,∀x∈C d,pos x<m)(hl:∀d∈L,∀x∈C d,let_ x<B)
 (hi:∀d∈L,∀e∈L,(∀x,x∈C d↔x∈C e)→d=e):L.length≤(B+1) ^ m:=by
 refine Zv (g:=fun d=>Lt (B+1) (WI pos let_ (C d)) m) hn (fun d hd e he h=>?_) fun d hd=>Ap9 fun i _=>WH (hl d hd) i;have:=Zu (fun i _=>WH (hl d hd) i) (fun i _=>WH (hl e he) i) h
 grind[WI]
def At8 {l:List A8}:∀(n:Nat) (p:A2) (d:A4) (o:Nat),NG d≤n→FV d p=0→FF p→BM p→∀x∈He l d p o,∀y∈He l d p o,x.2=y.2→x=y
 |0,p,d,o,h,_,_,_=>by rw[V2]at h;omega
 | n+1,p,d,o,h,hsu,hw,hnp=>by
  intro x hx y hy e;have hdp:=V2 d
  by_cases h0:p.Op=0
  ·rw[Pj,A1 h0,Cq]at hx hy
   rw[hx,hy]
  have hS:=Du hsu;obtain⟨i,hi,hxi⟩:=(FD h0).1 hx;obtain⟨j,hj,hyj⟩:=(FD h0).1 hy;have hij:=Ub hsu hw h0 (hnp p (GW p)) hi hj hxi hyj e;subst hij;have hma:=(G9 hw.self hS.n hi hS.c).1;have h9:=Ak (E4 hi);exact At8 n _ _ _ (by omega) (hS.k i hi) (hw.arg hma) (hnp.arg hma) x hxi y hyj e
def Au0 {l:List A8} (hl:l.length≤4096) (hchk:Al l=0):∀(n:Nat) (p:A2) (d:A4) (o:Nat) (s:List PR),NG d≤n→Tr l d p s→FF p→p.pre.length≤64→∀x∈cd2 l d p o,∀y∈cd2 l d p o,x.1=y.1→x=y
 |0,p,d,o,s,h,_,_,_=>by rw[V2]at h;omega
 | n+1,p,d,o,s,h,ht,hw,hpp=>by
  intro x hx y hy e;have hdp:=V2 d;have hS:=Du ht.2.1;have sub:=fun(z:FC) (hz:z∈cd2 l d p o)=>(Ei _ p d o (B1 _) ht.2.1 hw (z.1,z.2.1)).1 ⟨z.2.2,hz⟩;have hxy:=Am2 hl hchk _ p d o s (B1 _) ht hw hpp _ (sub x hx) _ (sub y hy) e
  simp only[GD]at hxy
  suffices hb:x.2.2=y.2.2 from Prod.ext hxy.1 (Prod.ext hxy.2 hb)
  rw[XJ]at hx hy
  by_cases h1:L1 p
  ·rw[A1 h1]at hx hy
   grind
  rw[A0 h1]at hx hy
  have h0:p.Op≠0:=by
   intro h0;refine h1 fun z hz=>?_
   rw[A2.pre_eq,hw.self.a0 h0]at hz
   have e:z=p:=by simpa[A2.pres]using hz
   rw[e,h0];omega
  obtain⟨X,q1,q2,_,q4⟩:=ht.kids hl hchk hw hpp h0
  have same:∀(i j:Nat) (hi:i<d.Kids.length) (hj:j<d.Kids.length) (u v:Nat×Nat),u∈He l d.Kids[i] (K6 p d.Choice i) (o+AB p d.Choice i)→v∈He l d.Kids[j] (K6 p d.Choice j) (o+AB p d.Choice j)→u.1=v.1→i=j:=by
   intro i j hi hj u v hu hv huv;have wi:=hw.arg (G9 hw.self hS.n hi hS.c).1;have wj:=hw.arg (G9 hw.self hS.n hj hS.c).1;have pi:=K7 (G9 hw.self hS.n hi hS.c).1;have pj:=K7 (G9 hw.self hS.n hj hS.c).1;obtain⟨a,a1,a2⟩:=(FP hl hchk _ _ _ _ (X i) (B1 _) wi (by omega) (q1 i hi)).1 u hu;obtain⟨b,b1,b2⟩:=(FP hl hchk _ _ _ _ (X j) (B1 _) wj (by omega) (q1 j hj)).1 v hv
   grind
  by_cases h4:p.Op=4
  ·rw[A1 h4]at hx hy
   obtain⟨q,hq,ha⟩:=Kp hw hS h4;obtain⟨k,hk,hxk⟩:=List.mem_flatMap.1 hx;obtain⟨k',hk',hyk⟩:=List.mem_flatMap.1 hy;obtain⟨i,hi,rfl⟩:=List.mem_iff_getElem.1 hk;obtain⟨j,hj,rfl⟩:=List.mem_iff_getElem.1 hk'
   rw[(ha 0).1]at hxk hyk
   have m1:=Fm.1 hxk;have m2:=Fm.1 hyk;have hij:=same i j hi hj (x.1,x.2.1) (y.1,y.2.1) (by rw[(ha i).1,(ha i).2];exact m1.1) (by rw[(ha j).1,(ha j).2];exact m2.1) e
   simp_all
  rw[A0 h4]at hx hy
  obtain⟨i,hi,hxi⟩:=KC.1 hx;obtain⟨j,hj,hyj⟩:=KC.1 hy
  simp only[J7]at hxi hyj
  have hmi:=(G9 hw.self hS.n hi hS.c).1;have hmj:=(G9 hw.self hS.n hj hS.c).1;have c1:=(Ei _ _ _ _ (B1 _) (hS.k i hi) (hw.arg hmi) (x.1,x.2.1)).1 ⟨x.2.2,hxi⟩;have c2:=(Ei _ _ _ _ (B1 _) (hS.k j hj) (hw.arg hmj) (y.1,y.2.1)).1 ⟨y.2.2,hyj⟩;have hij:=same i j hi hj _ _ c1 c2 e;subst hij;have h9:=Ak (E4 hi);have:=K7 hmi;rw[Au0 hl hchk n _ _ _ (X i) (by omega) (q1 i hi) (hw.arg hmi) (by omega) x hxi y hyj e]
def Hp (m:Nat)(p:A2):Prop:=Sml m p∧(L1 p∨(L2 p∧(2*Y2 p+1) ^ m≤4000))
def Hp.arg {m:Nat}{p q:A2}(h:Hp m p)(hq:q∈p.cQ):Hp m q:=by
 refine⟨h.1.arg hq,?_⟩
 rcases h.2 with h|⟨h1,h2⟩
 ·exact .inl (h.arg hq)
 refine .inr ⟨h1.arg hq,N0 (Ja ?_ m) h2⟩;have:=La hq;omega
def AV0:∀m,m<11→∀e,e<11→2≤m→m ^ e≤1500→(m+1) ^ e≤4096∨(e+1) ^ m≤4096:=by decide
def Ab4 {l:List A8} (hl:l.length≤10) (hchk:Al l=0) {p:A2} (hw:FF p) (hpp:p.pre.length≤64) (hs:Hp l.length p) {L:List A4} (hn:L.Nodup) (h:∀d∈L,∃s,Tr l d p s):L.length≤4096:=by
 have hl':l.length≤4096:=by omega
 have pos:∀d∈L,∀x∈He l d p 0,x.1<l.length∧x.2<Y2 p:=by
  intro d hd x hx;obtain⟨s,t⟩:=h d hd;obtain⟨y,hy,e⟩:=(FP hl' hchk _ p d 0 s (B1 _) hw hpp t).1 x hx;obtain⟨hz,hsu,b,f,ho,hv⟩:=t;have hr:=WJ hl' hchk hz hw hpp hsu ho hv;have h1:=(hr.gd.wf y hy).2;have h2:=(FB _ p d 0 (B1 _) hsu hw).1 x hx;omega
 have fn:∀d∈L,∀x∈He l d p 0,∀y∈He l d p 0,x.1=y.1→x=y:=by
  intro d hd;obtain⟨s,t⟩:=h d hd;exact Am2 hl' hchk _ p d 0 s (B1 _) t hw hpp
 have one:L1 p→L.length≤(Y2 p+1) ^ l.length:=by
  intro h1;refine MV (C:=fun d=>He l d p 0) (pos:=fun x=>x.1) (let_:=fun x=>x.2) hn (fun x y a b=>Prod.ext a b) fn (fun d hd x hx=>(pos d hd x hx).1) (fun d hd x hx=>(pos d hd x hx).2) fun d hd e he hc=>?_;obtain⟨s,t⟩:=h d hd;obtain⟨s',t'⟩:=h e he;exact Qj hl' hchk _ p d e 0 s s' (B1 _) t t' hw hpp h1 hc
 rcases hs.2 with h1|⟨h2,h3⟩
 ·rcases hs.1 with hA|⟨hnp,hm,hA⟩
  ·have:=one h1;omega
  have he:Y2 p<11:=by
   rcases Bn (Y2 p) 11 with h|h
   ·exact h
   have a1:2 ^ 11≤2 ^ Y2 p:=Es (by omega) h;have a2:2 ^ Y2 p≤l.length ^ Y2 p:=Ja hm _
   have a3:(2:Nat) ^ 11=2048:=by decide
   omega
  rcases AV0 l.length (by omega) (Y2 p) he hm hA with h4|h4
  ·refine N0 ?_ h4;refine MV (C:=fun d=>He l d p 0) (pos:=fun x=>x.2) (let_:=fun x=>x.1) hn (fun x y a b=>Prod.ext b a) (fun d hd=>?_) (fun d hd x hx=>(pos d hd x hx).2) (fun d hd x hx=>(pos d hd x hx).1) fun d hd e he hc=>?_
   ·obtain⟨s,t⟩:=h d hd;exact At8 _ p d 0 (B1 _) t.2.1 hw hnp
   obtain⟨s,t⟩:=h d hd;obtain⟨s',t'⟩:=h e he;exact Qj hl' hchk _ p d e 0 s s' (B1 _) t t' hw hpp h1 hc
  grind
 refine N0 ?_ (N0 h3 (by omega));refine MV (C:=fun d=>cd2 l d p 0) (pos:=fun x=>x.1) (let_:=fun x=>2*x.2.1+(if x.2.2=true then 1 else 0)) hn (fun x y a b=>?_) (fun d hd=>?_) (fun d hd x hx=>?_) (fun d hd x hx=>?_) fun d hd e he hc=>?_
 ·grind
 ·obtain⟨s,t⟩:=h d hd;exact Au0 hl' hchk _ p d 0 s (B1 _) t hw hpp
 ·obtain⟨s,t⟩:=h d hd;exact(pos d hd (x.1,x.2.1) ((Ei _ p d 0 (B1 _) t.2.1 hw _).1 ⟨x.2.2,hx⟩)).1
 ·obtain⟨s,t⟩:=h d hd;have:=(pos d hd (x.1,x.2.1) ((Ei _ p d 0 (B1 _) t.2.1 hw _).1 ⟨x.2.2,hx⟩)).2
  grind
 obtain⟨s,t⟩:=h d hd;obtain⟨s',t'⟩:=h e he;exact At9 hl' hchk _ p d e 0 s s' (B1 _) t t' hw hpp h2 hc
mutual
def A2.lp:A2→Nat
 |⟨op,args,_,_,_,_,_⟩=>A2.lps args+(if op=4 then 1 else 0)
def A2.lps:List A2→Nat
 |[]=>0
 |a::r=>max (A2.lp a) (A2.lps r)
end
def VS (p:A2):p.lp=A2.lps p.cQ+(if p.Op=4 then 1 else 0):=by cases p;simp[A2.lp]
def SE:∀{L:List A2} {a:A2},a∈L→a.lp≤A2.lps L
 |b::L,a,h=>by
  simp only[A2.lps]
  rcases List.mem_cons.1 h with rfl|h
  ·omega
  have:=SE h;omega
def Ar4:∀(L:List A2) (a:A2),A2.lps (L++[a])=max (A2.lps L) a.lp
 |[],a=>by simp[A2.lps]
 |b::L,a=>by
  simp only[Y8,A2.lps,Ar4 L a];omega
def Xn:∀(n:Nat) (p y:A2),p.pre.length≤n→y∈p.pre→y.lp≤p.lp
 |0,p,y,h,_=>by have:=V5 p;omega
 |n+1,p,y,h,hy=>by
  rw[A2.pre_eq]at hy
  rcases List.mem_cons.1 hy with rfl|hy
  ·omega
  obtain⟨a,ha,hya⟩:=V9.1 hy;have h1:=K7 ha;have h2:=Xn n a y (by omega) hya;have h3:=SE ha;have h4:=VS p;omega
def Bl1 {p:A2}(h:p.lp=0):BM p:=by
 intro y hy h4;have h1:=Xn _ p y (B1 _) hy;have h2:=VS y
 rw[A1 h4]at h2
 omega
def Bd5 {p:A2}(h:p.lp≤1):L1 p:=by
 intro y hy h4 a ha;have h1:=Xn _ p y (B1 _) hy;have h2:=VS y
 rw[A1 h4]at h2
 have h3:=SE ha;exact Bl1 (by omega)
def Bm2 {p:A2}(h:p.lp≤2):L2 p:=by
 intro y hy h4 a ha;have h1:=Xn _ p y (B1 _) hy;have h2:=VS y
 rw[A1 h4]at h2
 have h3:=SE ha;exact Bd5 (by omega)
def ZG {N:Nat} (hN:Bgn N):∀(n:Nat) (p:A2),p.pre.length≤n→p.pre.length≤16777216→Dw N n p=some (p.lp:Int)
 |0,p,h,_=>by have:=V5 p;omega
 | n + 1,p,h,hm=>by
  have hal:=V5 p
  have hle:p.lp≤p.pre.length:=by
   have :∀(n:Nat) (p:A2),p.pre.length≤n→p.lp≤p.pre.length:=by
    intro n
    induction n with
    |zero=>intro p h;have:=V5 p;omega
    | succ n ih=>
     intro p h
     have hs:A2.lps p.cQ+1≤p.pre.length:=by
      have key:∀L:List A2,(∀a∈L,a∈p.cQ)→A2.lps L+1≤p.pre.length:=by
       intro L
       induction L with
       |nil=>intro _;simp only[A2.lps];have:=V5 p;omega
       |cons a L ih2=>
        intro hL;have h1:=K7 (hL a (by simp));have h2:=ih a (by omega);have h3:=ih2 fun b hb=>hL b (by simp[hb])
        grind[A2.lps]
      simp_all
     rw[VS];split<;>omega
   grind
  have hlp:=VS p;unfold Dw;refine DV (m:=p.cQ.length) (fun i (t:Nat)=>((t:Int),(i:Int))) (fun i t=>t=A2.lps (p.cQ.take i)) (fun t=>(t:Int)) (t0:=0) rfl (by omega) (by simp[A2.lps]) (fun i hi t ht=>?_) (fun t _=>by dsimp only;rw[A0 Cv]) fun t ht=>?_
  ·have hma:=E4 hi;have h1:=K7 hma;refine⟨max t (p.cQ[i]).lp,?_,by rw[ht,Aw hi,Ar4]⟩
   dsimp only
   rw[A1 (T8 (by omega)),E1,C0 hi];simp only[A3];rw[ZG hN n _ (by omega) (by omega)];simp only[A3];rw[D0 (by omega) (by omega),show Ar.mx (t:Int) ((p.cQ[i]).lp:Int)=((max t (p.cQ[i]).lp:Nat):Int) by rw[KU];split<;>omega];rfl
  rw[X2]at ht
  subst ht
  by_cases h4:p.Op=4
  ·rw[A1 h4]at hlp
   rw[A1 (J4 h4),D0 (by omega) (by omega),hlp];rfl
  rw[A0 h4]at hlp
  rw[A0 (MP h4),hlp];rfl
def RM {N:Nat} (hN:Bgn N):∀(n:Nat) (p:A2),p.pre.length≤n→p.pre.length≤16777216→DJ N n p=some (Y2 p:Int)
 |0,p,h,_=>by have:=V5 p;omega
 | n+1,p,h,hm=>by
  have hal:=V5 p;have hev:Y2 p≤p.pre.length:=FQ;unfold DJ
  have e0:(if cmp .eql p.Op 0=true then some 1 else some 0:Option Int)=some (((if p.Op=0 then 1 else 0:Nat):Nat):Int):=by
   by_cases h0:p.Op=0
   ·rw[A1 (J4 h0),A1 h0];rfl
   rw[A0 (MP h0),A0 h0];rfl
  rw[e0];simp only[A3];have hsum:=Fx p
  rw[XE]at hsum
  refine DV (m:=p.cQ.length) (fun i (t:Nat)=>((t:Int),(i:Int))) (fun i t=>t=(if p.Op=0 then 1 else 0)+((p.cQ.map Y2).take i).sum) (fun t=>(t:Int)) (t0:=if p.Op=0 then 1 else 0) rfl (by omega) (by simp) (fun i hi t ht=>?_) (fun t _=>by dsimp only;rw[A0 Cv]) fun t ht=>?_
  ·have hma:=E4 hi;have h1:=K7 hma;have h2:=EP (L:=p.cQ.map Y2) (i:=i) (by grind)
   rw[Dq]at h2
   have h3:=PC (p.cQ.map Y2) (i+1);refine⟨t+Y2 p.cQ[i],?_,by rw[h2,ht];omega⟩
   dsimp only
   rw[A1 (T8 (by omega)),E1,C0 hi];simp only[A3];rw[RM hN n _ (by omega) (by omega)];simp only[A3];rw[D0 (by omega) (by omega),D0 (by omega) (by omega)];rfl
  rw[Av (by simp)]at ht
  rw[ht,←hsum]
def AE8 {X:Type} {step:Int×Int→Option ((Int×Int)⊕Int)} {k:Int→Option X} {Q:X→Prop} {c:Prop} {B m N:Nat} (hB:1≤B) (hB2:B≤33554435) (hN:m<N)
 (hs:∀s i:Nat,i<m→s≤134217740000→step ((s:Int),(i:Int))=some (if c∧s≤4000 then .inl (((s*B:Nat):Int),((i+1:Nat):Int))else .inr (s:Int)))
 (he:∀s:Nat,step ((s:Int),(m:Int))=some (.inr (s:Int))) (hk:∀r:Nat,(c→r≤4000→B ^ m≤4000)→∃x,k (r:Int)=some x∧Q x):∃x,(loopN step N (1,0)).bind k=some x∧Q x:=by
 have key:∀(d i K s:Nat),i+d=m→d<K→1≤s→s≤134217740000→∃r:Nat,loopN step K ((s:Int),(i:Int))=some (r:Int)∧(c→r≤4000→s*B ^ d≤4000):=by
  intro d
  induction d with
  |zero=>
   intro i K s hi hK h1 hs';obtain⟨K,rfl⟩:∃q,K=q+1:=⟨K-1,by omega⟩
   grind[loopN]
  | succ d ih=>
   intro i K s hi hK h1 hs';obtain⟨K,rfl⟩:∃q,K=q+1:=⟨K-1,by omega⟩;unfold loopN;rw[hs s i (by omega) hs']
   by_cases hc:c∧s≤4000
   ·rw[A1 hc];have hsb:s*B≤4000*33554435:=S4 hc.2 hB2;obtain⟨r,h5,h6⟩:=ih (i+1) K (s*B) (by omega) (by omega) (Nat.mul_pos h1 hB) (by omega)
    grind
   grind
 obtain⟨r,h5,h6⟩:=key m 0 N 1 (by omega) hN (B1 _) (by omega);have h5':loopN step N (1,0)=some (r:Int):=h5;rw[h5']
 simp_all
def AS8 {N:Nat} (hN:Bgn N) {p:A2} (hb:p.bulk≤16777216) (hpl:p.pre.length≤16777216) {l:List A8} (hlb:l.length≤16777216):
 ∃b,Jp N p l=some b∧(b=true→l.length≤10∧((Y2 p+1) ^ l.length≤1500∨(BM p∧l.length ^ Y2 p≤1500))∧(L1 p∨(L2 p∧(2*Y2 p+1) ^ l.length≤4000))):=by
 unfold Jp;obtain⟨b,h1,h2⟩:=AG0 hN hb hlb;rw[h1];simp only[A3]
 cases b with
 |false=>exact⟨false,rfl,fun h=>by cases h⟩
 | true=>
  obtain⟨h3,h4⟩:=h2 rfl;rw[A0 (by simp[P7]),ZG hN N p (by omega) hpl];simp only[A3]
  by_cases hg:p.lp≤2
  ·rw [A0 (Q4 (by omega))];have hev:Y2 p≤p.pre.length:=FQ;refine AE8 (c:=p.lp=2) (B:=2*Y2 p+1) (m:=l.length) (by omega) (by omega) (by omega) (fun s i hi hs=>?_) (fun s=>by rw[A0 (K4 (by rw[B0];omega))]) fun r hr=>⟨_,rfl,fun h=>⟨h3,h4,?_⟩⟩
   ·rw[A1 (T8 (by omega))]
    by_cases hc:p.lp=2∧s≤4000
    ·rw[A1 (by rw[K5,J4 (by omega),Bv,J1 (by omega)];rfl),A1 hc,RM hN N p (by omega) hpl];simp only[A3]
     have e1:ar .add .i64 (ar .mul .i64 2 (Y2 p:Int)) 1=((2*Y2 p+1:Nat):Int):=by
      have:ar .mul .i64 2 (Y2 p:Int)=IntKind.wrap .i64 (2*(Y2 p:Int)):=rfl;rw[this,AX (by omega) (by omega),D0 (by omega) (by omega)];omega
     have hsb:s*(2*Y2 p+1)≤4000*33554435:=S4 hc.2 (by omega)
     have e2:ar .mul .i64 (s:Int) ((2*Y2 p+1:Nat):Int)=((s*(2*Y2 p+1):Nat):Int):=by
      have:ar .mul .i64 (s:Int) ((2*Y2 p+1:Nat):Int)=IntKind.wrap .i64 ((s:Int)*((2*Y2 p+1:Nat):Int)):=rfl;rw[this,←Int.natCast_mul,AX (by omega) (by omega)]
     rw[e1,e2,D0 (by omega) (by omega)];rfl
    rw[A0 (by
     rw[K5];intro h
     rw[K3,D7,Bv,G1,G1]at h
     omega),A0 hc]
   rw[Bv,G1]at h
   by_cases h2':p.lp=2
   ·exact .inr ⟨Bm2 hg,hr h2' (by omega)⟩
   exact .inl (Bd5 (by omega))
  rw[A1 (W1 (by omega))]
  simp_all
abbrev TD:=List PR×A4
def GS (t:TD):B4:=⟨t.1,t.2⟩
def Kg (t:TD):A7:=⟨t.2,t.1.map O2⟩
structure TL (l:List A8) (p:A2) (b:List PR) (f:Int) (L:List TD):Prop where
 tr:∀t∈L,FV t.2 p=0∧Lr l t.2 p b f=some t.1∧Fa t.2≤t.1.length*p.pre.length∧Hj l f t.1
 nd:(L.map (·.2)).Nodup
def TL.tree {l:List A8}(hl:l.length≤10){p:A2}(hpp:p.pre.length≤64){b:List PR}{f:Int}(ho:Lk l b f){L:List TD}(h:TL l p b f L):∀t∈L,Tr l t.2 p t.1:=by
 intro t ht;obtain⟨h1,h2,h3,h4⟩:=h.tr t ht;have hlen:=h4.gd.len;have:t.1.length*p.pre.length≤10*64:=S4 (by omega) hpp;exact⟨by omega,h1,b,f,ho,h2⟩
def TL.few {l:List A8} (hl:l.length≤10) (hchk:Al l=0) {p:A2} (hw:FF p) (hpp:p.pre.length≤64) (hs:Hp l.length p) {b:List PR} {f:Int} (ho:Lk l b f) {L:List TD} (h:TL l p b f L):L.length≤4096:=by
 have:=Ab4 hl hchk hw hpp hs h.nd fun d hd=>by
  obtain⟨t,ht,rfl⟩:=List.mem_map.1 hd;exact⟨_,h.tree hl hpp ho t ht⟩
 simp_all
structure Qt (N:Nat) (l:List A8) (p:A2) (b:List PR) (f:Int) (m:Nat) (L:List TD):Prop where
 ref:∀n,m≤n→P4 N n p l b f=some (L.map GS)
 prg:∀n,m≤n→E8 N n ⟨l,0⟩ p (b.map O2) f=some (L.map Kg)
def PI {α R:Type} {step:Int→α→Option (List α×(Int⊕R))} {m:Nat} (hs:∀(s:Nat) (y:α),s<m→step (s:Int) y=some ([y],.inl ((s+1:Nat):Int))):∀(L:List α) (s:Nat),s+L.length≤m→Ax step L (s:Int)=some (L,.inl ((s+L.length:Nat):Int))
 |[],s,_=>rfl
 |y::L,s,h=>by
  rw[G7]at h
  unfold Ax;rw[hs s y (by omega)];have:=PI hs L (s+1) (by omega)
  grind
def Vd {α R:Type}{step:Int→α→Option (List α×(Int⊕R))}{m:Nat}{L:List α}(hL:L.length≤m)(hs:∀(s:Nat) (y:α),s<m→step (s:Int) y=some ([y],.inl ((s+1:Nat):Int))):Ax step L 0=some (L,.inl (L.length:Int)):=by
 have:=PI hs L 0 (by omega)
 rwa[J7]at this
def NF {N:Nat} (hN:Bgn N) {x:E6} (hx:x.count=0) {p:A2} {o:List DP} {f:Int} {n:Nat} {L:List A7} (h:L7 N n x p o f=some L) (hL:L.length≤4096):E8 N (n+2) x p o f=some L:=by
 rw[E8,V3,h];simp only[A3]
 rw[Vd (m:=4096) hL (fun s y hs=>by
  have e:ar .add .i64 (s:Int) 1=((s+1:Nat):Int):=by rw[D0 (by omega) (by omega)];omega
  rw[e,A0 (Q4 (by omega))];simp only[W5,A3];rw[A1 (J4 hx)]
  simp)]
 simp[W5]
def Ni {β γ:Type} (T:Nat→Bool) (g:Nat→β) (h:β→γ):∀k i,(XZ T g k i).map h=XZ T (fun i=>h (g i)) k i
 |0,i=>rfl
 |k+1,i=>by
  rw[Kf,Kf]
  by_cases ht:T i=true
  ·rw[A1 ht,A1 ht,D9,Ni T g h k (i+1)]
  rw[A0 ht,A0 ht,Ni T g h k (i+1)]
def Ao3 {β:Type} (T:Nat→Bool) (g:Nat→β):∀k i,(XZ T g k i).length≤k
 |0,i=>B1 _
 |k+1,i=>by
  rw[Kf];have:=Ao3 T g k (i+1)
  grind
def An9 {β X:Type} {n:Nat} {step:List β×Int→Option ((List β×Int)⊕List β)} {T:Nat→Bool} {g:Nat→β} {k:List β→Option X}
 (hs:∀(t:List β) (i:Nat),i<n→t.length≤100000→step (t,(i:Int))=some (.inl (t++(if T i=true then[g i]else[]),((i+1:Nat):Int)))) (he:∀t:List β,step (t,(n:Int))=some (.inr t)):
 ∀(d i N:Nat) (t:List β),i+d=n→d<N→t.length+d≤100000→(loopN step N (t,(i:Int))).bind k=k (t++XZ T g d i)
 |0,i,N,t,h,hN,_=>by
  obtain⟨N,rfl⟩:∃m,N=m+1:=⟨N-1,by omega⟩
  simp_all[loopN,XZ]
 |d+1,i,N,t,h,hN,ht=>by
  obtain⟨N,rfl⟩:∃m,N=m+1:=⟨N-1,by omega⟩;unfold loopN;rw[hs t i (by omega) (by omega),Kf];have:=An9 (k:=k) hs he d (i+1) N (t++(if T i=true then[g i]else[])) (by omega) (by omega) (by rw[G8];split<;>simp<;>omega)
  grind
def Aj5 {N:Nat} (hN:Bgn N) {l:List A8} (hl:l.length≤10) (hchk:Al l=0) {p:A2} (hw:FF p) (h0:p.Op=0) {b:List PR} {f:Nat} (ho:Lk l b f):∃L,TL l p b f L∧Qt N l p b f 3 L:=by
 have hf:=ho.f1;have hbl:=ho.gd.len
 have gt:∀j,j<l.length→Cy l (AJ l (j:Int))=some j:=by
  intro j hj;refine Sy (by omega) hchk hj ?_
  simp_all[W0,N9,AJ]
 have hra:∀j (hj:j<l.length),AJ l (j:Int)=⟨l[j].Time,l[j].Source,l[j].Seq⟩:=by
  simp_all[AJ]
 refine⟨XZ (fun i=>IH l p b i) (fun i=>([⟨p.Var,(i:Int)⟩],⟨AJ l i,0,[]⟩)) (l.length-f) f,⟨?_,?_⟩,⟨?_,?_⟩⟩
 ·intro t ht;obtain⟨j,h1,h2,h3,rfl⟩:=PU.1 ht
  have hj:j<l.length:=by omega
  refine⟨?_,?_,?_,⟨⟨fun x hx=>?_,HV _ _⟩,fun x hx=>?_,by simp⟩⟩
  ·dsimp only
   rw[Ia]
   simp_all[FM,BN]
  ·rw[HZ,A1 h0,gt j hj]
   simp_all
  ·have:=V5 p;simp[Fd,FK];omega
  ·rw[List.mem_singleton.1 hx];exact⟨hw.self.var h0,by simp_all⟩
  simp_all
 ·rw[Ni,←Ni (fun i=>IH l p b i) (fun i=>i) (fun i=>(⟨AJ l (i:Int),0,[]⟩:A4))];have hn:=QJ (T:=fun i=>IH l p b i) (g:=fun i:Nat=>i) (fun i j h=>h) (k:=l.length-f) (i:=f)
  unfold Nodup at *
  rw[R5];refine hn.imp_of_mem fun{a c} ha hc hne e=>hne ?_;obtain⟨j,h1,h2,_,ej⟩:=PU.1 ha;obtain⟨j',h1',h2',_,ej'⟩:=PU.1 hc
  have e':AJ l (a:Int)=AJ l (c:Int):=by injection e
  have g1:=gt a (by omega);have g2:=gt c (by omega)
  rw[e',g2]at g1
  simp_all
 ·intro n hn;obtain⟨n,rfl⟩:∃m,n=m+1:=⟨n-1,by omega⟩;rw[P4,A1 (J4 h0)];refine(An9 (n:=l.length) (T:=fun i=>IH l p b i) (g:=fun i=>GS ([⟨p.Var,(i:Int)⟩],⟨AJ l i,0,[]⟩)) (fun t i hi ht=>?_) (fun t=>by dsimp only;rw[A0 Cv]) (l.length-f) f N [] (by omega) (by omega) (by simp;omega)).trans ?_
  ·dsimp only
   rw[A1 (T8 (by omega)),AY4 hN (by omega) ho.gd.wf hw.self.cond hi];simp only[A3];rw[show ar .add .i64 (i:Int) 1=((i+1:Nat):Int) by rw[D0 (by omega) (by omega)];omega]
   by_cases hT:IH l p b i=true
   ·rw[A1 hT,A1 hT,E1,C0 hi];simp only[A3,Ko];rw[S1 (by simp;omega),hra i hi];rfl
   simp_all
  rw[I5,Ni]
 intro n hn;obtain⟨n,rfl⟩:∃m,n=m+3:=⟨n-3,by omega⟩;refine NF hN rfl ?_ (by rw[D4];have:=Ao3 (fun i=>IH l p b i) (fun i=>(([⟨p.Var,(i:Int)⟩],⟨AJ l i,0,[]⟩):TD)) (l.length-f) f;omega);rw[L7,A1 (J4 h0)]
 dsimp only
 rw[ZL (n:=l.length) (T:=fun i=>IH l p b i) (g:=fun i=>Kg ([⟨p.Var,(i:Int)⟩],⟨AJ l i,0,[]⟩)) (u:=()) (fun i hi=>by
  rw[A1 (T8 (by omega)),SX hN (by rw[D4];omega) (by rw[I3];exact ho.gd.wf) 0 hw.self.cond hi,I3];simp only[A3];rw[show ar .add .i64 (i:Int) 1=(i:Int)+1 from D0 (by omega) (by omega)]
  by_cases hT:IH l p b i=true
  ·rw[A1 hT,A1 hT,E1,C0 hi];simp only[A3,DS,W5];rw[hra i hi];rfl
  simp_all) (by rw[A0 Cv]) (l.length-f) f N (by omega) (by omega)]
 simp only[W5,A3,G4];rw[Ni]
def An7 {l:List A8} {p q:A2} {b:List PR} {f:Int} {s:List PR} {d:A4} {c:Int} (hop:p.Op=2∨(5≤p.Op∧p.Op≤7)) (hq:q∈p.cQ) (hc:p.Op=2→0≤c∧c<p.cQ.length∧p.cQ[c.toNat]? =some q) (hc0:p.Op≠2→c=0∧p.cQ=[q]) (hk:5≤p.Op→BY l p b s=true)
 (h:FV d q=0∧Lr l d q b f=some s∧Fa d≤s.length*q.pre.length∧Hj l f s):
 FV ⟨⟨0,0,0⟩,c,[d]⟩ p=0∧Lr l ⟨⟨0,0,0⟩,c,[d]⟩ p b f=some s∧Fa ⟨⟨0,0,0⟩,c,[d]⟩≤s.length*p.pre.length∧Hj l f s:=by
 obtain⟨h1,h2,h3,h4⟩:=h;have hpq:=K7 hq
 have ha:K6 p c 0=q:=by
  grind[K6]
 have hnc:¬Cz p:=by grind[Cz]
 refine⟨?_,?_,?_,h4⟩
 ·rw[Ia]
  grind[FM,BN]
 ·rw[HZ,A0 (by omega)]
  dsimp only
  rw[Y0];simp only[Ve,Ea,Bi,hnc,G0,false_and,ha];rw[h2];simp only[A3];rw[A0 (by simp[T7]),DN]
  simp_all[Cs]
 have hs:=List.length_pos_iff.2 h4.ne;have:s.length*(q.pre.length+1)≤s.length*p.pre.length:=LY _ hpq
 rw[Cg,II]at this
 simp only[Fa,FK];omega
def IHT (N:Nat)(l:List A8)(k:Nat):Prop:=∀(q:A2) (b:List PR) (f:Nat),mu l q f≤k→q.pre.length≤64→FF q→Hp l.length q→Lk l b f→∃L,TL l q b f L∧Qt N l q b f (8*k+8) L
def wr (c:Int)(t:TD):TD:=(t.1,⟨⟨0,0,0⟩,c,[t.2]⟩)
def XB {α β:Type} (P:α→Bool) (g:α→β):∀L:List α,L.flatMap (fun x=>if P x=true then[g x]else[])=(L.filter P).map g
 |[]=>rfl
 |a::L=>by
  rw[W3,XB P g L,List.filter_cons]
  grind
def Yj {l:List A8}{p q:A2}{b:List PR}{f:Int}{L:List TD}(hop:5≤p.Op∧p.Op≤7)(hq:p.cQ=[q])(h:TL l q b f L):TL l p b f ((L.filter fun t=>BY l p b t.1).map (wr 0)):=by
 constructor
 ·intro t ht;obtain⟨u,hu,rfl⟩:=List.mem_map.1 ht;obtain⟨h1,h2⟩:=List.mem_filter.1 hu;exact An7 (q:=q) (.inr hop) (by rw[hq];simp) (fun h=>by omega) (fun _=>⟨rfl,hq⟩) (fun _=>h2) (h.tr u h1)
 have h1:((L.filter fun t=>BY l p b t.1).map (·.2)).Nodup:=List.Nodup.sublist ((List.filter_sublist).map _) h.nd;rw[J0]
 unfold Nodup at *
 rw[R5]at h1 ⊢
 simp_all[wr]
def Av3 {N:Nat} (hN:Bgn N) {l:List A8} (hl:l.length≤10) (hchk:Al l=0) {p q:A2} (hw:FF p) (hpp:p.pre.length≤64) (hs:Hp l.length p) (hop:5≤p.Op∧p.Op≤7) (hq:p.cQ=[q]) {b:List PR} {f:Int} (ho:Lk l b f) {L:List TD} {m:Nat} (h:TL l q b f L) (hL:Qt N l q b f m L):
 ∀n,m+3≤n→E8 N n ⟨l,0⟩ p (b.map O2) f=some (((L.filter fun t=>BY l p b t.1).map (wr 0)).map Kg):=by
 intro n hn;obtain⟨n,rfl⟩:∃k,n=k+3:=⟨n-3,by omega⟩;have htl:=Yj hop hq h;refine NF hN rfl ?_ (by rw[D4];exact htl.few hl hchk hw hpp hs ho);rw[L7,A0 (MP (by omega)),A0 (MP (by omega)),A0 (MP (by omega)),A0 (MP (by omega))];simp only[W5,A3];rw[A0 (MP (by omega)),hq];have hi:B9 [q] 0=some q:=rfl;rw[hi];simp only[A3];rw[hL.prg n (by omega)];simp only[A3]
 rw[Ih (f:=fun y:A7=>if BY l p b (N7 y.s)=true then[(⟨⟨⟨0,0,0⟩,0,[y.d]⟩,y.s⟩:A7)]else[]) (fun y hy=>by
  obtain⟨t,ht,rfl⟩:=List.mem_map.1 hy;obtain⟨_,_,_,hr⟩:=h.tr t ht;have e1:(Kg t).s=t.1.map O2:=rfl;rw[e1,Ww hN (by omega) hw.self.cond hop (by rw[I3];exact ho.gd) (by rw[I3];exact hr.gd) (by simpa using hr.ne) (by rw[I3,I3];exact ho.apart hr) 0,I3,I3]
  grind)]
 simp only[A3];rw[A1 (J4 rfl),XB (fun y:A7=>BY l p b (N7 y.s))];simp only[A3,G4,List.filter_map,J0,I5]
 congr 1
 rw[X3 (g:=Kg∘wr 0) (fun t _=>by rfl)]
 congr 1
 apply List.filter_congr;intro t _;simp only[Function.comp,Kg,I3]
def AC5 (F:Nat→List TD)(m:Nat):List TD:=(List.range m).flatMap fun i=>(F i).map (wr (i:Int))
def AQ5 {l:List A8} {p:A2} {b:List PR} {f:Int} {F:Nat→List TD} (hop:p.Op=2) (h:∀i (hi:i<p.cQ.length),TL l p.cQ[i] b f (F i)):TL l p b f (AC5 F p.cQ.length):=by
 constructor
 ·intro t ht;obtain⟨i,hi,ht⟩:=List.mem_flatMap.1 ht
  rw[Cj]at hi
  obtain⟨u,hu,rfl⟩:=List.mem_map.1 ht;exact An7 (q:=p.cQ[i]) (.inl hop) (E4 hi) (fun _=>⟨by omega,by omega,by rw[R6,C0 hi]⟩) (fun h=>absurd hop h) (fun h=>by omega) ((h i hi).tr u hu)
 unfold AC5 Nodup;rw[R5,Jc]
 constructor
 ·intro i hi
  rw[Cj]at hi
  have h1:=(h i hi).nd
  unfold Nodup at h1
  rw[R5]at h1 ⊢
  simp_all[wr]
 refine Jg (fun{i j} _ _ hij=>?_) Rk;intro x hx y hy e;obtain⟨u,_,rfl⟩:=List.mem_map.1 hx;obtain⟨v,_,rfl⟩:=List.mem_map.1 hy
 simp only[wr]at e
 grind
def Ba6 {N:Nat} (hN:Bgn N) {l:List A8} (hl:l.length≤10) (hchk:Al l=0) {p:A2} (hw:FF p) (hpp:p.pre.length≤64) (hs:Hp l.length p) (hop:p.Op=2) {b:List PR} {f:Int} (ho:Lk l b f) {F:Nat→List TD} {m:Nat} (h:∀i (hi:i<p.cQ.length),TL l p.cQ[i] b f (F i)) (hL:∀i (hi:i<p.cQ.length),Qt N l p.cQ[i] b f m (F i)):
 ∀n,m+3≤n→E8 N n ⟨l,0⟩ p (b.map O2) f=some ((AC5 F p.cQ.length).map Kg):=by
 intro n hn;obtain⟨n,rfl⟩:∃k,n=k+3:=⟨n-3,by omega⟩;have htl:=AQ5 hop h;have hal:=V5 p;refine NF hN rfl ?_ (by rw[D4];exact htl.few hl hchk hw hpp hs ho);rw[L7,A0 (MP (by omega)),A1 (J4 hop)]
 rw[AA0 (s0:=(0:Int)) (k:=p.cQ.length) (fun i=>(i:Int)) (fun i=>((F i).map (wr (i:Int))).map Kg) [] () rfl (by omega) (fun i hi=>by
  rw[A1 (T8 (by omega)),E1,C0 hi];simp only[A3];rw[(hL i hi).prg n (by omega)];simp only[A3];rw[Ih (f:=fun y:A7=>[(⟨⟨⟨0,0,0⟩,(i:Int),[y.d]⟩,y.s⟩:A7)]) (fun y hy=>rfl)];simp only[W5,A3,G4];rw[show ar .add .i64 (i:Int) 1=((i+1:Nat):Int) by rw[D0 (by omega) (by omega)];omega]
  congr 2
  rw[J0,LP]
  have:∀L:List TD,L.flatMap (fun a=>[(⟨⟨⟨0,0,0⟩,(i:Int),[(Kg a).d]⟩,(Kg a).s⟩:A7)])=L.map (Kg∘wr (i:Int)):=by
   intro L
   induction L with
   |nil=>rfl
   |cons a L ih=>rw[W3,ih];rfl
  simp_all) (by rw[A0 Cv])]
 simp only[W5,A3];rw[A1 (J4 rfl)];simp only[A3,G4,AC5,Da]
def Ra (l:List A8)(p:A2)(b:List PR)(i:Nat)(t:TD):List TD:=if p.Op=2 then[wr (i:Int) t]else if BY l p b t.1=true then[wr 0 t]else[]
def Ad7 (l:List A8)(p:A2)(b:List PR)(i:Nat)(t:TD):(Ra l p b i t).length≤1:=by
 unfold Ra
 grind
def MN {α β:Type} {g:α→List β} (hg:∀x,(g x).length≤1):∀L:List α,(L.flatMap g).length≤L.length
 |[]=>B1 _
 |a::L=>by
  rw[W3,G8,G7];have:=hg a;have:=MN hg L;omega
def Kw {α β:Type}{g:α→List β}{L:List α}{j:Nat}(h:j<L.length):(L.take (j+1)).flatMap g=(L.take j).flatMap g++g L[j]:=by
 rw[Aw h,List.flatMap_append];simp
def AX6 {N:Nat} (hN:Bgn N) {l:List A8} (hl:l.length≤10) {p:A2} (hw:FF p) (hpp:p.pre.length≤64) (hop:p.Op=2∨(5≤p.Op∧p.Op≤7)) {b:List PR} {f:Int} (ho:Lk l b f) {F:Nat→List TD} {m:Nat} (h:∀i (hi:i<p.cQ.length),TL l p.cQ[i] b f (F i)) (hF:∀i,i<p.cQ.length→(F i).length≤4096) (hL:∀i (hi:i<p.cQ.length),Qt N l p.cQ[i] b f m (F i)):
 ∀n,m+1≤n→P4 N n p l b f=some (((List.range p.cQ.length).flatMap fun i=>(F i).flatMap (Ra l p b i)).map GS):=by
 intro n hn;obtain⟨n,rfl⟩:∃k,n=k+1:=⟨n-1,by omega⟩;have hal:=V5 p;rw[P4,A0 (MP (by omega)),A0 (MP (by omega)),A0 (MP (by omega)),A0 (MP (by omega))];refine DV (m:=p.cQ.length) (fun i acc=>(acc,(i:Int))) (fun i acc=>acc=((List.range i).flatMap fun i=>(F i).flatMap (Ra l p b i)).map GS∧acc.length≤i*4096) (fun acc=>acc) (t0:=[]) rfl (by omega) ⟨by simp,by simp⟩ (fun i hi acc ⟨ha,hal'⟩=>?_) (fun acc _=>by dsimp only;rw[A0 Cv]) (fun acc hacc=>by rw[hacc.1]);have hFi:=hF i hi;have hb1:i*4096≤64*4096:=G3 _ (by omega);have hfl:=MN (Ad7 l p b i) (F i);refine⟨acc++((F i).flatMap (Ra l p b i)).map GS,?_,?_,?_⟩
 ·dsimp only
  rw[A1 (T8 (by omega)),E1,C0 hi];simp only[A3];rw[(hL i hi).ref n (by omega)];simp only[A3]
  refine DV (m:=(F i).length) (fun j acc'=>(acc',(j:Int))) (fun j acc'=>acc'=acc++(((F i).take j).flatMap (Ra l p b i)).map GS) (fun acc'=>acc') (t0:=acc) rfl (by omega) (by simp) (fun j hj acc' hacc=>?_) (fun acc' _=>by
   dsimp only
   rw[A0 (K4 (by rw[B0,D4];omega))]) (fun acc' hacc=>by
   rw[hacc,X2,show ar .add .i64 (i:Int) 1=((i+1:Nat):Int) by rw[D0 (by omega) (by omega)];omega])
  have hjm:j<((F i).map GS).length:=by rw[D4];exact hj
  have hlen:acc'.length≤1000000:=by
   have:=MN (Ad7 l p b i) ((F i).take j);rw[hacc,G8,D4]
   rw[U3]at this
   omega
  have hgt:((F i).map GS)[j]? =some (GS (F i)[j]):=by rw[S5,C0 hj];rfl
  refine⟨acc'++(Ra l p b i (F i)[j]).map GS,?_,by rw[Kw hj,N1,←E7,←hacc]⟩
  dsimp only
  rw[A1 (T8 (by rw[D4];omega)),E1,hgt];simp only[A3]
  have ea:ar .add .i64 (j:Int) 1=((j+1:Nat):Int):=by rw[D0 (by omega) (by omega)];omega
  by_cases h2:p.Op=2
  ·rw[A1 (J4 h2)];simp only[A3];rw[A1 (J4 h2)];rw[S1 (by simp;omega),ea];simp only[A3];unfold Ra;rw[A1 h2];rfl
  have h5:5≤p.Op∧p.Op≤7:=hop.resolve_left h2;rw[A0 (MP h2)];simp only[A3];rw[A0 (MP h2)];obtain⟨_,_,_,hr⟩:=(h i hi).tr _ (E4 hj);have e1:(GS (F i)[j]).s=((F i)[j]).1:=rfl;rw[e1,Aj8 hN (by omega) hw.self.cond ho.gd hr.gd hr.ne (ho.apart hr),A1 h5];simp only[A3];unfold Ra;rw[A0 h2]
  by_cases hk:BY l p b ((F i)[j]).1=true
  ·rw[A1 hk,A1 hk,S1 (by simp;omega),ea];rfl
  simp_all
 ·rw[ha,List.range_succ,List.flatMap_append,N1];simp
 grind
def Qt.mono {N:Nat}{l:List A8}{p:A2}{b:List PR}{f:Int}{m m':Nat}{L:List TD}(h:Qt N l p b f m L)(hm:m≤m'):Qt N l p b f m' L:=⟨fun n hn=>h.ref n (by omega),fun n hn=>h.prg n (by omega)⟩
def AM4 {N:Nat} (hN:Bgn N) {l:List A8} (hl:l.length≤10) (hchk:Al l=0) {k:Nat} (ih:IHT N l k) {p:A2} (hw:FF p) (hpp:p.pre.length≤64) (hs:Hp l.length p) (hop:p.Op=2∨(5≤p.Op∧p.Op≤7)) {b:List PR} {f:Nat} (ho:Lk l b f) (hmu:mu l p f≤k+1):∃L,TL l p b f L∧Qt N l p b f (8*k+16) L:=by
 have hex:∀i:Nat,∃L,∀hi:i<p.cQ.length,TL l p.cQ[i] b f L∧Qt N l p.cQ[i] b f (8*k+8) L:=by
  intro i
  by_cases hi:i<p.cQ.length
  ·have hq:=E4 hi;have hpq:=K7 hq;have:=AW7 (l:=l) (f:=f) (g:=f) hpq;obtain⟨L,h1,h2⟩:=ih p.cQ[i] b f (by omega) (by omega) (hw.arg hq) (hs.arg hq) ho;exact⟨L,fun _=>⟨h1,h2⟩⟩
  exact⟨[],fun h=>absurd h hi⟩
 obtain⟨F,hF⟩:=Jf hex
 have few:∀i,i<p.cQ.length→(F i).length≤4096:=by
  intro i hi;have hq:=E4 hi;have hpq:=K7 hq;exact(hF i hi).1.few hl hchk (hw.arg hq) (by omega) (hs.arg hq) ho
 have href:=AX6 hN hl hw hpp hop ho (fun i hi=>(hF i hi).1) few (fun i hi=>(hF i hi).2)
 rcases hop with h2|h5
 ·refine⟨AC5 F p.cQ.length,AQ5 h2 fun i hi=>(hF i hi).1,⟨fun n hn=>?_,fun n hn=>?_⟩⟩
  ·rw[href n (by omega)]
   congr 2
   unfold AC5
   congr 1
   funext i
   have:∀L:List TD,L.flatMap (Ra l p b i)=L.map (wr (i:Int)):=by
    intro L
    induction L with
    |nil=>rfl
    |cons a L ih2=>rw[W3,ih2];simp_all[Ra]
   simp_all
  exact Ba6 hN hl hchk hw hpp hs h2 ho (fun i hi=>(hF i hi).1) (fun i hi=>(hF i hi).2) n (by omega)
 obtain⟨q,hq⟩:=hw.self.a2 (by omega)
 have h0:0<p.cQ.length:=by rw[hq];simp
 have e0:p.cQ[0]=q:=by simp[hq]
 have t0:=hF 0 h0
 rw[e0]at t0
 refine⟨_,Yj h5 hq t0.1,⟨fun n hn=>?_,fun n hn=>?_⟩⟩
 ·rw[href n (by omega),hq]
  congr 2
  have:∀L:List TD,L.flatMap (Ra l p b 0)=(L.filter fun t=>BY l p b t.1).map (wr 0):=by
   intro L;rw[←XB]
   congr 1
   funext t
   unfold Ra;rw[A0 (by omega)]
  simp_all
 exact Av3 hN hl hchk hw hpp hs h5 hq ho t0.1 t0.2 n (by omega)
def Yl (l:List A8) (p:A2) (c:Int) (b:List PR) (f:Int):∀(ks ks':List A4) (i:Nat) (s:List PR),Cs l (ks++ks') p c i b f s=(Cs l ks p c i b f s).bind fun t=>Cs l ks' p c (i+ks.length) b f t
 |[],ks',i,s=>by rw[I5,Cs];rfl
 | k::ks,ks',i,s=>by
  rw[Y8,Y0,Y0]
  cases Ve l p c b f k i s with
  |none=>rfl
  |some t=>
   simp only[A3];rw[Yl l p c b f ks ks' (i+1) t,G7,show i+1+ks.length=i+(ks.length+1) by omega]
def Yy (p:A2) (c:Int):∀(ks ks':List A4) (i:Nat),BN (ks++ks') p c i=if BN ks p c i=0 then BN ks' p c (i+ks.length)else BN ks p c i
 |[],ks',i=>by rw[I5,BN,A1 rfl];rfl
 |k::ks,ks',i=>by
  rw[Y8,BN,BN]
  by_cases h:FV k (K6 p c i)=0
  ·rw[A1 h,A1 h,Yy p c ks ks' (i+1),G7,show i+1+ks.length=i+(ks.length+1) by omega]
  omega
def AQ1 {a b:List PR}(ha:UT a)(hb:UT b)(p:a.Perm b):a=b:=by
 refine Mi (le:=fun x y:PR=>x.At<y.At) (fun x y _ _ h1 h2=>by omega) ha hb p
def EX {a b c:List PR}(ha:UT a)(hb:UT b)(hc:UT c)(h1:O1 a b)(h2:O1 a c)(h3:O1 b c):mrg (mrg a b) c=mrg a (mrg b c):=by
 have hab:=JD _ (B1 _) ha hb h1;have hbc:=JD _ (B1 _) hb hc h3;have k1:O1 (mrg a b) c:=fun x hx y hy=>(M5.1 hx).elim (fun h=>h2 x h y hy) fun h=>h3 x h y hy;have k2:O1 a (mrg b c):=fun x hx y hy=>(M5.1 hy).elim (fun h=>h1 x hx y h) fun h=>h2 x hx y h;refine AQ1 (JD _ (B1 _) hab hc k1) (JD _ (B1 _) ha hbc k2) ?_;refine(Eb _ _ _ (B1 _)).trans (((Eb _ a b (B1 _)).append_right c).trans ?_);rw[E7];exact(((Eb _ b c (B1 _)).append_left a).symm).trans (Eb _ _ _ (B1 _)).symm
structure CK (l:List A8) (p:A2) (b:List PR) (f:Int) (j:Nat) (s s':List PR) (ks:List A4):Prop where
 su:BN ks p 0 j=0
 vl:Cs l ks p 0 j b f s=some (mrg s s')
 sz:FK ks≤s'.length*(p.pre.length-1)
 res:Hj l (Bi p f s) s'
 ap:O1 s s'
abbrev CD:=List PR×List A4
def TS (c:CD):B4:=⟨c.1,⟨⟨0,0,0⟩,0,c.2⟩⟩
def WX (last:Bool)(D:TD→List CD)(t:TD):List CD:=if last=true then[(t.1,[t.2])]else(D t).map fun c=>(mrg t.1 c.1,t.2::c.2)
def UE {N:Nat} (hN:Bgn N) {l:List A8} (hl:l.length≤10) {n:Nat} {q:A2} {rest:List A2} (hrl:rest.length≤64) {b:List PR} {f:Int} (gb:Gd l b) {L:List TD} {D:TD→List CD} (hLn:L.length≤4096) (hL:P4 N n q l b f=some (L.map GS)) (hg:∀t∈L,Gd l t.1∧t.1≠[]∧O1 b t.1)
 (hD:rest≠[]→∀t∈L,DK N n rest l (mrg b t.1) (T9 t.1+1)=some ((D t).map TS)∧(D t).length≤4096∧∀c∈D t,Gd l c.1∧O1 t.1 c.1∧c.2.length≤4096):
 DK N (n+1) (q::rest) l b f=some ((L.flatMap (WX (decide (rest=[])) D)).map TS):=by
 have hbl:=gb.len;rw[DK];have h0:B9 (q::rest) 0=some q:=rfl;rw[h0];simp only[A3];rw[hL];simp only[A3]
 refine DV (m:=L.length) (fun i acc=>(acc,(i:Int))) (fun i acc=>acc=((L.take i).flatMap (WX (decide (rest=[])) D)).map TS∧acc.length≤i*4096) (fun acc=>acc) (t0:=[]) rfl (by omega) ⟨by simp,by simp⟩ (fun i hi acc ⟨ha,hal⟩=>?_) (fun acc _=>by
  dsimp only
  rw[A0 (K4 (by rw[B0,D4];omega))]) (fun acc hacc=>by rw[hacc.1,X2])
 have hgt:(L.map GS)[i]? =some (GS L[i]):=by rw[S5,C0 hi];rfl
 have hmem:=E4 hi;obtain⟨g1,g2,g3⟩:=hg _ hmem;have hlen:=g1.len;have hi2:i*4096≤4096*4096:=G3 _ (by omega)
 have ea:ar .add .i64 (i:Int) 1=((i+1:Nat):Int):=by rw[D0 (by omega) (by omega)];omega
 have hsl:(WX (decide (rest=[])) D L[i]).length≤4096:=by
  unfold WX
  grind
 refine⟨acc++(WX (decide (rest=[])) D L[i]).map TS,?_,by rw[Kw hi,N1,←ha],by rw[G8,D4,E2,U0];omega⟩
 dsimp only
 rw[A1 (T8 (by rw[D4];omega)),E1,hgt];simp only[A3]
 by_cases hr:rest=[]
 ·rw[A1 (J4 (by rw[B0,hr];rfl)),S1 (by simp;omega),ea];simp only[A3];unfold WX;rw[A1 (J1 hr)];rfl
 obtain⟨k1,k2,k3⟩:=hD hr _ hmem;have hrp:=List.length_pos_iff.2 hr;rw[A0 (MP (by rw[B0,G7];omega))];have e1:(GS L[i]).s=L[i].1:=rfl;have e2:(GS L[i]).d=L[i].2:=rfl
 have hsl1:O5 (q::rest) (some 1) none none=some rest:=by
  unfold O5;rw[A1 (by simp;omega)];simp
 obtain⟨x1,hx1,_,ex1⟩:=Gc g2;have hlst:=g1.lst g2;rw[e1,Ks hN (by omega),MF _ (B1 _) gb.asc g1.asc,A1 g3,hsl1,Qb g2 (by omega),hx1];simp only[A3];rw[←ex1,D0 (by omega) (by omega),k1];simp only[A3]
 refine DV (m:=(D L[i]).length) (fun j acc'=>(acc',(j:Int))) (fun j acc'=>acc'=acc++(((D L[i]).take j).map fun c=>TS (mrg L[i].1 c.1,L[i].2::c.2))) (fun acc'=>acc') (t0:=acc) rfl (by omega) (by simp) (fun j hj acc' hacc=>?_) (fun acc' _=>by
  dsimp only
  rw[A0 (K4 (by rw[B0,D4];omega))]) (fun acc' hacc=>by
  rw[hacc,X2,ea];unfold WX
  rw[A0 (by grind),J0];rfl)
 have hcm:=E4 hj;obtain⟨c1,c2,c3⟩:=k3 _ hcm;have hcl:=c1.len
 have hct:((D L[i]).map TS)[j]? =some (TS (D L[i])[j]):=by rw[S5,C0 hj];rfl
 have hal':acc'.length≤100000000:=by rw[hacc];simp;omega
 refine⟨acc'++[TS (mrg L[i].1 (D L[i])[j].1,L[i].2::(D L[i])[j].2)],?_,by rw[Aw hj,N1,←E7,←hacc];rfl⟩
 dsimp only
 rw[A1 (T8 (by rw[D4];omega)),E1,hct];simp only[A3];have e3:(TS (D L[i])[j]).s=(D L[i])[j].1:=rfl;have e4:(TS (D L[i])[j]).d.Kids=(D L[i])[j].2:=rfl;rw[e3,e4,e2,Ks hN (by omega),MF _ (B1 _) g1.asc c1.asc,A1 c2];simp only[A3];rw[S1 (by simp;omega)];simp only[A3];rw[S1 (by simp;omega)];simp only[A3];rw[D0 (by omega) (by omega)];rfl
def Ac1 {N:Nat}{L:List A4}(h:L.length≤1000000):P2 N L=some L:=by
 unfold P2;rw[S1 (by simp;omega)];rfl
def VW {N:Nat}{n:Nat}{x:E6}{p:A2}{o:List DP}{f:Int}{kids:List A4}{s:List DP}(h4:p.Op≠4)(hk:kids.length=p.cQ.length)(hl:kids.length≤1000000):E5 N (n+1) x p o f kids s=some [⟨⟨⟨0,0,0⟩,0,kids⟩,s⟩]:=by
 rw[E5,A1 (by rw[N8,K5,K0 h4,J4 (by rw[B0,B0,hk])];rfl),Ac1 hl];simp only[W5,A3];rw[A1 (K0 h4)];simp
def Ny {N :Nat} (hN:Bgn N) {l:List A8} (hl:l.length≤10) {n:Nat} {p q:A2} {b:List PR} {f:Int} {kids:List A4} {s:List PR} {L:List TD} {E:TD→List A7} (gb:Gd l b) (gs:Gd l s) (hap:p.Op≠3→O1 b s) (hkl:kids.length≤100000) (hargs:p.cQ≠[])
 (hno:¬((p.Op≠4∧kids.length=p.cQ.length)∨(p.Op=4∧0<kids.length))) (hq:B9 p.cQ (ar .rem .i64 (kids.length:Int) (Ar.len p.cQ))=some q)
 (hL:E8 N n ⟨l,0⟩ q ((if p.Op≠3 then mrg b s else b).map O2) f=some (L.map Kg)) (hg:∀t∈L,Gd l t.1∧t.1≠[])
 (hE:∀t∈L,O1 s t.1→E5 N n ⟨l,0⟩ p (b.map O2) (if p.Op≠3 then T9 t.1+1 else f) (kids++[t.2]) ((mrg s t.1).map O2)=some (E t)):
 E5 N (n+1) ⟨l,0⟩ p (b.map O2) f kids (s.map O2)=some (L.flatMap fun t=>if T7 s t.1=true then[]else E t):=by
 rw[E5,A0 (by
  rw[N8,K5,K5,Y7,K3,K3,L9,D7,D7,Bw,B0,B0]
  grind)]
 simp only[W5,A3]
 have e1 : ((if cmp .neq p.Op 3=true then
           (H9 N (b.map O2) (s.map O2)).bind fun r11=>
           some (([]:List A7),r11)
  else
   some ([],b.map O2)):Option (List A7×(((List A6)))))=some ([],(if p.Op≠3 then mrg b s else b).map O2):=by
  by_cases h3:p.Op=3
  ·rw[A0 (H7 h3),A0 (by omega)]
  rw[A1 (K0 h3),A1 h3,Nz hN (l:=l) (by omega) (by rw[I3];exact gb) (by rw[I3];exact gs) (by rw[I3,I3];exact hap h3),I3,I3];rfl
 rw[e1];simp only[A3]
 have hr:FL (cmp .neq (Ar.len p.cQ) 0)=some ():=by
  unfold FL;rw[A1 (K0 (by rw[B0];have:=List.length_pos_iff.2 hargs;omega))]
 rw[hr];simp only[A3];rw[B0 kids,hq];simp only[A3];rw[hL];simp only[A3]
 rw [Ih (f := fun y:A7=>if T7 s (N7 y.s)=true then[]else E (N7 y.s,y.d)) (fun y hy=>by
  obtain⟨t,ht,rfl⟩:=List.mem_map.1 hy;obtain⟨g1,g2⟩:=hg t ht;have hlt:=g1.len;have hls:=gs.len;have e2:(Kg t).s=t.1.map O2:=rfl;have e3:(Kg t).d=t.2:=rfl;have e4:N7 (t.1.map O2)=t.1:=I3 _;have hlst:=g1.lst g2
  have e5 : ((if cmp .neq p.Op 3=true then
              (S0 N (t.1.map O2)).bind fun r26=>
              some (([]:List A7),r26)
   else
    some ([],f)):Option (List A7×(Int)))=some ([],if p.Op≠3 then T9 t.1+1 else f):=by
   by_cases h3:p.Op=3
   ·rw[A0 (H7 h3),A0 (by omega)]
   rw[A1 (K0 h3),A1 h3,Ph (by grind) (by rw[D4];omega) (by rw[e4];omega),e4];rfl
  rw[e2,e3,e5,Uw hN (by rw[D4];omega) (by rw[D4];omega),I3,e4];simp only[A3]
  by_cases hm:T7 s t.1=true
  ·rw[A1 hm,hm];rfl
  rw[A0 hm]
  rw[As]at hm
  have hA:=U8.1 hm;rw[hm,A0 (by simp[P7])]
  have e6:O5 kids none (some (Ar.len kids)) (some (Ar.len kids))=some kids:=by
   unfold O5;rw[A1 (by simp[B0])];simp[B0]
  rw[←B0 kids,e6];simp only[A3];rw[S1 (by simp;omega),Nz hN (l:=l) (by omega) (by rw[I3];exact gs) (by rw[e4];exact g1) (by rw[I3,e4];exact hA),I3,e4]
  simp_all)]
 simp only[A3];rw[A1 (J4 rfl)];simp only[A3,G4,I5,LP]
 congr 2
 funext t
 have e4:N7 (Kg t).s=t.1:=I3 _;rw[e4];rfl
def NJ {p q:A2}{rest:List A2}(h1:p.Op=1)(ha:p.cQ=q::rest){i:Nat}(hi:i<rest.length):K6 p 0 (i+1)=K6 {p with cQ:=rest} 0 i:=by
 simp_all[K6]
def SC {a b:List PR}(h:a≠[]):mrg a b≠[]:=fun e=>by
 have h1:=I4 List.length e
 rw[KV,X1]at h1
 have:=List.length_pos_iff.2 h;omega
def SR {l:List A8} (hl:l.length≤4096) (hchk:Al l=0) {p q:A2} {rest:List A2} (h1:p.Op=1) (ha:p.cQ=q::rest) {b t:List PR} {f:Int} (ho:Lk l b f) (ht:Hj l f t):
 ∀(ks:List A4) (i:Nat) (u:List PR),i+ks.length≤rest.length→(∀k∈ks,Fa k≤4096)→(∀j (h:j<ks.length),FV ks[j] (K6 p 0 (i+1+j))=0∧FF (K6 p 0 (i+1+j))∧(K6 p 0 (i+1+j)).pre.length≤64)→(u=[]∨Hj l (T9 t+1) u)→
  Cs l ks p 0 (i+1) b f (mrg t u)=(Cs l ks {p with cQ:=rest} 0 i (mrg b t) (T9 t+1) u).map (mrg t ·)
 |[],i,u,_,_,_,_=>by rw[Cs,Cs];rfl
 | k::ks,i,u,hi,hz,hk,hu=>by
  have hbt:=ho.apart ht;have ho2:Lk l (mrg b t) (T9 t+1):=ho.next ht;have au:UT u:=hu.elim (fun h=>h▸List.Pairwise.nil) fun h=>h.gd.asc;have btu:O1 (mrg b t) u:=hu.elim (fun h=>h▸fun _ _ y hy=>absurd hy BC) fun h=>ho2.apart h;have bu:O1 b u:=fun x hx y hy=>btu x (M5.2 (.inl hx)) y hy;have tu:O1 t u:=fun x hx y hy=>btu x (M5.2 (.inr hx)) y hy;have c1:Cz p:=.inl h1;have c2:Cz {p with cQ:=rest}:=.inl h1
  have rtu:Hj l f (mrg t u):=by
   rcases hu with rfl|hu
   ·rw[X5];exact ht
   exact(ht.seq hu).1
  have hlst:T9 (mrg t u)=if u≠[]then T9 u else T9 t:=by
   by_cases hu0:u=[]
   ·rw[A0 (fun h=>h hu0),hu0,X5]
   rw[A1 hu0];exact TW (.inr ht) (f:=f) (by rw[A1 ht.ne];simp_all)
  have eo:Ea p b (mrg t u)=Ea {p with cQ:=rest} (mrg b t) u:=by
   unfold Ea;rw[A1 c1,A1 c2,EX ho.gd.asc ht.gd.asc au hbt bu tu]
  have ef:Bi p f (mrg t u)=Bi {p with cQ:=rest} (T9 t+1) u:=by
   unfold Bi;rw[A1 ⟨c1,SC ht.ne⟩,hlst]
   grind
  rw[G7]at hi
  have hk0:=hk 0 (by simp)
  simp only[Ri,AT]at hk0
  rw[Y0,Y0,Ve,Ve,←NJ h1 ha (by omega),←eo,←ef]
  cases hv:Lr l k (K6 p 0 (i+1)) (Ea p b (mrg t u)) (Bi p f (mrg t u))with
  |none=>rfl
  | some x=>
   simp only[A3];have hx:=WJ hl hchk (hz k (by simp)) hk0.2.1 hk0.2.2 hk0.1 (PM ho (.inr rtu)) hv
   have hge:∀y∈mrg t u,∀z∈x,y.At<z.At:=by
    intro y hy z hz';have:=IB rtu.gd.asc y hy;have h9:=hx.ge z hz'
    unfold Bi at h9
    rw[A1 ⟨c1,SC ht.ne⟩]at h9
    omega
   have a1:O1 (mrg t u) x:=fun y hy z hz'=>by have:=hge y hy z hz';omega
   have a2:O1 u x:=fun y hy z hz'=>a1 y (M5.2 (.inr hy)) z hz';have a3:O1 t x:=fun y hy z hz'=>a1 y (M5.2 (.inl hy)) z hz';rw[A0 (by rw[U8.2 a1];simp),A0 (by rw[U8.2 a2];simp)];simp only[A3];rw[EX ht.gd.asc au hx.gd.asc tu a3 a2];refine SR hl hchk h1 ha ho ht ks (i+1) (mrg u x) (by omega) (fun k' hk'=>hz k' (by simp[hk'])) (fun j hj=>?_) (.inr ?_)
   ·have:=hk (j+1) (by grind)
    grind
   have hx2:Hj l (Bi {p with cQ:=rest} (T9 t+1) u) x:=by rw[←ef];exact hx
   exact PG hu hx2 (U8.2 a2)
def Ta {p q:A2} {rest:List A2} (h1:p.Op=1) (ha:p.cQ=q::rest):∀(ks:List A4) (i:Nat),i+ks.length≤rest.length→BN ks p 0 (i+1)=BN ks {p with cQ:=rest} 0 i
 |[],i,_=>by rw[BN,BN]
 |k::ks,i,h=>by
  rw[G7]at h
  rw[BN,BN,NJ h1 ha (by omega),Ta h1 ha ks (i+1) (by omega)]
def Bf4 {l:List A8} (hl:l.length≤10) (hchk:Al l=0) {p q:A2} {rest:List A2} (hw:FF p) (hpp:p.pre.length≤64) (h1:p.Op=1) (ha:p.cQ=q::rest) {b:List PR} {f:Int} (ho:Lk l b f) {t:TD} {s:List PR} {ks:List A4}
 (ht:FV t.2 q=0∧Lr l t.2 q b f=some t.1∧Fa t.2≤t.1.length*q.pre.length∧Hj l f t.1)
 (hc:FV ⟨⟨0,0,0⟩,0,ks⟩ {p with cQ:=rest}=0∧Lr l ⟨⟨0,0,0⟩,0,ks⟩ {p with cQ:=rest} (mrg b t.1) (T9 t.1+1)=some s∧Fa ⟨⟨0,0,0⟩,0,ks⟩≤s.length*({p with cQ:=rest}:A2).pre.length∧Hj l (T9 t.1+1) s):
 FV ⟨⟨0,0,0⟩,0,t.2::ks⟩ p=0∧Lr l ⟨⟨0,0,0⟩,0,t.2::ks⟩ p b f=some (mrg t.1 s)∧Fa ⟨⟨0,0,0⟩,0,t.2::ks⟩≤(mrg t.1 s).length*p.pre.length∧Hj l f (mrg t.1 s):=by
 obtain⟨t1,t2,t3,t4⟩:=ht;obtain⟨c1,c2,c3,c4⟩:=hc;have hS:=Du c1;have op':({p with cQ:=rest}:A2).Op=1:=h1;have hn:=hS.n
 unfold FM at hn
 rw[A0 (by omega),A1 (.inl op')]at hn
 have hkr:ks.length=rest.length:=by
  simp_all
 have hqm:q∈p.cQ:=by rw[ha];simp
 have hpq:=K7 hqm
 have hpre:p.pre.length=q.pre.length+({p with cQ:=rest}:A2).pre.length:=by
  rw[A2.pre_eq p,A2.pre_eq {p with cQ:=rest},ha]
  grind[A2.pres]
 have aq:K6 p 0 0=q:=by simp_all[K6]
 have hr:=t4.seq c4;have hlt:=t4.gd.len;have hls:=c4.gd.len;have hsz1:t.1.length*q.pre.length≤10*64:=S4 (by omega) (by omega);have hsz2:s.length*({p with cQ:=rest}:A2).pre.length≤10*64:=S4 (by omega) (by omega)
 have hkz:∀k∈ks,Fa k≤4096:=fun k hk=>by have:=Dt hk;grind[Fa]
 have form:=HF c1
 have su2:BN ks p 0 (0+1)=0:=by
  rw[Ta h1 ha ks 0 (by omega)]
  rw[Ia]at c1
  grind
 refine⟨?_,?_,?_,hr.1⟩
 ·rw[Ia]
  simp_all[FM,BN]
 ·rw[HZ,A0 (by omega)]
  dsimp only
  rw[Y0,Ve,aq]
  have e1:Ea p b []=b:=by unfold Ea;rw[A1 (.inl h1),X5]
  have e2:Bi p f []=f:=by simp[Bi]
  rw[e1,e2,t2];simp only[A3];rw[A0 (by simp[T7]),DN];simp only[A3]
  have hsh:=SR (by omega) hchk h1 ha ho t4 ks 0 [] (by omega) hkz (fun j hj=>by
   have hm:=G9 (hw.sub (r:=rest) (by omega) (by omega) (fun x hx=>by rw[ha];simp[hx]) (by grind)).self hS.n hj hS.c;have hm1:=hm.1
   rw[←NJ h1 ha (by omega)]at hm1
   have hmp:K6 p 0 (j+1)∈p.cQ:=by rw[ha];simp_all
   have:=K7 hmp;rw[show 0+1+j=j+1 by omega]
   exact⟨by rw[NJ h1 ha (by omega)];exact hS.k j hj,hw.arg hmp,by omega⟩) (.inl rfl)
  rw[X5]at hsh
  rw[hsh]
  rw[HZ,A0 (by omega)]at c2
  simp_all
 simp only[Fa,FK]at *
 rw[KV,hpre,E2,Cg,Cg];omega
def Vw {m:Nat} {p:A2} {r:List A2} (h:Hp m p) (h4:p.Op≠4) (hr:∀q∈r,q∈p.cQ) (he:Y2 {p with cQ:=r}≤Y2 p) (hs:Sml m {p with cQ:=r}):Hp m {p with cQ:=r}:=by
 have hp:∀y∈({p with cQ:=r}:A2).pre,y.Op=4→y∈p.pre:=by
  intro y hy h4'
  rw[A2.pre_eq]at hy ⊢
  rcases List.mem_cons.1 hy with rfl|hy
  ·simp_all
  obtain⟨a,ha,hy⟩:=V9.1 hy;exact Dc _ (V9.2 ⟨a,hr a ha,hy⟩)
 refine⟨hs,?_⟩
 rcases h.2 with h|⟨h1,h2⟩
 ·grind[L1]
 exact .inr ⟨fun y hy h4'=>h1 y (hp y hy h4') h4',N0 (Ja (by omega) m) h2⟩
def Hp.tail {m:Nat}{p q:A2}{r:List A2}(h:Hp m p)(h4:p.Op≠4)(ha:p.cQ=q::r):Hp m {p with cQ:=r}:=by
 refine Vw h h4 (fun x hx=>by rw[ha];simp_all) ?_ (h.1.tail ha);rw[NC,Fx,ha];simp[A2.pres]
def IsK (t:TD):Prop:=t.2=⟨⟨0,0,0⟩,0,t.2.Kids⟩
def sk (kids:List A4)(s:List PR)(t:TD):TD:=(mrg s t.1,⟨⟨0,0,0⟩,0,kids++t.2.Kids⟩)
def jn (t u:TD):TD:=(mrg t.1 u.1,⟨⟨0,0,0⟩,0,t.2::u.2.Kids⟩)
def AJ2 {l:List A8} {p q:A2} (h1:p.Op=1∨p.Op=4∨p.Op=3) (ha:p.cQ=[q]) {b:List PR} {f:Int} {t:TD} (h:FV t.2 q=0∧Lr l t.2 q b f=some t.1∧Fa t.2≤t.1.length*q.pre.length∧Hj l f t.1):
 FV (wr 0 t).2 p=0∧Lr l (wr 0 t).2 p b f=some (wr 0 t).1∧Fa (wr 0 t).2≤(wr 0 t).1.length*p.pre.length∧Hj l f (wr 0 t).1:=by
 obtain⟨t1,t2,t3,t4⟩:=h;have hpq:=K7 (show q∈p.cQ by rw[ha];simp)
 have aq:K6 p 0 0=q:=by
  simp_all[K6]
 refine⟨?_,?_,?_,t4⟩
 ·show FV ⟨⟨0,0,0⟩,0,[t.2]⟩ p=0
  rw[Ia]
  dsimp only
  rw[A0 (by
   omega),A0 (by omega),A0 (by
   unfold FM;rw[A0 (by omega),ha]
   simp_all),BN,aq,A1 t1,BN]
 ·show Lr l ⟨⟨0,0,0⟩,0,[t.2]⟩ p b f=some t.1
  rw[HZ,A0 (by omega)]
  dsimp only
  have e1:Ea p b []=b:=by unfold Ea;rw[X5];split<;>rfl
  have e2:Bi p f []=f:=by simp[Bi]
  rw[Y0,Ve,aq,e1,e2,t2];simp only[A3];rw[A0 (by simp[T7]),DN];simp only[A3,Cs];rw[A0 (fun h=>by have:=h.1;omega)]
 have hs:=List.length_pos_iff.2 t4.ne;have:t.1.length*(q.pre.length+1)≤t.1.length*p.pre.length:=LY _ hpq
 rw[Cg,II]at this
 simp only[wr,Fa,FK];omega
def AJ3 {l:List A8}{p q:A2}(h1:p.Op=1∨p.Op=4∨p.Op=3)(ha:p.cQ=[q]){b:List PR}{f:Int}{L:List TD}(h:TL l q b f L):TL l p b f (L.map (wr 0)):=by
 constructor
 ·intro t ht;obtain⟨u,hu,rfl⟩:=List.mem_map.1 ht;exact AJ2 h1 ha (h.tr u hu)
 have h1:=h.nd;rw[J0]
 unfold Nodup at *
 rw[R5]at h1 ⊢
 simp_all[wr]
def Bd6 {L:List TD} {F:TD→List TD} (h:(L.map (·.2)).Nodup) (hF:∀t∈L,((F t).map (·.2)).Nodup∧∀u∈F t,IsK u):((L.flatMap fun t=>(F t).map (jn t)).map (·.2)).Nodup:=by
 unfold Nodup at *
 rw[R5]at h
 rw[R5,Jc]
 constructor
 ·intro t ht;obtain⟨h1,h2⟩:=hF t ht
  rw[R5]at h1 ⊢
  refine h1.imp_of_mem fun{a c} ha hc hne e=>hne ?_
  simp only[jn]at e
  injection e with _ _ e3
  rw[h2 a ha,h2 c hc,(LD e3).2]
 refine h.imp fun{a c} hne=>?_;intro x hx y hy e;obtain⟨u,_,rfl⟩:=List.mem_map.1 hx;obtain⟨v,_,rfl⟩:=List.mem_map.1 hy
 simp_all[jn]
def Ip {α β:Type}{g h:α→List β}:∀{L:List α},(∀a∈L,g a=h a)→L.flatMap g=L.flatMap h
 |[],_=>rfl
 |a::L,k=>by rw[W3,W3,k a (by simp),Ip fun x hx=>k x (by simp[hx])]
def Xr {L:List A4}:L.length≤FK L:=by
 induction L with
 |nil=>simp_all
 |cons a L ih=>have:=Fd a;grind[FK]
structure Wx (N:Nat) (l:List A8) (p:A2) (b:List PR) (f:Nat) (m:Nat) (L:List TD):Prop where
 tl:TL l p b f L
 k:∀t∈L,IsK t
 ref:∀n,m≤n→DK N n p.cQ l b f=some (L.map GS)
 prg:∀(p0:A2) (pre:List A2) (kids:List A4) (b0 s0:List PR),p0.Op=1→p0.cQ=pre++p.cQ→kids.length=pre.length→p0.cQ.length≤100→Gd l b0→Gd l s0→O1 b0 s0→b=mrg b0 s0→∀n,m+1≤n→E5 N n ⟨l,0⟩ p0 (b0.map O2) f kids (s0.map O2)=some ((L.map (sk kids s0)).map Kg)
def Ap0 {pre args:List A2}{q:A2}{r:List A2}(ha:args=q::r)(h:(pre++args).length≤100):B9 (pre++args) (ar .rem .i64 (pre.length:Int) (Ar.len (pre++args)))=some q:=by
 have hl:pre.length<(pre++args).length:=by rw[G8,ha,G7];omega
 have e:ar .rem .i64 (pre.length:Int) (Ar.len (pre++args))=((pre.length:Nat):Int):=QF (by omega) (by rw[B0];omega);rw[e,E1,FU (B1 _),Nat.sub_self,ha];rfl
def AT4 {N:Nat} (hN:Bgn N) {l:List A8} (hl:l.length≤10) (hchk:Al l=0) {p q:A2} (h1:p.Op=1) (ha:p.cQ=[q]) (hw:FF p) (hpp:p.pre.length≤64) (hs:Hp l.length p) {b:List PR} {f:Nat} (ho:Lk l b f) {L:List TD} {m:Nat} (h:TL l q b f L) (hL:Qt N l q b f m L):Wx N l p b f (m+1) (L.map (wr 0)):=by
 have hqm:q∈p.cQ:=by rw[ha];simp
 have hpq:=K7 hqm;have hfew:=h.few hl hchk (hw.arg hqm) (by omega) (hs.arg hqm) ho;refine⟨AJ3 (.inl h1) ha h,fun t ht=>?_,fun n hn=>?_,?_⟩
 ·obtain⟨u,_,rfl⟩:=List.mem_map.1 ht;rfl
 ·obtain⟨n,rfl⟩:∃k,n=k+1:=⟨n-1,by omega⟩
  rw[ha,UE hN hl (rest:=[]) (by simp) ho.gd (L:=L) (D:=fun _=>[]) hfew (hL.ref n (by omega)) (fun t ht=>by
   obtain⟨_,_,_,hr⟩:=h.tr t ht
   exact⟨hr.gd,hr.ne,ho.apart hr⟩) (fun hh=>absurd rfl hh)]
  congr 1
  have:∀L:List TD,L.flatMap (WX (decide (([]:List A2)=[])) fun _=>[])=L.map fun t=>(t.1,[t.2]):=by
   intro L
   induction L with
   |nil=>rfl
   |cons a L ih=>rw[W3,ih];rfl
  rw[this,J0,J0];rfl
 intro p0 pre kids b0 s0 h1' ha' hk hal gb gs hap hb n hn;obtain⟨n,rfl⟩:∃k,n=k+2:=⟨n-2,by omega⟩
 have hl0:p0.cQ.length=pre.length+1:=by rw[ha',ha];simp
 rw[Ny hN hl (q:=q) (L:=L) (E:=fun t=>[Kg (sk kids s0 (wr 0 t))]) gb gs (fun _=>hap) (by omega) (by simp_all) (by rintro(⟨_,h⟩|⟨h,_⟩)<;>omega) (by rw[hk,ha',ha];exact Ap0 rfl (by rw[←ha,←ha'];exact hal)) (by rw[A1 (by omega),←hb];exact hL.prg _ (by omega)) (fun t ht=>by
  obtain⟨_,_,_,hr⟩:=h.tr t ht
  exact⟨hr.gd,hr.ne⟩) (fun t ht _=>by
  rw[VW (by omega) (by rw[G8,BE];omega) (by rw[G8,BE];omega)]
  rfl)]
 congr 1
 rw[J0,J0]
 have:∀L':List TD,(∀t∈L',t∈L)→L'.flatMap (fun t=>if T7 s0 t.1=true then[]else[Kg (sk kids s0 (wr 0 t))])=L'.map (Kg∘sk kids s0∘wr 0):=by
  intro L'
  induction L' with
  |nil=>intro _;rfl
  |cons a L' ih=>
   intro hm;obtain⟨_,_,_,hr⟩:=h.tr a (hm a (by simp));have hA:O1 s0 a.1:=fun x hx y hy=>ho.apart hr x (by rw[hb];exact M5.2 (.inr hx)) y hy;rw[W3,ih fun t ht=>hm t (by simp[ht]),A0 (by rw[U8.2 hA];simp)];rfl
 simp_all
def AH0 {N:Nat} (hN:Bgn N) {l:List A8} (hl:l.length≤10) (hchk:Al l=0) {p q:A2} {rest:List A2} (h1:p.Op=1) (hne:rest≠[]) (ha:p.cQ=q::rest) (hw:FF p) (hpp:p.pre.length≤64) (hs:Hp l.length p) {b:List PR} {f:Nat} (ho:Lk l b f) {L:List TD} {m:Nat} (h:TL l q b f L) (hL:Qt N l q b f m L) {F:TD→List TD}
 (hF:∀t∈L,∀g:Nat,T9 t.1+1=(g:Int)→Wx N l {p with cQ:=rest} (mrg b t.1) g m (F t)):Wx N l p b f (m+1) (L.flatMap fun t=>(F t).map (jn t)):=by
 have hqm:q∈p.cQ:=by rw[ha];simp
 have hpq:=K7 hqm;have hps:=Sx ha;have hal:=V5 p;have hfew:=h.few hl hchk (hw.arg hqm) (by omega) (hs.arg hqm) ho;have hwr:FF {p with cQ:=rest}:=hw.sub (by omega) (by omega) (fun x hx=>by rw[ha];simp[hx]) hne;have hsr:Hp l.length {p with cQ:=rest}:=hs.tail (by omega) ha
 have hg:∀t∈L,∃g:Nat,T9 t.1+1=(g:Int)∧Wx N l {p with cQ:=rest} (mrg b t.1) g m (F t)∧Lk l (mrg b t.1) (g:Int):=by
  intro t ht;obtain⟨_,_,_,hr⟩:=h.tr t ht;obtain⟨g,hg,_,_⟩:=SD hr ho.f0;exact⟨g,hg,hF t ht g hg,by rw[←hg];exact ho.next hr⟩
 refine⟨⟨fun t ht=>?_,Bd6 h.nd fun t ht=>?_⟩,fun t ht=>?_,fun n hn=>?_,?_⟩
 ·obtain⟨t,htL,ht⟩:=List.mem_flatMap.1 ht;obtain⟨u,hu,rfl⟩:=List.mem_map.1 ht;obtain⟨g,hg1,hg2,_⟩:=hg t htL;have c:=hg2.tl.tr u hu
  rw[hg2.k u hu,←hg1]at c
  exact Bf4 hl hchk hw hpp h1 ha ho (h.tr t htL) c
 ·obtain⟨g,hg1,hg2,_⟩:=hg t ht;exact⟨hg2.tl.nd,hg2.k⟩
 ·obtain⟨t,htL,ht⟩:=List.mem_flatMap.1 ht;obtain⟨u,hu,rfl⟩:=List.mem_map.1 ht;rfl
 ·obtain⟨n,rfl⟩:∃k,n=k+1:=⟨n-1,by omega⟩
  rw[ha,UE hN hl (rest:=rest) (by rw[ha,G7]at hal;omega) ho.gd (L:=L) (D:=fun t=>(F t).map fun u=>(u.1,u.2.Kids)) hfew (hL.ref n (by omega)) (fun t ht=>by
   obtain⟨_,_,_,hr⟩:=h.tr t ht
   exact⟨hr.gd,hr.ne,ho.apart hr⟩) (fun _ t ht=>by
   obtain⟨_,_,_,hr⟩:=h.tr t ht;obtain⟨g,hg1,hg2,hg3⟩:=hg t ht;have hfewF:=hg2.tl.few hl hchk hwr (by omega) hsr hg3;refine⟨?_,by rw[D4];exact hfewF,fun c hc=>?_⟩
   ·rw[hg1,hg2.ref n (by omega),J0]
    congr 1
    refine X3 fun u hu=>?_;simp only[Function.comp,TS,GS];rw[←hg2.k u hu]
   obtain⟨u,hu,rfl⟩:=List.mem_map.1 hc;obtain⟨_,_,hz,hr2⟩:=hg2.tl.tr u hu
   rw[←hg1]at hr2
   have hul:=hr2.gd.len;have:u.1.length*({p with cQ:=rest}:A2).pre.length≤10*64:=S4 (by omega) (by omega);have:=Xr (L:=u.2.Kids);have:=Fd u.2
   exact⟨hr2.gd,(hr.seq hr2).2,by grind⟩)]
  congr 1
  rw[Da,Da];refine Ip fun t ht=>?_;unfold WX;rw[A0 (by grind),J0,J0,J0];rfl
 intro p0 pre kids b0 s0 h1' ha' hk hal0 gb gs hap hb n hn;obtain⟨n,rfl⟩:∃k,n=k+1:=⟨n-1,by omega⟩;have hrl:=List.length_pos_iff.2 hne
 have hl0:p0.cQ.length=pre.length+rest.length+1:=by rw[ha',ha];simp;omega
 have hA:∀t∈L,O1 s0 t.1∧O1 b0 t.1∧Gd l t.1:=by
  intro t ht;obtain⟨_,_,_,hr⟩:=h.tr t ht;exact⟨fun x hx y hy=>ho.apart hr x (by rw[hb];exact M5.2 (.inr hx)) y hy,fun x hx y hy=>ho.apart hr x (by rw[hb];exact M5.2 (.inl hx)) y hy,hr.gd⟩
 rw[Ny hN hl (q:=q) (L:=L) (E:=fun t=>((F t).map (sk (kids++[t.2]) (mrg s0 t.1))).map Kg) gb gs (fun _=>hap) (by omega) (by simp_all) (by rintro(⟨_,h⟩|⟨h,_⟩)<;>omega) (by rw[hk,ha',ha];exact Ap0 rfl (by rw[←ha,←ha'];exact hal0)) (by rw[A1 (by omega),←hb];exact hL.prg _ (by omega)) (fun t ht=>by
  obtain⟨_,_,_,hr⟩:=h.tr t ht
  exact⟨hr.gd,hr.ne⟩) (fun t ht hA0=>by
  obtain⟨g,hg1,hg2,hg3⟩:=hg t ht;obtain⟨a1,a2,a3⟩:=hA t ht;rw[A1 (by omega),hg1]
  exact hg2.prg p0 (pre++[q]) (kids++[t.2]) b0 (mrg s0 t.1) h1' (by rw[ha',ha];simp) (by simp[hk]) hal0 gb (gs.mrg a3 a1) (fun x hx y hy=>(M5.1 hy).elim (fun h=>hap x hx y h) fun h=>a2 x hx y h) (by rw[hb,EX gb.asc gs.asc a3.asc hap a2 a1]) n (by omega))]
 congr 1
 rw[Da,Da];refine Ip fun t ht=>?_;obtain⟨a1,a2,a3⟩:=hA t ht;rw[A0 (by rw[U8.2 a1];simp),J0,J0,J0];refine X3 fun u hu=>?_;obtain⟨g,hg1,hg2,hg3⟩:=hg t ht;obtain⟨_,_,_,hr⟩:=h.tr t ht;obtain⟨_,_,_,hr2⟩:=hg2.tl.tr u hu;have a4:=hg3.apart hr2;simp only[Function.comp,sk,jn,Kg];rw[EX gs.asc a3.asc hr2.gd.asc a1 (fun x hx y hy=>a4 x (M5.2 (.inl (by rw[hb];exact M5.2 (.inr hx)))) y hy) (fun x hx y hy=>a4 x (M5.2 (.inr hx)) y hy)];simp
def YP {N:Nat} (hN:Bgn N) {l:List A8} (hl:l.length≤10) (hchk:Al l=0) {k:Nat} (ih:IHT N l k):∀(args:List A2) (p:A2) (b:List PR) (f:Nat),p.Op=1→p.cQ=args→args≠[]→FF p→p.pre.length≤64→Hp l.length p→Lk l b f→(∀q∈args,∀g,mu l q g≤k)→∃L,Wx N l p b f (8*k+8+args.length) L
 |[],p,b,f,_,_,h,_,_,_,_,_=>absurd rfl h
 |[q],p,b,f,h1,ha,_,hw,hpp,hs,ho,hk=>by
  have hqm:q∈p.cQ:=by rw[ha];simp
  have hpq:=K7 hqm;obtain⟨L,g1,g2⟩:=ih q b f (hk q (by simp) f) (by omega) (hw.arg hqm) (hs.arg hqm) ho;exact⟨_,AT4 hN hl hchk h1 ha hw hpp hs ho g1 g2⟩
 | q ::q'::r,p,b,f,h1,ha,_,hw,hpp,hs,ho,hk=>by
  have hqm:q∈p.cQ:=by rw[ha];simp
  have hpq:=K7 hqm;have hps:=Sx ha;obtain⟨L,g1,g2⟩:=ih q b f (hk q (by simp) f) (by omega) (hw.arg hqm) (hs.arg hqm) ho
  have hex:∀t:TD,∃F,t∈L→∀g:Nat,T9 t.1+1=(g:Int)→Wx N l {p with cQ:=q'::r} (mrg b t.1) g (8*k+8+(q'::r).length) F:=by
   intro t
   by_cases ht:t∈L
   ·obtain⟨_,_,_,hr⟩:=g1.tr t ht;obtain⟨g,hg,_,_⟩:=SD hr ho.f0;obtain⟨F,hF⟩:=YP hN hl hchk ih (q'::r) {p with cQ:=q'::r} (mrg b t.1) g h1 rfl (by simp) (hw.sub (by omega) (by omega) (fun x hx=>by rw[ha];simp_all) (by simp)) (by omega) (hs.tail (by omega) ha) (by rw[←hg];exact ho.next hr) (fun x hx g=>hk x (Dc _ hx) g)
    exact⟨F,fun _ g' hg'=>by
     grind⟩
   simp_all
  obtain⟨F,hF⟩:=Jf hex;exact⟨_,AH0 (m:=8*k+8+(q'::r).length) hN hl hchk h1 (by simp) ha hw hpp hs ho g1 (g2.mono (by omega)) hF⟩
def Rv {l:List A8} (hl:l.length≤4096) (hchk:Al l=0) {p q:A2} (h4:p.Op=4) (hq:∀i,K6 p 0 i=q) (hwq:FF q) (hpq:q.pre.length≤64) {b t:List PR} {f:Int} (ho:Lk l b f) (ht:Hj l f t):
 ∀(ks:List A4) (i:Nat) (u:List PR),(∀k∈ks,Fa k≤4096)→(∀k∈ks,FV k q=0)→(u=[]∨Hj l (T9 t+1) u)→
  Cs l ks p 0 (i+1) b f (mrg t u)=(Cs l ks p 0 i (mrg b t) (T9 t+1) u).map (mrg t ·)
 |[],i,u,_,_,_=>by rw[Cs,Cs];rfl
 | k::ks,i,u,hz,hk,hu=>by
  have hbt:=ho.apart ht;have ho2:Lk l (mrg b t) (T9 t+1):=ho.next ht;have au:UT u:=hu.elim (fun h=>h▸List.Pairwise.nil) fun h=>h.gd.asc;have btu:O1 (mrg b t) u:=hu.elim (fun h=>h▸fun _ _ y hy=>absurd hy BC) fun h=>ho2.apart h;have bu:O1 b u:=fun x hx y hy=>btu x (M5.2 (.inl hx)) y hy;have tu:O1 t u:=fun x hx y hy=>btu x (M5.2 (.inr hx)) y hy;have c1:Cz p:=.inr h4
  have rtu:Hj l f (mrg t u):=by
   rcases hu with rfl|hu
   ·rw[X5];exact ht
   exact(ht.seq hu).1
  have hlst:T9 (mrg t u)=if u≠[]then T9 u else T9 t:=by
   by_cases hu0:u=[]
   ·rw[A0 (fun h=>h hu0),hu0,X5]
   rw[A1 hu0];exact TW (.inr ht) (f:=f) (by rw[A1 ht.ne];simp_all)
  have eo:Ea p b (mrg t u)=Ea p (mrg b t) u:=by
   unfold Ea;rw[A1 c1,A1 c1,EX ho.gd.asc ht.gd.asc au hbt bu tu]
  have ef:Bi p f (mrg t u)=Bi p (T9 t+1) u:=by
   unfold Bi;rw[A1 ⟨c1,SC ht.ne⟩,hlst]
   grind
  have hk0:=hk k (by simp);rw[Y0,Y0,Ve,Ve,hq,hq,←eo,←ef]
  cases hv:Lr l k q (Ea p b (mrg t u)) (Bi p f (mrg t u))with
  |none=>rfl
  | some x=>
   simp only[A3];have hx:=WJ hl hchk (hz k (by simp)) hwq hpq hk0 (PM ho (.inr rtu)) hv
   have hge:∀y∈mrg t u,∀z∈x,y.At<z.At:=by
    intro y hy z hz';have:=IB rtu.gd.asc y hy;have h9:=hx.ge z hz'
    unfold Bi at h9
    rw[A1 ⟨c1,SC ht.ne⟩]at h9
    omega
   have a1:O1 (mrg t u) x:=fun y hy z hz'=>by have:=hge y hy z hz';omega
   have a2:O1 u x:=fun y hy z hz'=>a1 y (M5.2 (.inr hy)) z hz';have a3:O1 t x:=fun y hy z hz'=>a1 y (M5.2 (.inl hy)) z hz';rw[A0 (by rw[U8.2 a1];simp),A0 (by rw[U8.2 a2];simp)];simp only[A3];rw[EX ht.gd.asc au hx.gd.asc tu a3 a2];refine Rv hl hchk h4 hq hwq hpq ho ht ks (i+1) (mrg u x) (fun k' hk'=>hz k' (by simp[hk'])) (fun k' hk'=>hk k' (by simp[hk'])) (.inr ?_)
   have hx2:Hj l (Bi p (T9 t+1) u) x:=by rw[←ef];exact hx
   exact PG hu hx2 (U8.2 a2)
def Yz {p q:A2} (hq:∀i,K6 p 0 i=q):∀(ks:List A4) (i:Nat),BN ks p 0 i=0↔∀k∈ks,FV k q=0
 |[],i=>by rw[BN];simp
 |k::ks,i=>by
  rw[BN,hq]
  by_cases h:FV k q=0
  ·rw[A1 h,Yz hq ks (i+1)];simp[h]
  simp_all
def AV1 {l:List A8} (hl:l.length≤10) (hchk:Al l=0) {p q:A2} (hw:FF p) (hpp:p.pre.length≤64) (h4:p.Op=4) (ha:p.cQ=[q]) {b:List PR} {f:Int} (ho:Lk l b f) {t:TD} {s:List PR} {ks:List A4}
 (ht:FV t.2 q=0∧Lr l t.2 q b f=some t.1∧Fa t.2≤t.1.length*q.pre.length∧Hj l f t.1)
 (hc:FV ⟨⟨0,0,0⟩,0,ks⟩ p=0∧Lr l ⟨⟨0,0,0⟩,0,ks⟩ p (mrg b t.1) (T9 t.1+1)=some s∧Fa ⟨⟨0,0,0⟩,0,ks⟩≤s.length*p.pre.length∧Hj l (T9 t.1+1) s):
 FV ⟨⟨0,0,0⟩,0,t.2::ks⟩ p=0∧Lr l ⟨⟨0,0,0⟩,0,t.2::ks⟩ p b f=some (mrg t.1 s)∧Fa ⟨⟨0,0,0⟩,0,t.2::ks⟩≤(mrg t.1 s).length*p.pre.length∧Hj l f (mrg t.1 s):=by
 obtain⟨t1,t2,t3,t4⟩:=ht;obtain⟨c1,c2,c3,c4⟩:=hc
 have hqm:q∈p.cQ:=by rw[ha];simp
 have hpq:=K7 hqm
 have aq:∀i,K6 p 0 i=q:=fun i=>by simp_all[K6]
 have hr:=t4.seq c4;have hlt:=t4.gd.len;have hls:=c4.gd.len;have hsz1:t.1.length*q.pre.length≤t.1.length*p.pre.length:=LY _ (by omega);have hsz2:s.length*p.pre.length≤10*64:=S4 (by omega) (by omega)
 have hkz:∀k∈ks,Fa k≤4096:=fun k hk=>by have:=Dt hk;grind[Fa]
 have hsu:∀k∈ks,FV k q=0:=by
  intro k hk;obtain⟨i,hi,rfl⟩:=List.mem_iff_getElem.1 hk;have:=(Du c1).k i hi
  rwa[aq]at this
 refine⟨?_,?_,?_,hr.1⟩
 ·rw[Ia]
  dsimp only
  rw[A0 (by
   omega),A0 (by omega),A0 (by simp_all[FM])]
  rw[Yz aq]
  simp_all
 ·rw[HZ,A0 (by omega)]
  dsimp only
  rw[Y0,Ve,aq]
  have e1:Ea p b []=b:=by unfold Ea;rw[A1 (.inr h4),X5]
  have e2:Bi p f []=f:=by simp[Bi]
  rw[e1,e2,t2];simp only[A3];rw[A0 (by simp[T7]),DN];simp only[A3];have hsh:=Rv (by omega) hchk h4 aq (hw.arg hqm) (by omega) ho t4 ks 0 [] hkz hsu (.inl rfl)
  rw[X5]at hsh
  rw[hsh]
  rw[HZ,A0 (by omega)]at c2
  simp_all
 simp only[Fa,FK]at *
 rw[KV,E2];omega
def e0T:TD:=([],⟨⟨0,0,0⟩,0,[]⟩)
def Ah2 (L:List TD)(F:TD→List TD):List TD:=L.flatMap fun t=>(e0T::F t).map (jn t)
def Ag8 {N:Nat} (hN:Bgn N) {l:List A8} (hl:l.length≤10) {n:Nat} {p q:A2} (ha:p.cQ=[q]) {b:List PR} {f:Int} (gb:Gd l b) {L:List TD} {F:TD→List TD} (hLn:L.length≤4096) (hL:P4 N n q l b f=some (L.map GS)) (hg:∀t∈L,Gd l t.1∧t.1≠[]∧O1 b t.1)
 (hD:∀t∈L,DI N n p l (mrg b t.1) (T9 t.1+1)=some ((F t).map GS)∧(F t).length≤4096∧∀c∈F t,Gd l c.1∧O1 t.1 c.1∧c.2.Kids.length≤4096):
 DI N (n+1) p l b f=some ((Ah2 L F).map GS):=by
 have hbl:=gb.len;rw[DI,ha];have h0:B9 [q] 0=some q:=rfl;rw[h0];simp only[A3];rw[hL];simp only[A3]
 refine DV (m:=L.length) (fun i acc=>(acc,(i:Int))) (fun i acc=>acc=(Ah2 (L.take i) F).map GS∧acc.length≤i*4097) (fun acc=>acc) (t0:=[]) rfl (by omega) ⟨by simp[Ah2],by simp⟩ (fun i hi acc ⟨ha,hal⟩=>?_) (fun acc _=>by
  dsimp only
  rw[A0 (K4 (by rw[B0,D4];omega))]) (fun acc hacc=>by rw[hacc.1,X2])
 have hgt:(L.map GS)[i]? =some (GS L[i]):=by rw[S5,C0 hi];rfl
 have hmem:=E4 hi;obtain⟨g1,g2,g3⟩:=hg _ hmem;have hlen:=g1.len;have hi2:i*4097≤4096*4097:=G3 _ (by omega)
 have ea:ar .add .i64 (i:Int) 1=((i+1:Nat):Int):=by rw[D0 (by omega) (by omega)];omega
 obtain⟨k1,k2,k3⟩:=hD _ hmem;refine⟨acc++((e0T::F L[i]).map (jn L[i])).map GS,?_,by unfold Ah2;rw[Kw hi,N1,ha];rfl,by rw[G8,D4,D4,G7,E2,U0];omega⟩
 dsimp only
 rw[A1 (T8 (by rw[D4];omega)),E1,hgt];simp only[A3];have e1:(GS L[i]).s=L[i].1:=rfl;have e2:(GS L[i]).d=L[i].2:=rfl;obtain⟨x1,hx1,_,ex1⟩:=Gc g2;have hlst:=g1.lst g2;rw[S1 (by simp;omega)];simp only[A3];rw[e1,e2,Ks hN (by omega),MF _ (B1 _) gb.asc g1.asc,A1 g3,Qb g2 (by omega),hx1];simp only[A3];rw[←ex1,D0 (by omega) (by omega),k1];simp only[A3]
 have e0:(⟨L[i].1,⟨⟨0,0,0⟩,0,[L[i].2]⟩⟩:B4)=GS (jn L[i] e0T):=by
  unfold GS jn e0T
  dsimp only
  rw[X5]
 rw[e0]
 refine DV (m:=(F L[i]).length) (fun j acc'=>(acc',(j:Int))) (fun j acc'=>acc'=acc++[GS (jn L[i] e0T)]++(((F L[i]).take j).map fun c=>GS (jn L[i] c))) (fun acc'=>acc') (t0:=acc++[GS (jn L[i] e0T)]) rfl (by omega) (by simp) (fun j hj acc' hacc=>?_) (fun acc' _=>by
  dsimp only
  rw[A0 (K4 (by rw[B0,D4];omega))]) (fun acc' hacc=>by
  rw[hacc,X2,ea,D9,D9,J0]
  simp_all)
 have hcm:=E4 hj;obtain⟨c1,c2,c3⟩:=k3 _ hcm;have hcl:=c1.len
 have hct:((F L[i]).map GS)[j]? =some (GS (F L[i])[j]):=by rw[S5,C0 hj];rfl
 have hal':acc'.length≤100000000:=by rw[hacc];simp;omega
 refine⟨acc'++[GS (jn L[i] (F L[i])[j])],?_,by rw[Aw hj,N1,←E7,←hacc];rfl⟩
 dsimp only
 rw[A1 (T8 (by rw[D4];omega)),E1,hct];simp only[A3];have e3:(GS (F L[i])[j]).s=(F L[i])[j].1:=rfl;have e4:(GS (F L[i])[j]).d.Kids=(F L[i])[j].2.Kids:=rfl;rw[e3,e4,Ks hN (by omega),MF _ (B1 _) g1.asc c1.asc,A1 c2];simp only[A3];rw[S1 (by simp;omega)];simp only[A3];rw[S1 (by simp;omega)];simp only[A3];rw[D0 (by omega) (by omega)];rfl
end
end Go.Ab
