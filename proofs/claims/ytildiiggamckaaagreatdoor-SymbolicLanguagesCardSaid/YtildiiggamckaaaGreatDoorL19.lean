/- GLL6 GLL7 GLL8 GLL9 GLL10 GLL11 GLL12 GLL13 GLL14 GLL15 GLU1 GLM1 GLU5 GLU2 GLU3 GLU4 -/
import Derived.Test.YtildiiggamckaaaGreatDoorL18
set_option linter.all false
open Go.Ab.Ar (ar cmp)
namespace Go.Ab
def Qt :List A4→Prop
 |[]=>True
 |x::l=>(-1099511627776≤x.Low∧x.Low≤x.dC∧x.dC≤1099511627776)∧(∀y∈l,x.dC+2≤y.Low)∧Qt l
theorem Ia {x:A4} {l:List A4} {n:Int}:KU (x::l) n↔(x.Low≤n∧n≤x.dC)∨KU l n:=by
 constructor
 ·rintro⟨y,hy,h⟩
  rcases List.mem_cons.1 hy with rfl|hy
  ·exact .inl h
  exact .inr ⟨y,hy,h⟩
 rintro(h|⟨y,hy,h⟩)
 ·exact⟨x,by simp,h⟩
 exact⟨y,by simp[hy],h⟩
theorem OF {n:Int}:¬KU [] n:=fun⟨_,h,_⟩=>by cases h
theorem SC {l m:List A4}{n:Int}:KU (l++m) n↔KU l n∨KU m n:=by
 induction l with
 |nil=>simp[OF]
 |cons x l ih=>rw[Fg,Ia,Ia,ih,or_assoc]
theorem YP.ord :∀{l:List A4},YP l→Qt l:=by
 intro l
 induction l with
 |nil=>exact fun _=>trivial
 |cons x l ih=>
  intro hs;refine⟨hs.2.1 x (by simp),fun y hy=>?_,ih ⟨by have:=hs.1;simp at this;omega,fun z hz=>hs.2.1 z (by simp[hz]),fun i a b ha hb=>hs.2.2 (i+1) a b (by simpa using ha) (by simpa using hb)⟩⟩;obtain⟨k,hk⟩:=M3 hy;exact OY hs k 0 x y rfl (by simpa[IS]using hk)
theorem Qt.srt' :∀{l:List A4},Qt l→∀x∈l, -1099511627776≤x.Low∧x.Low≤x.dC∧x.dC≤1099511627776
 |_::_,h,x,hx=>by
  rcases List.mem_cons.1 hx with rfl|hx
  ·exact h.1
  exact Qt.srt' h.2.2 x hx
theorem Qt.srt :∀{l:List A4},Qt l→l.length≤256→YP l:=by
 intro l
 induction l with
 |nil=>exact fun _ _=>⟨by simp,fun x hx=>(by cases hx),fun i x y hx=>by simp at hx⟩
 | cons x l ih=>
  rintro⟨h1,h2,h3⟩ hl;obtain⟨k1,k2,k3⟩:=ih h3 (by simp at hl;omega);refine⟨hl,fun y hy=>?_,fun i a b ha hb=>?_⟩
  ·rcases List.mem_cons.1 hy with rfl|hy
   ·exact h1
   exact k2 y hy
  cases i with
  |zero=>simp at ha hb;subst ha;exact h2 b (I7 hb)
  |succ i=>exact k3 i a b (by simpa using ha) (by simpa using hb)
theorem Qt.lo {x:A4}{l:List A4}(h:Qt (x::l)){n:Int}(hn:KU (x::l) n):x.Low≤n:=by
 rcases Ia.1 hn with h'|⟨y,hy,h'⟩
 ·exact h'.1
 have:=h.2.1 y hy;have:=h.1;omega
theorem Qt.above {x:A4}{l:List A4}(h:Qt (x::l)){n:Int}(hn:KU l n):x.dC+2≤n:=by
 obtain⟨y,hy,h'⟩:=hn;have:=h.2.1 y hy;omega
end Go.Ab
namespace Go.Ab
end Go.Ab
namespace Go.Ab
theorem HY {S R α:Type} {l:List α} {step:S→Option (S⊕R)} {Q:R→Prop} (I:Nat→S→Prop)
 (hs:∀(i:Nat) x s,l[i]? =some x→i<l.length→I i s→∃s',step s=some (.inl s')∧I (i+1) s')
 (he:∀s,I l.length s→∃r,step s=some (.inr r)∧Q r) {s0:S} (h0:I 0 s0) {N:Nat} (hN:l.length<N):∃r,loopN step N s0=some r∧Q r:=by
 have key:∀(k i N:Nat) (s:S),i+k=l.length→k<N→I i s→∃r,loopN step N s=some r∧Q r:=by
  intro k
  induction k with
  |zero=>
   intro i N s hi hN hI;obtain⟨N,rfl⟩:∃M,N=M+1:=⟨N - 1,by omega⟩
   rw[show i=l.length by omega]at hI
   obtain⟨r,h1,h2⟩:=he s hI;exact⟨r,by simp only[loopN,h1],h2⟩
  |succ k ih=>
   intro i N s hi hN hI;obtain⟨N,rfl⟩:∃M,N=M+1:=⟨N - 1,by omega⟩
   have hlt:i<l.length:=by omega
   obtain⟨s',h1,h2⟩:=hs i _ s (E2 hlt) hlt hI;obtain⟨r,h3,h4⟩:=ih (i+1) N s' (by omega) (by omega) h2;exact⟨r,by simp only[loopN,h1];exact h3,h4⟩
 exact key l.length 0 N s0 (by omega) hN h0
theorem As {α:Type}{l m:List α}(h:l.length+m.length≤1073741824):N5 l m=some (l++m):=by unfold N5;rw[A2 h]
end Go.Ab
namespace Go.Ab
end Go.Ab
namespace Go.Ab
end Go.Ab
namespace Go.Ab
theorem sub1 {i:Nat}(h:i+1<1000000000000):ar .sub .i64 ((i+1:Nat):Int) 1=(i:Int):=by
 show IntKind.wrap .i64 (((i+1:Nat):Int) - 1)=_
 rw[Fp (by omega) (by omega)];omega
end Go.Ab
namespace Go.Ab
end Go.Ab
namespace Go.Ab
def Bnd (x:A4):Prop:= -1099511627776≤x.Low∧x.Low≤x.dC∧x.dC≤1099511627776
theorem TV {l:List A4} {x:A4} (h:Qt l) (hx:Bnd x) (hl:∀y∈l,y.dC+2≤x.Low):Qt (l++[x]):=by
 induction l with
 |nil=>exact⟨hx,fun y hy=>(by cases hy),trivial⟩
 |cons a l ih=>
  refine⟨h.1,fun y hy=>?_,ih h.2.2 fun y hy=>hl y (by simp[hy])⟩
  rcases List.mem_append.1 hy with hy|hy
  ·exact h.2.1 y hy
  simp at hy;subst hy;exact hl a (by simp)
theorem TW {l:List A4} {x:A4} (h:Qt (l++[x])):Qt l∧Bnd x∧∀y∈l,y.dC+2≤x.Low:=by
 induction l with
 |nil=>exact⟨trivial,h.1,fun y hy=>by cases hy⟩
 |cons a l ih=>
  obtain⟨i1,i2,i3⟩:=ih h.2.2;refine⟨⟨h.1,fun y hy=>h.2.1 y (by simp[hy]),i1⟩,i2,fun y hy=>?_⟩
  rcases List.mem_cons.1 hy with rfl|hy
  ·exact h.2.1 x (by simp)
  exact i3 y hy
structure Jnd (acc:List A4) (x:A4) (out:List A4):Prop where
 ord:Qt out
 len:out.length≤acc.length+1
 low:∀y∈out,y.Low≤x.Low
 inl:∀n,KU out n↔KU acc n∨(x.Low≤n∧n≤x.dC)
theorem Xi {acc:List A4} {x:A4} (ho:Qt acc) (hb:Bnd x) (h:∀y∈acc,y.dC+1<x.Low):Jnd acc x (acc++[x]):=by
 refine⟨TV ho hb fun y hy=>by have:=h y hy;omega,by simp,fun y hy=>?_,fun n=>?_⟩
 ·rcases List.mem_append.1 hy with hy|hy
  ·have:=h y hy;have:=ho.srt' y hy;omega
  simp at hy;subst hy;exact N2 _
 rw[SC,Ia];simp[OF]
theorem Ac0 {init:List A4} {x y:A4} {hi:Int} (ho:Qt (init++[y])) (hb:Bnd x) (hl:y.Low≤x.Low) (h:x.Low≤y.dC+1)
 (hh:hi=if y.dC<x.dC then x.dC else y.dC):Jnd (init++[y]) x (init++[⟨y.Low,hi⟩]):=by
 obtain⟨i1,i2,i3⟩:=TW ho
 unfold Bnd at i2 hb
 have e:y.dC≤hi∧x.dC≤hi∧(hi=x.dC∨hi=y.dC):=by
  subst hh
  split<;>omega
 refine⟨TV i1 ⟨by simp only;omega,by simp only;omega,by simp only;omega⟩ i3,by simp,fun z hz=>?_,fun n=>?_⟩
 ·rcases List.mem_append.1 hz with hz|hz
  ·have:=i3 z hz;have:=i1.srt' z hz;omega
  simp at hz;subst hz;exact hl
 rw[SC,Ia,SC,Ia,or_assoc];simp only[OF,or_false];refine or_congr Iff.rfl ?_;omega
theorem Ac5 {α:Type}{l:List α}{x:α}:Eh (l++[x]) (l.length:Int)=true:=by
 unfold Eh;simp only[I6,Gr,C2];omega
theorem Xv {α:Type}{l:List α}{x:α}:(l++[x])[l.length]? =some x:=by simp
theorem Zj {α:Type}{l:List α}{x:α}{u:α→α}:CM (l++[x]) (l.length:Int) u=some (l++[u x]):=by
 unfold CM;rw[I0,Xv];simp
theorem At6 {α:Type}{l:List α}{x:α}(h:l.length≤1000000):ar .sub .i64 (((l++[x]).length:Nat):Int) 1=(l.length:Int):=by
 rw[I6];exact sub1 (by omega)
theorem Ya {N:Nat}{acc:List A4}{x:A4}(ho:Qt acc)(hb:Bnd x)(hl:∀y∈acc,y.Low≤x.Low)(hn:acc.length≤1000000):
 ∃out,BJ N acc x=some out∧Jnd acc x out:=by
 unfold BJ
 rcases List.eq_nil_or_concat acc with rfl|⟨init,y,rfl⟩
 ·refine⟨[x],?_,Xi (acc:=[]) ho hb fun y hy=>by cases hy⟩;rw[As (by simp)];rfl
 rw[List.concat_eq_append]at *
 have hn':init.length≤1000000:=by simp at hn;omega
 obtain⟨i1,i2,i3⟩:=TW ho;have hy:=hl y (by simp)
 unfold Bnd at i2
 simp only[U3,KQ,E4,At6 hn',Ac5,DK,C7,A6,I0,Xv,Zj,C2];rw[A2 (by simp),O7 (by omega) (by omega)]
 by_cases h:x.Low≤y.dC+1
 ·rw[A2 h];exact⟨_,rfl,Ac0 ho hb hy h (At2 _ _)⟩
 rw[A3 h,As (by simp;omega)];refine⟨_,rfl,Xi ho hb fun z hz=>?_⟩
 rcases List.mem_append.1 hz with hz|hz
 ·have:=i3 z hz;have:=i1.srt' z hz;omega
 simp at hz;subst hz;omega
end Go.Ab
namespace Go.Ab
end Go.Ab
namespace Go.Ab
open Go.Lib
theorem UM {zs:List Int} (h:zs.Pairwise (· ≤ ·)):(Lib.compact zs).Pairwise (· < ·):=by
 have at_:∀i,(hi:i<zs.length)→zs.toArray[i]! =zs[i]:=fun i hi=>by simp[hi]
 have key:∀m,m≤zs.length→(compactUpTo zs.toArray m).Pairwise (· < ·)∧∀x∈compactUpTo zs.toArray m,0<m∧x≤zs.toArray[m - 1]! :=by
  intro m
  induction m with
  |zero=>intro _;exact⟨by simp[compactUpTo],fun x hx=>by simp[compactUpTo]at hx⟩
  | succ m ih=>
   intro hm;obtain⟨h1,h2⟩:=ih (by omega)
   have hle:0<m→zs.toArray[m - 1]! ≤zs.toArray[m]! :=fun h0=>by
    rw[at_ (m - 1) (by omega),at_ m (by omega)];exact(List.pairwise_iff_getElem.1 h) (m - 1) m (by omega) (by omega) (by omega)
   rw[compactUpTo_succ]
   by_cases hk:keeps zs.toArray m=true
   ·rw[A2 hk]
    have hlt:∀x∈compactUpTo zs.toArray m,x<zs.toArray[m]! :=fun x hx=>by
     obtain⟨h0,h3⟩:=h2 x hx;have h4:=hle h0
     have:zs.toArray[m]! ≠zs.toArray[m - 1]! :=fun e=>by
      rw[keeps_neg h0 e]at hk;cases hk
     omega
    refine⟨List.pairwise_append.2 ⟨h1,by simp,fun x hx y hy=>?_⟩,fun x hx=>⟨by omega,?_⟩⟩
    ·simp only[J2]at hy;subst hy;exact hlt x hx
    rw[Nat.add_sub_cancel]
    rcases List.mem_append.1 hx with hx|hx
    ·have:=hlt x hx;omega
    simp only[J2]at hx;subst hx;exact N2 _
   rw[A3 hk,H7];refine⟨h1,fun x hx=>⟨by omega,?_⟩⟩;obtain⟨h0,h3⟩:=h2 x hx;have:=hle h0;rw[Nat.add_sub_cancel];omega
 exact(key zs.length (D1 _)).1
theorem An7 (zs:List Int):(Lib.compact zs).length≤zs.length:=by
 unfold Lib.compact Lib.compactUpTo;rw[Q7];exact Z6 (Hf ..) (by simp)
theorem Uh {zs:List Int} {x:Int}:x∈Lib.compact zs↔x∈zs:=by
 unfold Lib.compact Lib.compactUpTo;rw[Dy]
 constructor
 ·rintro⟨j,hj,rfl⟩;have hj:=List.mem_range.1 (List.mem_filter.1 hj).1;simp[hj]
 intro hx;obtain⟨i,hi,rfl⟩:=List.mem_iff_getElem.1 hx
 have key:∀(n i:Nat) (hi:i<zs.length),i≤n→∃a,a∈(List.range zs.length).filter (keeps zs.toArray)∧zs.toArray[a]! =zs[i]:=fun n=>by
  induction n with
  |zero=>
   intro i hi h
   have:i=0:=by omega
   subst this;exact⟨0,List.mem_filter.2 ⟨List.mem_range.2 hi,keeps_lt_one _ 0 (by omega)⟩,by simp[hi]⟩
  |succ n ih=>
   intro i hi h
   by_cases hk:keeps zs.toArray i=true
   ·exact⟨i,List.mem_filter.2 ⟨List.mem_range.2 hi,hk⟩,by simp[hi]⟩
   by_cases h0:i=0
   ·subst h0;exact absurd (keeps_lt_one _ 0 (by omega)) hk
   obtain⟨a,ha,e⟩:=ih (i - 1) (by omega) (by omega);refine⟨a,ha,e.trans ?_⟩;have h2:zs.toArray[i]! =zs.toArray[i - 1]! :=Classical.not_not.1 fun hne=>hk (keeps_pos hne)
   have e1:zs.toArray[i]! =zs[i]:=by simp[hi]
   have e2:zs.toArray[i - 1]! =zs[i - 1]:=by simp[show i - 1<zs.length by omega]
   rw[←e1,←e2,h2]
 exact key i i hi (D1 _)
theorem Yi {l r:List Int}(h:NO l=some r){x:Int}:x∈r↔x∈l:=by
 obtain⟨_,rfl⟩:=Ln h;exact(List.mergeSort_perm l _).mem_iff
theorem YE {l r:List Int}(h:NO l=some r):r.Pairwise (· ≤ ·)∧r.length=l.length:=by
 obtain⟨_,rfl⟩:=Ln h;have hs:=ND (le:=fun x y:Int=>decide (x≤y)) (fun a b c=>by simp;omega) (fun a b=>by simp;omega) l;exact⟨hs.imp fun h=>by simpa using h,Nx ..⟩
def Np (l:List A4):List Int:=l.flatMap fun x=>[x.Low,x.dC+1]
theorem Ka {l:List A4}{n:Int}:n∈Np l↔∃x∈l,n=x.Low∨n=x.dC+1:=by
 unfold Np;simp
theorem UC (l:List A4):(Np l).length=2*l.length:=by
 induction l with
 |nil=>rfl
 |cons x l ih=>unfold Np at *;simp at *;omega
theorem Wm {N:Nat} {a b:List A4} (h:a.length+b.length≤100000) (hN:10<N):L4 N [a,b]=some (a++b):=by
 obtain⟨M,rfl⟩:∃M,N=M+3:=⟨N - 3,by omega⟩;have e0:ar .add .i64 (0:Int) 1=1:=rfl;have e1:ar .add .i64 (1:Int) 1=2:=rfl
 have e2:ar .add .i64 (0:Int) (a.length:Int)=(a.length:Int):=by rw[O7 (by omega) (by omega)];omega
 have e3:ar .add .i64 (a.length:Int) (b.length:Int)=((a.length+b.length:Nat):Int):=by rw[O7 (by omega) (by omega)];omega
 have i0:D0 [a,b] 0=some a:=rfl;have i1:D0 [a,b] 1=some b:=rfl;have l2:Ar.len [a,b]=(2:Int):=rfl
 have g:M5 (M+3) [] ((a.length+b.length:Nat):Int)=some []:=by
  unfold M5 Kj;rw[A2 (by omega)]
 unfold L4
 simp only[loopN,l2,D5,i0,i1,e0,e1,e2,e3,E4,A6,show decide ((0:Int)<2)=true from rfl,show decide ((1:Int)<2)=true from rfl,show decide ((2:Int)<2)=false from rfl,C7,F6,E3,
  show decide ((a.length:Int)<0)=false from Dh (by omega),show decide (((a.length+b.length:Nat):Int)<0)=false from Dh (by omega),g,As (l:=([]:List A4)) (m:=a) (by simp;omega),P4,As (l:=a) (m:=b) (by omega)]
theorem Yv {N:Nat} {l:List A4} (hb:∀x∈l,Bnd x) (hl:l.length≤100000) (hN:l.length<N):loopN
 (fun(s3:Int×(List Int))=>
  (
   if cmp .lss s3.1 (Ar.len l)=true then
    (D0 l s3.1).bind fun x6=>
    (N5 s3.2 ([x6.Low,ar .add .i64 x6.dC 1])).bind fun l8=>
    some (.inl (ar .add .i64 s3.1 1,l8))
   else
    some (.inr s3.2)
   :Option ((Int×(List Int))⊕(((List Int))))))
 N (0,([]:List Int))=some (Np l):=by
 obtain⟨r,h1,h2⟩:=HY (N:=N) (l:=l) (Q:=fun(r:List Int)=>r=Np l)
  (I:=fun i (t:Int×List Int)=>t.1=(i:Int)∧t.2=Np (l.take i))
  (s0:=((0:Int),([]:List Int)))
  (step:=fun(s3:Int×(List Int))=>
   (
    if cmp .lss s3.1 (Ar.len l)=true then
     (D0 l s3.1).bind fun x6=>
     (N5 s3.2 ([x6.Low,ar .add .i64 x6.dC 1])).bind fun l8=>
     some (.inl (ar .add .i64 s3.1 1,l8))
    else
     some (.inr s3.2)
    :Option ((Int×(List Int))⊕(((List Int))))))
  (fun i x t hx hi ⟨e1,e2⟩=>by
   obtain⟨j,acc⟩:=t
   simp only at e1 e2
   subst e1;subst e2;have hxb:=hb x (I7 hx)
   unfold Bnd at hxb
   have hln:(Np (l.take i)).length≤200000:=by rw[UC,Br];omega
   simp only[D5,E4,I0,hx,A6,C2];rw[A2 (by omega),O6 hi (by omega),As (by simp;omega),O7 (by omega) (by omega)];refine⟨_,rfl,rfl,?_⟩
   have e:l.take (i+1)=l.take i++[x]:=by rw[Jk,hx];rfl
   rw[e];simp[Np])
  (fun t ⟨e1,e2⟩=>by
   obtain⟨j,acc⟩:=t
   simp only at e1 e2
   subst e1;subst e2;simp only[D5,E4,C2];rw[A3 (by omega),Jd]
   exact⟨_,rfl,rfl⟩) ⟨rfl,by simp[Np]⟩ hN
 rw[h1,h2]
theorem Uo {l:List A4} {E:List Int} {i:Nat} {p q n:Int} (hE:∀x∈l,x.Low∈E∧x.dC+1∈E) (hasc:E.Pairwise (· < ·)) (hp:E[i]? =some p) (hq:E[i+1]? =some q) (h1:p≤n) (h2:n<q):KU l n↔KU l p:=by
 have gap:∀m∈E,m≤n↔m≤p:=fun m hm=>by
  obtain⟨k,hk⟩:=M3 hm;have hkl:=(List.getElem?_eq_some_iff.1 hk);have hpl:=(List.getElem?_eq_some_iff.1 hp);have hql:=(List.getElem?_eq_some_iff.1 hq);obtain⟨a1,a2⟩:=hkl;obtain⟨b1,b2⟩:=hpl;obtain⟨c1,c2⟩:=hql
  constructor
  ·intro h
   rcases H6 i k with h'|h'
   ·have:q≤m:=by
     by_cases e:k=i+1
     ·subst e;omega
     have:=(List.pairwise_iff_getElem.1 hasc) (i+1) k c1 a1 (by omega);omega
    omega
   by_cases e:k=i
   ·subst e;omega
   have:=(List.pairwise_iff_getElem.1 hasc) k i a1 b1 (by omega);omega
  intro h;omega
 unfold KU
 constructor
 ·rintro⟨x,hx,k1,k2⟩;obtain⟨g1,g2⟩:=hE x hx;refine⟨x,hx,(gap _ g1).1 k1,?_⟩;have:=gap _ g2;omega
 rintro⟨x,hx,k1,k2⟩;obtain⟨g1,g2⟩:=hE x hx;refine⟨x,hx,(gap _ g1).2 k1,?_⟩;have:=gap _ g2;omega
theorem Zq {N:Nat} {a b:List A4} {bel:Bool→Bool→Option Bool} {f:Bool→Bool→Bool} (hf:∀x y,bel x y=some (f x y)) (hff:f false false=false)
 (ha:YP a) (hb:YP b) (hN:2000<N) {P:Int→Prop} (hP:∀n x y,(x=true↔KU a n)→(y=true↔KU b n)→(f x y=true↔P n)):
 ∃r,Cu N a b bel=some r∧Qt r∧r.length≤2*(a.length+b.length)∧∀n,KU r n↔P n:=by
 have hal:=ha.1;have hbl:=hb.1
 have hbd:∀x∈a++b,Bnd x:=fun x hx=>by
  rcases List.mem_append.1 hx with hx|hx
  ·exact ha.2.1 x hx
  exact hb.2.1 x hx
 unfold Cu;rw[Wm (by omega) (by omega)];simp only[A6];rw[Yv hbd (by simp;omega) (by simp;omega)];simp only[A6]
 have hel:(Np (a++b)).length=2*(a.length+b.length):=by rw[UC,I6]
 obtain⟨S,hS⟩:∃S,NO (Np (a++b))=some S:=⟨_,by unfold NO;rw[A2 (by omega)]⟩;obtain⟨hasc,hSl⟩:=YE hS
 have hC:Kp S=some (Lib.compact S):=by unfold Kp;rw[A2 (by omega)]
 unfold Cn AU;rw[hS];simp only[A6,hC];have hEasc:=UM hasc;have hEl:=An7 S;have hEm:∀m,m∈Lib.compact S↔m∈Np (a++b):=fun m=>Uh.trans (Yi hS)
 generalize Lib.compact S=E at hEasc hEl hEm
 have hEa:∀x∈a,x.Low∈E∧x.dC+1∈E:=fun x hx=>⟨(hEm _).2 (Ka.2 ⟨x,by simp[hx],.inl rfl⟩),(hEm _).2 (Ka.2 ⟨x,by simp[hx],.inr rfl⟩)⟩;have hEb:∀x∈b,x.Low∈E∧x.dC+1∈E:=fun x hx=>⟨(hEm _).2 (Ka.2 ⟨x,by simp[hx],.inl rfl⟩),(hEm _).2 (Ka.2 ⟨x,by simp[hx],.inr rfl⟩)⟩
 have hEbd:∀m∈E, -1099511627776≤m∧m≤1099511627777:=fun m hm=>by
  obtain⟨x,hx,e⟩:=Ka.1 ((hEm m).1 hm);have:=hbd x hx
  unfold Bnd at this
  omega
 have noB:∀n,¬KU a n→¬KU b n→¬P n:=fun n h1 h2 h=>by
  have:=(hP n false false (by simp[h1]) (by simp[h2])).2 h
  rw[hff]at this;cases this
 obtain⟨r,h1,h2⟩:=HY (N:=N) (l:=List.range (E.length - 1)) (Q:=fun(r:List A4)=>Qt r∧r.length≤E.length∧∀n,KU r n↔P n)
  (I:=fun i (t:Int×List A4)=>t.1=(i:Int)∧Qt t.2∧t.2.length≤i∧(∀y∈t.2,∀p,E[i]? =some p→y.Low≤p)∧∀n,KU t.2 n↔(P n∧∃p,E[i]? =some p∧n<p))
  (s0:=((0:Int),([]:List A4)))
  (step:=fun(s14:Int×(List A4))=>
   (
    if cmp .lss (ar .add .i64 s14.1 1) (Ar.len E)=true then
     (DK (Eh E s14.1)).bind fun _=>
     (D0 E s14.1).bind fun x17=>
     (Y8 N a x17).bind fun r18=>
     (DK (Eh E s14.1)).bind fun _=>
     (D0 E s14.1).bind fun x19=>
     (Y8 N b x19).bind fun r20=>
     (bel r18 r20).bind fun r21=>
     if r21=true then
      (DK (Eh E s14.1)).bind fun _=>
      (D0 E s14.1).bind fun x22=>
      (DK (Eh E (ar .add .i64 s14.1 1))).bind fun _=>
      (D0 E (ar .add .i64 s14.1 1)).bind fun x23=>
      (BJ N s14.2 (⟨x22,ar .sub .i64 x23 1⟩:A4)).bind fun l24=>
      some (.inl (ar .add .i64 s14.1 1,l24))
     else
      some (.inl (ar .add .i64 s14.1 1,s14.2))
    else
     some (.inr s14.2)
    :Option ((Int×(List A4))⊕(((List A4))))))
  (fun i x t hx hi ⟨e1,e2,e3,e4,e5⟩=>by
   obtain⟨j,acc⟩:=t
   simp only at e1 e2 e3 e4 e5
   subst e1
   rw[S5]at hi
   have hp:=E2 (show i<E.length by omega);have hq:=E2 (show i+1<E.length by omega);have hpq:=(List.pairwise_iff_getElem.1 hEasc) i (i+1) (by omega) (by omega) (by omega);have bp:=hEbd _ (AG (show i<E.length by omega));have bq:=hEbd _ (AG (show i+1<E.length by omega))
   generalize E[i]=p at hp hpq bp
   generalize E[i+1]=q at hq hpq bq
   have in1:Eh E (i:Int)=true:=by unfold Eh;simp only[C2];omega
   have in2:Eh E ((i+1:Nat):Int)=true:=by unfold Eh;simp only[C2];omega
   obtain⟨va,k1,k2⟩:=Wa (N:=N) (n:=p) ha (by omega);obtain⟨vb,k3,k4⟩:=Wa (N:=N) (n:=p) hb (by omega)
   have hstep:∀n,p≤n→n<q→(P n↔P p):=fun n g1 g2=>by
    have:=hP n va vb (k2.trans (Uo hEa hEasc hp hq g1 g2).symm) (k4.trans (Uo hEb hEasc hp hq g1 g2).symm);exact this.symm.trans (hP p va vb k2 k4)
   simp only[D5,E4,C2];rw[O6 hi (by omega),A2 (by omega)];simp only[in1,in2,DK,C7,A6,I0,hp,hq,k1,k3,hf]
   by_cases hc:f va vb=true
   ·have hPp:=(hP p va vb k2 k4).1 hc;rw[A2 hc];have hsub:ar .sub .i64 q 1=q - 1:=Fp (by omega) (by omega);rw[hsub];obtain⟨out,o1,o2⟩:=Ya (N:=N) (acc:=acc) (x:=⟨p,q - 1⟩) e2 ⟨by simp only;omega,by simp only;omega,by simp only;omega⟩ (fun y hy=>e4 y hy p hp) (by omega);rw[o1];refine⟨_,rfl,rfl,o2.ord,by have:=o2.len;simp only;omega,fun y hy z hz=>?_,fun n=>?_⟩
    ·cases hz;have:=o2.low y hy
     simp only at this;omega
    rw[o2.inl,e5];simp only[hp,hq,D9,exists_eq_left']
    constructor
    ·rintro(⟨g1,g2⟩|⟨g1,g2⟩)
     ·exact⟨g1,by omega⟩
     exact⟨(hstep n g1 (by omega)).2 hPp,by omega⟩
    rintro⟨g1,g2⟩
    by_cases h:n<p
    ·exact .inl ⟨g1,h⟩
    exact .inr ⟨by omega,by omega⟩
   rw[A3 hc];have hPp:¬P p:=fun h=>hc ((hP p va vb k2 k4).2 h);refine⟨_,rfl,rfl,e2,by simp only;omega,fun y hy z hz=>?_,fun n=>?_⟩
   ·cases hz;have:=e4 y hy p hp;omega
   rw[e5];simp only[hp,hq,D9,exists_eq_left']
   constructor
   ·rintro⟨g1,g2⟩;exact⟨g1,by omega⟩
   rintro⟨g1,g2⟩;refine⟨g1,?_⟩
   rcases Int.lt_or_le n p with h|h
   ·exact h
   exact absurd ((hstep n h g2).1 g1) hPp)
  (fun t ⟨e1,e2,e3,e4,e5⟩=>by
   obtain⟨j,acc⟩:=t
   simp only at e1 e2 e3 e4 e5
   rw[S5]at e1 e3 e4 e5
   subst e1;have hinc:ar .add .i64 ((E.length - 1:Nat):Int) 1=((E.length - 1+1:Nat):Int):=O6 (n:=E.length+1) (by omega) (by omega);simp only[D5,E4,hinc,C2];rw[A3 (by omega)];refine⟨_,rfl,e2,by omega,fun n=>(e5 n).trans ⟨fun h=>h.1,fun h=>⟨h,?_⟩⟩⟩
   have above:∀x,x∈a∨x∈b→x.Low≤n→n≤x.dC→∃p,E[E.length - 1]? =some p∧n<p:=fun x hx g1 g2=>by
    have hm:x.dC+1∈E:=by rcases hx with hx|hx;exact(hEa x hx).2;exact(hEb x hx).2
    obtain⟨k,hk⟩:=M3 hm;obtain⟨a1,a2⟩:=List.getElem?_eq_some_iff.1 hk;refine⟨_,E2 (show E.length - 1<E.length by omega),?_⟩
    by_cases e:k=E.length - 1
    ·subst e;omega
    have:=(List.pairwise_iff_getElem.1 hEasc) k (E.length - 1) a1 (by omega) (by omega);omega
   by_cases g:KU a n
   ·obtain⟨x,hx,g1,g2⟩:=g;exact above x (.inl hx) g1 g2
   by_cases g':KU b n
   ·obtain⟨x,hx,g1,g2⟩:=g';exact above x (.inr hx) g1 g2
   exact absurd h (noB n g g'))
  ⟨rfl,trivial,by simp,fun y hy=>by simp at hy,fun n=>by
   simp only[OF,false_iff,not_and];rintro h ⟨p,hp,hn⟩
   have first:∀m∈E,p≤m:=fun m hm=>by
    obtain⟨k,hk⟩:=M3 hm;obtain⟨a1,a2⟩:=List.getElem?_eq_some_iff.1 hk;obtain⟨b1,b2⟩:=List.getElem?_eq_some_iff.1 hp
    by_cases e:k=0
    ·subst e;omega
    have:=(List.pairwise_iff_getElem.1 hEasc) 0 k b1 a1 (by omega);omega
   refine noB n ?_ ?_ h
   ·rintro⟨x,hx,g1,g2⟩;have:=first _ (hEa x hx).1;omega
   rintro⟨x,hx,g1,g2⟩;have:=first _ (hEb x hx).1;omega⟩ (by rw[S5];omega)
 rw[h1];obtain⟨h2,h3,h4⟩:=h2;exact⟨r,rfl,h2,by omega,h4⟩
end Go.Ab
namespace Go.Ab
theorem Mo {S R α β:Type} {l:List α} {step:S→Option (S⊕R)} (rep:Nat→List β→S) (g:α→List β) (fin:List β→R) (hg:∀x∈l,(g x).length≤1) (b0:List β)
 (hs:∀(i:Nat) x acc,l[i]? =some x→i<l.length→acc.length≤b0.length+i→step (rep i acc)=some (.inl (rep (i+1) (acc++g x))))
 (he:∀acc,acc.length≤b0.length+l.length→step (rep l.length acc)=some (.inr (fin acc))) {N:Nat} (hN:l.length<N) {s0:S} (e0:s0=rep 0 b0):loopN step N s0=some (fin (b0++l.flatMap g)):=by
 subst e0
 have key:∀(d i N:Nat) (acc:List β),i+d=l.length→d<N→acc.length≤b0.length+i→loopN step N (rep i acc)=some (fin (acc++(l.drop i).flatMap g)):=by
  intro d
  induction d with
  |zero=>
   intro i N acc hi hN ha;obtain⟨N,rfl⟩:∃m,N=m+1:=⟨N - 1,by omega⟩
   have e:i=l.length:=by omega
   subst e;rw[loopN,he acc ha,Je];simp
  |succ d ih=>
   intro i N acc hi hN ha;obtain⟨N,rfl⟩:∃m,N=m+1:=⟨N - 1,by omega⟩
   have hil:i<l.length:=by omega
   have hgx:=hg l[i] (AG hil);rw[loopN,hs i l[i] acc (E2 hil) hil ha];simp only[A6];rw[ih (i+1) N (acc++g l[i]) (by omega) (by omega) (by rw[I6];omega),Aa hil,DI,E7]
 have:=key l.length 0 N b0 (by omega) hN (by omega)
 rwa[IY]at this
theorem KP {N:Nat} {t:Int} {p:B3} (hN:300<N) (hp:IN t p=0):J9 N p=some p:=by
 obtain⟨_,h0⟩:=KB hp;obtain⟨hlen,hsrt⟩:=HV h0;unfold J9;simp only[E4,VN];rw[A2 (by omega)];simp only[A6,N3]
 obtain⟨r,h1,h2⟩:=HY (N:=N) (l:=p.cZ) (Q:=fun(t:List (List A4))=>t=p.cZ)
  (I:=fun i (t:Int×List (List A4))=>t.1=(i:Int)∧t.2=p.cZ.take i++List.replicate (p.cZ.length - i) [])
  (s0:=((0:Int),List.replicate p.cZ.length ([]:List A4)))
  (step:=fun(s4:Int×(List (List A4)))=>
   (
    if cmp .lss s4.1 (p.cZ.length:Int)=true then
     (D0 p.cZ s4.1).bind fun x7=>
     (K0 N x7).bind fun l8=>
     (DK (Eh s4.2 s4.1)).bind fun _=>
     (CM s4.2 s4.1 (fun x10:List A4=>l8)).bind fun l11=>
     some (.inl (ar .add .i64 s4.1 1,l11))
    else
     some (.inr s4.2)
    :Option ((Int×(List (List A4)))⊕(((List (List A4)))))))
  (fun i x t hx hi ⟨e1,e2⟩=>by
   obtain⟨j,T⟩:=t
   simp only at e1 e2
   subst e1;subst e2;have hxl:=(hsrt x (I7 hx)).1
   have ht:(p.cZ.take i).length=i:=by rw[Br];omega
   obtain⟨k,hk⟩:∃k,p.cZ.length - i=k+1:=⟨p.cZ.length - i - 1,by omega⟩
   have e4:K0 N x=some x:=by unfold K0;rw[As (by simp;omega)];rfl
   simp only[D5,C2];rw[A2 (by omega),I0,hx];simp only[A6];rw[e4,hk,Fj];simp only[A6]
   have e5:DK (Eh (p.cZ.take i++[]::List.replicate k ([]:List A4)) (i:Int))=some ():=by
    unfold DK Eh;rw[A2];simp;omega
   have e6:CM (p.cZ.take i++[]::List.replicate k ([]:List A4)) (i:Int) (fun x10:List A4=>x)=some (p.cZ.take i++x::List.replicate k []):=by
    unfold CM;rw[I0,Gt (by omega),ht,IT,N3]
    show some ((p.cZ.take i++[]::List.replicate k []).set i x)=_
    rw[List.set_append_right _ _ (by omega),ht,IT];rfl
   rw[e5];simp only[A6];rw[e6];simp only[A6];rw[O6 hi (by omega)];refine⟨_,rfl,rfl,?_⟩
   simp only
   rw[Jk,hx,show p.cZ.length - (i+1)=k by omega]
   simp)
  (fun t ⟨e1,e2⟩=>by
   obtain⟨j,T⟩:=t
   simp only at e1 e2
   subst e1;subst e2;simp only[D5,C2];rw[A3 (by omega)]
   exact⟨_,rfl,by simp⟩) ⟨rfl,by simp⟩ (by omega)
 rw[h1,h2];rfl
theorem KA {s:A0}:∀{u v:List B8} {i j:Nat},Ou s (u++v) i j↔∃k,Ou s u i k∧Ou s v k j
 |[],v,i,j=>⟨fun h=>⟨i,rfl,h⟩,fun⟨k,e,h⟩=>by have e:i=k:=e;subst e;exact h⟩
 |x::u,v,i,j=>by
  constructor
  ·rintro⟨m,hm,f,c,k,t,h⟩;obtain⟨l,h1,h2⟩:=KA.1 h;exact⟨l,⟨m,hm,f,c,k,t,h1⟩,h2⟩
  rintro⟨l,⟨m,hm,f,c,k,t,h1⟩,h2⟩;exact⟨m,hm,f,c,k,t,KA.2 ⟨l,h1,h2⟩⟩
theorem OB {s:A0}{x:B8}{i j:Nat}:Ou s [x] i j↔∃m∈s.cV,m.cX=(i:Int)∧Ni m.On x=true∧m.To=(j:Int):=by
 constructor
 ·rintro⟨m,hm,f,c,k,t,h⟩;have h:k=j:=h;subst h;exact⟨m,hm,f,c,t⟩
 rintro⟨m,hm,f,c,t⟩;exact⟨m,hm,f,c,j,t,rfl⟩
def Wx (s:A0)(w:List B8):Prop:=∃j,Ou s w 0 j∧s.cU[j]? =some true
theorem KT {s:A0}{w:List B8}(h0:Ol s=0)(hw:w.length≤4096)(hx:∀x∈w,Md s.cW x=0):∃b,R8 40000000 s w=some b∧(b=true↔Wx s w):=by
 obtain⟨r,e,_,hr,hok⟩:=Qr s w;have h2:=hok h0 hw hx;refine⟨r.1,?_,Ai1 hr h2⟩;unfold R8;simp only[e,A6,h2,Dv,EZ,AC,Bool.true_and]
theorem JS {s:A0}(h:GN s):Ol s=0:=by
 unfold Ol;rw[A3 (by have:=h.ty;omega),A3 (by have:=h.fi;have:=h.mv;omega)];refine Ax.2 fun i m hm=>?_;have:=h.each m (I7 hm);unfold Zv;rw[A2 this.1];exact this.2
end Go.Ab
namespace Go.Ab
def CnI (P:Int→Prop)(l:List A4):Prop:=Qt l∧l.length≤256∧∀n,KU l n↔P n
theorem Uq {N:Nat}{a b:List A4}{bel:Bool→Bool→Option Bool}{f:Bool→Bool→Bool}(hf:∀x y,bel x y=some (f x y))(hff:f false false=false)
 (ha:ck a=0) (hb:ck b=0) (hl:a.length+b.length≤100) (hN:2000<N) {P:Int→Prop} (hP:∀n x y,(x=true↔KU a n)→(y=true↔KU b n)→(f x y=true↔P n)):
 ∃r,V8 N a b bel=some (r,0)∧CnI P r∧r.length≤2*(a.length+b.length):=by
 obtain⟨r,h1,h2,h3,h4⟩:=Zq hf hff (SN ha) (SN hb) hN hP;refine⟨r,?_,⟨h2,by omega,h4⟩,h3⟩;unfold V8 EW Bd;simp only[Nj (show 256<N by omega),A6,ha,hb,X5,AC,Q5,F6,E3,h1,U3,E4,C2];rw[A3 (by omega)];rfl
theorem An3 {N n:Nat} {set:Int→Option (List A4×Int)} {Q:Nat→List A4→Prop} (h:∀i,i<n→∃r,set (i:Int)=some (r,0)∧Q i r) (hn:n≤100000) (hN:n<N):
 ∃R,AY N (n:Int) set=some (⟨R⟩,0)∧R.length=n∧∀(i:Nat) r,R[i]? =some r→Q i r:=by
 unfold AY
 obtain⟨r,h1,h2⟩:=HY (N:=N) (l:=List.range n) (Q:=fun(t:B3⊕(Int×B3))=>∃R,t= .inl ⟨R⟩∧R.length=n∧∀(i:Nat) r,R[i]? =some r→Q i r)
  (I:=fun i (t:Int×B3)=>t.1=(i:Int)∧t.2.cZ.length=i∧∀(k:Nat) r,t.2.cZ[k]? =some r→Q k r)
  (s0:=((0:Int),(⟨[]⟩:B3)))
  (step:=fun(s3:Int×B3)=>
   (
    if cmp .lss s3.1 (n:Int)=true then
     (set s3.1).bind fun r6=>
     if cmp .neq r6.2 0=true then
      some (.inr (.inr (r6.2,s3.2)))
     else
      (N5 s3.2.cZ ([r6.1])).bind fun l8=>
      some (.inl (ar .add .i64 s3.1 1,{s3.2 with cZ:=l8}))
    else
     some (.inr (.inl s3.2))
    :Option ((Int×B3)⊕(B3⊕(Int×B3)))))
  (fun i x t hx hi ⟨e1,e2,e3⟩=>by
   obtain⟨j,⟨S⟩⟩:=t
   simp only at e1 e2 e3
   subst e1
   rw[S5]at hi
   obtain⟨r,k1,k2⟩:=h i hi;simp only[D5,X5,k1,A6,C2,AC,Q5,F6,E3];rw[A2 (by omega),As (by simp;omega),O6 hi (by omega)];refine⟨_,rfl,rfl,by simp[e2],fun k z hz=>?_⟩
   simp only at hz
   by_cases hk:k<S.length
   ·rw[Bt hk]at hz;exact e3 k z hz
   have hkl:=(List.getElem?_eq_some_iff.1 hz).1
   simp at hkl
   have:k=S.length:=by omega
   subst this
   simp at hz;subst hz;rw[e2];exact k2)
  (fun t ⟨e1,e2,e3⟩=>by
   obtain⟨j,⟨S⟩⟩:=t
   simp only at e1 e2 e3
   rw[S5]at e1 e2
   subst e1;simp only[D5,C2];rw[A3 (by omega)]
   exact⟨_,rfl,S,rfl,e2,e3⟩) ⟨rfl,rfl,fun k r hr=>by simp at hr⟩ (by rw[S5];exact hN)
 rw[h1];obtain⟨R,rfl,h3,h4⟩:=h2;exact⟨R,rfl,h3,h4⟩
theorem WR {p:B3}(h:JP p=0){i:Nat}{a:List A4}(ha:p.cZ[i]? =some a):ck a=0:=by
 unfold JP IN at h
 split at h
 ·cases h
 rw[A3 (by simp)]at h
 exact Ax.1 h i a ha
theorem UN {N:Nat} {p q:B3} (hN:256<N):M8 N [p,q]=some (if JP p=0 then JP q else JP p):=by
 rw[Qa hN (by simp;omega) (by simp)];simp only[fb]
 split
 ·split
  ·rename_i h;rw[h]
  rfl
 rfl
theorem Ag3 {x:A4}(h: -1099511627776≤x.Low∧x.Low≤x.dC∧x.dC≤1099511627776):fm x=0:=by
 unfold fm;rw[A3 (by omega),A3 (by omega)]
theorem Ag4 {l:List A4} (h:YP l):ck l=0:=by
 unfold ck;rw[A3 (by have:=h.1;omega)];refine Ax.2 fun k x hx=>?_;unfold fiq;have hxb:=h.2.1 x (I7 hx);rw[A2 (Ag3 hxb)]
 split
 ·rename_i hk
  split
  ·rename_i y hy;have:=h.2.2 (k - 1) y x (by simpa using hy) (by rw[←hx];congr 1;omega);have hyb:=h.2.1 y (I7 hy);rw[O7 (by omega) (by omega),A3 (by omega)]
  rfl
 rfl
theorem YR {p:B3}(h0:1≤p.cZ.length∧p.cZ.length≤16)(h:∀x∈p.cZ,YP x):JP p=0:=by
 unfold JP IN;rw[A3 (by omega),A3 (by simp)];exact Ax.2 fun k x hx=>Ag4 (h x (I7 hx))
theorem QH {N:Nat} {a b:List A4} (ha:ck a=0) (hb:ck b=0) (hl:a.length+b.length≤100) (hN:100000<N):
 ∃r,N4 N a b=some (r,0)∧CnI (fun n=>KU a n∧KU b n) r:=by
 obtain⟨r,h1,h2,h3⟩:=Uq (N:=N) (bel:=fun y1 y2=>W7 N y1 y2) (f:=fun x y=>x&&y) (fun x y=>rfl) rfl ha hb hl (by omega) (P:=fun n=>KU a n∧KU b n) (fun n x y h k=>by
  rw[←h,←k,G8])
 refine⟨r,?_,h2⟩;unfold N4;rw[h1];rfl
theorem Aj8 {t:Int}{p:B3}(h:JP p=0)(ht:(p.cZ.length:Int)=t):IN t p=0:=by subst ht;exact h
def Af0 (p:B3):Prop:=∀x∈p.cZ,x.length≤12
theorem Aj7 {t:Int} {p q:B3} (hp:IN t p=0) (hq:IN t q=0) (sp:Af0 p) (sq:Af0 q):
 ∃r,AL 40000000 p q=some (r,0)∧IN t r=0∧∀x,Ni r x=true↔Ni p x=true∧Ni q x=true:=by
 obtain⟨lp,op⟩:=KB hp;obtain⟨lq,oq⟩:=KB hq;have hlen:=(HV op).1
 obtain⟨R,k1,k2,k3⟩:=An3 (N:=40000000) (n:=p.cZ.length) (set:=fun y1=>Z5 40000000 y1 (fun y1 y2=>N4 40000000 y1 y2) p q)
  (Q:=fun i r=>∀a b,p.cZ[i]? =some a→q.cZ[i]? =some b→CnI (fun n=>KU a n∧KU b n) r)
  (fun i hi=>by
   have ha:=E2 hi;have hb:=E2 (show i<q.cZ.length by omega);have:=sp _ (I7 ha);have:=sq _ (I7 hb);obtain⟨r,e1,e2⟩:=QH (N:=40000000) (WR op ha) (WR oq hb) (by omega) (by decide);refine⟨r,?_,fun a b ha' hb'=>?_⟩
   ·unfold Z5;simp only[I0,ha,hb,A6,e1]
   rw[ha]at ha';cases ha';rw[hb]at hb';cases hb'
   exact e2) (by omega) (by omega)
 refine⟨⟨R⟩,?_,Aj8 (YR (by show 1≤R.length∧R.length≤16;omega) fun x hx=>?_) (by show(R.length:Int)=t;omega),fun x=>?_⟩
 ·unfold AL DZ;rw[UN (by decide)];simp only[A6,X5,E4,op,oq,C7];have hd:decide ((p.cZ.length:Int)=(q.cZ.length:Int))=true:=Cj (by omega);simp only[hd,AC,Q5,F6,E3,k1,A6]
 ·obtain⟨i,hi⟩:=M3 hx;have hil:=(List.getElem?_eq_some_iff.1 hi).1;have hil:i<R.length:=hil;have:=k3 i x hi _ _ (E2 (show i<p.cZ.length by omega)) (E2 (show i<q.cZ.length by omega));exact this.1.srt this.2.1
 rw[HZ,HZ,HZ];unfold InP
 constructor
 ·rintro⟨h0,c,hc,hn⟩;have hil:=(List.getElem?_eq_some_iff.1 hc).1;have hil:x.Typ.toNat<R.length:=hil;have ha:=E2 (show x.Typ.toNat<p.cZ.length by omega);have hb:=E2 (show x.Typ.toNat<q.cZ.length by omega);have:=(k3 _ c hc _ _ ha hb).2.2 x.Num;obtain⟨n1,n2⟩:=this.1 hn;exact⟨⟨h0,_,ha,n1⟩,h0,_,hb,n2⟩
 rintro⟨⟨h0,a,ha,n1⟩,_,b,hb,n2⟩;have hil:=(List.getElem?_eq_some_iff.1 ha).1;have hc:R[x.Typ.toNat]? =some R[x.Typ.toNat]:=E2 (by omega);exact⟨h0,_,hc,((k3 _ _ hc _ _ ha hb).2.2 x.Num).2 ⟨n1,n2⟩⟩
end Go.Ab
namespace Go.Ab
noncomputable section
abbrev PS :=A0×List C9×List (C9×Int)
def prI (N:Nat) (i:Int) (m:C3) (s37:PS) (y36:C3):Option (PS⊕(A0×(List C9)×(List (C9×Int))×Int)):=
 (AL N m.On y36.On).bind fun r44=>
 if cmp .neq r44.2 0=true then
  some (.inr (s37.1,s37.2.1,s37.2.2,r44.2))
 else
  (N7 N r44.1).bind fun r45=>
  if r45=true then
   some (.inl (s37.1,s37.2.1,s37.2.2))
  else
   (Am s37.2.2 (⟨m.To,y36.To⟩:C9) (0:Int)).bind fun r46=>
   ((
    if Ar.nt r46.2=true then
     (AV s37.2.2 (⟨m.To,y36.To⟩:C9) (Ar.len s37.2.1)).bind fun l49=>
     (N5 s37.2.1 ([(⟨m.To,y36.To⟩:C9)])).bind fun l51=>
     some (Ar.len s37.2.1,l51,l49)
    else
     some (r46.1,s37.2.1,s37.2.2)
   ):Option ((Int×(List C9)×(List (C9×Int))))).bind fun s47=>
   (N5 s37.1.cV ([(⟨i,s47.1,r44.1⟩:C3)])).bind fun l55=>
   some (.inl ({s37.1 with cV:=l55},s47.2.1,s47.2.2))
def prO (N:Nat) (aD:A0) (i:Int) (e1:Int) (s27:PS) (y26:C3):Option (PS⊕(A0×(List C9)×(List (C9×Int))×Int)):=
 (J6 N aD e1).bind fun r34=>
 (G0 (fun(s37:PS) (y36:C3)=>prI N i y26 s37 y36) r34 (s27.1,s27.2.1,s27.2.2)).bind fun o43=>
 match o43 with
 | .inl s61=>
  some (.inl (s61.1,s61.2.1,s61.2.2))
 | .inr y65=>
  some (.inr (y65.1,y65.2.1,y65.2.2.1,y65.2.2.2))
def prR (N:Nat) (aC aD:A0) (s12:Int×PS) (x19:C9) (l23:List Bool):Option ((Int×PS)⊕((Int×PS)⊕(Int×A0×(List C9)×(List (C9×Int))×Int))):=
 (J6 N aC x19.E0).bind fun r24=>
 (G0 (fun(s27:PS) (y26:C3)=>prO N aD s12.1 x19.E1 s27 y26) r24 ({s12.2.1 with cU:=l23},s12.2.2.1,s12.2.2.2)).bind fun o33=>
 match o33 with
 | .inl s74=>
  if Ar.or (cmp .gtr (Ar.len s74.2.1) 256) (cmp .gtr (Ar.len s74.1.cV) 2048)=true then
   some (.inr (.inr (s12.1,s74.1,s74.2.1,s74.2.2,5)))
  else
   some (.inl (ar .add .i64 s12.1 1,s74.1,s74.2.1,s74.2.2))
 | .inr y79=>
  some (.inr (.inr (s12.1,y79.1,y79.2.1,y79.2.2.1,y79.2.2.2)))
def pqS (N:Nat) (aC aD:A0) (s12:Int×PS):Option ((Int×PS)⊕((Int×PS)⊕(Int×A0×(List C9)×(List (C9×Int))×Int))):=
 if cmp .lss s12.1 (Ar.len s12.2.2.1)=true then
  (D0 s12.2.2.1 s12.1).bind fun x19=>
  (D0 aC.cU x19.E0).bind fun x20=>
  if x20=true then
   (D0 aD.cU x19.E1).bind fun x21=>
   (N5 s12.2.1.cU ([x21])).bind fun l23=>prR N aC aD s12 x19 l23
  else
   (N5 s12.2.1.cU ([false])).bind fun l84=>prR N aC aD s12 x19 l84
 else
  some (.inr (.inl (s12.1,s12.2.1,s12.2.2.1,s12.2.2.2)))
theorem ZN (N:Nat) (a b:A0):AS N a b=(W0 N a b).bind fun r3=>
 if cmp .neq r3 0=true then
  some ((⟨0,[],[]⟩:A0),r3)
 else
  (AV ([]:List (C9×Int)) (⟨0,0⟩:C9) 0).bind fun l7=>
  (loopN (fun s12=>pqS N a b s12) N (0,(⟨a.cW,[],[]⟩:A0),[(⟨0,0⟩:C9)],l7)).bind fun s18=>
  match s18 with
  | .inl y144=>
   some (y144.2.1,0)
  | .inr y150=>
   some ((⟨0,[],[]⟩:A0),y150.2.2.2.2):=rfl
def MOk (M:List (C9×Int))(Q:List C9):Prop:=∀q v,(q,v)∈M↔∃k:Nat,v=(k:Int)∧Q[k]? =some q
theorem Am9 {M:List (C9×Int)} {Q:List C9} (h:MOk M Q) (q:C9):(∃k:Nat,Q[k]? =some q∧Am M q (0:Int)=some ((k:Int),true))∨(q∉Q∧Am M q (0:Int)=some (0,false)):=by
 unfold Am
 cases hf:M.find? (fun p=>decide (p.1=q))with
 |none=>
  refine .inr ⟨fun hq=>?_,rfl⟩;obtain⟨k,hk⟩:=M3 hq;have:=List.find?_eq_none.1 hf _ ((h q (k:Int)).2 ⟨k,rfl,hk⟩)
  simp at this
 |some p=>
  have h1:=Ez hf;have h2:=Fc hf
  simp only[C2]at h2
  obtain⟨p1,p2⟩:=p
  dsimp only at h2
  subst h2;obtain⟨k,rfl,hk⟩:=(h _ _).1 h1;exact .inl ⟨k,hk,rfl⟩
theorem Ai0 {M:List (C9×Int)} {Q:List C9} (h:MOk M Q) {q:C9} (hq:q∉Q):∃M',AV M q ((Q.length:Nat):Int)=some M'∧MOk M' (Q++[q]):=by
 refine⟨M++[(q,(Q.length:Int))],?_,fun q' v=>?_⟩
 ·unfold AV;rw[A3];simp only[DE,C2];rintro⟨p,hp,e⟩;obtain⟨k,_,hk⟩:=(h p.1 p.2).1 hp;exact hq (by rw[←e];exact I7 hk)
 rw[AF,J2,h]
 constructor
 ·rintro(⟨k,e,hk⟩|e)
  ·exact⟨k,e,by rw[Bt (List.getElem?_eq_some_iff.1 hk).1];exact hk⟩
  cases e;exact⟨Q.length,rfl,by simp⟩
 rintro⟨k,e,hk⟩
 by_cases hkl:k<Q.length
 ·rw[Bt hkl]at hk
  exact .inl ⟨k,e,hk⟩
 rw[Gt (by omega)]at hk
 have h0:k - Q.length=0:=by
  have:=(List.getElem?_eq_some_iff.1 hk).1
  simp at this;omega
 rw[h0]at hk
 simp at hk
 subst hk;exact .inr (by rw[e,show k=Q.length by omega])
def Snd (a b:A0)(Q:List C9)(z:C3):Prop:=∃(i k:Nat) (q q':C9),Q[i]? =some q∧Q[k]? =some q'∧z.cX=(i:Int)∧z.To=(k:Int)∧IN a.cW z.On=0∧∀x,Ni z.On x=true→(∃m∈a.cV,m.cX=q.E0∧m.To=q'.E0∧Ni m.On x=true)∧∃n∈b.cV,n.cX=q.E1∧n.To=q'.E1∧Ni n.On x=true
def Cmp (i:Nat)(m n:C3)(s:PS):Prop:=∀x,Ni m.On x=true→Ni n.On x=true→∃z∈s.1.cV,z.cX=(i:Int)∧Ni z.On x=true∧∃k:Nat,z.To=(k:Int)∧s.2.1[k]? =some ⟨m.To,n.To⟩
structure YQ (s t:PS):Prop where
 mv:∃u,t.1.cV=s.1.cV++u
 q:∃v,t.2.1=s.2.1++v
 ty:t.1.cW=s.1.cW
 fi:t.1.cU=s.1.cU
theorem YQ.refl (s:PS):YQ s s:=⟨⟨[],by simp⟩,⟨[],by simp⟩,rfl,rfl⟩
theorem YQ.trans {s t r:PS}(h:YQ s t)(g:YQ t r):YQ s r:=by
 obtain⟨u,hu⟩:=h.mv;obtain⟨u',hu'⟩:=g.mv;obtain⟨v,hv⟩:=h.q;obtain⟨v',hv'⟩:=g.q;exact⟨⟨u++u',by rw[hu',hu,E7]⟩,⟨v++v',by rw[hv',hv,E7]⟩,g.ty.trans h.ty,g.fi.trans h.fi⟩
theorem Iy {Q v:List C9}{k:Nat}{q:C9}(h:Q[k]? =some q):(Q++v)[k]? =some q:=by
 rw[Bt (List.getElem?_eq_some_iff.1 h).1];exact h
theorem Cmp.ext {i:Nat}{m n:C3}{s t:PS}(h:Cmp i m n s)(e:YQ s t):Cmp i m n t:=fun x h1 h2=>by
 obtain⟨z,hz,f,c,k,hk,hq⟩:=h x h1 h2;obtain⟨u,hu⟩:=e.mv;obtain⟨v,hv⟩:=e.q;exact⟨z,by rw[hu];exact P6 _ hz,f,c,k,hk,by rw[hv];exact Iy hq⟩
theorem Snd.ext {a b:A0}{Q v:List C9}{z:C3}(h:Snd a b Q z):Snd a b (Q++v) z:=by
 obtain⟨i,k,q,q',h1,h2,r⟩:=h;exact⟨i,k,q,q',Iy h1,Iy h2,r⟩
structure PW (a b:A0) (s:PS):Prop where
 nd:s.2.1.Nodup
 rg:∀q∈s.2.1,(0≤q.E0∧q.E0<(a.cU.length:Int))∧0≤q.E1∧q.E1<(b.cU.length:Int)
 mp:MOk s.2.2 s.2.1
 snd:∀z∈s.1.cV,Snd a b s.2.1 z
theorem ZY {n:Nat}:∀{l:List Nat},l.Nodup→(∀x∈l,x<n)→l.length≤n:=JT
theorem PW.len {a b:A0} {s:PS} (h:PW a b s):s.2.1.length≤a.cU.length*b.cU.length:=by
 have hn:(s.2.1.map fun q=>q.E0.toNat*b.cU.length+q.E1.toNat).Nodup:=by
  unfold List.Nodup;rw[Jl];refine Jv (fun{p q} hp hq hne e=>hne ?_) h.nd;have r1:=h.rg p hp;have r2:=h.rg q hq
  have hb:p.E1.toNat<b.cU.length:=by omega
  have hb':q.E1.toNat<b.cU.length:=by omega
  have d1:(p.E0.toNat*b.cU.length+p.E1.toNat) / b.cU.length=p.E0.toNat:=by
   rw[GQ,Nat.mul_add_div (by omega),Jg hb];omega
  have d2:(q.E0.toNat*b.cU.length+q.E1.toNat) / b.cU.length=q.E0.toNat:=by
   rw[GQ,Nat.mul_add_div (by omega),Jg hb'];omega
  have e0:p.E0.toNat=q.E0.toNat:=by rw[←d1,←d2,e]
  have e1:p.E1.toNat=q.E1.toNat:=by rw[e0]at e;omega
  obtain⟨p0,p1⟩:=p;obtain⟨q0,q1⟩:=q
  dsimp only at *
  rw[show p0=q0 by omega,show p1=q1 by omega]
 have:=ZY (n:=a.cU.length*b.cU.length) hn fun x hx=>by
  obtain⟨q,hq,rfl⟩:=List.mem_map.1 hx;have r:=h.rg q hq;have:(q.E0.toNat+1)*b.cU.length≤a.cU.length*b.cU.length:=J3 _ (by omega)
  rw[G2]at this
  omega
 simpa using this
structure AB (a b:A0):Prop where
 oa:GN a
 ob:GN b
 ty:a.cW=b.cW
 fa:a.cU.length≤8
 fb:b.cU.length≤8
 ma:a.cV.length≤16
 mb:b.cV.length≤16
 sa:∀m∈a.cV,Af0 m.On
 sb:∀m∈b.cV,Af0 m.On
theorem Aj6 {a b:A0} (hab:AB a b) {i:Nat} {q:C9} {s:PS} (hw:PW a b s) (hi:s.2.1[i]? =some q) (hl:s.1.cV.length≤100000) {m n:C3} (hm:m∈a.cV) (hmf:m.cX=q.E0) (hn:n∈b.cV) (hnf:n.cX=q.E1):
 ∃t,prI 40000000 (i:Int) m s n=some (.inl t)∧PW a b t∧YQ s t∧t.1.cV.length≤s.1.cV.length+1∧Cmp i m n t:=by
 obtain⟨pm1,pm2⟩:=hab.oa.each m hm;obtain⟨pn1,pn2⟩:=hab.ob.each n hn;obtain⟨r,e1,e2,e3⟩:=Aj7 pm2 (by rw[hab.ty];exact pn2) (hab.sa m hm) (hab.sb n hn);have hql:=hw.len;have hab2:a.cU.length*b.cU.length≤8*8:=AE hab.fa hab.fb;unfold prI;rw[e1];simp only[A6];rw[A3 (show¬cmp .neq (0:Int) 0=true by decide),Ma (by omega) e2];simp only[A6]
 by_cases hv:vd r=true
 ·rw[A2 hv];refine⟨_,rfl,hw,.refl s,by dsimp only;omega,fun x h1 h2=>?_⟩;have:=VY ((e3 x).2 ⟨h1,h2⟩)
  rw[this]at hv;cases hv
 rw[A3 hv]
 have key:∀(k:Nat) (Q':List C9) (M':List (C9×Int)) (v:List C9),(∀y∈v,y=⟨m.To,n.To⟩)→Q'=s.2.1++v→Q'[k]? =some ⟨m.To,n.To⟩→MOk M' Q'→Q'.Nodup→
  PW a b ({s.1 with cV:=s.1.cV++[⟨(i:Int),(k:Int),r⟩]},Q',M')∧YQ s ({s.1 with cV:=s.1.cV++[⟨(i:Int),(k:Int),r⟩]},Q',M')∧Cmp i m n ({s.1 with cV:=s.1.cV++[⟨(i:Int),(k:Int),r⟩]},Q',M'):=by
  rintro k Q' M' v hv2 rfl hk hM hnd;refine⟨⟨hnd,fun q' hq'=>?_,hM,fun z hz=>?_⟩,⟨⟨_,rfl⟩,⟨v,rfl⟩,rfl,rfl⟩,fun x h1 h2=>⟨⟨(i:Int),(k:Int),r⟩,by simp,rfl,(e3 x).2 ⟨h1,h2⟩,k,rfl,hk⟩⟩
  ·rcases List.mem_append.1 hq' with h|h
   ·exact hw.rg q' h
   rw[hv2 q' h];exact⟨pm1.2,pn1.2⟩
  rcases List.mem_append.1 hz with h|h
  ·exact(hw.snd z h).ext
  rw[J2]at h
  subst h;refine⟨i,k,q,⟨m.To,n.To⟩,Iy hi,hk,rfl,rfl,e2,fun x hx=>?_⟩;obtain⟨h1,h2⟩:=(e3 x).1 hx;exact⟨⟨m,hm,hmf,rfl,h1⟩,n,hn,hnf,rfl,h2⟩
 rcases Am9 hw.mp ⟨m.To,n.To⟩with⟨k,hk,eg⟩|⟨hnq,eg⟩
 ·rw[eg];simp only[A6,Bb,Q5,F6,E3];rw[As (by simp;omega)];simp only[A6];obtain⟨k1,k2,k3⟩:=key k s.2.1 s.2.2 [] (fun y h=>by cases h) (by simp) hk hw.mp hw.nd;exact⟨_,rfl,k1,k2,by simp,k3⟩
 rw[eg];simp only[A6,Bb,Z7,C7];obtain⟨M',em,hM'⟩:=Ai0 hw.mp hnq;rw[E4,em];simp only[A6];rw[As (by simp;omega)];simp only[A6];rw[As (by simp;omega)];simp only[A6]
 have hnd:(s.2.1++[(⟨m.To,n.To⟩:C9)]).Nodup:=by
  rw[Ex];exact⟨hw.nd,by simp,fun x hx y hy=>by rw[J2]at hy;subst hy;rintro rfl;exact hnq hx⟩
 obtain⟨k1,k2,k3⟩:=key s.2.1.length (s.2.1++[⟨m.To,n.To⟩]) M' [⟨m.To,n.To⟩] (fun y h=>List.mem_singleton.1 h) rfl (by simp) hM' hnd;exact⟨_,rfl,k1,k2,by simp,k3⟩
end
end Go.Ab
namespace Go.Ab
def KV (s:A0):List Bool:=(s.cU[0]?).getD false::true::List.replicate (s.cU.length - 1) false
def ZG (s:A0):List C3:=(s.cV.flatMap fun m=>if s.cU[m.To.toNat]? =some true then[(⟨0,m.cX+1,m.On⟩:C3)]else[])++s.cV.flatMap fun m=>[(⟨m.To+1,m.cX+1,m.On⟩:C3)]
def Ai7 (s:A0):A0:=⟨s.cW,KV s,ZG s⟩
theorem PD {N:Nat}{s:A0}(h1:s.cU.length≤256)(h2:s.cV.length≤2048):R4 N s=some (s,0):=by
 unfold R4;rw[A3 (by simp[U3,E4,Gz];omega)]
theorem GF {α β:Type} {l:List α} {g:α→List β} (hg:∀x∈l,(g x).length≤1):(l.flatMap g).length≤l.length:=by
 induction l with
 |nil=>simp
 |cons x l ih=>
  have:=ih fun y hy=>hg y (J7 _ hy);have:=hg x (by simp);rw[DI,I6,M2];omega
theorem VA {s:A0} (h0:Ol s=0) (hf:s.cU.length≤100) (hm:s.cV.length≤100):Z0 40000000 s=some (Ai7 s,0):=by
 have hs:=Gw h0;have hfi:=hs.fi;unfold Z0;rw[AW (by omega),h0];simp only[A6,X5,AC,Q5,F6,E3,E4];rw[O7 (by omega) (by omega)]
 have e1:VN ((s.cU.length:Int)+1) ((s.cU.length:Int)+1) (false:Bool)=some (List.replicate (s.cU.length+1) false):=by
  unfold VN;rw[A2 (by omega),show((s.cU.length:Int)+1).toNat=s.cU.length+1 by omega]
 obtain⟨k,hk⟩:∃k,s.cU.length=k+1:=⟨s.cU.length - 1,by omega⟩
 have e2:D0 s.cU 0=some ((s.cU[0]?).getD false):=by
  have:D0 s.cU ((0:Nat):Int)=s.cU[0]? :=I0
  rw[show((0:Nat):Int)=0 from rfl]at this
  rw[this,E2 (by omega)];rfl
 rw[e1,e2,hk,Fj,Fj];simp only[A6]
 have e3:∀(z:Bool) (l:List Bool),DK (Eh (z::l) 0)=some ():=fun z l=>by unfold DK Eh;rw[A2];simp
 have e4:∀(y z:Bool) (l:List Bool),DK (Eh (y::z::l) 1)=some ():=fun y z l=>by unfold DK Eh;rw[A2];simp;omega
 have e5:∀(u z:Bool) (l:List Bool),CM (z::l) 0 (fun _=>u)=some (u::l):=fun u z l=>rfl;have e6:∀(u y z:Bool) (l:List Bool),CM (y::z::l) 1 (fun _=>u)=some (y::u::l):=fun u y z l=>rfl;rw[e3];simp only[A6];rw[e5];simp only[A6];rw[e4];simp only[A6];rw[e6];simp only[A6];have hcp:∀{i:Nat} {m:C3},s.cV[i]? =some m→m∈s.cV∧J9 40000000 m.On=some m.On:=fun h=>⟨I7 h,KP (by omega) (hs.each _ (I7 h)).2⟩
 rw [Mo (l:=s.cV) (rep:=fun i (acc:List C3)=>((i:Int),(⟨s.cW,[],acc⟩:A0))) (g:=fun m=>if s.cU[m.To.toNat]? =some true then[(⟨0,m.cX+1,m.On⟩:C3)]else[]) (fin:=fun acc=>(⟨s.cW,[],acc⟩:A0)) (fun m _=>by split<;>simp) []
  (fun i m acc hx hi ha=>by
   obtain⟨hm1,hc⟩:=hcp hx;have hr:=(hs.each m hm1).1
   rw[Bq]at ha
   simp only[D5,C2];rw[A2 (by omega),I0,hx];simp only[A6];obtain⟨t,ht⟩:∃t:Nat,m.To=t:=⟨m.To.toNat,by omega⟩
   have htl:t<s.cU.length:=by omega
   rw[ht,I0,N3,E2 htl];simp only[A6];rw[O6 hi (by omega)]
   cases s.cU[t]with
   |true=>
    simp only[C7,hc,A6];rw[O7 (by omega) (by omega),As (by simp;omega)];rfl
   |false=>simp) (fun acc _=>by simp only[D5,C2];rw[A3 (by omega)]) (by omega) (by rfl)]
 simp only[A6,P4];have hl1:=GF (l:=s.cV) (g:=fun m=>if s.cU[m.To.toNat]? =some true then[(⟨0,m.cX+1,m.On⟩:C3)]else[]) (fun m _=>by split<;>simp);have hl2:=GF (l:=s.cV) (g:=fun m=>[(⟨m.To+1,m.cX+1,m.On⟩:C3)]) (fun m _=>by simp)
 rw[Mo (l:=s.cV) (rep:=fun i (acc:List C3)=>((i:Int),(⟨s.cW,[],acc⟩:A0))) (g:=fun m=>[(⟨m.To+1,m.cX+1,m.On⟩:C3)]) (fin:=fun acc=>(⟨s.cW,[],acc⟩:A0)) (fun m _=>by simp) (s.cV.flatMap fun m=>if s.cU[m.To.toNat]? =some true then[(⟨0,m.cX+1,m.On⟩:C3)]else[])
  (fun i m acc hx hi ha=>by
   obtain⟨hm1,hc⟩:=hcp hx;have hr:=(hs.each m hm1).1;simp only[D5,C2];rw[A2 (by omega),I0,hx];simp only[A6,hc];rw[O6 hi (by omega),O7 (by omega) (by omega),O7 (by omega) (by omega),As (by simp;omega)]
   rfl) (fun acc _=>by simp only[D5,C2];rw[A3 (by omega)]) (by omega) (by rfl)]
 simp only[A6]
 have ef:KV s=(s.cU[0]?).getD false::true::List.replicate k false:=by unfold KV;rw[hk];rfl
 rw[←ef];rw[PD (by show(KV s).length≤256;rw[ef];simp;omega) (by rw[I6];omega)];rfl
theorem Me {s:A0} {n:C3}:n∈ZG s↔(∃m∈s.cV,s.cU[m.To.toNat]? =some true∧n=⟨0,m.cX+1,m.On⟩)∨∃m∈s.cV,n=⟨m.To+1,m.cX+1,m.On⟩:=by
 unfold ZG;rw[AF,Di,Di]
 constructor
 ·rintro(⟨m,hm,h⟩|⟨m,hm,h⟩)
  ·split at h
   ·next hf=>exact .inl ⟨m,hm,hf,List.mem_singleton.1 h⟩
   cases h
  exact .inr ⟨m,hm,List.mem_singleton.1 h⟩
 rintro(⟨m,hm,hf,h⟩|⟨m,hm,h⟩)
 ·exact .inl ⟨m,hm,by rw[A2 hf,h];simp⟩
 exact .inr ⟨m,hm,by rw[h];simp⟩
theorem Ai5 {s:A0}(hs:GN s):(KV s).length=s.cU.length+1:=by
 have:=hs.fi;unfold KV;simp;omega
theorem As3 {s:A0}(hs:GN s)(hf:s.cU.length≤100)(hm:s.cV.length≤100):GN (Ai7 s):=by
 have hl:=Ai5 hs;have hl1:=GF (l:=s.cV) (g:=fun m=>if s.cU[m.To.toNat]? =some true then[(⟨0,m.cX+1,m.On⟩:C3)]else[]) (fun m _=>by split<;>simp);have hl2:=GF (l:=s.cV) (g:=fun m=>[(⟨m.To+1,m.cX+1,m.On⟩:C3)]) (fun m _=>by simp);refine⟨hs.ty,by show 1≤(KV s).length∧(KV s).length≤256;omega,by show(ZG s).length≤2048;unfold ZG;rw[I6];omega,fun n hn=>?_⟩
 show((0≤n.cX∧n.cX<((KV s).length:Int))∧0≤n.To∧n.To<((KV s).length:Int))∧IN s.cW n.On=0
 rcases Me.1 hn with⟨m,hm,_,rfl⟩|⟨m,hm,rfl⟩<;>(have:=hs.each m hm;exact⟨⟨by dsimp only;omega,by dsimp only;omega⟩,this.2⟩)
theorem Oz {s:A0} (hs:GN s):∀{w:List B8} {i j:Nat},Ou (Ai7 s) w (i+1) j↔∃k,j=k+1∧Ou s w.reverse k i
 |[],i,j=>⟨fun h=>by have h:i+1=j:=h;exact⟨i,h.symm,rfl⟩,fun⟨k,e,h⟩=>by have h:k=i:=h;subst h;exact e.symm⟩
 | x::w,i,j=>by
  rw[List.reverse_cons]
  constructor
  ·rintro⟨n,hn,f,c,k,t,h⟩
   rcases Me.1 hn with⟨m,hm,_,rfl⟩|⟨m,hm,rfl⟩
   ·dsimp only at f;omega
   have hr:=(hs.each m hm).1
   dsimp only at f t c
   obtain⟨k',hk'⟩:∃k':Nat,k=k'+1:=⟨k - 1,by omega⟩;subst hk';obtain⟨l,e,h2⟩:=(Oz hs).1 h;exact⟨l,e,KA.2 ⟨k',h2,OB.2 ⟨m,hm,by omega,c,by omega⟩⟩⟩
  rintro⟨l,rfl,h⟩;obtain⟨k,h1,h2⟩:=KA.1 h;obtain⟨m,hm,f,c,t⟩:=OB.1 h2;exact⟨⟨m.To+1,m.cX+1,m.On⟩,Me.2 (.inr ⟨m,hm,rfl⟩),by dsimp only;omega,c,k+1,by dsimp only;omega,(Oz hs).2 ⟨l,rfl,h1⟩⟩
theorem WL {s:A0}{j:Nat}:(KV s)[j+1]? =some true↔j=0:=by
 unfold KV
 cases j with
 |zero=>simp
 |succ j=>simp[Hh]
theorem Ai6 {s:A0} (hs:GN s) (w:List B8):Wx (Ai7 s) w↔Wx s w.reverse:=by
 unfold Wx
 cases w with
 | nil=>
  constructor
  ·rintro⟨j,h,hf⟩;have h:0=j:=h;subst h;refine⟨0,rfl,?_⟩;have hf:(KV s)[0]? =some true:=hf;have:=hs.fi
   unfold KV at hf
   have e0:s.cU[0]? =some (s.cU[0]'(by omega)):=E2 (by omega)
   rw[e0]at hf ⊢
   simpa using hf
  rintro⟨j,h,hf⟩;have h:0=j:=h;subst h;refine⟨0,rfl,?_⟩
  show(KV s)[0]? =some true
  unfold KV;rw[hf];rfl
 | cons x w=>
  rw[List.reverse_cons]
  constructor
  ·rintro⟨j,⟨n,hn,f,c,k,t,h⟩,hf⟩
   rcases Me.1 hn with⟨m,hm,hfm,rfl⟩|⟨m,hm,rfl⟩
   ·have hr:=(hs.each m hm).1
    dsimp only at t c
    obtain⟨k',hk'⟩:∃k':Nat,k=k'+1:=⟨k - 1,by omega⟩;subst hk';obtain⟨l,rfl,h2⟩:=(Oz hs).1 h;have hl:l=0:=WL.1 hf;subst hl;exact⟨m.To.toNat,KA.2 ⟨k',h2,OB.2 ⟨m,hm,by omega,c,by omega⟩⟩,hfm⟩
   have hr:=(hs.each m hm).1
   dsimp only at f;omega
  rintro⟨j,h,hf⟩;obtain⟨k,h1,h2⟩:=KA.1 h;obtain⟨m,hm,f,c,t⟩:=OB.1 h2;exact⟨1,⟨⟨0,m.cX+1,m.On⟩,Me.2 (.inl ⟨m,hm,by rw[t];exact hf,rfl⟩),rfl,c,k+1,by dsimp only;omega,(Oz hs).2 ⟨0,rfl,h1⟩⟩,WL.2 rfl⟩
end Go.Ab
namespace Go.Ab
theorem MF {α:Type} {N:Nat} (hN:4≤N) (x y z:List α) (h:x.length+y.length+z.length≤100000) (grow:List α→Int→Option (List α)) (hg:∀n,0≤n→n≤1073741824→grow [] n=some []):
 ((loopN (fun(s1:Int×Int)=>(if cmp .lss s1.2 (Ar.len [x,y,z])=true then(D0 [x,y,z] s1.2).bind fun x3=>if cmp .lss (ar .add .i64 s1.1 (Ar.len x3)) 0=true then none else some (.inl (ar .add .i64 s1.1 (Ar.len x3),ar .add .i64 s1.2 1))else some (.inr s1.1):Option ((Int×Int)⊕Int))) N (0,0)).bind fun s2=>
  (grow [] s2).bind fun l4=>(loopN (fun(s6:Int×List α)=>(if cmp .lss s6.1 (Ar.len [x,y,z])=true then(D0 [x,y,z] s6.1).bind fun x9=>(N5 s6.2 x9).bind fun l11=>some (.inl (ar .add .i64 s6.1 1,l11))else some (.inr s6.2):Option ((Int×List α)⊕List α))) N (0,l4)).bind fun s8=>some s8)=some (x++y++z):=by
 have e1:ar .add .i64 0 (x.length:Int)=x.length:=by rw[O7 (by omega) (by omega)];omega
 have e2:ar .add .i64 (x.length:Int) (y.length:Int)=x.length+y.length:=by rw[O7 (by omega) (by omega)]
 have e2':ar .add .i64 ((x.length:Int)+y.length) (z.length:Int)=x.length+y.length+z.length:=by rw[O7 (by omega) (by omega)]
 have e3:ar .add .i64 0 1=1:=by rw[O7 (by omega) (by omega)];rfl
 have e4:ar .add .i64 1 1=2:=by rw[O7 (by omega) (by omega)];rfl
 have e5:ar .add .i64 2 1=3:=by rw[O7 (by omega) (by omega)];rfl
 obtain⟨N,rfl⟩:∃M,N=M+4:=⟨N - 4,by omega⟩;have i0:D0 [x,y,z] 0=some x:=rfl;have i1:D0 [x,y,z] 1=some y:=rfl;have i2:D0 [x,y,z] 2=some z:=rfl;have c0:cmp .lss 0 (Ar.len [x,y,z])=true:=rfl;have c1:cmp .lss 1 (Ar.len [x,y,z])=true:=rfl;have c2:cmp .lss 2 (Ar.len [x,y,z])=true:=rfl;have c3:cmp .lss 3 (Ar.len [x,y,z])=false:=rfl
 have n1:cmp .lss (x.length:Int) 0=false:=by rw[D5];exact Dh (by omega)
 have n2:cmp .lss ((x.length:Int)+y.length) 0=false:=by rw[D5];exact Dh (by omega)
 have n3:cmp .lss ((x.length:Int)+y.length+z.length) 0=false:=by rw[D5];exact Dh (by omega)
 have hl:∀x:List α,Ar.len x=(x.length:Int):=fun x=>rfl;simp only[loopN,c0,C7,i0,A6,hl x,e1,n1,F6,E3,e3,c1,i1,hl y,e2,n2,e4,c2,i2,hl z,e2',n3,e5,c3];rw[hg _ (by omega) (by omega)];simp only[A6];rw[As (by simp;omega)];simp only[A6,e3,c1,C7,i1,P4];rw[As (by omega)];simp only[A6,e4,c2,C7,i2];rw[As (by rw[I6];omega)];simp only[A6,e5,c3,F6,E3]
theorem An9 {N:Nat}(hN:4≤N)(x y z:List Bool)(h:x.length+y.length+z.length≤100000):N8 N [x,y,z]=some (x++y++z):=MF hN x y z h _ fun n a b=>by unfold Y6 Kj;rw[A2 ⟨a,b⟩]
theorem An8 {N:Nat}(hN:4≤N)(x y z:List C3)(h:x.length+y.length+z.length≤100000):N9 N [x,y,z]=some (x++y++z):=MF hN x y z h _ fun n a b=>by unfold Y7 Kj;rw[A2 ⟨a,b⟩]
def SX (s:A0)(k:Int):List C3:=s.cV.flatMap fun m=>[(⟨m.cX+k,m.To+k,m.On⟩:C3)]
theorem Ox (s:A0)(k:Int):(SX s k).length≤s.cV.length:=GF fun m _=>by simp
theorem Kw {s:A0}{k:Int}{n:C3}:n∈SX s k↔∃m∈s.cV,n=⟨m.cX+k,m.To+k,m.On⟩:=by
 unfold SX;rw[Di];exact⟨fun⟨m,hm,h⟩=>⟨m,hm,List.mem_singleton.1 h⟩,fun⟨m,hm,h⟩=>⟨m,hm,by rw[h];simp⟩⟩
theorem Pf {s:A0} (h0:Ol s=0) (hm:s.cV.length≤100) {k:Nat} (hk:k≤1000):M4 40000000 s (k:Int)=some (SX s k):=by
 have hs:=Gw h0;unfold M4;simp only[E4]
 rw[Mo (l:=s.cV) (rep:=fun i (acc:List C3)=>(acc,(i:Int))) (g:=fun m=>[(⟨m.cX+(k:Int),m.To+(k:Int),m.On⟩:C3)]) (fin:=fun acc=>acc) (fun m _=>by simp) []
  (fun i m acc hx hi ha=>by
   have hm1:=I7 hx;have hr:=(hs.each m hm1).1;have hfi:=hs.fi
   rw[Bq]at ha
   simp only[D5,C2];rw[A2 (by omega),I0,hx];simp only[A6];rw[KP (by omega) (hs.each m hm1).2];simp only[A6];rw[O6 hi (by omega),O7 (by omega) (by omega),O7 (by omega) (by omega),As (by simp;omega)]
   rfl) (fun acc _=>by simp only[D5,C2];rw[A3 (by omega)]) (by omega) (by rfl)]
 rfl
def SF (l:List C3)(k:Int):List C3:=l.flatMap fun m=>if m.cX=k then[(⟨0,m.To,m.On⟩:C3)]else[]
theorem Mv (l:List C3)(k:Int):(SF l k).length≤l.length:=GF fun m _=>by split<;>simp
theorem Ad0 {l:List C3} {k:Int} {n:C3}:n∈SF l k↔∃m∈l,m.cX=k∧n=⟨0,m.To,m.On⟩:=by
 unfold SF;rw[Di]
 constructor
 ·rintro⟨m,hm,h⟩
  split at h
  ·next hf=>exact⟨m,hm,hf,List.mem_singleton.1 h⟩
  cases h
 rintro⟨m,hm,hf,h⟩;exact⟨m,hm,by rw[A2 hf,h];simp⟩
def XB (a b:A0):List C3:=(SF (SX a 1) 1++SF (SX b ((1+a.cU.length:Nat):Int)) ((1+a.cU.length:Nat):Int))++SX a 1++SX b ((1+a.cU.length:Nat):Int)
def Ok (a b:A0)(c:Bool):A0:=⟨a.cW,[c]++a.cU++b.cU,XB a b⟩
theorem Uv {T:Int} {F:List Bool} {l:List C3} (hl:l.length≤1000) (hp:∀m∈l,∃t,IN t m.On=0) {k:Int} {K:Int} (hK:K=k) {b0:List C3} (hb:b0.length≤1000):loopN
 (fun(s12:Int×A0)=>
  (
   if cmp .lss s12.1 (Ar.len l)=true then
    (D0 l s12.1).bind fun x15=>
    if cmp .eql x15.cX K=true then
     (J9 40000000 x15.On).bind fun r16=>
     (N5 s12.2.cV ([(⟨0,x15.To,r16⟩:C3)])).bind fun l18=>
     some (.inl (ar .add .i64 s12.1 1,{s12.2 with cU:=F,cV:=l18}))
    else
     some (.inl (ar .add .i64 s12.1 1,{s12.2 with cU:=F}))
   else
    some (.inr ({s12.2 with cU:=F}))
   :Option ((Int×A0)⊕(A0))))
 40000000 (0,(⟨T,F,b0⟩:A0))=some ⟨T,F,b0++SF l k⟩:=by
 subst hK
 rw[Mo (l:=l) (rep:=fun i (acc:List C3)=>((i:Int),(⟨T,F,acc⟩:A0))) (g:=fun m=>if m.cX=K then[(⟨0,m.To,m.On⟩:C3)]else[]) (fin:=fun acc=>(⟨T,F,acc⟩:A0)) (fun m _=>by split<;>simp) b0
  (fun i m acc hx hi ha=>by
   have hm1:=I7 hx;obtain⟨t,ht⟩:=hp m hm1;simp only[D5,EZ,E4,C2];rw[A2 (by omega),I0,hx];simp only[A6];rw[O6 hi (by omega)]
   by_cases h:m.cX=K
   ·rw[A2 h,A2 h,KP (by omega) ht];simp only[A6];rw[As (by simp;omega)];rfl
   rw[A3 h,A3 h];simp) (fun acc _=>by simp only[D5,E4,C2];rw[A3 (by omega)]) (by omega) (by rfl)]
 rfl
theorem OR {a b:A0} (ha:Ol a=0) (hb:Ol b=0) (ht:a.cW=b.cW) (hfa:a.cU.length≤100) (hma:a.cV.length≤100) (hfb:b.cU.length≤100) (hmb:b.cV.length≤100) (c:Bool):
 ((N8 40000000 ([[c],a.cU,b.cU])).bind fun r24=>
  (M4 40000000 a 1).bind fun r26=>
  (M4 40000000 b (ar .add .i64 1 (Ar.len a.cU))).bind fun r27=>
  (loopN
   (fun (s28:Int×A0)=>
    (
     if cmp .lss s28.1 2=true then
      (D0 ([r26,r27]) s28.1).bind fun x31=>
      (loopN
       (fun(s32:Int×A0)=>
        (
         if cmp .lss s32.1 (Ar.len x31)=true then
          (D0 x31 s32.1).bind fun x35=>
          if cmp .eql x35.cX (ar .add .i64 1 (ar .mul .i64 s28.1 (Ar.len a.cU)))=true then
           (J9 40000000 x35.On).bind fun r36=>
           (N5 s32.2.cV ([(⟨0,x35.To,r36⟩:C3)])).bind fun l38=>
           some (.inl (ar .add .i64 s32.1 1,{s32.2 with cU:=s28.2.cU,cV:=l38}))
          else
           some (.inl (ar .add .i64 s32.1 1,{s32.2 with cU:=s28.2.cU}))
         else
          some (.inr ({s32.2 with cU:=s28.2.cU}))
         :Option ((Int×A0)⊕(A0))))
       40000000 (0,s28.2)).bind fun s34=>
      some (.inl (ar .add .i64 s28.1 1,s34))
     else
      some (.inr s28.2)
     :Option ((Int×A0)⊕(A0))))
   40000000 (0,(⟨a.cW,r24,[]⟩:A0))).bind fun s30=>
  (N9 40000000 ([s30.cV,r26,r27])).bind fun r41=>
  (R4 40000000 ({s30 with cV:=r41})).bind fun r42=>
  some (r42.1,r42.2))=some (Ok a b c,0):=by
 have hsa:=Gw ha;have hsb:=Gw hb;have l1:=Ox a 1;have l2:=Ox b ((1+a.cU.length:Nat):Int);have l3:=Mv (SX a 1) 1;have l4:=Mv (SX b ((1+a.cU.length:Nat):Int)) ((1+a.cU.length:Nat):Int)
 have p1:∀m∈SX a 1,∃t,IN t m.On=0:=fun m hm=>by
  obtain⟨n,hn,rfl⟩:=Kw.1 hm;exact⟨_,(hsa.each n hn).2⟩
 have p2:∀m∈SX b ((1+a.cU.length:Nat):Int),∃t,IN t m.On=0:=fun m hm=>by
  obtain⟨n,hn,rfl⟩:=Kw.1 hm;exact⟨_,(hsb.each n hn).2⟩
 have e1:M4 40000000 a 1=some (SX a 1):=Pf (k:=1) ha hma (by omega)
 have en:ar .add .i64 1 (Ar.len a.cU)=((1+a.cU.length:Nat):Int):=by rw[E4,O7 (by omega) (by omega)];omega
 have e2:=Pf (k:=1+a.cU.length) hb hmb (by omega);rw[An9 (by omega) _ _ _ (by simp;omega),e1,en,e2];simp only[A6]
 generalize hA:SX a 1=A at *
 generalize hB:SX b ((1+a.cU.length:Nat):Int)=B at *
 have k0:ar .add .i64 1 (ar .mul .i64 0 (Ar.len a.cU))=1:=by
  have:ar .mul .i64 0 (Ar.len a.cU)=0:=by
   have e:ar .mul .i64 0 (Ar.len a.cU)=IntKind.wrap .i64 (0*(Ar.len a.cU)):=rfl;rw[e,Int.zero_mul];rfl
  rw[this];rfl
 have k1:ar .add .i64 1 (ar .mul .i64 1 (Ar.len a.cU))=((1+a.cU.length:Nat):Int):=by
  have:ar .mul .i64 1 (Ar.len a.cU)=Ar.len a.cU:=by
   have e:ar .mul .i64 1 (Ar.len a.cU)=IntKind.wrap .i64 (1*(Ar.len a.cU)):=rfl;rw[e,Int.one_mul,E4];exact Fp (by omega) (by omega)
  rw[this,en]
 have hloop:loopN
  (fun (s28:Int×A0)=>
   (
    if cmp .lss s28.1 2=true then
     (D0 ([A,B]) s28.1).bind fun x31=>
     (loopN
      (fun(s32:Int×A0)=>
       (
        if cmp .lss s32.1 (Ar.len x31)=true then
         (D0 x31 s32.1).bind fun x35=>
         if cmp .eql x35.cX (ar .add .i64 1 (ar .mul .i64 s28.1 (Ar.len a.cU)))=true then
          (J9 40000000 x35.On).bind fun r36=>
          (N5 s32.2.cV ([(⟨0,x35.To,r36⟩:C3)])).bind fun l38=>
          some (.inl (ar .add .i64 s32.1 1,{s32.2 with cU:=s28.2.cU,cV:=l38}))
         else
          some (.inl (ar .add .i64 s32.1 1,{s32.2 with cU:=s28.2.cU}))
        else
         some (.inr ({s32.2 with cU:=s28.2.cU}))
        :Option ((Int×A0)⊕(A0))))
      40000000 (0,s28.2)).bind fun s34=>
     some (.inl (ar .add .i64 s28.1 1,s34))
    else
     some (.inr s28.2)
    :Option ((Int×A0)⊕(A0))))
  (39999997+1+1+1) (0,(⟨a.cW,[c]++a.cU++b.cU,[]⟩:A0))=some ⟨a.cW,[c]++a.cU++b.cU,SF A 1++SF B ((1+a.cU.length:Nat):Int)⟩:=by
  rw[loopN]
  dsimp only
  rw[A2 (show cmp .lss (0:Int) 2=true from rfl),show D0 [A,B] 0=some A from rfl];simp only[A6];rw[Uv (by omega) p1 k0 (by simp)];simp only[A6,P4];rw[show ar .add .i64 (0:Int) 1=1 from rfl,loopN]
  dsimp only
  rw[A2 (show cmp .lss (1:Int) 2=true from rfl),show D0 [A,B] 1=some B from rfl];simp only[A6];rw[Uv (by omega) p2 k1 (by omega)];simp only[A6];rw[show ar .add .i64 (1:Int) 1=2 from rfl,loopN]
  dsimp only
  rw[A3 (show¬cmp .lss (2:Int) 2=true by decide)]
 rw[show(40000000:Nat)=39999997+1+1+1 from rfl]at hloop ⊢
 rw[hloop];simp only[A6];rw[An8 (by omega) _ _ _ (by rw[I6];omega)];simp only[A6];rw[PD (by simp;omega) (by simp only[I6];omega)];unfold Ok XB;rw[hA,hB];rfl
theorem Zk {a b:A0} (ha:Ol a=0) (hb:Ol b=0) (ht:a.cW=b.cW) (hfa:a.cU.length≤100) (hma:a.cV.length≤100) (hfb:b.cU.length≤100) (hmb:b.cV.length≤100):
 ∃c,Cl 40000000 a b=some (Ok a b c,0)∧(c=true↔a.cU[0]? =some true∨b.cU[0]? =some true):=by
 have hsa:=Gw ha;have hsb:=Gw hb
 have hp:W0 40000000 a b=some 0:=by
  unfold W0;rw[AW (by omega),AW (by omega),ha,hb];simp[X5,ht]
 have ea:D0 a.cU 0=a.cU[0]? :=I0 (i:=0);have eb:D0 b.cU 0=b.cU[0]? :=I0 (i:=0);have ga:a.cU[0]? =some (a.cU[0]'(by have:=hsa.fi;omega)):=E2 _;have gb:b.cU[0]? =some (b.cU[0]'(by have:=hsb.fi;omega)):=E2 _;unfold Cl;rw[hp];simp only[A6];rw[A3 (show¬cmp .neq (0:Int) 0=true by decide),ea,ga];simp only[A6]
 cases h:a.cU[0]'(by have:=hsa.fi;omega)with
 |true=>
  rw[A2 rfl,OR ha hb ht hfa hma hfb hmb true];exact⟨true,rfl,by simp⟩
 |false=>
  rw[A3 (by simp),eb,gb];simp only[A6];rw[OR ha hb ht hfa hma hfb hmb];exact⟨_,rfl,by simp⟩
end Go.Ab
namespace Go.Ab
theorem VE {s:A0}(hs:GN s):∀{w:List B8} {i j:Nat},i<s.cU.length→Ou s w i j→j<s.cU.length
 |[],i,j,hi,h=>by have h:i=j:=h;omega
 |x::w,i,j,hi,⟨m,hm,f,c,k,t,h⟩=>VE hs (by have:=(hs.each m hm).1;omega) h
theorem Hl {a b:A0} {n:C3}:n∈XB a b↔((∃m∈a.cV,m.cX=0∧n=⟨0,m.To+1,m.On⟩)∨(∃m∈b.cV,m.cX=0∧n=⟨0,m.To+((1+a.cU.length:Nat):Int),m.On⟩))∨(∃m∈a.cV,n=⟨m.cX+1,m.To+1,m.On⟩)∨∃m∈b.cV,n=⟨m.cX+((1+a.cU.length:Nat):Int),m.To+((1+a.cU.length:Nat):Int),m.On⟩:=by
 have hf:∀(s:A0) (k:Int) (n:C3),n∈SF (SX s k) k↔∃m∈s.cV,m.cX=0∧n=⟨0,m.To+k,m.On⟩:=by
  intro s k n;rw[Ad0]
  constructor
  ·rintro⟨q,hq,e,rfl⟩;obtain⟨m,hm,rfl⟩:=Kw.1 hq;exact⟨m,hm,by dsimp only at e;omega,rfl⟩
  rintro⟨m,hm,e,rfl⟩;exact⟨⟨m.cX+k,m.To+k,m.On⟩,Kw.2 ⟨m,hm,rfl⟩,by dsimp only;omega,rfl⟩
 unfold XB;rw[AF,AF,AF,hf,hf,Kw,Kw,or_assoc]
theorem Ar9 {a b:A0}{c:Bool}(ha:GN a)(hb:GN b)(ht:a.cW=b.cW)(hfa:a.cU.length≤100)(hma:a.cV.length≤100)(hfb:b.cU.length≤100)(hmb:b.cV.length≤100):GN (Ok a b c):=by
 have l1:=Ox a 1;have l2:=Ox b ((1+a.cU.length:Nat):Int);have l3:=Mv (SX a 1) 1;have l4:=Mv (SX b ((1+a.cU.length:Nat):Int)) ((1+a.cU.length:Nat):Int)
 have hl:(Ok a b c).cU.length=1+a.cU.length+b.cU.length:=by unfold Ok;simp;omega
 refine⟨ha.ty,by omega,by show(XB a b).length≤2048;unfold XB;simp only[I6];omega,fun n hn=>?_⟩;rw[hl]
 show((0≤n.cX∧n.cX<((1+a.cU.length+b.cU.length:Nat):Int))∧0≤n.To∧n.To<((1+a.cU.length+b.cU.length:Nat):Int))∧IN a.cW n.On=0
 have pa:∀m∈a.cV,IN a.cW m.On=0:=fun m hm=>(ha.each m hm).2
 have pb:∀m∈b.cV,IN a.cW m.On=0:=fun m hm=>by rw[ht];exact(hb.each m hm).2
 rcases Hl.1 hn with(⟨m,hm,_,rfl⟩|⟨m,hm,_,rfl⟩)|⟨m,hm,rfl⟩|⟨m,hm,rfl⟩
 ·have:=(ha.each m hm).1;exact⟨⟨by dsimp only;omega,by dsimp only;omega⟩,pa m hm⟩
 ·have:=(hb.each m hm).1;exact⟨⟨by dsimp only;omega,by dsimp only;omega⟩,pb m hm⟩
 ·have:=(ha.each m hm).1;exact⟨⟨by dsimp only;omega,by dsimp only;omega⟩,pa m hm⟩
 have:=(hb.each m hm).1;exact⟨⟨by dsimp only;omega,by dsimp only;omega⟩,pb m hm⟩
theorem WF {a b:A0} {c:Bool} (ha:GN a) (hb:GN b):∀{w:List B8} {i j:Nat},i<a.cU.length→(Ou (Ok a b c) w (i+1) j↔∃k,j=k+1∧Ou a w i k)
 |[],i,j,hi=>⟨fun h=>by have h:i+1=j:=h;exact⟨i,h.symm,rfl⟩,fun⟨k,e,h⟩=>by have h:i=k:=h;subst h;exact e.symm⟩
 | x::w,i,j,hi=>by
  constructor
  ·rintro⟨n,hn,f,cc,k,t,h⟩
   rcases Hl.1 hn with(⟨m,hm,_,rfl⟩|⟨m,hm,_,rfl⟩)|⟨m,hm,rfl⟩|⟨m,hm,rfl⟩
   ·dsimp only at f;omega
   ·dsimp only at f;omega
   ·have hr:=(ha.each m hm).1
    dsimp only at f t cc
    obtain⟨k',rfl⟩:∃k':Nat,k=k'+1:=⟨k - 1,by omega⟩;obtain⟨l,e,h2⟩:=(WF ha hb (by omega)).1 h;exact⟨l,e,m,hm,by omega,cc,k',by omega,h2⟩
   have hr:=(hb.each m hm).1
   dsimp only at f;omega
  rintro⟨l,rfl,m,hm,f,cc,k,t,h⟩;have hr:=(ha.each m hm).1;exact⟨⟨m.cX+1,m.To+1,m.On⟩,Hl.2 (.inr (.inl ⟨m,hm,rfl⟩)),by dsimp only;omega,cc,k+1,by dsimp only;omega,(WF ha hb (by omega)).2 ⟨l,rfl,h⟩⟩
theorem WE {a b:A0} {c:Bool} (ha:GN a) (hb:GN b):∀{w:List B8} {i j:Nat},Ou (Ok a b c) w (1+a.cU.length+i) j↔∃k,j=1+a.cU.length+k∧Ou b w i k
 |[],i,j=>⟨fun h=>by have h:1+a.cU.length+i=j:=h;exact⟨i,h.symm,rfl⟩,fun⟨k,e,h⟩=>by have h:i=k:=h;subst h;exact e.symm⟩
 | x::w,i,j=>by
  constructor
  ·rintro⟨n,hn,f,cc,k,t,h⟩
   rcases Hl.1 hn with(⟨m,hm,_,rfl⟩|⟨m,hm,_,rfl⟩)|⟨m,hm,rfl⟩|⟨m,hm,rfl⟩
   ·dsimp only at f;omega
   ·dsimp only at f;omega
   ·have hr:=(ha.each m hm).1
    dsimp only at f;omega
   have hr:=(hb.each m hm).1
   dsimp only at f t cc
   obtain⟨k',rfl⟩:∃k':Nat,k=1+a.cU.length+k':=⟨k - (1+a.cU.length),by omega⟩;obtain⟨l,e,h2⟩:=(WE ha hb).1 h;exact⟨l,e,m,hm,by omega,cc,k',by omega,h2⟩
  rintro⟨l,rfl,m,hm,f,cc,k,t,h⟩;exact⟨⟨m.cX+((1+a.cU.length:Nat):Int),m.To+((1+a.cU.length:Nat):Int),m.On⟩,Hl.2 (.inr (.inr ⟨m,hm,rfl⟩)),by dsimp only;omega,cc,1+a.cU.length+k,by dsimp only;omega,(WE ha hb).2 ⟨l,rfl,h⟩⟩
theorem Ag9 {a b:A0} {c:Bool} (ha:GN a) (hb:GN b) (hc:c=true↔a.cU[0]? =some true∨b.cU[0]? =some true) (w:List B8):Wx (Ok a b c) w↔Wx a w∨Wx b w:=by
 have f0:(Ok a b c).cU[0]? =some c:=rfl
 have fa:∀k,k<a.cU.length→(Ok a b c).cU[k+1]? =a.cU[k]? :=fun k hk=>by
  show([c]++a.cU++b.cU)[k+1]? =_
  rw[E7,Nw,Q8,Bt hk]
 have fb:∀k,(Ok a b c).cU[1+a.cU.length+k]? =b.cU[k]? :=fun k=>by
  show([c]++a.cU++b.cU)[1+a.cU.length+k]? =_
  rw[E7,Nw,show 1+a.cU.length+k=(a.cU.length+k)+1 by omega,Q8,Gt (by omega)]
  congr 1;omega
 have h0a:=ha.fi;have h0b:=hb.fi;unfold Wx
 cases w with
 | nil=>
  constructor
  ·rintro⟨j,h,hf⟩;have h:0=j:=h;subst h
   rw[f0]at hf
   rcases hc.1 (X8 hf)with h|h
   ·exact .inl ⟨0,rfl,h⟩
   exact .inr ⟨0,rfl,h⟩
  rintro(⟨j,h,hf⟩|⟨j,h,hf⟩)
  ·have h:0=j:=h;subst h;exact⟨0,rfl,by rw[f0,hc.2 (.inl hf)]⟩
  have h:0=j:=h;subst h;exact⟨0,rfl,by rw[f0,hc.2 (.inr hf)]⟩
 | cons x w=>
  constructor
  ·rintro⟨j,⟨n,hn,f,cc,k,t,h⟩,hf⟩
   rcases Hl.1 hn with(⟨m,hm,e,rfl⟩|⟨m,hm,e,rfl⟩)|⟨m,hm,rfl⟩|⟨m,hm,rfl⟩
   ·have hr:=(ha.each m hm).1
    dsimp only at t cc
    obtain⟨k',rfl⟩:∃k':Nat,k=k'+1:=⟨k - 1,by omega⟩
    have hk':k'<a.cU.length:=by omega
    obtain⟨l,rfl,h2⟩:=(WF ha hb hk').1 h
    rw[fa l (VE ha hk' h2)]at hf
    exact .inl ⟨l,⟨m,hm,e,cc,k',by omega,h2⟩,hf⟩
   ·have hr:=(hb.each m hm).1
    dsimp only at t cc
    obtain⟨k',rfl⟩:∃k':Nat,k=1+a.cU.length+k':=⟨k - (1+a.cU.length),by omega⟩;obtain⟨l,rfl,h2⟩:=(WE ha hb).1 h
    rw[fb]at hf
    exact .inr ⟨l,⟨m,hm,e,cc,k',by omega,h2⟩,hf⟩
   ·have hr:=(ha.each m hm).1
    dsimp only at f;omega
   have hr:=(hb.each m hm).1
   dsimp only at f;omega
  rintro(⟨j,⟨m,hm,f,cc,k,t,h⟩,hf⟩|⟨j,⟨m,hm,f,cc,k,t,h⟩,hf⟩)
  ·have hr:=(ha.each m hm).1
   have hk:k<a.cU.length:=by omega
   exact⟨j+1,⟨⟨0,m.To+1,m.On⟩,Hl.2 (.inl (.inl ⟨m,hm,f,rfl⟩)),rfl,cc,k+1,by dsimp only;omega,(WF ha hb hk).2 ⟨j,rfl,h⟩⟩,by rw[fa j (VE ha hk h)];exact hf⟩
  exact⟨1+a.cU.length+j,⟨⟨0,m.To+((1+a.cU.length:Nat):Int),m.On⟩,Hl.2 (.inl (.inr ⟨m,hm,f,rfl⟩)),rfl,cc,1+a.cU.length+k,by dsimp only;omega,(WE ha hb).2 ⟨j,rfl,h⟩⟩,by rw[fb];exact hf⟩
end Go.Ab
