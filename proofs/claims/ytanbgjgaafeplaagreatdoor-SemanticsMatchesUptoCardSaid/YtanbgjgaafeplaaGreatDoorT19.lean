/- GTX1 GTX2 GTX3 GTPr -/
import Derived.Test.YtanbgjgaafeplaaGreatDoorT18
import Derived.Test.YtanbgjgaafeplaaGreatDoorTie
import Derived.WalkKit
import Derived.ProofKit
import Derived.OpenShut
import Derived.Deep.DeepHandedRow
import Derived.Carry
set_option linter.all false
open List (any_cons)
open Go.Ab.Ar (an ar cmp nt)
namespace Go.Ab
open Classical
noncomputable section
def Ac(e:A7):List Int:=[e.Time,e.Source,e.Seq]
def HG(e:A7):Bool:=(an (an (an (an (an (cmp .geq e.Time 0) (cmp .leq e.Time 1099511627776)) (cmp .geq e.Source 0)) (cmp .lss e.Source 8)) (cmp .geq e.Seq 0)) (cmp .leq e.Seq 1099511627776))
def Cm(a b:A7):Bool:=decide (a.Source=b.Source)&&decide (a.Seq=b.Seq)
def MV(l:List A7)(i:Nat):Int:=
 match l[i]? with
 |none=>0
 |some e=>if HG e=false then 2 else if 0<i∧0≤M4 (Ac ((l[i - 1]?).getD e)) (Ac e)then 14 else if(l.take i).any (fun x=>Cm x e)=true then 7 else 0
def MQ(l:List A7):Int:=if 4096<l.length then 5 else P9 (MV l) (List.range l.length)
theorem WF {N : Nat} (hN:40000000≤N) {l:List A7} (hl:l.length≤4096) {i:Nat} (hi:i<l.length):(loopN
                    (fun(s10:Int)=>
                     (
                      if cmp .lss s10 (i:Int)=true then
                       (B6 l s10).bind fun x12=>
                       (Ct N x12 l[i]).bind fun r14=>
                       if r14=true then
                        some (.inr (.inr ()))
                       else
                        some (.inl (ar .add .i64 s10 1))
                      else
                       some (.inr (.inl ()))
                      :Option ((Int) ⊕ (Unit ⊕ Unit))))
                    N 0)=some (if(l.take i).any (fun x=>Cm x l[i])=true then .inr ()else .inl ()):=by
 have hlen:(l.take i).length=i:=by rw[List.length_take];omega
 rw [BR (l:=l.take i) (fun x=>Cm x l[i]) (by omega) (by omega) (fun j x hx hj=>by
     have hji:j<i:=by omega
     have e:ar .add .i64 (j:Int) 1=j+1:=C4 (by omega) (by omega)
     rw[List.getElem?_take_of_lt hji]at hx
     rw[if_pos (Av (by omega)),C7,hx];simp only[Option.bind_some,e,Ct,C0,L7];unfold Cm
     split<;>rfl) (by rw[hlen,if_neg (W9 (Int.lt_irrefl _))])]
theorem YW {N:Nat} (hN:40000000≤N) {l:List A7}:CX N l=some (MQ l):=by
 unfold CX MQ
 by_cases h1:4096<l.length
 ·rw[if_pos (X0 (by rw[B1];omega)),if_pos h1]
 rw[if_neg (S9 (by rw[B1];omega)),if_neg h1];have hr:(List.range l.length).length=l.length:=List.length_range;rw[F5 (List.range l.length) (by omega) (mk:=fun(_:Unit) i=>i) (body:=As fun i=>some (MV l i)) (fin:=fun _=>.inl ()) (s:=()) (by omega) ?_ ?_]
 ·rw[X4 (F:=fun i=>some (MV l i)) (f:=MV l) fun x _=>rfl]
  by_cases h:P9 (MV l) (List.range l.length)=0
  ·rw[if_pos h,h];rfl
  rw[if_neg h];rfl
 ·intro s i x hx hi
  have hil:i<l.length:=by omega
  rw[List.getElem?_range hil]at hx
  cases hx;have e:ar .add .i64 (i:Int) 1=i+1:=C4 (by omega) (by omega);rw[if_pos (P3 (by omega)),Ev hil];simp only[Option.bind_some];rw[WF hN (by omega) hil]
  have hbs:MV l i=if HG l[i]=false then 2 else if 0<i∧0≤M4 (Ac ((l[i - 1]?).getD l[i])) (Ac l[i])then 14 else if(l.take i).any (fun x=>Cm x l[i])=true then 7 else 0:=by
   unfold MV;rw[List.getElem?_eq_getElem hil]
  unfold Du Cu As;simp only[Option.bind_some,e];rw[hbs];have hp:(an (an (an (an (an (cmp .geq l[i].Time 0) (cmp .leq l[i].Time 1099511627776)) (cmp .geq l[i].Source 0)) (cmp .lss l[i].Source 8)) (cmp .geq l[i].Seq 0)) (cmp .leq l[i].Seq 1099511627776))=HG l[i]:=rfl;rw[hp]
  cases HG l[i]with
  |false=>rfl
  | true=>
   rw[if_neg (show¬(nt true=true) by decide),if_neg (show¬(true=false) by decide)]
   by_cases h0:0<i
   ·rw[if_pos (X0 (by omega))]
    have e1:ar .sub .i64 (i:Int) 1=((i - 1:Nat):Int):=by rw[FN (by omega) (by omega)];omega
    have hi1:i - 1<l.length:=by omega
    rw[e1,Ev hi1,List.getElem?_eq_getElem hi1];simp only[Option.bind_some,QK,Option.getD_some];have hk:M4 (Ni ⟨l[i - 1].Time,l[i - 1].Source,l[i - 1].Seq⟩) (Ni ⟨l[i].Time,l[i].Source,l[i].Seq⟩)=M4 (Ac l[i - 1]) (Ac l[i]):=rfl;rw[hk]
    by_cases h2:0≤M4 (Ac l[i - 1]) (Ac l[i])
    ·rw[if_pos (show cmp .geq (M4 (Ac l[i - 1]) (Ac l[i])) 0=true by rw[M1];exact decide_eq_true h2),if_pos (show 0<i∧0≤M4 (Ac l[i - 1]) (Ac l[i])from⟨h0,h2⟩)];rfl
    rw[if_neg (show¬(cmp .geq (M4 (Ac l[i - 1]) (Ac l[i])) 0=true) by rw[M1];simpa using h2),if_neg (show¬(0<i∧0≤M4 (Ac l[i - 1]) (Ac l[i]))from fun h=>h2 h.2)];cases(l.take i).any fun x=>Cm x l[i]<;>rfl
   rw[if_neg (S9 (by omega)),if_neg (show¬(0<i∧0≤M4 (Ac ((l[i - 1]?).getD l[i])) (Ac l[i]))from fun h=>h0 h.1)];cases(l.take i).any fun x=>Cm x l[i]<;>rfl
 intro s;rw[hr,if_neg S4]
def Eg(p:List A7):List (D2×Bool):=p.map fun e=>(⟨e.Source,e.Seq⟩,true)
theorem VM (p:List A7) (e:A7):∃b,IS (Eg p) ⟨e.Source,e.Seq⟩ false=some (p.any fun x=>Cm x e,b):=by
 unfold IS Eg
 induction p with
 |nil=>exact⟨false,by simp⟩
 | cons x p ih=>
  obtain⟨b,ih⟩:=ih;rw[List.map_cons,List.find?_cons,any_cons]
  by_cases h:(⟨x.Source,x.Seq⟩:D2)=⟨e.Source,e.Seq⟩
  ·have ht:Cm x e=true:=by
    simp only[D2.mk.injEq]at h
    simp[Cm,h.1,h.2]
   exact⟨true,by simp[h,ht]⟩
  have ht:Cm x e=false:=by
   simp only[D2.mk.injEq]at h
   simp only[Cm,Bool.and_eq_false_iff,decide_eq_false_iff_not]
   by_cases h1:x.Source=e.Source
   ·exact .inr fun h2=>h ⟨h1,h2⟩
   exact .inl h1
  refine⟨b,?_⟩;simp only[h,decide_false,ht,Bool.false_or];exact ih
theorem Ve{p:List A7}{e:A7}(h:(p.any fun x=>Cm x e)=false):HV (Eg p) ⟨e.Source,e.Seq⟩ true=some (Eg (p++[e])):=by
 unfold HV;rw[if_neg]
 ·simp[Eg]
 intro c
 rw[List.any_eq_true]at c
 obtain⟨q,hq,he⟩:=c
 simp only[Eg,List.mem_map]at hq
 obtain⟨x,hx,rfl⟩:=hq
 rw[List.any_eq_false]at h
 refine h x hx ?_
 simp only[decide_eq_true_eq,D2.mk.injEq]at he
 simp[Cm,he.1,he.2]
theorem XA {B:Type} {N n:Nat} {M:Nat→B} {step:(Int×B)→Option ((Int×B) ⊕ (B ⊕ (Int×B)))} (f:Nat→Int) {k:B ⊕ (Int×B)→Option Int} (hN:n<N) (hn:n<1000000000)
 (hs:∀i:Nat,i<n→ar .add .i64 (i:Int) 1=i+1→step ((i:Int),M i)=some (if f i=0 then .inl ((i:Int)+1,M (i+1))else .inr (.inr (f i,M i)))) (he:step ((n:Int),M n)=some (.inr (.inl (M n)))) (h0:∀m,k (.inl m)=some 0) (h1:∀c m,k (.inr (c,m))=some c):(loopN step N (0,M 0)).bind k=some (P9 f (List.range n)):=by
 have key:∀(d i N:Nat),i+d=n→d<N→(loopN step N ((i:Int),M i)).bind k=some (P9 f (List.range' i d)):=by
  intro d
  induction d with
  |zero=>
   intro i N hi hN;obtain⟨N,rfl⟩:∃m,N=m+1:=⟨N - 1,by omega⟩;obtain rfl:i=n:=hi;simp only[loopN,he,Option.bind_some,h0];rfl
  |succ d ih=>
   intro i N hi hN;obtain⟨N,rfl⟩:∃m,N=m+1:=⟨N - 1,by omega⟩;rw[List.range'_succ]
   by_cases hf:f i=0
   ·simp only[loopN,hs i (by omega) (C4 (by omega) (by omega)),P9,hf,if_true];exact ih (i+1) N (by omega) (by omega)
   simp only[loopN,hs i (by omega) (C4 (by omega) (by omega)),P9,hf,if_false,Option.bind_some,h1]
 rw[List.range_eq_range'];exact key n 0 N (by omega) hN
theorem YO {N:Nat} (hN:40000000≤N) {l:List A7}:BW N l=some (MQ l):=by
 unfold BW MQ
 by_cases h1:4096<l.length
 ·rw[if_pos (X0 (by rw[B1];omega)),if_pos h1]
 rw[if_neg (S9 (by rw[B1];omega)),if_neg h1];refine XA (M:=fun i=>Eg (l.take i)) (MV l) (by omega) (by omega) (fun i hil e=>?_) (by dsimp only;rw[if_neg S4]) (fun _=>rfl) (fun _ _=>rfl);obtain⟨b,hb⟩:=VM (l.take i) l[i];have hp:CK N l[i]=some (HG l[i]):=rfl;have hst:Cq N l[i]=some ⟨l[i].Source,l[i].Seq⟩:=rfl
 dsimp only
 rw[if_pos (P3 (by omega)),Ev hil];simp only[Option.bind_some];unfold MV;rw[hp,hst,List.getElem?_eq_getElem hil];simp only[Option.bind_some,hb,e]
 cases HG l[i]with
 |false=>rfl
 | true=>
  rw[if_neg (show¬(nt true=true) by decide),if_neg (show¬(true=false) by decide)]
  have ht:(if(l.take i).any (fun x=>Cm x l[i])=true then some (.inr (.inr (7,Eg (l.take i))))else(HV (Eg (l.take i)) ⟨l[i].Source,l[i].Seq⟩ true).bind fun l15=>some (.inl ((i:Int)+1,l15)):Option ((Int×(List (D2×Bool))) ⊕ (((List (D2×Bool))) ⊕ (Int×(List (D2×Bool))))))=some (if(if(l.take i).any (fun x=>Cm x l[i])=true then(7:Int)else 0)=0 then .inl ((i:Int)+1,Eg (l.take (i+1)))else .inr (.inr (if(l.take i).any (fun x=>Cm x l[i])=true then(7:Int)else 0,Eg (l.take i)))):=by
   by_cases h7:(l.take i).any (fun x=>Cm x l[i])=true
   ·simp only[h7,if_true];rfl
   rw[if_neg h7,if_neg h7,Ve (by simpa using h7),List.take_succ_eq_append_getElem hil];rfl
  by_cases h0:0<i
  ·have hi1:i - 1<l.length:=by omega
   rw[if_pos (X0 (by omega)),show ar .sub .i64 (i:Int) 1=((i - 1:Nat):Int) by rw[FN (by omega) (by omega)];omega,Ev hi1,List.getElem?_eq_getElem hi1];simp only[Option.bind_some,Yc hN,Option.getD_some];have hk:M4 [l[i - 1].Time,l[i - 1].Source,l[i - 1].Seq] [l[i].Time,l[i].Source,l[i].Seq]=M4 (Ac l[i - 1]) (Ac l[i]):=rfl;rw[hk]
   by_cases h2:0≤M4 (Ac l[i - 1]) (Ac l[i])
   ·rw[if_pos (show cmp .geq (M4 (Ac l[i - 1]) (Ac l[i])) 0=true by rw[M1];exact decide_eq_true h2),if_pos (show 0<i∧0≤M4 (Ac l[i - 1]) (Ac l[i])from⟨h0,h2⟩)];rfl
   rw[if_neg (show¬(cmp .geq (M4 (Ac l[i - 1]) (Ac l[i])) 0=true) by rw[M1];simpa using h2),if_neg (show¬(0<i∧0≤M4 (Ac l[i - 1]) (Ac l[i]))from fun h=>h2 h.2)];exact ht
  rw[if_neg (S9 (by omega)),if_neg (show¬(0<i∧0≤M4 (Ac ((l[i - 1]?).getD l[i])) (Ac l[i]))from fun h=>h0 h.1)];exact ht
theorem Uw {l:List A7} (hl:l.length≤10) (h:MQ l=0):∀(d i:Nat),i+d+1<l.length→∀(h1:i<l.length) (h2:i+d+1<l.length),M4 (Ac l[i]) (Ac l[i+d+1])<0:=by
 have hc:∀i,i<l.length→MV l i=0:=by
  unfold MQ at h
  rw[if_neg (by omega)]at h
  exact fun i hi=>CE.1 h i (List.mem_range.2 hi)
 have h1:∀i,∀(h2:i+1<l.length),M4 (Ac l[i]) (Ac l[i+1])<0:=fun i h2=>by
  have:=hc (i+1) h2
  unfold MV at this
  rw[List.getElem?_eq_getElem h2]at this
  dsimp only at this
  split at this
  ·cases this
  split at this
  ·cases this
  rename_i hh
  have hi:i<l.length:=by omega
  simp only[Nat.add_sub_cancel,List.getElem?_eq_getElem hi,Option.getD_some,not_and]at hh
  have:=hh (by omega);omega
 intro d
 induction d with
 |zero=>intro i _ _ h2;exact h1 i h2
 |succ d ih=>
  intro i _ hi h2;exact IL (ih i (by omega) hi (by omega)) (h1 (i+d+1) h2)
end
end Go.Ab
namespace Go.Ab
open Classical
noncomputable section
def KL(l:List A7)(i:Int):Hx:=match l[i.toNat]? with|some e=>⟨e.Time,e.Source,e.Seq⟩|none=>⟨0,0,0⟩
def Ap(l:List A7)(s:List PR):E4:=⟨s.map fun x=>⟨x.Var,KL l x.At⟩⟩
theorem II(l:List A7)(s:List PR):(Ap l s).cO.length=s.length:=by simp[Ap]
theorem TP{l:List A7}{i:Int}(h0:0≤i)(h1:i<l.length):∃e,B6 l i=some e∧(⟨e.Time,e.Source,e.Seq⟩:Hx)=KL l i:=by
 obtain⟨i,rfl⟩:=Int.eq_ofNat_of_zero_le h0
 have hi:i<l.length:=by omega
 exact⟨l[i],Ev hi,by simp[KL,hi]⟩
theorem YS {l:List A7} (hl:l.length≤10) (hc:MQ l=0) {i j:Int} (hi:0≤i∧i<l.length) (hj:0≤j∧j<l.length) (h:KL l i=KL l j):i=j:=by
 obtain⟨i,rfl⟩:=Int.eq_ofNat_of_zero_le hi.1;obtain⟨j,rfl⟩:=Int.eq_ofNat_of_zero_le hj.1
 have hi':i<l.length:=by omega
 have hj':j<l.length:=by omega
 have hk:Ac l[i]=Ac l[j]:=by
  simp only[KL,Int.toNat_natCast,List.getElem?_eq_getElem hi',List.getElem?_eq_getElem hj',Hx.mk.injEq]at h
  simp[Ac,h.1,h.2.1,h.2.2]
 rcases Nat.lt_trichotomy i j with e|e|e
 ·obtain⟨d,rfl⟩:∃d,j=i+d+1:=⟨j - i - 1,by omega⟩;have:=Uw hl hc d i hj' hi' hj'
  rw[hk,Ft]at this;omega
 ·omega
 obtain⟨d,rfl⟩:∃d,i=j+d+1:=⟨i - j - 1,by omega⟩;have:=Uw hl hc d j hi' hj' hi'
 rw[hk,Ft]at this;omega
theorem Mu {l:List A7} (hl:l.length≤10) (hc:MQ l=0):∀{a b:List PR},RO l a→RO l b→(Ap l a).cO=(Ap l b).cO→a=b
 |[],[],_,_,_=>rfl
 |[],_::_,_,_,h=>by simp[Ap]at h
 |_::_,[],_,_,h=>by simp[Ap]at h
 | x::a,y::b,ha,hb,h=>by
  simp only[Ap,List.map_cons,List.cons.injEq,E0.mk.injEq]at h
  have e:=YS hl hc (ha x (by simp)).2 (hb y (by simp)).2 h.1.2
  have hxy:x=y:=by
   cases x;cases y
   simp only[A2.mk.injEq]at *
   exact⟨h.1.1,e⟩
  rw[hxy,Mu hl hc (fun z hz=>ha z (by simp[hz])) (fun z hz=>hb z (by simp[hz])) h.2]
theorem Re:∀{a b:List E0},Nj a=Nj b→a=b
 |[],[],_=>rfl
 |[],_::_,h=>by simp[Nj,BZ]at h
 |_::_,[],h=>by simp[Nj,BZ]at h
 | x::a,y::b,h=>by
  simp only[Nj,List.flatMap_cons,BZ,List.cons_append,List.nil_append,List.cons.injEq]at h
  obtain⟨h1,h2,h3,h4,h5⟩:=h
  have hxy:x=y:=by
   obtain⟨v,t,s,q⟩:=x;obtain⟨v',t',s',q'⟩:=y
   simp only at h1 h2 h3 h4
   rw[h1,h2,h3,h4]
  rw[hxy,Re h5]
theorem Zr{a b:List E0}(h:mO a b=0):a=b:=Re (Uj (by rw[←NM];exact h))
theorem Ue(a:List E0):mO a a=0:=by rw[NM,Ft]
theorem Xz(a b:List E0):mO b a= - mO a b:=by rw[NM,NM,Rc]
theorem QW{a b c:List E0}(h1:mO a b<0)(h2:mO b c<0):mO a c<0:=by rw[NM]at *;exact IL h1 h2
def Tx(r:List E4):Prop:=r.Pairwise fun a b=>mO a.cO b.cO<0
theorem Ad3 {N:Nat} (hN:40000000≤N) {L r:List E4} (hp:r.Perm L) (ha:Tx r) (hb:∀x∈r,x.cO.length≤1000000) (hl:L.length≤1000000):GL (fun y1 y2=>Am N y1 y2) L=some r:=by
 refine PZ hp (BI.2 ⟨fun a h=>?_,?_⟩) (by omega)
 ·unfold Yy
  dsimp only
  rw[OW hN (hb a h) (hb a h),Ue];rfl
 refine List.Pairwise.imp_of_mem (fun{x y} hx hy hlt=>?_) ha
 constructor
 ·unfold OX
  dsimp only
  rw[OW hN (hb x hx) (hb y hy)];exact decide_eq_true hlt
 unfold Yy
 dsimp only
 rw[OW hN (hb y hy) (hb x hx),Xz];exact decide_eq_true (by omega)
theorem IT{α:Type}{f:α→E0}:∀(s:List α) (m:E4),s.foldl (fun m x=>⟨m.cO++[f x]⟩) m=⟨m.cO++s.map f⟩
 |[],⟨a⟩=>by simp
 |x::s,m=>by rw[List.foldl_cons,IT s];simp
theorem Vk {N:Nat} (hN:40000000≤N) {l:List A7} {s:List PR} (hs:s.length≤1000000) (hw:RO l s):Z1 N l s=some (Ap l s):=by
 unfold Z1
 rw[(Fs (L:=s) (N:=N) (fun(m:E4) i=>(i,m)) (fun m x=>⟨m.cO++[⟨x.Var,KL l x.At⟩]⟩) (fun m=>m) (fun i m=>m.cO.length=i) (by omega) (by omega) rfl (fun m i x hx hi hm e hl=>by
  obtain⟨e',h1,h2⟩:=TP (hw x hm).2.1 (hw x hm).2.2;rw[if_pos (P3 hi),C7,hx];simp only[Option.bind_some];rw[h1];simp only[Option.bind_some,Cu];rw[M2 (by simp;omega),e,h2]
  exact⟨rfl,by simp[hl]⟩) (fun m=>by dsimp only;rw[if_neg S4])).1,IT]
 rfl
theorem XL {N:Nat} (hN:40000000≤N) {m:E4} (hm:m.cO.length≤1000000) {out:List E4} (ho:∀x∈out,x.cO.length≤1000000) (hl:out.length≤1000000) (ha:Tx out) (hn:∀x∈out,mO m.cO x.cO≠0):
 ∃ k, k≤out.length∧loopN
  (fun(s8:Int)=>
   (
    if cmp .gtr s8 0=true then
     (WZ (Yx out (ar .sub .i64 s8 1))).bind fun _=>
     (B6 out (ar .sub .i64 s8 1)).bind fun x10=>
     (M6 N m x10).bind fun r11=>
     if cmp .lss r11 0=true then
      some (.inl (ar .sub .i64 s8 1))
     else
      some (.inr s8)
    else
     some (.inr s8)
    :Option ((Int) ⊕ (Int))))
  N (Ar.len out)=some (k:Int)∧Tx (out.take k++[m]++out.drop k):=by
 have key:∀(k M:Nat),k≤out.length→k<M→(∀x∈out.drop k,mO m.cO x.cO<0)→∃k',k'≤out.length∧loopN
  (fun(s8:Int)=>
   (
    if cmp .gtr s8 0=true then
     (WZ (Yx out (ar .sub .i64 s8 1))).bind fun _=>
     (B6 out (ar .sub .i64 s8 1)).bind fun x10=>
     (M6 N m x10).bind fun r11=>
     if cmp .lss r11 0=true then
      some (.inl (ar .sub .i64 s8 1))
     else
      some (.inr s8)
    else
     some (.inr s8)
    :Option ((Int) ⊕ (Int))))
  M (k:Int)=some (k':Int)∧(∀x∈out.drop k',mO m.cO x.cO<0)∧(∀x∈out.take k',mO x.cO m.cO<0):=by
  intro k
  induction k with
  |zero=>
   intro M _ hM hd;obtain⟨M,rfl⟩:∃m,M=m+1:=⟨M - 1,by omega⟩;refine⟨0,by omega,rfl,hd,by simp⟩
  | succ k ih=>
   intro M hk hM hd;obtain⟨M,rfl⟩:∃m,M=m+1:=⟨M - 1,by omega⟩
   have hlt:k<out.length:=by omega
   have hmem:out[k]∈out:=List.getElem_mem hlt
   have e1:ar .sub .i64 ((k+1:Nat):Int) 1=(k:Int):=by rw[FN (by omega) (by omega)];omega
   have hr:WZ (Yx out (k:Int))=some ():=by
    unfold WZ Yx;rw[if_pos]
    simp;omega
   by_cases hc:mO m.cO out[k].cO<0
   ·obtain⟨k',h1,h2,h3⟩:=ih M (by omega) (by omega) (fun x hx=>by
     rw[List.drop_eq_getElem_cons hlt]at hx
     rcases List.mem_cons.1 hx with rfl|hx
     ·exact hc
     exact hd x hx)
    refine⟨k',h1,?_,h3⟩;unfold loopN;rw[if_pos (X0 (by omega)),e1,hr,C7,List.getElem?_eq_getElem hlt];simp only[Option.bind_some];rw[OK hN hm (ho _ hmem)];simp only[Option.bind_some];rw[if_pos (Av hc)];exact h2
   have hgt:mO out[k].cO m.cO<0:=by
    have:=hn _ hmem;rw[Xz];omega
   refine⟨k+1,hk,?_,hd,fun x hx=>?_⟩
   ·unfold loopN;rw[if_pos (X0 (by omega)),e1,hr,C7,List.getElem?_eq_getElem hlt];simp only[Option.bind_some];rw[OK hN hm (ho _ hmem)];simp only[Option.bind_some];rw[if_neg (W9 hc)]
   rw[List.take_succ_eq_append_getElem hlt]at hx
   rcases List.mem_append.1 hx with hx|hx
   ·obtain⟨j,hj,e⟩:=List.getElem_of_mem hx
    rw[List.length_take]at hj
    have hjk:j<k:=by omega
    rw[List.getElem_take]at e
    have:=List.pairwise_iff_getElem.1 ha j k (by omega) hlt hjk
    rw[e]at this
    exact QW this hgt
   rw[List.mem_singleton.1 hx];exact hgt
 obtain⟨k',h1,h2,h3,h4⟩:=key out.length N (Nat.le_refl _) (by omega) (by simp);refine⟨k',h1,h2,?_⟩
 unfold Tx at ha ⊢
 rw[List.pairwise_append,List.pairwise_append];refine⟨⟨ha.sublist (List.take_sublist _ _),by simp,fun a h b hb=>?_⟩,ha.sublist (List.drop_sublist _ _),fun a h b hb=>?_⟩
 ·rw[List.mem_singleton.1 hb];exact h4 a h
 rcases List.mem_append.1 h with h|h
 ·exact QW (h4 a h) (h3 b hb)
 rw[List.mem_singleton.1 h];exact h3 b hb
theorem Sg{α:Type}{l:List α}{k:Nat}(h:k≤l.length):N1 l none (some (k:Int)) none=some (l.take k):=by
 unfold N1;rw[if_pos (by simp;omega)];simp
theorem Tg{α:Type}{l:List α}{k:Nat}(h:k≤l.length):N1 l (some (k:Int)) none none=some (l.drop k):=by
 unfold N1;rw[if_pos (by simp;omega)];simp only[Option.getD_some,Option.getD_none,Int.toNat_natCast];rw[List.take_of_length_le (by simp)]
theorem YX {N :Nat} (hN:40000000≤N) {l:List A7} (hl:l.length≤10) (hc:MQ l=0) {L:List (List PR)} (hL:L.length≤1500) (hn:L.Nodup) (hg:∀s∈L,Gd l s) {p:A1} (h:K0 N N p l [] 0=some L):
 ∃r,Fk N p l=some r∧Tx r∧r.Perm (L.map (Ap l)):=by
 unfold Fk;rw[h];simp only[Option.bind_some]
 rw [F5 L (by omega) (mk:=fun(m:List E4) i=>(i,m)) (body:=fun out x=>(Z1 N l x).bind fun m=>(loopN
  (fun(s8:Int)=>
   (
    if cmp .gtr s8 0=true then
     (WZ (Yx out (ar .sub .i64 s8 1))).bind fun _=>
     (B6 out (ar .sub .i64 s8 1)).bind fun x10=>
     (M6 N m x10).bind fun r11=>
     if cmp .lss r11 0=true then
      some (.inl (ar .sub .i64 s8 1))
     else
      some (.inr s8)
    else
     some (.inr s8)
    :Option ((Int) ⊕ (Int))))
  N (Ar.len out)).bind fun s9=>
  (N1 out (some s9) none none).bind fun l13=>
  (H8 [] l13).bind fun l15=>
  (N1 out none (some s9) none).bind fun l17=>
  (H8 l17 ([m])).bind fun l19=>
  (H8 l19 l15).bind fun l21=>some (.inl l21)) (fin:=fun m=>m) (s:=[]) (by omega) ?_ ?_]
 ·obtain ⟨s', h1,p,h2,h3,h4⟩:=V9 (R:=List E4) (step:=fun(out:List E4) (x:List PR)=>(Z1 N l x).bind fun m=>(loopN
          (fun(s8:Int)=>
           (
            if cmp .gtr s8 0=true then
             (WZ (Yx out (ar .sub .i64 s8 1))).bind fun _=>
             (B6 out (ar .sub .i64 s8 1)).bind fun x10=>
             (M6 N m x10).bind fun r11=>
             if cmp .lss r11 0=true then
              some (.inl (ar .sub .i64 s8 1))
             else
              some (.inr s8)
            else
             some (.inr s8)
            :Option ((Int) ⊕ (Int))))
          N (Ar.len out)).bind fun s9=>
   (N1 out (some s9) none none).bind fun l13=>
   (H8 [] l13).bind fun l15=>
   (N1 out none (some s9) none).bind fun l17=>
   (H8 l17 ([m])).bind fun l19=>
   (H8 l19 l15).bind fun l21=>some (.inl l21))
   (fun r m=>∃p,p++r=L∧Tx m∧m.Perm (p.map (Ap l))) (fun x r m ⟨p,e1,e2,e3⟩=>by
    have hx:x∈L:=by rw[←e1];simp
    have hxl:=(hg x hx).len
    have hpl:p.length≤1500:=by have:=congrArg List.length e1;simp at this;omega
    have hml:m.length≤1500:=by have:=e3.length_eq;rw[List.length_map]at this;omega
    have hmm:∀y∈m,∃t∈p,y=Ap l t:=fun y hy=>by
     obtain⟨t,ht,e⟩:=List.mem_map.1 (e3.mem_iff.1 hy);exact⟨t,ht,e.symm⟩
    have hpL:∀t∈p,t∈L:=fun t ht=>by rw[←e1];simp[ht]
    obtain⟨k,k1,k2,k3⟩:=XL hN (m:=Ap l x) (by rw[II];omega) (out:=m) (fun y hy=>by
     obtain⟨t,ht,rfl⟩:=hmm y hy;have:=(hg t (hpL t ht)).len
     rw[II];omega) (by omega) e2 (fun y hy e=>by
     obtain⟨t,ht,rfl⟩:=hmm y hy;have hxt:=Mu hl hc (hg x hx).wf (hg t (hpL t ht)).wf (Zr e);subst hxt
     rw[←e1,List.nodup_append]at hn
     exact hn.2.2 x ht x (by simp) rfl)
    refine⟨_,?_,p++[x],by simpa using e1,k3,?_⟩
    ·rw[Vk hN (by omega) (hg x hx).wf];simp only[Option.bind_some];rw[k2];simp only[Option.bind_some];rw[Tg k1,Sg k1];simp only[Option.bind_some];rw[M2 (by simp;omega),M2 (by simp;omega)];simp only[Option.bind_some];rw[M2 (by simp;omega)];rfl
    rw[List.map_append,List.map_cons,List.map_nil];refine List.Perm.trans ?_ (e3.append_right _);rw[List.append_assoc];refine(List.perm_append_comm.append_left _).trans ?_
    rw[←List.append_assoc,List.take_append_drop]) (l:=L) (s:=[]) ⟨[],rfl,List.Pairwise.nil,.refl _⟩
  rw[h1];simp only[Option.bind_some]
  rw[List.append_nil]at h2
  exact⟨s',rfl,h3,by rw[←h2];exact h4⟩
 ·intro m i x hx hi;have e:ar .add .i64 (i:Int) 1=i+1:=C4 (by omega) (by omega);have c1:cmp .lss (i:Int) (Ar.len L)=true:=Av (by rw[B1];exact hi);simp only[c1,if_true,C7,hx,Option.bind_some,e]
  cases Z1 N l x with
  |none=>rfl
  | some q=>
   simp only[Option.bind_some]
   generalize (loopN
    (fun(s8:Int)=>
     (
      if cmp .gtr s8 0=true then
       (WZ (Yx m (ar .sub .i64 s8 1))).bind fun _=>
       (B6 m (ar .sub .i64 s8 1)).bind fun x10=>
       (M6 N q x10).bind fun r11=>
       if cmp .lss r11 0=true then
        some (.inl (ar .sub .i64 s8 1))
       else
        some (.inr s8)
      else
       some (.inr s8)
      :Option ((Int) ⊕ (Int))))
    N (Ar.len m))=lo
   cases lo with
   |none=>rfl
   | some s9=>
    simp only[Option.bind_some]
    cases N1 m (some s9) none none with
    |none=>rfl
    | some a=>
     simp only[Option.bind_some]
     cases H8 [] a with
     |none=>rfl
     | some b=>
      simp only[Option.bind_some]
      cases N1 m none (some s9) none with
      |none=>rfl
      | some c=>
       simp only[Option.bind_some]
       cases H8 c [q]with
       |none=>rfl
       |some d=>
        simp only[Option.bind_some];cases H8 d b<;>rfl
 intro s;simp[C2,B1]
end
end Go.Ab
namespace Go.Ab
open Classical
noncomputable section
theorem EW(p:A1):(A1.pres p.cL).length+1=p.pre.length:=by rw[A1.pre_eq p];simp
theorem VU {N:Nat} (hN:40000000≤N):∀(n:Nat) (p:A1),p.pre.length≤n→p.pre.length≤16777216→T5 N n p=some (EP p:Int):=by
 intro n
 induction n with
 |zero=>intro p h;have:=EW p;omega
 | succ n ih=>
  intro p h hb;have hp:=EW p;have hal:=Bx p;unfold T5
  have h0:((if cmp .eql p.Op 0=true then some 1 else some 0:Option Int))=some (if p.Op=0 then 1 else 0):=by
   rw[C0]
   by_cases h:p.Op=0<;>simp[h]
  rw[h0];simp only[Option.bind_some];rw[F5 p.cL (by omega) (mk:=fun(s:Int) i=>(s,i)) (body:=fun s q=>(T5 N n q).bind fun r=>some (.inl (ar .add .i64 s r))) (fin:=fun s=>s) (s:=if p.Op=0 then 1 else 0) (by omega) ?_ ?_]
  ·obtain⟨s',h1,q,h2,h3⟩:=V9 (R:=Int) (step:=fun(s:Int) q=>(T5 N n q).bind fun r=>some (.inl (ar .add .i64 s r)))
    (fun r s=>∃q,q++r=p.cL∧s=((if p.Op=0 then 1 else 0:Int)+((A1.pres q).countP fun y=>decide (y.Op=0):Nat))) (fun x r s ⟨q,e1,e2⟩=>by
     have hx:x∈p.cL:=by rw[←e1];simp
     have hxl:=O5 hx
     have hq:(A1.pres q).length≤(A1.pres p.cL).length:=by rw[←e1,BP];simp
     have hc:=List.countP_le_length (p:=fun y:A1=>decide (y.Op=0)) (l:=A1.pres q);have hc2:=List.countP_le_length (p:=fun y:A1=>decide (y.Op=0)) (l:=x.pre);rw[ih x (by omega) (by omega)];refine⟨_,rfl,q++[x],by simpa using e1,?_⟩;have he:(EP x:Int)=((x.pre.countP fun y=>decide (y.Op=0):Nat):Int):=rfl;rw[e2,BP,List.countP_append]
     have:A1.pres [x]=x.pre:=by simp[A1.pres]
     rw[this,he,C4 (by split<;>omega) (by split<;>omega)]
     omega) (l:=p.cL) (s:=if p.Op=0 then 1 else 0) ⟨[],rfl,by simp[A1.pres]⟩
   rw[h1];simp only[Option.bind_some]
   rw[List.append_nil]at h2
   rw[h3,h2,Fc]
   by_cases h:p.Op=0<;>simp[h]
  ·intro s i x hx hi;have e:ar .add .i64 (i:Int) 1=i+1:=C4 (by omega) (by omega);simp only[C2,B1,hi,decide_true,if_true,C7,hx,Option.bind_some,e];cases T5 N n x<;>rfl
  intro s;simp[C2,B1]
theorem QG(f:A1→Bool):∀r:List A1,(A1.pres r).any f=r.any fun x=>x.pre.any f
 |[]=>rfl
 |a::r=>by simp only[A1.pres,List.any_append,any_cons,QG f r]
theorem Zz {N:Nat} (hN:40000000≤N):∀(n:Nat) (p:A1),p.pre.length≤n→p.pre.length≤16777216→Y4 N n p=some (p.pre.any fun y=>decide (y.Op=4)):=by
 intro n
 induction n with
 |zero=>intro p h;have:=EW p;omega
 | succ n ih=>
  intro p h hb;have hp:=EW p;have hal:=Bx p;unfold Y4;rw[A1.pre_eq p,any_cons]
  by_cases h4:p.Op=4
  ·rw[if_pos (by rw[C0];exact decide_eq_true h4)];simp[h4]
  rw[if_neg (by rw[C0];simpa using h4)]
  rw [BR (l:=p.cL) (fun x=>x.pre.any fun y=>decide (y.Op=4)) (by omega) (by omega) (fun i x hx hi=>by
      have hm:=List.mem_of_getElem? hx;have hxl:=O5 hm;have e:ar .add .i64 (i:Int) 1=i+1:=C4 (by omega) (by omega);simp only[C2,B1,hi,decide_true,if_true,C7,hx,Option.bind_some,e,ih x (by omega) (by omega)]
      split<;>rfl) (by simp[C2,B1])]
  rw[QG];simp only[h4,decide_false,Bool.false_or]
  by_cases ha:(p.cL.any fun x=>x.pre.any fun y=>decide (y.Op=4))=true
  ·rw[if_pos ha,ha];rfl
  rw[if_neg ha]
  rw[Bool.not_eq_true]at ha
  rw[ha];rfl
theorem QH {N:Nat} (hN:40000000≤N) {b n:Nat} (hb:b≤20000000) (hn:n≤20000000):∃r,BJ N (b:Int) (n:Int) 1500=some r∧(r≤1500→r=((b ^ n:Nat):Int)):=by
 unfold BJ
 have key:∀(k i M:Nat) (out:Int),i+k=n→k<M→out=((b ^ i:Nat):Int)→out≤30000000000→∃r,loopN
  (fun(s1:Int×Int)=>
   (
    if an (cmp .lss s1.2 (n:Int)) (cmp .leq s1.1 1500)=true then
     some (.inl (ar .mul .i64 s1.1 (b:Int),ar .add .i64 s1.2 1))
    else
     some (.inr s1.1)
    :Option ((Int×Int) ⊕ (Int))))
  M (out,(i:Int))=some r∧(r≤1500→r=((b ^ n:Nat):Int)):=by
  intro k
  induction k with
  |zero=>
   intro i M out hi hM ho _;obtain⟨M,rfl⟩:∃m,M=m+1:=⟨M - 1,by omega⟩;refine⟨out,?_,fun _=>by rw[ho,show i=n by omega]⟩;unfold loopN
   dsimp only
   rw[if_neg (by simp only[L7,C2];simp;omega)]
  | succ k ih=>
   intro i M out hi hM ho hs;obtain⟨M,rfl⟩:∃m,M=m+1:=⟨M - 1,by omega⟩
   have h0:0≤out:=by rw[ho];omega
   by_cases hle:out≤1500
   ·have hmul:out*(b:Int)≤1500*20000000:=Int.mul_le_mul hle (by omega) (by omega) (by omega);have hmul0:0≤out*(b:Int):=Int.mul_nonneg h0 (by omega);have em:ar .mul .i64 out (b:Int)=out*(b:Int):=AF (by omega) (by omega);have e:ar .add .i64 (i:Int) 1=i+1:=C4 (by omega) (by omega);obtain⟨r,h1,h2⟩:=ih (i+1) M (out*(b:Int)) (by omega) (by omega) (by rw[ho,Nat.pow_succ];simp) (by omega);refine⟨r,?_,h2⟩;unfold loopN
    dsimp only
    rw[if_pos (by simp only[L7,C2,Cg];simp;omega),em,e,show((i:Int)+1)=((i+1:Nat):Int) by omega];exact h1
   refine⟨out,?_,fun h=>absurd h hle⟩;unfold loopN
   dsimp only
   rw[if_neg (by simp only[L7,C2,Cg];simp;omega)]
 obtain⟨r,h1,h2⟩:=key n 0 N 1 (by omega) (by omega) (by simp) (by omega);have h0:((0:Nat):Int)=0:=rfl
 rw[h0]at h1
 exact⟨r,by rw[h1];rfl,h2⟩
theorem WK {N:Nat} (hN:40000000≤N) {p:A1} (hb:p.bulk≤16777216) {l:List A7} (hlb:l.length≤16777216):∃b,CR N p l=some b∧(b=true→l.length≤10∧((EP p+1) ^ l.length≤1500∨(CG p∧l.length ^ EP p≤1500))):=by
 obtain⟨few,hf⟩:=few9 hN hb;have hpb:=Ea p;have hev:EP p≤p.pre.length:=List.countP_le_length;unfold CR;rw[hf];simp only[Option.bind_some]
 by_cases h1:Ar.or (nt few) (cmp .gtr (Ar.len l) 10)=true
 ·rw[if_pos h1];exact⟨false,rfl,fun h=>by cases h⟩
 rw[if_neg h1]
 have hl:l.length≤10:=by
  simp only[I9,Q3,Q6,B1]at h1
  simp at h1
  omega
 rw[BR (l:=l) (fun x=>cmp .gtr (Ar.len x.Values) 9) (by omega) (by omega) (fun i x hx hi=>by
  have e:ar .add .i64 (i:Int) 1=i+1:=C4 (by omega) (by omega);rw[if_pos (P3 hi),C7,hx];simp only[Option.bind_some,e]
  split<;>rfl) (by rw[if_neg S4])]
 simp only[Option.bind_some]
 by_cases h2:(l.any fun x=>cmp .gtr (Ar.len x.Values) 9)=true
 ·rw[if_pos h2];exact⟨false,rfl,fun h=>by cases h⟩
 rw[if_neg h2]
 dsimp only
 rw[VU hN N p (by omega) (by omega),Zz hN N p (by omega) (by omega)];simp only[Option.bind_some];obtain⟨r1,h3,h4⟩:=QH hN (b:=EP p+1) (n:=l.length) (by omega) (by omega);obtain⟨r2,h5,h6⟩:=QH hN (b:=l.length) (n:=EP p) (by omega) (by omega);rw[C4 (a:=(EP p:Int)) (by omega) (by omega),show((EP p:Int)+1)=((EP p+1:Nat):Int) by omega,B1,h3];simp only[Option.bind_some]
 by_cases h7:r1≤1500
 ·rw[if_pos (show cmp .leq r1 1500=true from decide_eq_true h7)];exact⟨true,rfl,fun _=>⟨hl,.inl (by have:=h4 h7;omega)⟩⟩
 rw[if_neg (show¬(cmp .leq r1 1500=true) by rw[Cg];simpa using h7)]
 cases hp:p.pre.any fun y=>decide (y.Op=4)with
 |true=>
  rw[if_neg (show¬nt true=true by decide)];exact⟨false,rfl,fun h=>by cases h⟩
 | false=>
  rw[if_pos (show nt false=true from rfl),h5];refine⟨decide (r2≤1500),rfl,fun h=>⟨hl,.inr ⟨fun y hy e=>?_,?_⟩⟩⟩
  ·rw[List.any_eq_false]at hp
   exact hp y hy (decide_eq_true e)
  have h8:=of_decide_eq_true h;have:=h6 h8;omega
theorem Ad4{p:A1}{l:List A7}(hp:p.pre.length≤64)(hs:(EP p+1) ^ l.length≤1500∨(CG p∧l.length ^ EP p≤1500)):Ja l.length p:=by
 rcases hs with h|⟨h1,h2⟩
 ·exact .inl h
 by_cases h3:2≤l.length
 ·exact .inr ⟨h1,h3,h2⟩
 left
 have hev:EP p≤p.pre.length:=List.countP_le_length
 have:l.length=0∨l.length=1:=by omega
 rcases this with h|h<;>rw[h]<;>simp<;>omega
theorem Xw{p:A1}{l:List A7}(hp:p.pre.length≤64)(hl:l.length≤10):mu l p 0≤1000:=by
 unfold mu;have:=Nat.mul_le_mul hp (show l.length+2≤12 by omega);omega
theorem Mj(l:List A7):Il l [] ((0:Nat):Int):=⟨Gd.nil l,fun _ h=>absurd h List.not_mem_nil,by omega,by omega⟩
theorem ZM {N:Nat} (hN:40000000≤N) {p:A1} (hb:p.bulk≤16777216) {l:List A7} (hl:l.length≤10) (hs:(EP p+1) ^ l.length≤1500∨(CG p∧l.length ^ EP p≤1500)):
 ∃r e,O1 N p l=some (r,e)∧Bo N p l=some (r,e)∧(∀x∈r,x.cO.length≤10)∧r.length≤1500∧(e=0→Ry N p=0∧MQ l=0∧Tx r∧∃L:List (List PR),L.Nodup∧(∀s,s∈L↔Sm l p [] 0 s)∧r.Perm (L.map (Ap l)))∧(e≠0→r=[])∧CS N p l=some e:=by
 unfold O1 Bo CS;rw[Vv hN hb,Vp hN hb];simp only[Option.bind_some]
 by_cases h1:Ry N p=0
 ·rw [if_neg (J8 h1),if_neg (J8 h1),YO hN,YW hN];simp only[Option.bind_some]
  by_cases h2:MQ l=0
  ·rw[if_neg (J8 h2),if_neg (J8 h2)];obtain⟨hw,hp⟩:=UG hN hb h1;have hsm:=Ad4 hp hs;have hmu:=Xw hp hl;obtain⟨L1,a1,a2,a3⟩:=Vh hN hl 1000 p [] 0 N hmu (by omega) hp hw hsm (Mj l);obtain⟨L2,b1,b2,b3⟩:=(Ad7 hN hl 1000 p [] 0 N hmu (by omega) hp hw hsm (Mj l)).1;have hcL1:=Fe hw hsm (Mj l) a2 fun s h=>(a3 s).1 h;have hcL2:=Kw hw hsm (Mj l) ⟨b2,fun s h=>(b3 s).1 h⟩;have hres:∀s∈L2,JW l 0 s:=fun s h=>((b3 s).1 h).res hw (Mj l);obtain⟨r,r1,r2,r3⟩:=YX hN hl h2 hcL2 b2 (fun s h=>(hres s h).gd) b1
   have hperm:(L1.map G9).Perm L2:=by
    refine(List.perm_ext_iff_of_nodup ?_ b2).2 fun s=>?_
    ·rw[List.Nodup,List.pairwise_map];exact a2.imp fun hne e=>hne (HF e)
    rw[b3,List.mem_map]
    constructor
    ·rintro⟨t,ht,rfl⟩;exact(a3 t).1 ht
    intro h;exact⟨s.map Jm,(a3 _).2 (by rw[P1];exact h),P1 s⟩
   have hrl:r.length≤1500:=by have:=r3.length_eq;rw[List.length_map]at this;omega
   have hrb:∀x∈r,x.cO.length≤10:=fun x hx=>by
    obtain⟨t,ht,rfl⟩:=List.mem_map.1 (r3.mem_iff.1 hx);have:=(hres t ht).gd.len;rw[II];omega
   have h00:((0:Nat):Int)=0:=rfl
   rw[h00]at a1
   refine⟨r,0,?_,by rw[r1];rfl,hrb,hrl,fun _=>⟨h1,h2,r2,L2,b2,b3,r3⟩,fun h=>absurd rfl h,by rw[h2]⟩;rw[a1];simp only[Option.bind_some]
   rw[(Fs (L:=L1) (N:=N) (fun(m:List E4) i=>(i,m)) (fun m s=>m++[Ap l (G9 s)]) (fun m=>m) (fun i m=>m.length=i) (by omega) (by omega) rfl (fun m i s hs' hi hm e hl=>by
    have gs:=(((a3 s).1 hm).res hw (Mj l)).gd;have hsl:=gs.len
    rw[List.length_map]at hsl
    rw[if_pos (P3 hi),C7,hs'];simp only[Option.bind_some]
    rw[(Fs (L:=s) (N:=N) (fun(m:E4) i=>(i,m)) (fun m x=>⟨m.cO++[⟨x.cR,KL l x.at_⟩]⟩) (fun m=>m) (fun i m=>m.cO.length=i) (by omega) (by omega) rfl (fun m i x hx hi hm e hl=>by
     have hw:=gs.wf (pr x) (List.mem_map.2 ⟨x,hm,rfl⟩);obtain⟨e',h1,h2⟩:=TP (l:=l) (i:=x.at_) hw.2.1 hw.2.2;rw[if_pos (P3 hi),C7,hx];simp only[Option.bind_some];rw[h1];simp only[Option.bind_some,CA];rw[M2 (by simp;omega),e,h2]
     exact⟨rfl,by simp[hl]⟩) (fun m=>by dsimp only;rw[if_neg S4])).1,IT]
    simp only[Option.bind_some,List.nil_append];rw[M2 (by simp;omega),e];refine⟨?_,by simp[hl]⟩;simp only[Option.bind_some,Ap,G9,List.map_map]
    rfl) (fun m=>by dsimp only;rw[if_neg S4])).1]
   have hf:∀(L:List (List BD)) (m:List E4),L.foldl (fun m s=>m++[Ap l (G9 s)]) m=m++L.map fun s=>Ap l (G9 s):=fun L=>by
    induction L with
    |nil=>intro m;simp
    |cons a L ih=>intro m;rw[List.foldl_cons,ih];simp
   rw[hf,List.nil_append];simp only[Option.bind_some];rw[Ad3 hN (r:=r) ?_ r2 (fun x hx=>by have:=hrb x hx;omega) (by simp;omega)]
   ·rfl
   have:=(hperm.map (Ap l))
   rw[List.map_map]at this
   exact r3.trans this.symm
  rw[if_pos (K2 h2),if_pos (K2 h2)];exact⟨[],_,rfl,rfl,by simp,by simp,fun h=>absurd h h2,fun _=>rfl,rfl⟩
 simp only[K2 h1,if_true,Option.bind_some];exact⟨[],_,rfl,rfl,by simp,by simp,fun h=>absurd h h1,fun _=>rfl,rfl⟩
theorem Vi {N:Nat} (hN:40000000≤N) {r:List E4} (hr:r.length≤1000000) (hb:∀x∈r,x.cO.length≤1000000):DT N r r=some true:=by
 unfold DT;rw[if_neg (by rw[F6];simp)]
 rw [BR (l:=r) (fun _=>false) (by omega) (by omega) (fun i x hx hi=>by
     have e:ar .add .i64 (i:Int) 1=i+1:=C4 (by omega) (by omega);have hm:=List.mem_of_getElem? hx;rw[if_pos (P3 hi),C7,hx];simp only[Option.bind_some];rw[OK hN (hb x hm) (hb x hm),Ue];simp only[Option.bind_some,e]
     rfl) (by rw[if_neg S4])]
 simp
theorem QV {N:Nat} (hN:40000000≤N) (awake:BS N=some true) {p:A1} (hb:p.bulk≤1048576) {l:List A7} (hl:l.length≤1048576):T8 N p l=some true:=by
 unfold T8;obtain⟨b,h1,h2⟩:=WK hN (p:=p) (by omega) (l:=l) (by omega);rw[h1];simp only[Option.bind_some]
 cases b with
 |false=>rw[if_pos (show nt false=true from rfl),awake];rfl
 |true=>
  rw[if_neg (show¬nt true=true by decide)];obtain⟨hl10,hs⟩:=h2 rfl;obtain⟨r,e,k1,k2,k3,k4,_⟩:=ZM hN (show p.bulk≤16777216 by omega) hl10 hs;unfold W5;rw[k1,k2];simp only[Option.bind_some];rw[Vi hN (by omega) fun x hx=>by have:=k3 x hx;omega];simp only[Option.bind_some];rw[if_pos (by simp[L7,C0]),awake];rfl
end
end Go.Ab
namespace Go.Ab
open Go.RowKit Go.ChangeShapes Go.WideShapes Go.ChangeAt Go.Proofs Go.Proofs.YtanbgjgaafeplaaGreatDoor
set_option maxRecDepth 100000
section
variable{H:Type}{enc:TypeId×Value→H}{W:World}{base:Nat}{spare:Nat→Bool}{held:Bool}
theorem u196:Tryz.prog.underlying 196=some (.array G2.length 195):=by kernel_rfl
theorem u195:Tryz.prog.underlying 195=some (.struct (Pg Tryz.prog 195)):=by kernel_rfl
theorem SH (n:Nat):Opens enc Tryz.prog W base spare held 195 I8.eAp5 (fun(a:J2) d=>d= .agg [.lit (.int .i64 a.cS),.lit (.int .i64 a.most),.lit (.bool a.cP),.lit (.bool a.cond),.lit (.bool a.scope),.lit (.bool a.span)]) n:=by
 intro cs x h;obtain⟨xs,m,rfl,rfl,hcl,hl,hf⟩:=DataW.trod_struct u195 h;obtain⟨y0,k0,t0⟩:=I3 hl hf 0 (ty:=3) (off:=0) (sz:=1) (by kernel_rfl);obtain⟨y1,k1,t1⟩:=I3 hl hf 1 (ty:=3) (off:=1) (sz:=1) (by kernel_rfl);obtain⟨y2,k2,t2⟩:=I3 hl hf 2 (ty:=4) (off:=2) (sz:=1) (by kernel_rfl);obtain⟨y3,k3,t3⟩:=I3 hl hf 3 (ty:=4) (off:=3) (sz:=1) (by kernel_rfl);obtain⟨y4,k4,t4⟩:=I3 hl hf 4 (ty:=4) (off:=4) (sz:=1) (by kernel_rfl);obtain⟨y5,k5,t5⟩:=I3 hl hf 5 (ty:=4) (off:=5) (sz:=1) (by kernel_rfl)
 have hxs:xs=[y0,y1,y2,y3,y4,y5]:=match xs,hl.trans (show _=6 by kernel_rfl),k0,k1,k2,k3,k4,k5 with|[_,_,_,_,_,_],_,rfl,rfl,rfl,rfl,rfl,rfl=>rfl
 obtain⟨a0,r0,q0⟩:=Kk u3 _ _ t0;obtain⟨a1,r1,q1⟩:=Kk u3 _ _ t1;obtain⟨a2,r2,q2⟩:=FT u4 _ _ t2;obtain⟨a3,r3,q3⟩:=FT u4 _ _ t3;obtain⟨a4,r4,q4⟩:=FT u4 _ _ t4;obtain⟨a5,r5,q5⟩:=FT u4 _ _ t5;refine⟨⟨a0,a1,a2,a3,a4,a5⟩,?_,?_⟩
 ·have hc3:cs.length=6:=hcl.trans (by kernel_rfl);have:=((((r0.join r1).join r2).join r3).join r4).join r5;rw[I8.eAp7]
  simpa[List.take_of_length_le,hc3,V.cells]using this
 rw[hxs];simp only[List.map_cons,List.map_nil,q0,q1,q2,q3,q4,q5]
theorem Ny:∀(l k:List J2),(RL (H:=H) (fun(a:J2) d=>d= .agg [.lit (.int .i64 a.cS),.lit (.int .i64 a.most),.lit (.bool a.cP),.lit (.bool a.cond),.lit (.bool a.scope),.lit (.bool a.span)]) l
 (k.map fun a=>.agg [.lit (.int .i64 a.cS),.lit (.int .i64 a.most),.lit (.bool a.cP),.lit (.bool a.cond),.lit (.bool a.scope),.lit (.bool a.span)]))→l=k
 |[],[],_=>rfl
 |[],_::_,h=>by have:=h.1;simp at this
 |_::_,[],h=>by have:=h.1;simp at this
 |a::l,b::k,h=>by
  have h0:=h.2 0 a _ rfl rfl;have h1:=Ny l k ⟨by simpa using h.1,fun i a d hi hd=>h.2 (i+1) a d (by simpa using hi) (by simpa using hd)⟩;subst h1;obtain⟨a0,a1,a2,a3,a4,a5⟩:=a;obtain⟨b0,b1,b2,b3,b4,b5⟩:=b
  simp at h0
  simp[h0]
theorem Rd (h:laidMetH Tryz.prog Rows.semanticsMatchesRow.laid W):VR (g0 W) W (.pointer (some ⟨0,0,none⟩)) (I7.gl 0):=by
 have h':laidMet Tryz.prog Rows.semanticsMatchesRow.laid W:=h;obtain⟨ps,⟨_,_,_,_,_,q1,_,_,_,_,L1,_⟩,_⟩:=h';obtain⟨_,_,_,_,_,q2,_,_,_,_,L2,_⟩:=L1;obtain⟨_,_,_,_,_,q3,_,_,_,_,L3,_⟩:=L2;obtain⟨g',t',cs,fuel,p,q,hg',ht',hvar,hd,_,_⟩:=L3;obtain rfl:g'=0:=Option.some.inj (hg'.symm.trans (by kernel_rfl));obtain rfl:t'=196:=Option.some.inj (ht'.symm.trans (by kernel_rfl));obtain⟨l,hr,ds,hds,hl⟩:=QN u196 (by kernel_rfl) (by decide) (fun n=>SH n) hd
 have e:ds=G2.map fun a=>.agg [.lit (.int .i64 a.cS),.lit (.int .i64 a.most),.lit (.bool a.cP),.lit (.bool a.cond),.lit (.bool a.scope),.lit (.bool a.span)]:=by
  have e2:(Rows.laid_tidegate_pattern_shapes:DataW Unit)= .agg ds:=hds;have e3:(Rows.laid_tidegate_pattern_shapes:DataW Unit)= .agg (G2.map fun a=>.agg [.lit (.int .i64 a.cS),.lit (.int .i64 a.most),.lit (.bool a.cP),.lit (.bool a.cond),.lit (.bool a.scope),.lit (.bool a.span)]):=rfl
  rw[e3]at e2
  exact(DataW.agg.inj e2).symm
 subst e;obtain rfl:=Ny _ _ hl;exact Ri hg' hvar hr
theorem Af7(h:laidMetH Tryz.prog Rows.semanticsMatchesRow.laid W):∀n,VR (g0 W) W (.pointer (some ⟨n,0,none⟩)) (I7.gl n)
 |0=>Rd h
 |_+1=>.bad _
end
end Go.Ab
