/- GLW2 GLW3 GLL4 GLX1 GLX2 GLX4 GLL5 GLW5 GLV1 GLV2 GLV3 -/
import Derived.Test.YtildiiggamckaaaGreatDoorL17
import Derived.KernelRfl
set_option linter.all false
open Go.Ab.Ar (ar cmp nt)
namespace Go.Ab
def Wr (S:List (Int×Bool)):Prop:=S.Nodup∧∀p∈S,p.2=true
theorem WG :Wr []:=⟨GU,fun p h=>by cases h⟩
theorem Wc {S:List (Int×Bool)} (h:Wr S) {k:Int} (hk:(k,true)∈S):Am S k (false:Bool)=some (true,true):=by
 unfold Am
 cases hf:S.find? (fun p=>decide (p.1=k))with
 |none=>have:=List.find?_eq_none.1 hf _ hk;simp at this
 |some p=>
  have h1:=h.2 p (Ez hf);simp only[h1]
theorem SE {S:List (Int×Bool)} (h:Wr S) {k:Int} (hk:¬(k,true)∈S):Am S k (false:Bool)=some (false,false)∧AV S k true=some (S++[(k,true)])∧Wr (S++[(k,true)]):=by
 have hn:∀p∈S,¬p.1=k:=fun p hp e=>hk (by have:=h.2 p hp;obtain⟨a,b⟩:=p;simp only at this e;subst this;subst e;exact hp);refine⟨?_,?_,?_,?_⟩
 ·unfold Am;rw[List.find?_eq_none.2 (fun p hp=>by simpa using hn p hp)]
 ·unfold AV;rw[A3];simp only[DE,C2];rintro⟨p,hp,e⟩;exact hn p hp e
 ·rw[Ex];refine⟨h.1,by simp,fun a ha b hb=>?_⟩
  simp only[J2]at hb
  subst hb;rintro rfl;exact hk ha
 intro p hp
 rcases List.mem_append.1 hp with hp|hp
 ·exact h.2 p hp
 simp only[J2]at hp;rw[hp]
theorem Ro {p q:Int×Bool} (h:p.1=q.1→p=q):∀l,Mt p (Mt q l)=Mt q (Mt p l)
 |[]=>by
  by_cases e:p=q
  ·rw[e]
  have:¬p.1=q.1:=fun h'=>e (h h');simp only[Mt]
  by_cases h1:p.1≤q.1
  ·rw[A2 h1,A3 (by omega)]
  rw[A3 h1,A2 (by omega)]
 | r::l=>by
  by_cases e:p=q
  ·rw[e]
  have hne:¬p.1=q.1:=fun h'=>e (h h');have ih:=Ro h l
  by_cases h1:p.1≤r.1
  ·by_cases h2:q.1≤r.1
   ·by_cases h3:p.1≤q.1
    ·simp only[Mt,A2 h1,A2 h2,A2 h3,A3 (show¬q.1≤p.1 by omega)]
    simp only[Mt,A2 h1,A2 h2,A3 h3,A2 (show q.1≤p.1 by omega)]
   simp only[Mt,A2 h1,A3 h2,A3 (show¬q.1≤p.1 by omega)]
  by_cases h2:q.1≤r.1
  ·simp only[Mt,A3 h1,A2 h2,A3 (show¬p.1≤q.1 by omega)]
  simp only[Mt,A3 h1,A3 h2,ih]
theorem Zu {l m:List (Int×Bool)} (h:l.Perm m) (ht:∀p∈l,p.2=true):DV l=DV m:=by
 induction h with
 |nil=>rfl
 |cons x _ ih=>simp only[DV];rw[ih (fun p hp=>ht p (J7 _ hp))]
 |swap x y l=>
  simp only[DV];refine Ro (fun e=>?_) _;have h1:=ht x (by simp);have h2:=ht y (by simp);exact Prod.ext e (by rw[h1,h2])
 |trans h1 _ ih1 ih2=>rw[ih1 ht,ih2 (fun p hp=>ht p (h1.mem_iff.2 hp))]
theorem Zl {S:List (Int×Bool)}(h:Wr S):Wr (DV S):=⟨(Gx S).nodup_iff.2 h.1,fun p hp=>h.2 p ((Gx S).mem_iff.1 hp)⟩
theorem Ah0 {S S':List (Int×Bool)}(h:Wr S)(h':Wr S')(hm:∀k,(k,true)∈S↔(k,true)∈S'):DV S=DV S':=by
 refine Zu ((List.perm_ext_iff_of_nodup h.1 h'.1).2 fun p=>?_) h.2;obtain⟨k,b⟩:=p;cases b
 ·exact⟨fun hp=>by have:=h.2 _ hp;simp at this,fun hp=>by have:=h'.2 _ hp;simp at this⟩
 exact hm k
section
variable {x:B8}{t:Int}
noncomputable def UY (N:Nat)(x:B8)(S:List (Int×Bool))(m:C3):Option (List (Int×Bool)⊕Unit):=
 (Am S m.To (false:Bool)).bind fun r=>if nt r.1=true then(S6 N m.On x).bind fun c=>if c=true then(AV S m.To true).bind fun l=>some (.inl l)else some (.inl S)else some (.inl S)
theorem MN {N:Nat} (hN:300<N) (hx:Md t x=0):∀(l:List C3) (S:List (Int×Bool)),(∀m∈l,IN t m.On=0)→Wr S→
 ∃S',G0 (UY N x) l S=some (.inl S')∧Wr S'∧∀k,(k,true)∈S'↔(k,true)∈S∨∃m∈l,m.To=k∧Ni m.On x=true
 |[],S,_,hS=>⟨S,rfl,hS,fun k=>by simp⟩
 | m ::l,S,hl,hS=>by
  have hm:=Sd hN (hl m (by simp)) hx;have hl':∀m∈l,IN t m.On=0:=fun y hy=>hl y (J7 _ hy)
  by_cases h1:(m.To,true)∈S
  ·obtain⟨S',e,h2,h3⟩:=MN hN hx l S hl' hS;refine⟨S',?_,h2,fun k=>?_⟩
   ·rw[G0,show UY N x S m=some (.inl S) by simp[UY,Wc hS h1,Bb]];exact e
   rw[h3 k]
   constructor
   ·rintro(h|⟨y,hy,h⟩)
    ·exact .inl h
    exact .inr ⟨y,J7 _ hy,h⟩
   rintro(h|⟨y,hy,h⟩)
   ·exact .inl h
   rcases List.mem_cons.1 hy with rfl|hy
   ·exact .inl (by rw[←h.1];exact h1)
   exact .inr ⟨y,hy,h⟩
  obtain⟨g1,g2,g3⟩:=SE hS h1
  cases hc:Ni m.On x with
  | false=>
   obtain⟨S',e,h2,h3⟩:=MN hN hx l S hl' hS;refine⟨S',?_,h2,fun k=>?_⟩
   ·rw[G0,show UY N x S m=some (.inl S) by simp[UY,g1,Bb,hm,hc]];exact e
   rw[h3 k]
   constructor
   ·rintro(h|⟨y,hy,h⟩)
    ·exact .inl h
    exact .inr ⟨y,J7 _ hy,h⟩
   rintro(h|⟨y,hy,h⟩)
   ·exact .inl h
   rcases List.mem_cons.1 hy with rfl|hy
   ·rw[hc]at h;cases h.2
   exact .inr ⟨y,hy,h⟩
  | true=>
   obtain⟨S',e,h2,h3⟩:=MN hN hx l _ hl' g3;refine⟨S',?_,h2,fun k=>?_⟩
   ·rw[G0,show UY N x S m=some (.inl (S++[(m.To,true)])) by simp[UY,g1,g2,Bb,hm,hc]];exact e
   rw[h3 k]
   constructor
   ·rintro(h|⟨y,hy,h⟩)
    ·rcases List.mem_append.1 h with h|h
     ·exact .inl h
     simp only[J2,X6,I9]at h
     exact .inr ⟨m,by simp,h.symm,hc⟩
    exact .inr ⟨y,J7 _ hy,h⟩
   rintro(h|⟨y,hy,h⟩)
   ·exact .inl (P6 _ h)
   rcases List.mem_cons.1 hy with rfl|hy
   ·exact .inl (Dl _ (by rw[h.1];simp))
   exact .inr ⟨y,hy,h⟩
variable {s:A0}
noncomputable def SS (N:Nat)(s:A0)(x:B8)(S:List (Int×Bool))(p:Int×Bool):Option (List (Int×Bool)⊕List (Int×Bool)):=
 (J6 N s p.1).bind fun r=>(G0 (UY N x) r S).bind fun o=>match o with| .inl S'=>some (.inl S')| .inr _=>none
theorem Qq {N:Nat} (hN:3000<N) (hx:Md s.cW x=0) (hs:GN s):∀(l S:List (Int×Bool)),Wr S→
 ∃S',G0 (SS N s x) l S=some (.inl S')∧Wr S'∧∀k,(k,true)∈S'↔(k,true)∈S∨∃p∈l,∃m∈s.cV,m.cX=p.1∧m.To=k∧Ni m.On x=true
 |[],S,hS=>⟨S,rfl,hS,fun k=>by simp⟩
 | p::l,S,hS=>by
  obtain⟨S1,e1,h1,h2⟩:=MN (N:=N) (t:=s.cW) (by omega) hx (s.cV.filter fun m=>decide (m.cX=p.1)) S (fun m hm=>(hs.each m (List.mem_filter.1 hm).1).2) hS;obtain⟨S',e,h3,h4⟩:=Qq hN hx hs l S1 h1;refine⟨S',?_,h3,fun k=>?_⟩
  ·rw[G0,show SS N s x S p=some (.inl S1) by simp[SS,OI hN hs.mv,e1]];exact e
  rw[h4 k,h2 k]
  constructor
  ·rintro((h|⟨m,hm,h⟩)|⟨q,hq,h⟩)
   ·exact .inl h
   ·obtain⟨hm,e⟩:=List.mem_filter.1 hm;exact .inr ⟨p,by simp,m,hm,by simpa using e,h⟩
   exact .inr ⟨q,J7 _ hq,h⟩
  rintro(h|⟨q,hq,m,hm,e,h⟩)
  ·exact .inl (.inl h)
  rcases List.mem_cons.1 hq with rfl|hq
  ·exact .inl (.inr ⟨m,List.mem_filter.2 ⟨hm,by simpa using e⟩,h⟩)
  exact .inr ⟨q,hq,m,hm,e,h⟩
theorem addP {N:Nat}(hN:3000<N)(hx:Md s.cW x=0)(hs:GN s)(S:List (Int×Bool)):
 ∃S',CO (SS N s x) (fun S=>S) (fun S=>DV S) S ([]:List (Int×Bool))=some S'∧Wr S'∧∀k,(k,true)∈S'↔∃p∈S,∃m∈s.cV,m.cX=p.1∧m.To=k∧Ni m.On x=true:=by
 obtain⟨S',e,h1,h2⟩:=Qq hN hx hs S [] WG;refine⟨DV S',MZ fun m hm=>?_,Zl h1,fun k=>?_⟩
 ·obtain⟨S2,e2,h3,h4⟩:=Qq hN hx hs m [] WG;rw[e2];simp only[H8,Yw,D9];refine Ah0 h3 h1 fun k=>?_;rw[h4,h2];simp only[Jh,false_or];exact⟨fun⟨p,hp,h⟩=>⟨p,hm.mem_iff.1 hp,h⟩,fun⟨p,hp,h⟩=>⟨p,hm.mem_iff.2 hp,h⟩⟩
 rw[(Gx S').mem_iff,h2];simp
end
noncomputable def nxI (N:Nat)(b:List Bool)(x:B8)(o:List Bool)(m:C3):Option (List Bool⊕List Bool):=
 (D0 b m.cX).bind fun x7=>if x7=true then(EE N m.On x).bind fun r=>if r=true then(DK (Eh o m.To)).bind fun _=>(CM o m.To (fun _:Bool=>true)).bind fun l=>some (.inl l)else some (.inl o)else some (.inl o)
theorem Sn {N:Nat} {x:B8} {t:Int} {b:List Bool} (hN:300<N) (hx:Md t x=0):∀(l:List C3) (o:List Bool),o.length=b.length→
 (∀m∈l,((0≤m.cX∧m.cX<(b.length:Int))∧0≤m.To∧m.To<(b.length:Int))∧IN t m.On=0)→
 ∃o',G0 (nxI N b x) l o=some (.inl o')∧o'.length=b.length∧∀k:Nat,o'[k]? =some true↔o[k]? =some true∨∃m∈l,b[m.cX.toNat]? =some true∧m.To=(k:Int)∧Ni m.On x=true
 |[],o,ho,_=>⟨o,rfl,ho,fun k=>by simp⟩
 | m ::l,o,ho,hl=>by
  have hl':=fun y hy=>hl y (J7 m hy);obtain⟨⟨⟨f0,f1⟩,t0,t1⟩,hp⟩:=hl m (by simp);have hc:=XV (x:=x) hN hp hx;obtain⟨i,hi⟩:∃i:Nat,m.cX=(i:Int):=⟨m.cX.toNat,by omega⟩;obtain⟨j,hj⟩:∃j:Nat,m.To=(j:Int):=⟨m.To.toNat,by omega⟩
  have hib:i<b.length:=by omega
  have hbi:=E2 hib
  have skip:∀{P:Prop},(b[i]=true∧Ni m.On x=true→P)→nxI N b x o m=some (.inl o)→(∀k:Nat,(k:Int)=m.To→b[i]=true∧Ni m.On x=true→o[k]? =some true)→
   ∃o',G0 (nxI N b x) (m::l) o=some (.inl o')∧o'.length=b.length∧∀k:Nat,o'[k]? =some true↔o[k]? =some true∨∃y∈m::l,b[y.cX.toNat]? =some true∧y.To=(k:Int)∧Ni y.On x=true:=by
   intro P _ e1 hk;obtain⟨o',e,h1,h2⟩:=Sn (N:=N) (b:=b) hN hx l o ho hl';refine⟨o',by rw[G0,e1];exact e,h1,fun k=>?_⟩;rw[h2 k]
   constructor
   ·rintro(h|⟨y,hy,h⟩)
    ·exact .inl h
    exact .inr ⟨y,J7 _ hy,h⟩
   rintro(h|⟨y,hy,h⟩)
   ·exact .inl h
   rcases List.mem_cons.1 hy with rfl|hy
   ·rw[hi,show(i:Int).toNat=i by omega,hbi]at h
    exact .inl (hk k h.2.1.symm ⟨X8 h.1,h.2.2⟩)
   exact .inr ⟨y,hy,h⟩
  cases hb:b[i]with
  |false=>exact skip (P:=True) (fun _=>trivial) (by simp[nxI,hi,I0,hbi,hb]) (fun k _ h=>by rw[hb]at h;cases h.1)
  | true=>
   cases hcc:Ni m.On x with
   |false=>exact skip (P:=True) (fun _=>trivial) (by simp[nxI,hi,I0,hbi,hb,hc,hcc]) (fun k _ h=>by rw[hcc]at h;cases h.2)
   | true=>
    have hjo:j<o.length:=by omega
    obtain⟨o',e,h1,h2⟩:=Sn (N:=N) (b:=b) hN hx l (o.set j true) (by simpa using ho) hl';refine⟨o',?_,h1,fun k=>?_⟩
    ·rw[G0,show nxI N b x o m=some (.inl (o.set j true)) by
      unfold nxI
      have hio:Eh o (j:Int)=true:=by unfold Eh;simp;omega
      simp only[hi,I0,hbi,hb,hc,hcc,A6,C7,hj,DK,hio,CM,E2 hjo,H8]
      rfl]
     exact e
    rw[h2 k]
    have hset:(o.set j true)[k]? =some true↔o[k]? =some true∨j=k:=by
     rw[P5]
     by_cases e:j=k
     ·subst e;simp[hjo]
     simp[e]
    rw[hset]
    constructor
    ·rintro((h|h)|⟨y,hy,h⟩)
     ·exact .inl h
     ·exact .inr ⟨m,by simp,by rw[hi,show(i:Int).toNat=i by omega,hbi,hb],by omega,hcc⟩
     exact .inr ⟨y,J7 _ hy,h⟩
    rintro(h|⟨y,hy,h⟩)
    ·exact .inl (.inl h)
    rcases List.mem_cons.1 hy with rfl|hy
    ·exact .inl (.inr (by omega))
    exact .inr ⟨y,hy,h⟩
theorem WU {N:Nat} {s:A0} {x:B8} {b:List Bool} (hN:3000<N) (hx:Md s.cW x=0) (hs:GN s) (hb:b.length=s.cU.length):
 ∃o,Y0 N s b x=some o∧o.length=s.cU.length∧∀k:Nat,o[k]? =some true↔∃m∈s.cV,b[m.cX.toNat]? =some true∧m.To=(k:Int)∧Ni m.On x=true:=by
 have hf:=hs.fi;obtain⟨o,e,h1,h2⟩:=Sn (N:=N) (b:=b) (t:=s.cW) (by omega) hx s.cV (List.replicate b.length false) (by simp) (fun m hm=>by rw[hb];exact hs.each m hm);refine⟨o,?_,by omega,fun k=>?_⟩
 ·unfold Y0;simp only[E4,VN];rw[A2 (by omega)];simp only[A6,show((b.length:Int)).toNat=b.length by omega];rw[Ng (α:=C3) (σ:=List Bool) (R:=List Bool) s.cV (by have:=hs.mv;omega) (fun o i=>(i,o)) (nxI N b x) (fun o=>o) (List.replicate b.length false) (by have:=hs.mv;omega)]
  ·rw[e];rfl
  ·intro o i y hy hi;simp only[D5,E4,I0,hy,A6,C2];rw[A2 hi,O7 (by omega) (by have:=hs.mv;omega)];unfold nxI
   cases D0 b y.cX with
   |none=>rfl
   | some v=>
    simp only[A6]
    cases v with
    |false=>rfl
    | true=>
     simp only[C7]
     cases EE N y.On x with
     |none=>rfl
     | some r=>
      cases r with
      |false=>rfl
      | true=>
       simp only[A6,C7]
       cases DK (Eh o y.To)with
       |none=>rfl
       |some _=>
        simp only[A6]
        cases CM o y.To (fun _=>true)with
        |none=>rfl
        |some _=>rfl
  intro o;simp[D5]
 rw[h2 k]
 have:¬(List.replicate b.length false)[k]? =some true:=by
  rw[Hh];split<;>simp
 simp[this]
end Go.Ab
namespace Go.Ab
structure YJ (n:Nat) (S:List (Int×Bool)) (b:List Bool):Prop where
 len:b.length=n
 tru:Wr S
 mem:∀k:Int,(k,true)∈S↔∃i:Nat,k=(i:Int)∧b[i]? =some true
theorem XU {s:A0} {x:B8} {S:List (Int×Bool)} {b:List Bool} (hx:Md s.cW x=0) (hs:GN s) (h:YJ s.cU.length S b):
 ∃S' b',CO (SS 40000000 s x) (fun S=>S) (fun S=>DV S) S ([]:List (Int×Bool))=some S'∧Y0 40000000 s b x=some b'∧YJ s.cU.length S' b':=by
 obtain⟨S',e1,h1,h2⟩:=addP (N:=40000000) (by omega) hx hs S;obtain⟨b',e2,h3,h4⟩:=WU (N:=40000000) (by omega) hx hs h.len;refine⟨S',b',e1,e2,h3,h1,fun k=>?_⟩;rw[h2]
 constructor
 ·rintro⟨p,hp,m,hm,f,t,c⟩;have hp2:=h.tru.2 p hp;obtain⟨q,v⟩:=p
  simp only at hp2 f
  subst hp2;obtain⟨i,e,hi⟩:=(h.mem q).1 hp;have hm2:=(hs.each m hm).1;refine⟨k.toNat,by omega,(h4 _).2 ⟨m,hm,?_,by omega,c⟩⟩;rw[f,e,show(i:Int).toNat=i by omega];exact hi
 rintro⟨i,rfl,hi⟩;obtain⟨m,hm,f,t,c⟩:=(h4 i).1 hi;have hm2:=(hs.each m hm).1;exact⟨(m.cX,true),(h.mem _).2 ⟨m.cX.toNat,by omega,f⟩,m,hm,rfl,t,c⟩
theorem TD {s:A0} (hs:GN s):∀(w:List B8) (S:List (Int×Bool)) (b:List Bool),(∀x∈w,Md s.cW x=0)→YJ s.cU.length S b→
 ∃S' b',G0 (R:=List (Int×Bool)) (fun S x=>(CO (SS 40000000 s x) (fun S=>S) (fun S=>DV S) S ([]:List (Int×Bool))).bind fun q=>some (.inl q)) w S=some (.inl S')∧
  G0 (R:=List Bool) (fun b x=>(Y0 40000000 s b x).bind fun q=>some (.inl q)) w b=some (.inl b')∧YJ s.cU.length S' b'
 |[],S,b,_,h=>⟨S,b,rfl,rfl,h⟩
 |x::w,S,b,hw,h=>by
  obtain⟨S1,b1,e1,e2,h1⟩:=XU (hw x (by simp)) hs h;obtain⟨S2,b2,e3,e4,h2⟩:=TD hs w S1 b1 (fun y hy=>hw y (J7 _ hy)) h1;refine⟨S2,b2,?_,?_,h2⟩
  ·rw[G0];simp only[e1,A6];exact e3
  rw[G0];simp only[e2,A6];exact e4
def Qb (s:A0)(b:List Bool):Prop:=∃i:Nat,b[i]? =some true∧s.cU[i]? =some true
noncomputable def SI (s:A0)(_:Unit)(p:Int×Bool):Option (Unit⊕(Unit⊕Unit)):=(D0 s.cU p.1).bind fun x=>if x=true then some (.inr (.inr ()))else some (.inl ())
theorem PO {s:A0}:∀(l:List (Int×Bool)),(∀p∈l,∃i:Nat,p.1=(i:Int)∧i<s.cU.length)→
 ((∃p∈l,s.cU[p.1.toNat]? =some true)→G0 (SI s) l ()=some (.inr (.inr ())))∧(¬(∃p∈l,s.cU[p.1.toNat]? =some true)→G0 (SI s) l ()=some (.inl ()))
 |[],_=>⟨(fun⟨p,hp,_⟩=>by cases hp),fun _=>rfl⟩
 | p::l,hl=>by
  obtain⟨i,hi,hlt⟩:=hl p (by simp);have ih:=PO l fun q hq=>hl q (J7 _ hq);have hx:=E2 hlt
  cases hv:s.cU[i]with
  |true=>
   have e:SI s () p=some (.inr (.inr ())):=by simp[SI,hi,I0,hx,hv]
   refine⟨fun _=>by rw[G0,e],fun h=>absurd ⟨p,by simp,?_⟩ h⟩;rw[hi,show(i:Int).toNat=i by omega,hx,hv]
  | false=>
   have e:SI s () p=some (.inl ()):=by simp[SI,hi,I0,hx,hv]
   have hp:¬s.cU[p.1.toNat]? =some true:=by rw[hi,show(i:Int).toNat=i by omega,hx,hv];simp
   refine⟨fun⟨q,hq,h⟩=>?_,fun h=>?_⟩
   ·rw[G0,e]
    rcases List.mem_cons.1 hq with rfl|hq
    ·exact absurd h hp
    exact ih.1 ⟨q,hq,h⟩
   rw[G0,e];exact ih.2 fun⟨q,hq,h'⟩=>h ⟨q,J7 _ hq,h'⟩
theorem finP {s:A0} {S:List (Int×Bool)} {b:List Bool} (h:YJ s.cU.length S b):∃r:Unit⊕Unit,CO (SI s) (fun _=>((.inl ()):Unit⊕Unit)) (fun y=>y) S ()=some r∧(r= .inr ()↔Qb s b):=by
 have hin:∀p∈S,∃i:Nat,p.1=(i:Int)∧b[i]? =some true:=fun p hp=>by
  have:=h.tru.2 p hp;obtain⟨k,v⟩:=p
  simp only at this
  subst this;exact(h.mem k).1 hp
 have hlt:∀p∈S,∃i:Nat,p.1=(i:Int)∧i<s.cU.length:=fun p hp=>by
  obtain⟨i,e,hi⟩:=hin p hp;refine⟨i,e,?_⟩
  rcases H6 i b.length with hl|hl
  ·rw[←h.len];exact hl
  rw[Cd hl]at hi;cases hi
 have hQ:(∃p∈S,s.cU[p.1.toNat]? =some true)↔Qb s b:=by
  constructor
  ·rintro⟨p,hp,h2⟩;obtain⟨i,e,hi⟩:=hin p hp;exact⟨i,hi,by rw[e,show(i:Int).toNat=i by omega]at h2;exact h2⟩
  rintro⟨i,hi,h2⟩;exact⟨((i:Int),true),(h.mem _).2 ⟨i,rfl,hi⟩,by simpa using h2⟩
 by_cases hq:∃p∈S,s.cU[p.1.toNat]? =some true
 ·refine⟨.inr (),MZ fun m hm=>?_,by simpa using hQ.1 hq⟩
  show(G0 (SI s) m ()).map _=_
  rw[(PO m fun p hp=>hlt p (hm.mem_iff.1 hp)).1 (by obtain⟨p,hp,h2⟩:=hq;exact⟨p,hm.mem_iff.2 hp,h2⟩)];rfl
 refine⟨.inl (),MZ fun m hm=>?_,⟨(fun h'=>by cases h'),fun h'=>absurd (hQ.2 h') hq⟩⟩;rw[(PO m fun p hp=>hlt p (hm.mem_iff.1 hp)).2 (by rintro⟨p,hp,h2⟩;exact hq ⟨p,hm.mem_iff.1 hp,h2⟩)];rfl
theorem QW {n:Nat}(hn:1≤n):YJ n [(0,true)] ((List.replicate n false).set 0 true):=by
 refine⟨by simp,⟨by simp,fun p hp=>by simp only[J2]at hp;rw[hp]⟩,fun k=>?_⟩;simp only[J2,X6,I9]
 constructor
 ·rintro rfl;exact⟨0,rfl,by rw[P5];simp;omega⟩
 rintro⟨i,rfl,hi⟩
 rw[P5]at hi
 by_cases e:0=i
 ·omega
 rw[A3 e,Hh]at hi
 split at hi<;>simp at hi
theorem Zp {s:A0} {w:List B8} {b:List Bool} (hs:GN s) (hw:w.length≤4096)
 (hb:G0 (R:=List Bool) (fun b x=>(Y0 40000000 s b x).bind fun q=>some (.inl q)) w ((List.replicate s.cU.length false).set 0 true)=some (.inl b)) (hl:b.length=s.cU.length):
 ∃r,Fs 40000000 s w=some r∧(r=true↔Qb s b):=by
 have hf:=hs.fi;unfold Fs;simp only[E4,VN];rw[A2 (by omega)];simp only[A6,show((s.cU.length:Int)).toNat=s.cU.length by omega];rw[show Eh (List.replicate s.cU.length false) 0=true by unfold Eh;simp;omega]
 have hu:CM (List.replicate s.cU.length false) 0 (fun _=>true)=some ((List.replicate s.cU.length false).set 0 true):=by
  unfold CM D0;simp only[N2,C7,Int.toNat_zero];rw[Hh,A2 (by omega)];rfl
 simp only[DK,C7,A6,hu];rw[Ng (α:=B8) (σ:=List Bool) (R:=List Bool) w (by omega) (fun b i=>(b,i)) (fun b x=>(Y0 40000000 s b x).bind fun q=>some (.inl q)) (fun b=>b) _ (by omega)]
 ·rw[hb];simp only[A6]
  have hlz:(b.zip s.cU).length=s.cU.length:=by rw[List.length_zip,hl];exact Nat.min_self _
  rw[Bf (l:=b.zip s.cU) (f:=fun _ y=>if y.1=true∧y.2=true then 1 else 0) (e:=.inl ()) (b:=fun _=>.inr ()) (N:=40000000) ?_ ?_ (by omega)]
  ·by_cases h:fb (fun _ (y:Bool×Bool)=>if y.1=true∧y.2=true then 1 else 0) 0 (b.zip s.cU)=0
   ·rw[A2 h];refine⟨false,rfl,(fun h'=>by cases h'),fun⟨i,h1,h2⟩=>?_⟩;have:=Ax.1 h i (true,true) (by rw[Jw];exact⟨h1,h2⟩)
    simp at this
   rw[A3 h];refine⟨true,rfl,(fun _=>?_),fun _=>rfl⟩;apply NF;intro hq;apply h;rw[Ax];rintro k ⟨y1,y2⟩ hk
   rw[Jw]at hk
   rw[A3];rintro⟨e1,e2⟩
   simp only at e1 e2
   subst e1;subst e2;exact hq ⟨k,hk.1,hk.2⟩
  ·rintro i ⟨y1,y2⟩ hy hi
   rw[Jw]at hy
   simp only[D5,I0,hy.1,hy.2,A6,C2];rw[A2 (by omega),O6 hi (by omega)];cases y1<;>cases y2<;>simp
  simp only[D5,C2];rw[A3 (by omega)]
 ·intro b i x hx hi;simp only[D5,I0,hx,A6,C2];rw[A2 hi,O7 (by omega) (by omega)]
  cases Y0 40000000 s b x with
  |none=>rfl
  |some _=>rfl
 intro b;simp[D5]
theorem MS {t:Int}{w:List B8}(h:fb (fun _ x=>Md t x) 0 w=0):∀x∈w,Md t x=0:=fun x hx=>by
 obtain⟨k,hk⟩:=M3 hx;exact Ax.1 h k x hk
def Smn (s:A0)(w:List B8)(r:Bool×Int):Prop:=r.2=0→Ol s=0∧(∀x∈w,Md s.cW x=0)∧∃b,G0 (R:=List Bool) (fun b x=>(Y0 40000000 s b x).bind fun q=>some (.inl q)) w ((List.replicate s.cU.length false).set 0 true)=some (.inl b)∧(r.1=true↔Qb s b)
theorem Qr (s:A0) (w:List B8):∃r,Z1 40000000 s w=some r∧CV 40000000 s w=some r∧Smn s w r∧(Ol s=0→w.length≤4096→(∀x∈w,Md s.cW x=0)→r.2=0):=by
 unfold Z1 CV;rw[AW (by omega),Vy (by omega)]
 by_cases h0:Ol s=0
 ·simp only[A6,h0];simp only[show cmp .neq (0:Int) 0=false from rfl,F6,E3]
  by_cases hw:4096<(w.length:Int)
  ·simp only[show cmp .gtr (Ar.len w) 4096=true from by simpa[U3,E4]using hw,C7];exact⟨_,rfl,rfl,(fun h=>by cases h),fun _ h=>by omega⟩
  simp only[show cmp .gtr (Ar.len w) 4096=false from by simpa[U3,E4]using hw,F6,E3];have hs:=Gw h0;obtain⟨p,ep,hp⟩:=Au8 hs.ty;simp only[ep,A6];rw[Bf (l:=w) (f:=fun _ x=>Md s.cW x) (e:=.inl ()) (b:=.inr) (N:=40000000) ?_ ?_ (by omega)]
  ·rw [Bf (l:=w) (f:=fun _ x=>Md s.cW x) (e:=.inl ()) (b:=.inr) (N:=40000000) ?_ ?_ (by omega)]
   ·by_cases hz:fb (fun _ x=>Md s.cW x) 0 w=0
    ·rw[A2 hz];simp only[A6];have hset:AV ([]:List (Int×Bool)) 0 true=some [(0,true)]:=rfl;rw[hset];simp only[A6];obtain⟨S,b,e1,e2,h1⟩:=TD hs w _ _ (MS hz) (QW hs.fi.1);obtain⟨r,e3,h3⟩:=Zp hs (by omega) e2 h1.len;obtain⟨q,e4,h4⟩:=finP h1;rw[Ng (α:=B8) (σ:=List (Int×Bool)) (R:=List (Int×Bool)) w (by omega) (fun S i=>(i,S)) (fun S x=>(CO (SS 40000000 s x) (fun S=>S) (fun S=>DV S) S ([]:List (Int×Bool))).bind fun q=>some (.inl q)) (fun S=>S) _ (by omega)]
     ·rw[e1,e3];have e4':=e4
      unfold SI at e4'
      simp only[A6];rw[e4']
      cases q with
      |inl u=>
       cases r with
       |false=>exact⟨_,rfl,rfl,fun _=>⟨h0,MS hz,b,e2,h3⟩,fun _ _ _=>rfl⟩
       |true=>have:=h4.2 (h3.1 rfl);cases this
      |inr u=>
       cases r with
       |true=>exact⟨_,rfl,rfl,fun _=>⟨h0,MS hz,b,e2,h3⟩,fun _ _ _=>rfl⟩
       |false=>have:=h3.2 (h4.1 rfl);cases this
     ·intro S i x hx hi
      show(if cmp .lss (i:Int) (Ar.len w)=true then _ else _)=_
      rw[A2 (by simpa[D5,E4]using hi)];rw[I0,hx,A6];rw[O7 (by omega) (by omega)]
      show(CO (SS 40000000 s x) (fun S=>S) (fun S=>DV S) S ([]:List (Int×Bool))).bind _=_
      cases CO (SS 40000000 s x) (fun S=>S) (fun S=>DV S) S ([]:List (Int×Bool))with
      |none=>rfl
      |some _=>rfl
     intro S
     show(if cmp .lss (w.length:Int) (Ar.len w)=true then _ else _)=_
     rw[A3 (by simp[D5,E4])]
    rw[A3 hz];exact⟨_,rfl,rfl,fun h=>absurd h hz,fun _ _ h=>absurd (Ax.2 fun k x hx=>h x (I7 hx)) hz⟩
   ·intro i x hx hi;simp only[D5,X5,E4,I0,hx,A6,Ai2,C2];rw[A2 (by omega),O6 hi (by omega)]
    by_cases h:Md s.cW x=0
    ·simp[h]
    simp[h]
   simp[D5,E4]
  ·intro i x hx hi;obtain⟨r,e1,h1,_⟩:=Od (N:=40000000) (x:=x) (by omega) hp;simp only[D5,X5,E4,I0,hx,A6,e1,C2];rw[A2 (by omega),O6 hi (by omega),h1]
   by_cases h:Md s.cW x=0
   ·simp[h]
   simp[h]
  simp[D5,E4]
 simp only[A6];simp only[show cmp .neq (Ol s) 0=true from by simp[X5,h0],C7];exact⟨_,rfl,rfl,fun h=>absurd h h0,fun h=>absurd h h0⟩
end Go.Ab
namespace Go.Ab
def fnd {α:Type}(p:α→Bool):Nat→List α→Option (Nat×α)
 |_,[]=>none
 |i,x::r=>if p x then some (i,x)else fnd p (i+1) r
def fl :Nat→List (List A4)→List (Int×List A4)
 |_,[]=>[]
 |i,x::r=>if 0<x.length then((i:Int),x)::fl (i+1) r else fl (i+1) r
abbrev ne1 (x:List A4):Bool:=decide (0<x.length)
theorem Xo :∀(l:List (List A4)) (i:Nat),(fl i l).head? =(fnd ne1 i l).map fun q=>((q.1:Int),q.2)
 |[],i=>rfl
 |x::r,i=>by
  unfold fl fnd
  by_cases h:0<x.length
  ·simp[h,ne1]
  simp only[h,E3,ne1,GR,F6];exact Xo r (i+1)
theorem Yu {N:Nat} {p:B3} (hb:p.cZ.length<1000000000) (hN:p.cZ.length<N):Z4 N p=some (fl 0 p.cZ):=by
 unfold Z4 Bw
 have key:∀(k i N:Nat),i+k=p.cZ.length→k<N→Cs
  (fun(s1:Int)=>
   (
    if cmp .lss s1 (Ar.len p.cZ)=true then
     (D0 p.cZ s1).bind fun x7=>
     if cmp .gtr (Ar.len x7) 0=true then
      V9 (some ([(s1,x7)],())) fun _=>
      some ([],.inl (ar .add .i64 s1 1))
     else
      some ([],.inl (ar .add .i64 s1 1))
    else
     some ([],.inr ())
    :Option (List (Int×(List A4))×((Int)⊕(Unit))))) N (i:Int)=some (fl i (p.cZ.drop i),()):=by
  intro k
  induction k with
  |zero=>
   intro i N hi hN;obtain⟨N,rfl⟩:∃M,N=M+1:=⟨N - 1,by omega⟩;rw[show i=p.cZ.length by omega,Je];simp[Cs,fl,D5,E4]
  |succ k ih=>
   intro i N hi hN;obtain⟨N,rfl⟩:∃M,N=M+1:=⟨N - 1,by omega⟩
   have hlt:i<p.cZ.length:=by omega
   have hx:=E2 hlt;have h1:=ih (i+1) N (by omega) (by omega);rw[Aa hlt];unfold Cs
   simp only[D5,U3,E4,I0,hx,A6,C2,V9,H7]at h1 ⊢
   rw[A2 (by omega),O6 hlt (by omega)];unfold fl
   by_cases h:0<p.cZ[i].length
   ·rw[A2 (by omega),A2 h];simp only[h1];rfl
   rw[A3 (by omega),A3 h];simp only[h1];rfl
 have:=key p.cZ.length 0 N (by omega) hN
 rw[show((0:Nat):Int)=0 from rfl]at this
 rw[this];simp[V9]
abbrev An0 (p:B3):Option (Nat×List A4):=fnd ne1 0 p.cZ
theorem Uy {α:Type} {p:α→Bool}:∀{l:List α} {i:Nat},fnd p i l=none→∀x∈l,p x=false
 |[],_,_=>fun x hx=>by cases hx
 |y::r,i,h=>by
  unfold fnd at h
  split at h
  ·cases h
  rename_i hp;intro x hx
  rcases List.mem_cons.1 hx with rfl|hx
  ·simpa using hp
  exact Uy h x hx
end Go.Ab
namespace Go.Ab
abbrev vd (p:B3):Bool:=(An0 p).isNone
theorem Ma {N:Nat} {t:Int} {p:B3} (hN:300<N) (hp:IN t p=0):N7 N p=some (vd p):=by
 obtain⟨_,h0⟩:=KB hp;unfold N7 Dc;simp only[Oh (show 256<N by omega),A6,h0,show cmp .neq (0:Int) 0=false from rfl,F6,E3];obtain⟨hlen,_⟩:=HV h0;rw[Yu (by omega) (by omega)];simp only[A6];have hh:=Xo p.cZ 0;unfold vd
 cases hf:fl 0 p.cZ with
 |nil=>
  rw[hf]at hh
  cases hq:An0 p with
  |none=>rfl
  |some q=>rw[show fnd ne1 0 p.cZ=some q from hq]at hh;cases hh
 |cons y r=>
  rw[hf]at hh
  cases hq:An0 p with
  |none=>rw[show fnd ne1 0 p.cZ=none from hq]at hh;cases hh
  |some q=>rfl
def Ed (s:A0)(i j:Nat):Prop:=∃m∈s.cV,m.cX=(i:Int)∧m.To=(j:Int)∧vd m.On=false
def Rc (s:A0):Nat→Nat→Prop
 |0,i=>s.cU[i]? =some true
 |k+1,i=>∃j,Ed s i j∧Rc s k j
def Va (s:A0)(i k:Nat):Prop:=Rc s k i∧∀j,j<k→¬Rc s j i
theorem Ms {s:A0}{i k l:Nat}(h:Va s i k)(h':Va s i l):k=l:=by
 rcases Nat.lt_trichotomy k l with c|c|c
 ·exact absurd h.1 (h'.2 k c)
 ·exact c
 exact absurd h'.1 (h.2 l c)
theorem VV {s:A0} {i:Nat}:∀{k:Nat},Rc s k i→∃l,l≤k∧Va s i l:=by
 intro k
 induction k using Nat.strongRecOn with
 |_ k ih=>
  intro h
  by_cases c:∃j,j<k∧Rc s j i
  ·obtain⟨j,hj,hr⟩:=c;obtain⟨l,h1,h2⟩:=ih j hj hr;exact⟨l,by omega,h2⟩
  exact⟨k,D1 _,h,fun j hj hr=>c ⟨j,hj,hr⟩⟩
theorem Kg {s:A0} {i k:Nat} (h:Va s i (k+1)):∃j,Ed s i j∧Va s j k:=by
 obtain⟨j,he,hr⟩:=h.1;obtain⟨l,h1,h2⟩:=VV hr
 have:l=k:=by
  rcases H6 l k with c|c
  ·exact absurd ⟨j,he,h2.1⟩ (h.2 (l+1) (by omega))
  omega
 subst this;exact⟨j,he,h2⟩
theorem Rm {s:A0}:∀{k i:Nat},Va s i k→∀j,j≤k→∃i',Va s i' j
 |0,i,h,j,hj=>⟨i,by rw[show j=0 by omega];exact h⟩
 |k+1,i,h,j,hj=>by
  by_cases c:j=k+1
  ·exact⟨i,by rw[c];exact h⟩
  obtain⟨i',_,h'⟩:=Kg h;exact Rm h' j (by omega)
theorem WM {s:A0} (hs:GN s):∀{k i:Nat},Rc s k i→i<s.cU.length
 |0,i,h=>by
  rcases H6 i s.cU.length with c|c
  ·exact c
  have h':s.cU[i]? =some true:=h
  rw[Cd c]at h';cases h'
 |k+1,i,h=>by
  obtain⟨j,⟨m,hm,f,_⟩,_⟩:=h;have:=(hs.each m hm).1;omega
theorem Rk {s:A0}:∀{k i:Nat},Va s i k→∃l:List Nat,l.length=k+1∧∀j:Nat,j≤k→∃x,l[j]? =some x∧Va s x (k - j)
 |0,i,h=>⟨[i],rfl,fun j hj=>⟨i,by rw[show j=0 by omega];rfl,by rw[show 0 - j=0 by omega];exact h⟩⟩
 | k+1,i,h=>by
  obtain⟨i',_,h'⟩:=Kg h;obtain⟨l,h1,h2⟩:=Rk h';refine⟨i::l,by simp[h1],fun j hj=>?_⟩
  cases j with
  |zero=>exact⟨i,rfl,h⟩
  |succ j=>
   obtain⟨x,h3,h4⟩:=h2 j (by omega);exact⟨x,h3,by rw[show k+1 - (j+1)=k - j by omega];exact h4⟩
theorem JT :∀{n:Nat} {l:List Nat},l.Nodup→(∀x∈l,x<n)→l.length≤n
 |0,[],_,_=>D1 _
 |0,x::_,_,h=>absurd (h x (by simp)) (by omega)
 | n +1,l,hn,h=>by
  have h1:=JT (n:=n) (l:=l.filter (fun x=>decide (x≠n))) (hn.filter _) (fun x hx=>by
   obtain⟨a,b⟩:=List.mem_filter.1 hx;have:=h x a;have:x≠n:=Ca b
   omega)
  have h2:l.length≤(l.filter (fun x=>decide (x≠n))).length+1:=by
   clear h h1
   induction l with
   |nil=>simp
   | cons x l ih=>
    obtain⟨hx,hl⟩:=List.nodup_cons.1 hn
    by_cases e:x=n
    ·subst e;rw[List.filter_cons_of_neg (by simp)]
     rw[List.filter_eq_self.2 (fun y hy=>by
      have:y≠x:=by rintro rfl;exact hx hy
      simpa using this)]
     simp
    rw[List.filter_cons_of_pos (by simpa using e)];have:=ih hl;simp only[M2];omega
  omega
theorem At7 {s:A0} (hs:GN s) {i k:Nat} (h:Va s i k):k<s.cU.length:=by
 obtain⟨l,h1,h2⟩:=Rk h
 have hn:l.Nodup:=by
  rw[Jy,Jx];intro a b ha hb hab e;obtain⟨x,e1,d1⟩:=h2 a (by omega);obtain⟨y,e2,d2⟩:=h2 b (by omega)
  rw[E2 ha]at e1;rw[E2 hb]at e2
  cases e1;cases e2
  rw[e]at d1
  have:=Ms d1 d2;omega
 have:=JT hn (n:=s.cU.length) (fun x hx=>by
  obtain⟨j,hj⟩:=M3 hx
  have hlt:j<l.length:=by
   rcases H6 j l.length with c|c
   ·exact c
   rw[Cd c]at hj;cases hj
  obtain⟨y,e,d⟩:=h2 j (by omega)
  rw[hj]at e;cases e
  exact WM hs d.1)
 omega
structure Mp (M:List (Int×Int)):Prop where
 nd:(M.map (·.1)).Nodup
theorem Un {k v v':Int}:∀{M:List (Int×Int)},(M.map (·.1)).Nodup→(k,v)∈M→(k,v')∈M→v=v'
 |[],_,h,_=>by cases h
 | p::M,hn,h,h'=>by
  rw[E9,GV]at hn
  rcases List.mem_cons.1 h with e|h
  ·rcases List.mem_cons.1 h' with e'|h'
   ·rw[←e]at e';cases e';rfl
   exact absurd (List.mem_map.2 ⟨_,h',by rw[←e]⟩) hn.1
  rcases List.mem_cons.1 h' with e'|h'
  ·exact absurd (List.mem_map.2 ⟨_,h,by rw[←e']⟩) hn.1
  exact Un hn.2 h h'
theorem Rt {M:List (Int×Int)} {k:Int} (h:∀v,¬(k,v)∈M):Am M k (0:Int)=some (0,false):=by
 unfold Am
 rw[List.find?_eq_none.2 (fun p hp=>by
  obtain⟨a,b⟩:=p;simp only[C2];rintro rfl
  exact h b hp)]
theorem Nl {M:List (Int×Int)} (hM:Mp M) {k v:Int} (h:(k,v)∈M):Am M k (0:Int)=some (v,true):=by
 unfold Am
 cases hf:M.find? (fun p=>decide (p.1=k))with
 |none=>have:=List.find?_eq_none.1 hf _ h;simp at this
 | some p=>
  have h1:=Ez hf;have h2:=Fc hf
  simp only[C2]at h2
  have:p=(k,v):=by
   obtain⟨a,b⟩:=p
   simp only at h2
   subst h2;rw[Un hM.nd h1 h]
  simp only[this]
theorem TC {M:List (Int×Int)}(hM:Mp M){k v:Int}(h:∀v,¬(k,v)∈M):AV M k v=some (M++[(k,v)])∧Mp (M++[(k,v)]):=by
 constructor
 ·unfold AV;rw[A3];simp only[DE,C2];rintro⟨p,hp,e⟩;exact h p.2 (by rw[←e];exact hp)
 refine⟨?_⟩;rw[Bp,Ex];refine⟨hM.nd,by simp,fun a ha b hb=>?_⟩
 simp only[E9,I1,J2]at hb
 subst hb;obtain⟨p,hp,e⟩:=List.mem_map.1 ha;rintro rfl;exact h p.2 (by rw[←e];exact hp)
structure Wv (s:A0) (a:Nat) (T1 T2:List Int) (M:List (Int×Int)):Prop where
 mp:Mp M
 ok:∀k v,(k,v)∈M→∃i d:Nat,k=(i:Int)∧v=(d:Int)∧Va s i d∧d≤a+1
 t1:∀k∈T1,(k,(a:Int))∈M
 t2:∀k∈T2,(k,(a:Int)+1)∈M
 kn:∀i k:Nat,k≤a→Rc s k i→∃v,((i:Int),v)∈M
 up:∀k,(k,(a:Int)+1)∈M→k∈T2
 dn:∀i j:Nat,Ed s i j→Va s j a→¬(j:Int)∈T1→∃v,((i:Int),v)∈M
theorem Wv.next {s:A0} {a:Nat} {T2:List Int} {M:List (Int×Int)} (h:Wv s a [] T2 M):Wv s (a+1) T2 [] M:=by
 refine⟨h.mp,fun k v hk=>?_,fun k hk=>by simpa using h.t2 k hk,(fun k hk=>by cases hk),fun i k hk hr=>?_,fun k hk=>?_,fun i j he hj hn=>?_⟩
 ·obtain⟨i,d,e1,e2,e3,e4⟩:=h.ok k v hk;exact⟨i,d,e1,e2,e3,by omega⟩
 ·rcases H6 a k with c|c
  ·obtain⟨l,h1,h2⟩:=VV hr
   rcases H6 a l with c'|c'
   ·have:l=a+1:=by omega
    subst this;obtain⟨j,he,hj⟩:=Kg h2;exact h.dn i j he hj (by simp)
   exact h.kn i l c' h2.1
  exact h.kn i k c hr
 ·obtain⟨i,d,e1,e2,e3,e4⟩:=h.ok _ _ hk;omega
 obtain⟨j',he',hj'⟩:=Kg hj;obtain⟨v,hv⟩:=h.dn j j' he' hj' (by simp);obtain⟨i2,d,e1,e2,e3,e4⟩:=h.ok _ _ hv
 have:i2=j:=by omega
 subst this;have:=Ms hj e3;subst this;exact absurd (h.up _ (by rw[e2]at hv;exact_mod_cast hv)) hn
end Go.Ab
namespace Go.Ab
noncomputable def NZ (s:A0) (s4:Int×(List Int)×(List (Int×Int))):Option ((Int×(List Int)×(List (Int×Int)))⊕(((List Int)×(List (Int×Int))))):=
 if cmp .lss s4.1 (Ar.len s.cU)=true then
  (D0 s.cU s4.1).bind fun x8=>
  if x8=true then
   (AV s4.2.2 s4.1 0).bind fun l10=>
   (N5 s4.2.1 ([s4.1])).bind fun l12=>
   some (.inl (ar .add .i64 s4.1 1,l12,l10))
  else
   some (.inl (ar .add .i64 s4.1 1,s4.2.1,s4.2.2))
 else
  some (.inr (s4.2.1,s4.2.2))
noncomputable def PK (N:Nat) (s:A0) (s19:Int×(List Int)×(List (Int×Int))):Option ((Int×(List Int)×(List (Int×Int)))⊕(((List Int)×(List (Int×Int))))):=
 if cmp .lss s19.1 (Ar.len s.cV)=true then
  (D0 s.cV s19.1).bind fun x23=>
  (Am s19.2.2 x23.cX (0:Int)).bind fun r24=>
  (DK (Eh s19.2.1 0)).bind fun _=>
  (D0 s19.2.1 0).bind fun x25=>
  if Ar.an (cmp .eql x23.To x25) (nt r24.2)=true then
   (N7 N x23.On).bind fun r26=>
   if nt r26=true then
    (DK (Eh s19.2.1 0)).bind fun _=>
    (D0 s19.2.1 0).bind fun x27=>
    (Am s19.2.2 x27 (0:Int)).bind fun r28=>
    (AV s19.2.2 x23.cX (ar .add .i64 r28.1 1)).bind fun l30=>
    (N5 s19.2.1 ([x23.cX])).bind fun l32=>
    some (.inl (ar .add .i64 s19.1 1,l32,l30))
   else
    some (.inl (ar .add .i64 s19.1 1,s19.2.1,s19.2.2))
  else
   some (.inl (ar .add .i64 s19.1 1,s19.2.1,s19.2.2))
 else
  some (.inr (s19.2.1,s19.2.2))
noncomputable def ZS (N:Nat) (s:A0) (s15:(List Int)×(List (Int×Int))):Option (((List Int)×(List (Int×Int)))⊕(((List Int)×(List (Int×Int))))):=
 if cmp .gtr (Ar.len s15.1) 0=true then
  (loopN (PK N s) N (0,s15.1,s15.2)).bind fun s22=>
  (Ao s22.1 (some 1) none none).bind fun l36=>
  some (.inl (l36,s22.2))
 else
  some (.inr (s15.1,s15.2))
theorem Ad7 (N:Nat)(s:A0):R3 N s=(loopN (NZ s) N (0,([]:List Int),([]:List (Int×Int)))).bind fun s7=>(loopN (ZS N s) N (s7.1,s7.2)).bind fun s18=>some s18.2:=rfl
structure Ini (s:A0) (i:Nat) (T:List Int) (M:List (Int×Int)):Prop where
 mp:Mp M
 mem:∀k v,(k,v)∈M↔v=0∧∃j:Nat,j<i∧k=(j:Int)∧s.cU[j]? =some true
 t:∀k,k∈T↔(k,0)∈M
 le:T.length=M.length
 li:T.length≤i
theorem PL {s:A0} (hs:GN s):∀(d i N:Nat) (T:List Int) (M:List (Int×Int)),i+d=s.cU.length→d<N→Ini s i T M→
 ∃T' M',loopN (NZ s) N ((i:Int),T,M)=some (T',M')∧Ini s s.cU.length T' M'
 | 0,i,N,T,M,hi,hN,h=>by
  obtain⟨N,rfl⟩:∃K,N=K+1:=⟨N - 1,by omega⟩;refine⟨T,M,?_,by rw[←hi];exact h⟩
  have e:NZ s ((i:Int),T,M)=some (.inr (T,M)):=by
   unfold NZ;rw[A3 (by simp[D5,E4];omega)]
  rw[loopN,e]
 | d +1,i,N,T,M,hi,hN,h=>by
  obtain⟨N,rfl⟩:∃K,N=K+1:=⟨N - 1,by omega⟩;have hf:=hs.fi
  have hlt:i<s.cU.length:=by omega
  have hx:=E2 hlt;have hinc:ar .add .i64 (i:Int) 1=((i+1:Nat):Int):=O6 hlt (by omega)
  cases hv:s.cU[i]with
  | false=>
   have e:NZ s ((i:Int),T,M)=some (.inl (((i+1:Nat):Int),T,M)):=by
    unfold NZ;rw[A2 (by simp[D5,E4];omega)];simp only[I0,hx,A6,hv,F6,E3,hinc]
   rw[loopN,e];refine PL hs d (i+1) N T M (by omega) (by omega) ⟨h.mp,fun k v=>?_,h.t,h.le,by have:=h.li;omega⟩;rw[h.mem]
   constructor
   ·rintro⟨h1,j,h2,h3,h4⟩;exact⟨h1,j,by omega,h3,h4⟩
   rintro⟨h1,j,h2,h3,h4⟩;refine⟨h1,j,?_,h3,h4⟩
   rcases H6 j i with c|c
   ·exact c
   rw[show j=i by omega,hx,hv]at h4;cases h4
  | true=>
   have hnew:∀v,¬((i:Int),v)∈M:=fun v hm=>by
    obtain⟨_,j,h2,h3,_⟩:=(h.mem _ _).1 hm;omega
   obtain⟨e1,h1⟩:=TC h.mp (v:=0) hnew;have hli:=h.li
   have e2:N5 T [(i:Int)]=some (T++[(i:Int)]):=by unfold N5;rw[A2 (by simp;omega)]
   have e:NZ s ((i:Int),T,M)=some (.inl (((i+1:Nat):Int),T++[(i:Int)],M++[((i:Int),0)])):=by
    unfold NZ;rw[A2 (by simp[D5,E4];omega)];simp only[I0,hx,A6,hv,C7,hinc,e1,e2]
   rw[loopN,e];refine PL hs d (i+1) N _ _ (by omega) (by omega) ⟨h1,fun k v=>?_,fun k=>?_,by simp[h.le],by simp;omega⟩
   ·rw[AF,h.mem];simp only[J2,X6]
    constructor
    ·rintro(⟨h1,j,h2,h3,h4⟩|⟨rfl,rfl⟩)
     ·exact⟨h1,j,by omega,h3,h4⟩
     exact⟨rfl,i,by omega,rfl,by rw[hx,hv]⟩
    rintro⟨h1,j,h2,h3,h4⟩
    rcases H6 j i with c|c
    ·exact .inl ⟨h1,j,c,h3,h4⟩
    exact .inr ⟨by omega,h1⟩
   rw[AF,AF,h.t];simp
theorem Ini.bfs {s:A0} (hs:GN s) {T:List Int} {M:List (Int×Int)} (h:Ini s s.cU.length T M):Wv s 0 T [] M:=by
 have h0:∀j:Nat,s.cU[j]? =some true→Va s j 0:=fun j hj=>⟨hj,fun k hk=>by omega⟩;refine⟨h.mp,fun k v hk=>?_,fun k hk=>by simpa using(h.t k).1 hk,(fun k hk=>by cases hk),fun i k hk hr=>?_,fun k hk=>?_,fun i j he hj hn=>?_⟩
 ·obtain⟨rfl,j,_,h2,h3⟩:=(h.mem k v).1 hk;exact⟨j,0,h2,rfl,h0 j h3,by omega⟩
 ·obtain rfl:k=0:=by omega
  exact⟨0,(h.mem _ _).2 ⟨rfl,i,WM hs hr,rfl,hr⟩⟩
 ·have:=((h.mem k _).1 hk).1
  simp at this
 exact absurd ((h.t _).2 ((h.mem _ _).2 ⟨rfl,j,WM hs hj.1,rfl,hj.1⟩)) hn
theorem Wv.len {s:A0} (hs:GN s) {a:Nat} {T1 T2:List Int} {M:List (Int×Int)} (h:Wv s a T1 T2 M):M.length≤s.cU.length:=by
 have:(M.map fun p=>p.1.toNat).Nodup:=by
  have hn:=h.mp.nd
  rw[Jy,Jl]at hn ⊢
  refine Jv ?_ hn;intro p q hp hq hne e;obtain⟨i,d,e1,_⟩:=h.ok p.1 p.2 hp;obtain⟨i',d',e2,_⟩:=h.ok q.1 q.2 hq;omega
 have:=JT this (n:=s.cU.length) (fun x hx=>by
  obtain⟨p,hp,rfl⟩:=List.mem_map.1 hx;obtain⟨i,d,e1,_,e3,_⟩:=h.ok p.1 p.2 hp;have:=WM hs e3.1
  omega)
 simpa using this
theorem SB {s:A0} (hs:GN s) {a:Nat} {x:Int} {T1:List Int}:∀(d i N:Nat) (T2:List Int) (M:List (Int×Int)),i+d=s.cV.length→d<N→Wv s a (x::T1) T2 M→(x::T1++T2).length≤M.length→
 (∀j:Nat,j<i→∀m,s.cV[j]? =some m→m.To=x→vd m.On=false→∃v,(m.cX,v)∈M)→
 ∃T2' M',loopN (PK 40000000 s) N ((i:Int),x::T1++T2,M)=some (x::T1++T2',M')∧Wv s a (x::T1) T2' M'∧T2'.length+M.length=T2.length+M'.length∧(∀m∈s.cV,m.To=x→vd m.On=false→∃v,(m.cX,v)∈M')
 | 0,i,N,T2,M,hi,hN,h,hl,hd=>by
  obtain⟨N,rfl⟩:∃K,N=K+1:=⟨N - 1,by omega⟩;refine⟨T2,M,?_,h,rfl,fun m hm=>?_⟩
  ·have e:PK 40000000 s ((i:Int),x::T1++T2,M)=some (.inr (x::T1++T2,M)):=by
    unfold PK;rw[A3 (by simp[D5,E4];omega)]
   rw[loopN,e]
  obtain⟨j,hj⟩:=M3 hm;refine hd j ?_ m hj
  rcases H6 j s.cV.length with c|c
  ·omega
  rw[Cd c]at hj;cases hj
 | d + 1,i,N,T2,M,hi,hN,h,hl,hd=>by
  obtain⟨N,rfl⟩:∃K,N=K+1:=⟨N - 1,by omega⟩;have hmv:=hs.mv
  have hlt:i<s.cV.length:=by omega
  have hx:=E2 hlt;have hinc:ar .add .i64 (i:Int) 1=((i+1:Nat):Int):=O6 hlt (by omega);obtain⟨m,hm⟩:∃m,s.cV[i]=m:=⟨_,rfl⟩
  rw[hm]at hx
  have hmem:m∈s.cV:=by rw[←hm];exact AG hlt
  obtain⟨⟨⟨f0,f1⟩,t0,t1⟩,hp⟩:=hs.each m hmem
  have hin:Eh (x::T1++T2) 0=true:=by unfold Eh;simp;omega
  have hix:D0 (x::T1++T2) 0=some x:=by simp[D0]
  have hsv:=Ma (N:=40000000) (by omega) hp;have hMl:=h.len hs;have hfi:=hs.fi
  have skip:PK 40000000 s ((i:Int),x::T1++T2,M)=some (.inl (((i+1:Nat):Int),x::T1++T2,M))→(m.To=x→vd m.On=false→∃v,(m.cX,v)∈M)→
   ∃T2' M',loopN (PK 40000000 s) (N+1) ((i:Int),x::T1++T2,M)=some (x::T1++T2',M')∧Wv s a (x::T1) T2' M'∧T2'.length+M.length=T2.length+M'.length∧(∀m∈s.cV,m.To=x→vd m.On=false→∃v,(m.cX,v)∈M'):=by
   intro e hk;rw[loopN,e]
   exact SB hs d (i+1) N T2 M (by omega) (by omega) h hl (fun j hj y hy hty hvy=>by
    rcases H6 j i with c|c
    ·exact hd j c y hy hty hvy
    rw[show j=i by omega,hx]at hy;cases hy;exact hk hty hvy)
  by_cases hkn:∃v,(m.cX,v)∈M
  ·obtain⟨v,hv⟩:=hkn;refine skip ?_ fun _ _=>⟨v,hv⟩;unfold PK;rw[A2 (by simp[D5,E4];omega)];simp only[I0,hx,A6,Nl h.mp hv,DK,hin,C7,hix,Bb,Dv,Q5,Bool.and_false,F6,E3,hinc]
  have hno:∀v,¬(m.cX,v)∈M:=fun v hv=>hkn ⟨v,hv⟩;have hg:=Rt hno
  by_cases ht:m.To=x
  ·cases hvd:vd m.On with
   |true=>
    refine skip ?_ fun _ h2=>by rw[hvd]at h2;cases h2
    unfold PK;rw[A2 (by simp[D5,E4];omega)];simp only[I0,hx,A6,hg,DK,hin,C7,hix,Bb,Dv,ht,EZ,AC,Z7,Bool.and_self,hsv,hvd,Q5,F6,E3,hinc]
   | false=>
    have hxa:=h.t1 x (by simp);obtain⟨ix,dx,ex1,ex2,ex3,_⟩:=h.ok _ _ hxa
    have hdx:dx=a:=by omega
    subst hdx;obtain⟨jf,hjf⟩:∃j:Nat,m.cX=(j:Int):=⟨m.cX.toNat,by omega⟩;have hda:=At7 hs ex3
    have hD:Va s jf (dx+1):=by
     refine⟨⟨ix,⟨m,hmem,hjf,by omega,hvd⟩,ex3.1⟩,fun k hk hr=>?_⟩;obtain⟨v,hv⟩:=h.kn jf k (by omega) hr;exact hno v (by rw[hjf];exact hv)
    obtain⟨e1,hMp⟩:=TC h.mp (v:=(dx:Int)+1) hno
    have e2:N5 (x::T1++T2) [m.cX]=some (x::T1++(T2++[m.cX])):=by
     unfold N5;rw[A2 (by simp only[Gr];omega),E7]
    have e:PK 40000000 s ((i:Int),x::T1++T2,M)=some (.inl (((i+1:Nat):Int),x::T1++(T2++[m.cX]),M++[(m.cX,(dx:Int)+1)])):=by
     unfold PK;rw[A2 (by simp[D5,E4];omega)];simp only[I0,hx,A6,hg,DK,hin,C7,hix,Bb,Dv,ht,EZ,AC,Z7,Bool.and_self,hsv,hvd,Nl h.mp hxa,O7 (show -9223372036854775808≤(dx:Int)+1 by omega) (show(dx:Int)+1<9223372036854775808 by omega),e1,e2,hinc]
    rw[loopN,e]
    obtain⟨T2',M',e3,h3,h4,h5⟩:=SB hs (a:=dx) (x:=x) (T1:=T1) d (i+1) N (T2++[m.cX]) (M++[(m.cX,(dx:Int)+1)]) (by omega) (by omega)
     ⟨hMp,fun k v hk=>by
      rcases List.mem_append.1 hk with hk|hk
      ·exact h.ok k v hk
      simp only[J2,X6]at hk
      obtain⟨rfl,rfl⟩:=hk
      exact⟨jf,dx+1,hjf,by omega,hD,by omega⟩,
      fun k hk=>P6 _ (h.t1 k hk),
      fun k hk=>by
       rcases List.mem_append.1 hk with hk|hk
       ·exact P6 _ (h.t2 k hk)
       simp only[J2]at hk
       exact Dl _ (by rw[hk];simp),
      fun y k hk hr=>by obtain⟨v,hv⟩:=h.kn y k hk hr;exact⟨v,P6 _ hv⟩,
      fun k hk=>by
       rcases List.mem_append.1 hk with hk|hk
       ·exact P6 _ (h.up k hk)
       simp only[J2,X6]at hk
       exact Dl _ (by rw[hk.1];simp),
      fun y j he hj hn=>by obtain⟨v,hv⟩:=h.dn y j he hj hn;exact⟨v,P6 _ hv⟩⟩
     (by simp only[I6,M2,Bq]at hl ⊢;omega)
     (fun j hj y hy hty hvy=>by
      rcases H6 j i with c|c
      ·obtain⟨v,hv⟩:=hd j c y hy hty hvy;exact⟨v,P6 _ hv⟩
      rw[show j=i by omega,hx]at hy;cases hy;exact⟨(dx:Int)+1,Dl _ (by simp)⟩)
    refine⟨T2',M',e3,h3,?_,h5⟩
    simp only[I6,M2,Bq]at h4
    omega
  refine skip ?_ fun h1=>absurd h1 ht;unfold PK;rw[A2 (by simp[D5,E4];omega)];simp only[I0,hx,A6,hg,DK,hin,C7,hix,Bb,Dv,ht,EZ,GR,Bool.false_and,F6,E3,hinc]
theorem ZR {s:A0} (hs:GN s) {a:Nat} {x:Int} {T1 T2:List Int} {M:List (Int×Int)} (h:Wv s a (x::T1) T2 M) (hl:(x::T1++T2).length≤M.length):
 ∃T2' M',ZS 40000000 s (x::T1++T2,M)=some (.inl (T1++T2',M'))∧Wv s a T1 T2' M'∧(T1++T2').length≤M'.length∧(T1++T2').length+(s.cU.length - M'.length)<(x::T1++T2).length+(s.cU.length - M.length):=by
 have hmv:=hs.mv;obtain⟨T2',M',e,h1,h2,h3⟩:=SB hs s.cV.length 0 40000000 T2 M (by omega) (by omega) h hl (fun j hj=>by omega);have hl1:=h.len hs;have hl2:=h1.len hs;refine⟨T2',M',?_,⟨h1.mp,h1.ok,fun k hk=>h1.t1 k (J7 _ hk),h1.t2,h1.kn,h1.up,fun i j he hj hn=>?_⟩,?_,?_⟩
 ·unfold ZS;rw[A2 (by simp[U3,E4];omega)]
  rw[show((0:Nat):Int)=0 from rfl]at e
  rw[e];simp only[A6];unfold Ao;rw[A2 (by simp;omega)];simp only[A6,BZ,Dj]
  congr 2
  rw[show((x::T1++T2').drop (1:Int).toNat)=T1++T2' from rfl];rw[P7 (by simp;omega)]
 ·by_cases c:(j:Int)=x
  ·obtain⟨m,hm,f,t,v⟩:=he;obtain⟨w,hw⟩:=h3 m hm (by omega) v;exact⟨w,by rw[←f];exact hw⟩
  exact h1.dn i j he hj (by simp only[Dz,not_or];exact⟨c,hn⟩)
 ·simp only[I6,M2]at hl ⊢;omega
 simp only[I6,M2]at hl ⊢;omega
theorem Ak0 {s:A0} (hs:GN s):∀(μ N a:Nat) (T1 T2:List Int) (M:List (Int×Int)),(T1++T2).length+(s.cU.length - M.length)≤μ→μ<N→Wv s a T1 T2 M→(T1++T2).length≤M.length→
 ∃a' M',loopN (ZS 40000000 s) N (T1++T2,M)=some ([],M')∧Wv s a' [] [] M':=by
 intro μ
 induction μ with
 |zero=>
  intro N a T1 T2 M hm hN h hl;obtain⟨N,rfl⟩:∃K,N=K+1:=⟨N - 1,by omega⟩;have e1:T1=[]:=Ig (by rw[I6]at hm;omega);have e2:T2=[]:=Ig (by rw[I6]at hm;omega);subst e1;subst e2;exact⟨a,M,rfl,h⟩
 | succ μ ih=>
  intro N a T1 T2 M hm hN h hl;obtain⟨N,rfl⟩:∃K,N=K+1:=⟨N - 1,by omega⟩
  have go:∀(a:Nat) (x:Int) (T1 T2:List Int),(x::T1++T2).length+(s.cU.length - M.length)≤μ+1→Wv s a (x::T1) T2 M→(x::T1++T2).length≤M.length→∃a' M',loopN (ZS 40000000 s) (N+1) (x::T1++T2,M)=some ([],M')∧Wv s a' [] [] M':=by
   intro a x T1 T2 hm h hl;obtain⟨T2',M',e,h1,h2,h3⟩:=ZR hs h hl;rw[loopN,e];exact ih N a T1 T2' M' (by omega) (by omega) h1 h2
  cases T1 with
  |cons x T1=>exact go a x T1 T2 hm h hl
  | nil=>
   cases T2 with
   |nil=>exact⟨a,M,rfl,h⟩
   |cons x T2=>
    have:=go (a+1) x T2 [] (by simpa using hm) h.next (by simpa using hl)
    simpa using this
theorem An4 {s:A0} (hs:GN s):∃M,R3 40000000 s=some M∧Mp M∧∀k v,(k,v)∈M↔∃i d:Nat,k=(i:Int)∧v=(d:Int)∧Va s i d:=by
 have hf:=hs.fi;obtain⟨T,M,e,h⟩:=PL hs s.cU.length 0 40000000 [] [] (by omega) (by omega) ⟨⟨GU⟩,fun k v=>by simp,fun k=>by simp,rfl,by simp⟩;have hb:=h.bfs hs;have hl:=hb.len hs;obtain⟨a,M',e2,h2⟩:=Ak0 hs 600 40000000 0 T [] M (by simp;have:=h.li;omega) (by omega) hb (by simp[h.le]);refine⟨M',?_,h2.mp,fun k v=>⟨fun hk=>?_,?_⟩⟩
 ·rw[Ad7]
  rw[show((0:Nat):Int)=0 from rfl]at e
  rw[e]
  rw[H7]at e2
  simp only[A6,e2]
 ·obtain⟨i,d,e1,e2,e3,_⟩:=h2.ok k v hk;exact⟨i,d,e1,e2,e3⟩
 rintro⟨i,d,rfl,rfl,hd⟩
 have hall:∃v,((i:Int),v)∈M':=by
  rcases H6 a d with c|c
  ·obtain⟨i',hi'⟩:=Rm hd (a+1) (by omega);obtain⟨j,he,hj⟩:=Kg hi';obtain⟨v,hv⟩:=h2.dn i' j he hj (by simp);obtain⟨i2,d2,q1,q2,q3,q4⟩:=h2.ok _ _ hv
   have:i2=i':=by omega
   subst this;have:=Ms hi' q3;subst this;have:=h2.up _ (by rw[q2]at hv;exact_mod_cast hv);cases this
  exact h2.kn i d c hd.1
 obtain⟨v,hv⟩:=hall;obtain⟨i2,d2,q1,q2,q3,_⟩:=h2.ok _ _ hv
 have:i2=i:=by omega
 subst this;have:=Ms hd q3;subst this;rw[←q2];exact hv
end Go.Ab
namespace Go.Ab
theorem VY {p:B3} {x:B8} (h:Ni p x=true):vd p=false:=by
 obtain⟨h0,l,hl,y,hy,_⟩:=HZ.1 h
 cases hv:vd p with
 |false=>rfl
 | true=>
  have:fnd ne1 0 p.cZ=none:=by
   have:(An0 p).isNone=true:=hv
   simpa using this
  have:=Uy this l (I7 hl)
  cases l with
  |nil=>cases hy
  |cons a l=>simp[ne1]at this
def bef (x y:B8):Bool:=decide (x.Typ<y.Typ)||(decide (x.Typ=y.Typ)&&decide (x.Num<y.Num))
def nxt (st:Bool×B8)(c:B8):Bool×B8:=if st.1=false then(true,c)else if bef c st.2=true then(true,c)else st
section
variable {s:A0}{M:List (Int×Int)}{left:Nat}
structure Ap0 (s:A0) (M:List (Int×Int)):Prop where
 mp:Mp M
 mem:∀k v,(k,v)∈M↔∃i d:Nat,k=(i:Int)∧v=(d:Int)∧Va s i d
end
end Go.Ab
namespace Go.Ab
set_option maxRecDepth 100000
theorem Au0 {N:Nat} {p:B3} (hN:10<N):∃b,EF N p=some b∧(b=true→p.cZ.length≤4∧∀x∈p.cZ,x.length≤12):=by
 unfold EF;rw[Bf (l:=p.cZ.take 5) (f:=fun _ x=>if x.length≤12 then 0 else 1) (e:=.inl ()) (b:=fun _=>.inr ()) (N:=N) ?_ ?_ (by simp;omega)]
 ·simp only[A6]
  by_cases h:fb (fun _ (x:List A4)=>if x.length≤12 then(0:Int)else 1) 0 (p.cZ.take 5)=0
  ·rw[A2 h];refine⟨_,rfl,fun hb=>?_⟩
   simp only[KQ,E4,C2]at hb
   refine⟨by omega,fun x hx=>?_⟩;obtain⟨k,hk⟩:=M3 hx;have hkl:=(List.getElem?_eq_some_iff.1 hk).1;have:=Ax.1 h k x (by rw[Dk];rw[A2 (by omega)];exact hk)
   split at this
   ·assumption
   cases this
  rw[A3 h];exact⟨_,rfl,fun h=>by cases h⟩
 ·intro i x hx hi
  rw[Dk]at hx
  have hi5:i<5∧i<p.cZ.length:=by simp at hi;omega
  rw[A2 hi5.1]at hx
  unfold Ky;simp only[D5,KQ,Dv,Bb,E4,I0,hx,A6,G8,C2,S4,Cg];rw[A2 (by omega),O6 hi5.1 (by omega)]
  by_cases h:x.length≤12
  ·rw[A3 (by omega),A2 (by rw[A2 h])]
  rw[A2 (by omega),A3 (by rw[A3 h];decide)]
 simp only[D5,Dv,E4,G8,C2,Br];rw[A3 (by omega)]
end Go.Ab
namespace Go.Ab
theorem Ah7 {N:Nat} {s:A0} (hN:30<N):∃b,HQ N s=some b∧(b=true→s.cU.length≤8∧s.cV.length≤16∧∀m∈s.cV,m.On.cZ.length≤4∧∀x∈m.On.cZ,x.length≤12):=by
 unfold HQ;have hc:∀m:C3,∃b,EF N m.On=some b∧(b=true→m.On.cZ.length≤4∧∀x∈m.On.cZ,x.length≤12):=fun m=>Au0 (by omega);obtain⟨F,hF⟩:∃F:C3→Bool,∀m,EF N m.On=some (F m)∧(F m=true→m.On.cZ.length≤4∧∀x∈m.On.cZ,x.length≤12):=⟨fun m=>(hc m).choose,fun m=>(hc m).choose_spec⟩;rw[Bf (l:=s.cV.take 20) (f:=fun _ m=>if F m=true then 0 else 1) (e:=.inl ()) (b:=fun _=>.inr ()) (N:=N) ?_ ?_ (by simp;omega)]
 ·simp only[A6]
  by_cases h:fb (fun _ (m:C3)=>if F m=true then(0:Int)else 1) 0 (s.cV.take 20)=0
  ·rw[A2 h];refine⟨_,rfl,fun hb=>?_⟩
   simp only[KQ,Dv,E4,G8,C2]at hb
   refine⟨by omega,by omega,fun m hm=>?_⟩;obtain⟨k,hk⟩:=M3 hm;have hkl:=(List.getElem?_eq_some_iff.1 hk).1;have:=Ax.1 h k m (by rw[Dk];rw[A2 (by omega)];exact hk)
   split at this
   ·rename_i h2;exact(hF m).2 h2
   cases this
  rw[A3 h];exact⟨_,rfl,fun h=>by cases h⟩
 ·intro i x hx hi
  rw[Dk]at hx
  have hi5:i<20∧i<s.cV.length:=by simp at hi;omega
  rw[A2 hi5.1]at hx
  simp only[D5,Dv,Bb,E4,I0,hx,A6,(hF x).1,G8,C2,S4];rw[A2 (by omega),O6 hi5.1 (by omega)];cases F x<;>simp
 simp only[D5,Dv,E4,G8,C2,Br];rw[A3 (by omega)]
end Go.Ab
namespace Go.Ab
def Ou (s:A0):List B8→Nat→Nat→Prop
 |[],i,j=>i=j
 |x::w,i,j=>∃m∈s.cV,m.cX=(i:Int)∧Ni m.On x=true∧∃k:Nat,m.To=(k:Int)∧Ou s w k j
theorem ZL {s:A0}:∀{w:List B8} {i j:Nat},Ou s w i j→s.cU[j]? =some true→Rc s w.length i
 |[],i,j,h,hf=>by
  have h:i=j:=h;subst h;exact hf
 |x::w,i,j,⟨m,hm,f,c,k,t,h⟩,hf=>⟨k,⟨m,hm,f,t,VY c⟩,ZL h hf⟩
theorem brun {s:A0} (hs:GN s):∀(w:List B8) (b b':List Bool),(∀x∈w,Md s.cW x=0)→b.length=s.cU.length→
 G0 (R:=List Bool) (fun b x=>(Y0 40000000 s b x).bind fun q=>some (.inl q)) w b=some (.inl b')→∀j:Nat,b'[j]? =some true↔∃i:Nat,b[i]? =some true∧Ou s w i j
 |[],b,b',_,_,h,j=>by
  simp only[G0,D9,Sum.inl.injEq]at h
  subst h;exact⟨fun h=>⟨j,h,rfl⟩,fun⟨i,h,e⟩=>by have e:i=j:=e;rw[←e];exact h⟩
 |x::w,b,b',hw,hb,h,j=>by
  obtain⟨o,e,h1,h2⟩:=WU (N:=40000000) (by omega) (hw x (by simp)) hs hb
  rw[G0]at h
  simp only[e,A6]at h
  rw[brun hs w o b' (fun y hy=>hw y (J7 _ hy)) h1 h j]
  constructor
  ·rintro⟨i,hi,hp⟩;obtain⟨m,hm,f,t,c⟩:=(h2 i).1 hi;have hm2:=(hs.each m hm).1;exact⟨m.cX.toNat,f,m,hm,by omega,c,i,t,hp⟩
  rintro⟨i,hi,m,hm,f,c,k,t,hp⟩;exact⟨k,(h2 k).2 ⟨m,hm,by rw[f,show(i:Int).toNat=i by omega];exact hi,t,c⟩,hp⟩
theorem Ai1 {s:A0} {w:List B8} {r:Bool×Int} (h:Smn s w r) (h0:r.2=0):r.1=true↔∃j,Ou s w 0 j∧s.cU[j]? =some true:=by
 obtain⟨h1,h2,b,e,h3⟩:=h h0;have hs:=Gw h1;have hst:=QW (n:=s.cU.length) hs.fi.1;have hb:=brun hs w _ b h2 hst.len e;rw[h3]
 constructor
 ·rintro⟨j,hj,hf⟩;obtain⟨i,hi,hp⟩:=(hb j).1 hj
  have:i=0:=by
   have:=(hst.mem (i:Int)).2 ⟨i,rfl,hi⟩
   simp at this;omega
  subst this;exact⟨j,hp,hf⟩
 rintro⟨j,hp,hf⟩;obtain⟨i,e0,hi⟩:=(hst.mem 0).1 (by simp)
 have:i=0:=by omega
 subst this;exact⟨j,(hb j).2 ⟨0,hi,hp⟩,hf⟩
end Go.Ab
namespace Go.Ab
def Rp (s:A0):Nat→Nat→Prop
 |0,i=>i=0
 |l+1,i=>∃j,Rp s l j∧Ed s j i
structure Qs (s:A0) (T:List Int) (S:List (Int×Bool)):Prop where
 tru:Wr S
 ok:∀k,(k,true)∈S→∃i l:Nat,k=(i:Int)∧i<s.cU.length∧Rp s l i
 sub:∀k∈T,(k,true)∈S
 le:T.length≤S.length
theorem Qs.len {s:A0} {T:List Int} {S:List (Int×Bool)} (h:Qs s T S):S.length≤s.cU.length:=by
 have hmem:∀p∈S,∃i l:Nat,p.1=(i:Int)∧i<s.cU.length∧Rp s l i∧p.2=true:=fun p hp=>by
  have:=h.tru.2 p hp;obtain⟨k,b⟩:=p
  simp only at this
  subst this;obtain⟨i,l,h1,h2,h3⟩:=h.ok k hp;exact⟨i,l,h1,h2,h3,rfl⟩
 have hn:(S.map fun p=>p.1.toNat).Nodup:=by
  have hn:=h.tru.1
  rw[Jy]at hn ⊢
  rw[Jl];refine Jv ?_ hn;intro p q hp hq hne e;obtain⟨i,_,e1,_,_,b1⟩:=hmem p hp;obtain⟨j,_,e2,_,_,b2⟩:=hmem q hq;exact hne (Prod.ext (by omega) (by rw[b1,b2]))
 have:=JT hn (n:=s.cU.length) (fun x hx=>by
  obtain⟨p,hp,rfl⟩:=List.mem_map.1 hx;obtain⟨i,_,e1,h1,_⟩:=hmem p hp
  omega)
 simpa using this
noncomputable def seS (N:Nat) (s17:(List Int)×(List (Int×Bool))) (y16:C3):Option (((List Int)×(List (Int×Bool)))⊕(Unit)):=
 (Am s17.2 y16.To (false:Bool)).bind fun r23=>
 if nt r23.1=true then
  (N7 N y16.On).bind fun r24=>
  if nt r24=true then
   (AV s17.2 y16.To true).bind fun l26=>
   (N5 s17.1 ([y16.To])).bind fun l28=>
   some (.inl (l28,l26))
  else
   some (.inl (s17.1,s17.2))
 else
  some (.inl (s17.1,s17.2))
noncomputable def reS (N:Nat) (s:A0) (s7:(List Int)×(List (Int×Bool))):Option (((List Int)×(List (Int×Bool)))⊕(((List Int)×(List (Int×Bool))))):=
 if cmp .gtr (Ar.len s7.1) 0=true then
  (D0 s7.1 0).bind fun x13=>
  (J6 N s x13).bind fun r14=>
  (G0 (seS N) r14 (s7.1,s7.2)).bind fun o22=>
  match o22 with
  | .inl s33=>
   (Ao s33.1 (some 1) none none).bind fun l37=>
   some (.inl (l37,s33.2))
  | .inr _=>none
 else
  some (.inr (s7.1,s7.2))
theorem XW (N:Nat)(s:A0):V3 N s=(AV ([]:List (Int×Bool)) 0 true).bind fun l4=>(loopN (reS N s) N ([0],l4)).bind fun s12=>some s12.2:=rfl
theorem Sc {s:A0} (hs:GN s) {i l:Nat} (hl:Rp s l i):∀(ms:List C3) (T:List Int) (S:List (Int×Bool)),(∀m∈ms,m∈s.cV∧m.cX=(i:Int))→Qs s T S→
 ∃T' S',G0 (seS 40000000) ms (T,S)=some (.inl (T++T',S'))∧Qs s (T++T') S'∧T'.length+S.length=S'.length∧(∀k,(k,true)∈S→(k,true)∈S')∧(∀k,(k,true)∈S'→(k,true)∈S∨k∈T')∧∀m∈ms,vd m.On=false→(m.To,true)∈S'
 |[],T,S,_,h=>⟨[],S,by rw[H7];rfl,by rw[H7];exact h,by simp,fun k h=>h,fun k h=>.inl h,fun m h=>by cases h⟩
 | m ::ms,T,S,hm,h=>by
  have hm':=fun y hy=>hm y (J7 m hy);obtain⟨hmm,hmf⟩:=hm m (by simp);obtain⟨⟨_,t0,t1⟩,hp⟩:=hs.each m hmm;have hv:=Ma (N:=40000000) (by omega) hp;have hfi:=hs.fi;have hlen:=h.len;have hle:=h.le
  by_cases hin:(m.To,true)∈S
  ·have e:seS 40000000 (T,S) m=some (.inl (T,S)):=by simp[seS,Wc h.tru hin,Bb]
   obtain⟨T',S',e2,h2,h3,a1,a2,a3⟩:=Sc hs hl ms T S hm' h;refine⟨T',S',by rw[G0,e];exact e2,h2,h3,a1,a2,fun y hy hv2=>?_⟩
   rcases List.mem_cons.1 hy with rfl|hy
   ·exact a1 _ hin
   exact a3 y hy hv2
  obtain⟨g1,g2,g3⟩:=SE h.tru hin
  cases hvd:vd m.On with
  |true=>
   have e:seS 40000000 (T,S) m=some (.inl (T,S)):=by simp[seS,g1,Bb,hv,hvd]
   obtain⟨T',S',e2,h2,h3,a1,a2,a3⟩:=Sc hs hl ms T S hm' h;refine⟨T',S',by rw[G0,e];exact e2,h2,h3,a1,a2,fun y hy hv2=>?_⟩
   rcases List.mem_cons.1 hy with rfl|hy
   ·rw[hvd]at hv2;cases hv2
   exact a3 y hy hv2
  | false=>
   have ha:N5 T [m.To]=some (T++[m.To]):=by unfold N5;rw[A2 (by simp;omega)]
   have e:seS 40000000 (T,S) m=some (.inl (T++[m.To],S++[(m.To,true)])):=by simp[seS,g1,g2,Bb,hv,hvd,ha]
   obtain⟨T',S',e2,h2,h3,a1,a2,a3⟩:=Sc hs hl ms (T++[m.To]) (S++[(m.To,true)]) hm' ⟨g3,fun k hk=>by
    rcases List.mem_append.1 hk with hk|hk
    ·exact h.ok k hk
    simp only[J2,X6,I9]at hk
    subst hk
    exact⟨m.To.toNat,l+1,by omega,by omega,i,hl,m,hmm,hmf,by omega,hvd⟩,
    fun k hk=>by
     rcases List.mem_append.1 hk with hk|hk
     ·exact P6 _ (h.sub k hk)
     simp only[J2]at hk
     exact Dl _ (by rw[hk];simp),
    by simp;omega⟩
   refine⟨m.To::T',S',?_,?_,?_,fun k hk=>a1 k (P6 _ hk),fun k hk=>?_,fun y hy hv2=>?_⟩
   ·rw[G0,e,show T++m.To::T'=T++[m.To]++T' by simp];exact e2
   ·rw[show T++m.To::T'=T++[m.To]++T' by simp];exact h2
   ·simp only[M2,I6,Bq]at h3 ⊢;omega
   ·rcases a2 k hk with hk|hk
    ·rcases List.mem_append.1 hk with hk|hk
     ·exact .inl hk
     simp only[J2,X6,I9]at hk
     exact .inr (by rw[hk];simp)
    exact .inr (J7 _ hk)
   rcases List.mem_cons.1 hy with rfl|hy
   ·exact a1 _ (by simp)
   exact a3 y hy hv2
def Cls (s:A0)(T:List Int)(S:List (Int×Bool)):Prop:=∀k,(k,true)∈S→k∈T∨∀m∈s.cV,m.cX=k→vd m.On=false→(m.To,true)∈S
theorem As4 {s:A0} (hs:GN s):∀(μ N:Nat) (T:List Int) (S:List (Int×Bool)),T.length+(s.cU.length - S.length)≤μ→μ<N→Qs s T S→Cls s T S→
 ∃S',loopN (reS 40000000 s) N (T,S)=some ([],S')∧Qs s [] S'∧Cls s [] S'∧∀k,(k,true)∈S→(k,true)∈S':=by
 intro μ
 induction μ with
 |zero=>
  intro N T S hm hN h hc;obtain⟨N,rfl⟩:∃K,N=K+1:=⟨N - 1,by omega⟩;have e1:T=[]:=Ig (by omega);subst e1;exact⟨S,rfl,h,hc,fun k h=>h⟩
 | succ μ ih=>
  intro N T S hm hN h hc;obtain⟨N,rfl⟩:∃K,N=K+1:=⟨N - 1,by omega⟩
  cases T with
  |nil=>exact⟨S,rfl,h,hc,fun k h=>h⟩
  | cons x T=>
   obtain⟨i,l,rfl,hi,hl⟩:=h.ok x (h.sub x (by simp))
   obtain⟨T',S',e,h1,h2,a1,a2,a3⟩:=Sc hs hl (s.cV.filter fun m=>decide (m.cX=(i:Int))) ((i:Int)::T) S (fun m hm=>by
    obtain⟨a,b⟩:=List.mem_filter.1 hm
    exact⟨a,by simpa using b⟩) h
   have hlen:=h1.len;have hfi:=hs.fi;have hle:=h1.le
   have hsl:Ao ((i:Int)::T++T') (some 1) none none=some (T++T'):=by
    unfold Ao;rw[A2 (by simp;omega)];simp only[BZ,Dj];rw[show(((i:Int)::T++T').drop (1:Int).toNat)=T++T' from rfl];rw[P7 (by simp;omega)]
   have est:reS 40000000 s ((i:Int)::T,S)=some (.inl (T++T',S')):=by
    unfold reS;rw[A2 (by simp only[U3,E4,M2,C2];omega)];rw[show D0 ((i:Int)::T) 0=some (i:Int) by simp[D0]];simp only[A6,OI (show 3000<40000000 by omega) hs.mv,e,hsl]
   rw[loopN,est]
   simp only[M2,I6]at hm hle
   obtain⟨S2,r1,r2,r3,r4⟩:=ih N (T++T') S' (by simp only[I6];omega) (by omega) ⟨h1.tru,h1.ok,fun k hk=>h1.sub k (J7 _ hk),by simp only[I6];omega⟩ (fun k hk=>by
    by_cases hki:k=(i:Int)
    ·subst hki;exact .inr fun m hm hmf hv=>a3 m (List.mem_filter.2 ⟨hm,by simpa using hmf⟩) hv
    rcases a2 k hk with hk|hk
    ·rcases hc k hk with hk|hk
     ·rcases List.mem_cons.1 hk with hk|hk
      ·exact absurd hk hki
      exact .inl (P6 _ hk)
     exact .inr fun m hm hmf hv=>a1 _ (hk m hm hmf hv)
    exact .inl (Dl _ hk))
   exact⟨S2,r1,r2,r3,fun k hk=>r4 k (a1 k hk)⟩
theorem ZH {s:A0} (hs:GN s):∃S,V3 40000000 s=some S∧Qs s [] S∧Cls s [] S∧((0:Int),true)∈S:=by
 have hfi:=hs.fi
 obtain⟨S,e,h,hc,h0⟩:=As4 hs 600 40000000 [0] [(0,true)] (by simp;omega) (by omega) ⟨⟨by simp,fun p hp=>by simp only[J2]at hp;rw[hp]⟩,fun k hk=>by
  simp only[J2,X6,I9]at hk
  exact⟨0,0,by omega,by omega,rfl⟩,fun k hk=>by simp only[J2]at hk;rw[hk];simp,by simp⟩ (fun k hk=>.inl (by simp only[J2,X6,I9]at hk;rw[hk];simp))
 refine⟨S,?_,h,hc,h0 0 (by simp)⟩;rw[XW,show AV ([]:List (Int×Bool)) 0 true=some [(0,true)]from rfl];simp only[A6,e]
end Go.Ab
namespace Go.Ab
noncomputable def trA (N:Nat) (s:A0) (s3:(List (Int×Int))×(List (Int×Bool))) (s373:Int×A0×(List (Int×Int))):Option ((Int×A0×(List (Int×Int)))⊕((A0×(List (Int×Int))))):=
 if cmp .lss s373.1 (Ar.len s.cU)=true then
  (D0 s.cU s373.1).bind fun x377=>
  if cmp .eql s373.1 0=true then
   (AV s373.2.2 s373.1 (Ar.len s373.2.1.cU)).bind fun l379=>
   (N5 s373.2.1.cU ([x377])).bind fun l381=>
   some (.inl (ar .add .i64 s373.1 1,{s373.2.1 with cU:=l381,cV:=[]},l379))
  else
   (P2 N s373.1 s3.1 s3.2).bind fun r382=>
   if r382=true then
    (AV s373.2.2 s373.1 (Ar.len s373.2.1.cU)).bind fun l384=>
    (N5 s373.2.1.cU ([x377])).bind fun l386=>
    some (.inl (ar .add .i64 s373.1 1,{s373.2.1 with cU:=l386,cV:=[]},l384))
   else
    some (.inl (ar .add .i64 s373.1 1,{s373.2.1 with cV:=[]},s373.2.2))
 else
  some (.inr ({s373.2.1 with cV:=[]},s373.2.2))
noncomputable def trB (N:Nat) (s:A0) (s3:(List (Int×Int))×(List (Int×Bool))) (s376:A0×(List (Int×Int))) (s389:Int×A0):Option ((Int×A0)⊕(A0)):=
 if cmp .lss s389.1 (Ar.len s.cV)=true then
  (D0 s.cV s389.1).bind fun x392=>
  (P2 N x392.cX s3.1 s3.2).bind fun r393=>
  if r393=true then
   (P2 N x392.To s3.1 s3.2).bind fun r394=>
   if r394=true then
    (N7 N x392.On).bind fun r395=>
    if nt r395=true then
     (Am s376.2 x392.cX (0:Int)).bind fun r396=>
     (Am s376.2 x392.To (0:Int)).bind fun r397=>
     (J9 N x392.On).bind fun r398=>
     (N5 s389.2.cV ([(⟨r396.1,r397.1,r398⟩:C3)])).bind fun l400=>
     some (.inl (ar .add .i64 s389.1 1,{s389.2 with cU:=s376.1.cU,cV:=l400}))
    else
     some (.inl (ar .add .i64 s389.1 1,{s389.2 with cU:=s376.1.cU}))
   else
    some (.inl (ar .add .i64 s389.1 1,{s389.2 with cU:=s376.1.cU}))
  else
   some (.inl (ar .add .i64 s389.1 1,{s389.2 with cU:=s376.1.cU}))
 else
  some (.inr ({s389.2 with cU:=s376.1.cU}))
theorem Zm (N:Nat) (s:A0):CU N s=(K4 N s).bind fun r2=>
 if cmp .neq r2 0=true then
  some ((⟨0,[],[]⟩:A0),r2)
 else
  ((
   (V3 N s).bind fun l44=>
   (R3 N s).bind fun l124=>
   some (l124,l44)
  ):Option (((List (Int×Int))×(List (Int×Bool))))).bind fun s3=>
  (loopN (trA N s s3) N (0,(⟨s.cW,[],[]⟩:A0),([]:List (Int×Int)))).bind fun s376=>
  (loopN (trB N s s3 s376) N (0,{s376.1 with cV:=[]})).bind fun s391=>
  some ({s391 with cU:=s376.1.cU},0):=rfl
section
variable {s:A0}{M:List (Int×Int)}{S:List (Int×Bool)}
end
end Go.Ab
