/- . -/
import Derived.Test.YtjhobbohibnioaaGreatDoorF20
set_option linter.all false
open List (Nodup)
open Go.Ab.Ar (ar)
namespace Go.Ab
open Classical
noncomputable section
structure RV (l:List A8) (d:A3) (p:A1) (b:List PR) (r:List PR×Bool):Prop where
 gd:r.2=true→Gd l r.1∧r.1≠[]
 eq:∀f,KW l b f→OX l d p b f=if r.2=true∧f≤hdA r.1 then some r.1 else none
structure RI (l:List A8) (ks:List A3) (p:A1) (c:Int) (b:List PR) (i:Nat) (s:List PR):Prop where
 gd:(i=0∧s=[])∨(Gd l s∧s≠[])
 ap:BV p→O1 b s
 eq:∀f,KW l b f→Dz l ks p c 0 b f []=if s=[]∨f≤hdA s then Dz l (ks.drop i) p c i b f s else none
theorem Al5 {S T R:Type} {m:Nat} {step:S→Option (S⊕R)} {rep:Nat→T→S} {I:Nat→T→Prop} {res:T→R}
 (hs:∀i,i<m→∀t,I i t→∃t',step (rep i t)=some (.inl (rep (i+1) t'))∧I (i+1) t')
 (he:∀t,I m t→step (rep m t)=some (.inr (res t))) {N:Nat} (hN:m<N) {t0:T} (h0:I 0 t0):
 ∃t,I m t∧loopN step N (rep 0 t0)=some (res t):=by
 have key:∀(d i N:Nat) (t:T),i+d=m→d<N→I i t→∃t',I m t'∧loopN step N (rep i t)=some (res t'):=by
  intro d
  induction d with
  |zero=>
   intro i N t hi hN ht;obtain⟨N,rfl⟩:∃m,N=m+1:=⟨N-1,by omega⟩
   have:i=m:=by omega
   grind[loopN]
  |succ d ih=>
   intro i N t hi hN ht;obtain⟨N,rfl⟩:∃m,N=m+1:=⟨N-1,by omega⟩
   grind[loopN]
 simp_all
theorem Fx {S T R X:Type}{m:Nat}{step:S→Option (S⊕R)}{s0:S}{k:R→Option X}{x:Option X}(rep:Nat→T→S)(I:Nat→T→Prop)(res:T→R){t0:T}(e0:s0=rep 0 t0){N:Nat}(hN:m<N)(h0:I 0 t0)
 (hs:∀i,i<m→∀t,I i t→∃t',step (rep i t)=some (.inl (rep (i+1) t'))∧I (i+1) t') (he:∀t,I m t→step (rep m t)=some (.inr (res t))) (k1:∀t,I m t→k (res t)=x):(loopN step N s0).bind k=x:=by
 subst e0;obtain⟨t,h1,h2⟩:=Al5 hs he hN h0;rw[h2];grind
mutual
theorem AI6:∀(d:A3) (p:A1),(bnA d p).length≤GK d
 |⟨r,c,ks⟩,p=>by
  simp only[bnA,GK]
  split
  ·simp
  have:=Ao4 ks p c 0;omega
theorem Ao4:∀(ks:List A3) (p:A1) (c:Int) (i:Nat),(NB ks p c i).length≤Fi ks
 |[],_,_,_=>CR _
 |k::ks,p,c,i=>by
  rw[NB,J2,Fi];have:=AI6 k (M4 p c i);have:=Ao4 ks p c (i+1);omega
end
def BI (ks:List A3)(p:A1)(c:Int)(i:Nat)(t:List E1):Prop:=t++NB (ks.drop i) p c i=NB ks p c 0∧t.length+Fi (ks.drop i)≤4096
theorem BI.next {ks:List A3}{p:A1}{c:Int}{i:Nat}{t:List E1}(h:BI ks p c i t)(hi:i<ks.length):Q2 t (bnA ks[i] (M4 p c i))=some (t++bnA ks[i] (M4 p c i))∧BI ks p c (i+1) (t++bnA ks[i] (M4 p c i)):=by
 obtain⟨h1,h2⟩:=h
 rw[R7 hi]at h1 h2
 rw[NB]at h1
 rw[Fi]at h2
 have:=AI6 ks[i] (M4 p c i)
 grind[Q2,BI]
theorem BI.start {ks:List A3}{p:A1}{c:Int}(h:Fi ks≤4096):BI ks p c 0 []:=⟨rfl,by grind⟩
theorem BI.stop {ks:List A3}{p:A1}{c:Int}{t:List E1}(h:BI ks p c ks.length t):t=NB ks p c 0:=by
 have:=h.1
 rw[DW (B3 _),NB,H6]at this
 exact this
theorem few1 {N:Nat} (hN:40000000≤N) (l:List B1):∃b,MW N l=some b∧True:=by
 unfold MW;refine Ai2 (m:=min l.length 40) (fun i _=>(i:Int)) (fun _ _=>True) True (fun _=>()) (t0:=()) rfl (by omega) trivial (fun i hi t _=>?_) (fun t _=>?_) (fun _=>⟨_,rfl,trivial⟩) (fun t _=>⟨_,rfl,trivial⟩)
 ·have hil:i<l.length:=by omega
  rw[A2 (by rw[L3,X7 (by omega),Z6 (by omega)];rfl),F6,E0 hil];simp only[A4]
  split
  ·simp_all
  refine .inr ⟨(),?_,trivial⟩;rw[D3 (by omega) (by omega)];rfl
 rw[A0];rw[L3];intro h
 rw[L9,D4,D4,H8,H8,B4]at h
 omega
theorem few4 {N:Nat} (hN:40000000≤N) (l:List A8):∃b,Hj N l=some b∧(b=true→l.length≤20):=by
 unfold Hj;refine Ai2 (m:=min l.length 20) (fun i _=>(i:Int)) (fun _ _=>True) True (fun _=>()) (t0:=()) rfl (by omega) trivial (fun i hi t _=>?_) (fun t _=>?_) (fun _=>⟨false,rfl,fun h=>by cases h⟩) (fun t _=>⟨_,rfl,fun h=>?_⟩)
 ·have hil:i<l.length:=by omega
  rw[A2 (by rw[L3,X7 (by omega),Z6 (by omega)];rfl),F6,E0 hil];simp only[A4];obtain⟨b,hb,_⟩:=few1 hN l[i].Values;unfold Ql;rw[hb];simp only[A4]
  split
  ·simp_all
  refine .inr ⟨(),?_,trivial⟩;rw[D3 (by omega) (by omega)];rfl
 ·rw[A0];rw[L3];intro h
  rw[L9,D4,D4,H8,H8,B4]at h
  omega
 rw[BS,H8,B4]at h
 omega
theorem WI:∀L:List A1,(A1.pres L).countP (fun y=>decide (y.Op=0))=(L.map W5).sum
 |[]=>rfl
 |a::r=>by
  simp only[A1.pres,DT,D5,Ir];rw[WI r];rfl
theorem AH2 {p:A1}(h:p.Op≠0):W5 p=(p.cL.map W5).sum:=by
 rw[Fa,A0 h,WI,K1]
theorem Ex:∀(L:List Nat) (i j:Nat),i≤j→(L.take i).sum≤(L.take j).sum
 |[],i,j,_=>by simp
 |a::r,0,j,_=>by simp
 |a::r,i+1,0,h=>by omega
 |a::r,i+1,j+1,h=>by
  simp only[LB,Ir];have:=Ex r i j (by omega);omega
theorem Ey {L:List Nat}{i:Nat}(h:i<L.length):(L.take (i+1)).sum=(L.take i).sum+L[i]:=by
 rw[Bk h,List.sum_append];simp
theorem Pc (L:List Nat) (i:Nat):(L.take i).sum≤L.sum:=by
 rcases Nat.le_total i L.length with h|h
 ·have:=Ex L i L.length h
  rw[X0]at this;exact this
 rw[Bh h];omega
def Ai (p:A1)(c:Int)(i:Nat):Nat:=if p.Op=1∨p.Op=3 then((p.cL.map W5).take i).sum else if p.Op=2 then((p.cL.map W5).take c.toNat).sum else 0
mutual
def GF (l:List A8):A3→A1→Nat→List (Nat×Nat)
 |⟨r,c,ks⟩,p,o=>if p.Op=0 then[((Mj l r).getD 0,o)]else Aw0 l ks p c 0 o
def Aw0 (l:List A8):List A3→A1→Int→Nat→Nat→List (Nat×Nat)
 |[],_,_,_,_=>[]
 |k::ks,p,c,i,o=>GF l k (M4 p c i) (o+Ai p c i)++Aw0 l ks p c (i+1) o
end
theorem OL (l:List A8)(d:A3)(p:A1)(o:Nat):GF l d p o=if p.Op=0 then[((Mj l d.Ref).getD 0,o)]else Aw0 l d.Kids p d.Choice 0 o:=by cases d;simp only[GF]
theorem Zw {l:List A8}:∀{ks:List A3} {p:A1} {c:Int} {j o:Nat} {x:Nat×Nat},x∈Aw0 l ks p c j o↔∃i,∃h:i<ks.length,x∈GF l ks[i] (M4 p c (j+i)) (o+Ai p c (j+i))
 |[],p,c,j,o,x=>by simp[Aw0]
 | k::ks,p,c,j,o,x=>by
  rw[Aw0,CU,Zw]
  constructor
  ·rintro(h|⟨i,h,hx⟩)
   ·exact⟨0,by simp,h⟩
   exact⟨i+1,by grind,by rw[show j+(i+1)=j+1+i by omega];exact hx⟩
  grind
theorem Ff {l:List A8}{d:A3}{p:A1}{o:Nat}(h0:p.Op≠0){x:Nat×Nat}:x∈GF l d p o↔∃i,∃h:i<d.Kids.length,x∈GF l d.Kids[i] (M4 p d.Choice i) (o+Ai p d.Choice i):=by
 rw[OL,A0 h0,Zw]
 simp_all
theorem Hg {d:A3} {p:A1} (h:IU d p=0):(p.Op≠0→d.Ref=⟨0,0,0⟩)∧(p.Op≠2→d.Choice=0):=by
 rw[Jv]at h
 split at h
 ·cases h
 next hf=>
 constructor
 ·intro h0
  have h1:d.Ref.Time=0∧d.Ref.Source=0∧d.Ref.Seq=0:=by
   omega
  obtain⟨⟨a,b,c⟩,_,_⟩:=d
  simp_all
 omega
theorem AY5 {p:A1} (hw:Ga p) {d:A3} (hs:Su d p) (h0:p.Op≠0) {i:Nat} (hi:i<d.Kids.length):Ai p d.Choice i+W5 (M4 p d.Choice i)≤W5 p:=by
 have hm:=K4 hw.self hs.n hi hs.c;have ho:=hw.self.op;rw[AH2 h0];unfold Ai
 have at_:∀k:Nat,p.cL[k]? =some (M4 p d.Choice i)→((p.cL.map W5).take k).sum+W5 (M4 p d.Choice i)≤(p.cL.map W5).sum:=by
  intro k hk;obtain⟨hk1,hk2⟩:=List.getElem?_eq_some_iff.1 hk;have:=Ey (L:=p.cL.map W5) (i:=k) (by grind)
  rw[Ev,hk2]at this
  rw[←this];exact Pc _ _
 grind
theorem Fe {l:List A8}:∀(n:Nat) (p:A1) (d:A3) (o:Nat),PX d≤n→IU d p=0→Ga p→(∀x∈GF l d p o,o≤x.2∧x.2<o+W5 p)∧GF l d p o≠[]
 |0,p,d,o,h,_,_=>by rw[Z5]at h;omega
 | n+1,p,d,o,h,hsu,hw=>by
  have hdp:=Z5 d
  by_cases h0:p.Op=0
  ·rw[OL,A2 h0];refine⟨fun x hx=>?_,by simp⟩;rw[List.mem_singleton.1 hx]
   have:1≤W5 p:=by rw[Fa,A2 h0];omega
   omega
  have hS:=DE hsu
  have ih:∀(i:Nat) (hi:i<d.Kids.length),(∀x∈GF l d.Kids[i] (M4 p d.Choice i) (o+Ai p d.Choice i),o+Ai p d.Choice i≤x.2∧x.2<o+Ai p d.Choice i+W5 (M4 p d.Choice i))∧GF l d.Kids[i] (M4 p d.Choice i) (o+Ai p d.Choice i)≠[]:=by
   intro i hi;have hm:=G3 hi;have h1:=AZ hm;exact Fe n _ _ _ (by omega) (hS.k i hi) (hw.arg (K4 hw.self hS.n hi hS.c).1)
  constructor
  ·intro x hx;obtain⟨i,hi,hx⟩:=(Ff h0).1 hx;have h1:=(ih i hi).1 x hx;have h2:=AY5 hw hS h0 hi;omega
  have hpos:=hS.pos hw.self h0;obtain⟨x,hx⟩:=Bi _ (ih 0 hpos).2;intro e;have:=(Ff (o:=o) (l:=l) h0).2 ⟨0,hpos,hx⟩
  rw[e]at this;cases this
theorem JT {l:List A8} {p:A1} {d d':A3} {o:Nat} (hsu:IU d p=0) (hsu':IU d' p=0) (hw:Ga p) (h0:p.Op≠0) (h4:p.Op≠4) (hc:∀x∈GF l d p o,x∈GF l d' p o):
 d.Ref=d'.Ref∧d.Choice=d'.Choice∧d.Kids.length=d'.Kids.length∧∀i (hi:i<d.Kids.length) (hi':i<d'.Kids.length),∀x∈GF l d.Kids[i] (M4 p d.Choice i) (o+Ai p d.Choice i),x∈GF l d'.Kids[i] (M4 p d.Choice i) (o+Ai p d.Choice i):=by
 have hS:=DE hsu;have hS':=DE hsu';obtain⟨r1,c1⟩:=Hg hsu;obtain⟨r2,c2⟩:=Hg hsu';have hpos:=hS.pos hw.self h0
 have rg:∀(i:Nat) (hi:i<d.Kids.length),(∀x∈GF l d.Kids[i] (M4 p d.Choice i) (o+Ai p d.Choice i),o+Ai p d.Choice i≤x.2∧x.2<o+Ai p d.Choice i+W5 (M4 p d.Choice i))∧GF l d.Kids[i] (M4 p d.Choice i) (o+Ai p d.Choice i)≠[]:=fun i hi=>
  Fe (PX d.Kids[i]) _ _ _ (B3 _) (hS.k i hi) (hw.arg (K4 hw.self hS.n hi hS.c).1)
 have rg':∀(i:Nat) (hi:i<d'.Kids.length),(∀x∈GF l d'.Kids[i] (M4 p d'.Choice i) (o+Ai p d'.Choice i),o+Ai p d'.Choice i≤x.2∧x.2<o+Ai p d'.Choice i+W5 (M4 p d'.Choice i))∧GF l d'.Kids[i] (M4 p d'.Choice i) (o+Ai p d'.Choice i)≠[]:=fun i hi=>
  Fe (PX d'.Kids[i]) _ _ _ (B3 _) (hS'.k i hi) (hw.arg (K4 hw.self hS'.n hi hS'.c).1)
 have apart:∀(a b x:Nat) (ha:a<p.cL.length) (hb:b<p.cL.length),((p.cL.map W5).take a).sum≤x→x<((p.cL.map W5).take a).sum+W5 p.cL[a]→((p.cL.map W5).take b).sum≤x→x<((p.cL.map W5).take b).sum+W5 p.cL[b]→a=b:=by
  intro a b x ha hb g1 g2 g3 g4;have e1:=Ey (L:=p.cL.map W5) (i:=a) (by grind);have e2:=Ey (L:=p.cL.map W5) (i:=b) (by grind)
  rw[Ev]at e1 e2
  rcases Ew a b with h|h|h
  ·have:=Ex (p.cL.map W5) (a+1) b h;omega
  ·exact h
  have:=Ex (p.cL.map W5) (b+1) a h;omega
 have hch:d.Choice=d'.Choice:=by
  by_cases h2:p.Op=2
  ·obtain⟨x,hx⟩:=Bi _ (rg 0 hpos).2;obtain⟨j,hj,hx'⟩:=(Ff h0).1 (hc x ((Ff h0).2 ⟨0,hpos,hx⟩));have g1:=(rg 0 hpos).1 x hx;have g2:=(rg' j hj).1 x hx';have cc:=hS.c h2;have cc':=hS'.c h2;have m1:=(K4 hw.self hS.n hpos hS.c).2.2.1 h2;have m2:=(K4 hw.self hS'.n hj hS'.c).2.2.1 h2;obtain⟨a1,a2⟩:=List.getElem?_eq_some_iff.1 m1;obtain⟨b1,b2⟩:=List.getElem?_eq_some_iff.1 m2
   have o1:Ai p d.Choice 0=((p.cL.map W5).take d.Choice.toNat).sum:=by grind[Ai]
   have o2:Ai p d'.Choice j=((p.cL.map W5).take d'.Choice.toNat).sum:=by grind[Ai]
   rw[o1,←a2]at g1
   rw[o2,←b2]at g2
   have:=apart d.Choice.toNat d'.Choice.toNat (x.2-o) a1 b1 (by omega) (by omega) (by omega) (by omega);omega
  omega
 have hlen:d.Kids.length=d'.Kids.length:=by
  have n1:=hS.n;have n2:=hS'.n
  unfold KL at n1 n2
  rw[A0 h0]at n1 n2
  grind
 refine⟨by rw[r1 h0,r2 h0],hch,hlen,fun i hi hi' x hx=>?_⟩;obtain⟨j,hj,hx'⟩:=(Ff h0).1 (hc x ((Ff h0).2 ⟨i,hi,hx⟩));have g1:=(rg i hi).1 x hx;have g2:=(rg' j hj).1 x hx'
 have hij:i=j:=by
  by_cases h1:p.Op=1∨p.Op=3
  ·have m1:=(K4 hw.self hS.n hi hS.c).2.1 h1;have m2:=(K4 hw.self hS'.n hj hS'.c).2.1 h1;obtain⟨a1,a2⟩:=List.getElem?_eq_some_iff.1 m1;obtain⟨b1,b2⟩:=List.getElem?_eq_some_iff.1 m2
   have o1:Ai p d.Choice i=((p.cL.map W5).take i).sum:=by grind[Ai]
   have o2:Ai p d'.Choice j=((p.cL.map W5).take j).sum:=by grind[Ai]
   rw[o1,←a2]at g1
   rw[o2,←b2]at g2
   exact apart i j (x.2-o) a1 b1 (by omega) (by omega) (by omega) (by omega)
  have:=hS.one h0 h1 h4;omega
 grind
theorem WM {l:List A8}:∀(n:Nat) (p:A1) (d d':A3) (o:Nat),PX d≤n→IU d p=0→IU d' p=0→Ga p→Bo p→Fnd l d p→Fnd l d' p→(∀x∈GF l d p o,x∈GF l d' p o)→d=d'
 |0,p,d,d',o,h,_,_,_,_,_,_,_=>by rw[Z5]at h;omega
 | n+1,p,d,d',o,h,hsu,hsu',hw,hnp,hf,hf',hc=>by
  have hdp:=Z5 d;have hS:=DE hsu;have hS':=DE hsu';obtain⟨r1,c1⟩:=Hg hsu;obtain⟨r2,c2⟩:=Hg hsu'
  have ext:d.Ref=d'.Ref→d.Choice=d'.Choice→d.Kids=d'.Kids→d=d':=by
   intro a b c;cases d;cases d'
   simp_all
  by_cases h0:p.Op=0
  ·have k1:d.Kids=[]:=by
    have:=hS.n;unfold KL at this;rw[A2 h0]at this
    simp_all
   have k2:d'.Kids=[]:=by
    have:=hS'.n;unfold KL at this;rw[A2 h0]at this
    simp_all
   refine ext ?_ (by rw[c1 (by omega),c2 (by omega)]) (by rw[k1,k2]);have e1:=hf ⟨p.Var,d.Ref⟩ (by rw[Ub,A2 h0];simp);have e2:=hf' ⟨p.Var,d'.Ref⟩ (by rw[Ub,A2 h0];simp);obtain⟨i,hi⟩:=Option.isSome_iff_exists.1 e1;obtain⟨j,hj⟩:=Option.isSome_iff_exists.1 e2
   simp only at hi hj
   rw[OL,A2 h0,OL,A2 h0,hi,hj]at hc
   have:=hc (i,o) (by simp)
   rw[CH,Gj]at this
   obtain⟨hij,_⟩:=this
   simp only[AF]at hij
   subst hij;obtain⟨_,q1⟩:=Ht hi;obtain⟨_,q2⟩:=Ht hj;have q:=q1.symm.trans q2
   unfold X8 at q
   simp only[U7,O9]at q
   obtain⟨a,b,c⟩:=q;cases hd:d.Ref;simp_all
  have h4:p.Op≠4:=hnp p (Gz p);obtain⟨e1,e2,e3,e4⟩:=JT hsu hsu' hw h0 h4 hc;refine ext e1 e2 (Gl e3 fun i hi hi'=>?_);have hma:=(K4 hw.self hS.n hi hS.c).1;have hm:=G3 hi;have h1:=AZ hm;exact WM n (M4 p d.Choice i) _ _ (o+Ai p d.Choice i) (by omega) (hS.k i hi) (by rw[e2];exact hS'.k i hi') (hw.arg hma) (hnp.arg hma) (hf.kid h0 hi) (by rw[e2];exact hf'.kid h0 hi') (e4 i hi hi')
theorem VP {l:List A8}(hl:l.length≤4096)(hchk:Cy l=0){p:A1}{d:A3}{b:List PR}{f:Int}{s:List PR}(hs:GK d≤4096)(hw:Ga p)(hpp:p.pre.length≤64)(hsu:IU d p=0)(ho:KW l b f)(h:OX l d p b f=some s):GR l f s:=by
 obtain⟨r,_,h2,h3⟩:=Xm (N:=40000000) (B3 _) hl hchk 0 (PX d) p d (b.map O2) f (B3 _) hs hw hpp hsu (by rw[I3];exact ho)
 rw[I3,h]at h2
 unfold okd at h2
 simp_all
def Tr (l:List A8)(d:A3)(p:A1)(s:List PR):Prop:=GK d≤4096∧IU d p=0∧∃b f,KW l b f∧OX l d p b f=some s
theorem UH {l:List A8} (hl:l.length≤4096) (hchk:Cy l=0) {p:A1} {c:Int} {b:List PR} {f:Int} (ho:KW l b f):
 ∀(ks:List A3) (j:Nat) (s0 s:List PR),(∀k∈ks,GK k≤4096)→(∀i (h:i<ks.length),IU ks[i] (M4 p c (j+i))=0∧Ga (M4 p c (j+i))∧(M4 p c (j+i)).pre.length≤64)→(s0=[]∨GR l f s0)→Dz l ks p c j b f s0=some s→
 ∃X:Nat→List PR,(∀i (h:i<ks.length),Tr l ks[i] (M4 p c (j+i)) (X i))∧(∀i,i<ks.length→∀y∈X i,y∈s)∧(∀y∈s0,y∈s)∧(BV p→∀i,i<ks.length→∀y∈s0,∀z∈X i,y.At<z.At)∧(BV p→∀i i',i<i'→i'<ks.length→∀y∈X i,∀z∈X i',y.At<z.At)∧(∀i,i<ks.length→∀y∈s0,∀z∈X i,y.At≠z.At)∧(∀i i',i<i'→i'<ks.length→∀y∈X i,∀z∈X i',y.At≠z.At)
 |[],j,s0,s,_,_,_,h=>by
  rw[Dz]at h
  simp_all
 | k::ks,j,s0,s,hz,hk,h0,h=>by
  rw[W2]at h
  obtain⟨t,h1,h2⟩:=Option.bind_eq_some_iff.1 h
  unfold Uu at h1
  obtain⟨x,g1,g2⟩:=Option.bind_eq_some_iff.1 h1;have hk0:=hk 0 (by simp)
  simp only[QM,AC]at hk0
  have hon:=Pn (p:=p) ho h0;have hx:=VP hl hchk (hz k (by simp)) hk0.2.1 hk0.2.2 hk0.1 hon g1
  split at g2
  ·cases g2
  next hm=>
  rw[Be]at hm
  cases g2;have hres:=Ph h0 hx hm
  obtain⟨X,q1,q2,q3,q4,q5,q6,q7⟩:=UH hl hchk ho ks (j+1) (mrg s0 x) s (fun k' hk'=>hz k' (by simp[hk'])) (fun i hi=>by
   have:=hk (i+1) (by grind)
   grind) (.inr hres) h2
  have lo:BV p→∀y∈s0,∀z∈x,y.At<z.At:=by
   intro hc y hy z hz'
   have hsn:s0≠[]:=fun e=>by rw[e]at hy;cases hy
   have hr:=h0.resolve_left hsn;have:=Ie hr.gd.asc y hy;have h9:=hx.ge z hz'
   unfold AP at h9
   rw[A2 ⟨hc,hsn⟩]at h9
   omega
  refine⟨fun i=>match i with|0=>x|i+1=>X i,?_,?_,?_,?_,?_,?_,?_⟩
  ·intro i hi
   cases i with
   |zero=>exact⟨hz k (by simp),hk0.1,_,_,hon,g1⟩
   |succ i=>
    have:=q1 i (by grind)
    rw[show j+1+i=j+(i+1) by omega]at this
    exact this
  ·intro i hi y hy
   cases i with
   |zero=>exact q3 y (M2.2 (.inr hy))
   |succ i=>grind
  ·intro y hy;exact q3 y (M2.2 (.inl hy))
  ·intro hc i hi y hy z hz'
   cases i with
   |zero=>simp_all
   |succ i=>exact q4 hc i (by grind) y (M2.2 (.inl hy)) z hz'
  ·intro hc i i' hii hi' y hy z hz'
   cases i' with
   |zero=>omega
   |succ i'=>
    cases i with
    |zero=>exact q4 hc i' (by grind) y (M2.2 (.inr hy)) z hz'
    |succ i=>grind
  ·intro i hi y hy z hz'
   cases i with
   |zero=>exact T7.1 hm y hy z hz'
   |succ i=>exact q6 i (by grind) y (M2.2 (.inl hy)) z hz'
  intro i i' hii hi' y hy z hz'
  cases i' with
  |zero=>omega
  |succ i'=>
   cases i with
   |zero=>exact q6 i' (by grind) y (M2.2 (.inr hy)) z hz'
   |succ i=>grind
theorem Tr.kids {l:List A8} (hl:l.length≤4096) (hchk:Cy l=0) {d:A3} {p:A1} {s:List PR} (hw:Ga p) (hpp:p.pre.length≤64) (h0:p.Op≠0) (h:Tr l d p s):
 ∃X:Nat→List PR,(∀i (h:i<d.Kids.length),Tr l d.Kids[i] (M4 p d.Choice i) (X i))∧(∀i,i<d.Kids.length→∀y∈X i,y∈s)∧(BV p→∀i i',i<i'→i'<d.Kids.length→∀y∈X i,∀z∈X i',y.At<z.At)∧(∀i i',i<i'→i'<d.Kids.length→∀y∈X i,∀z∈X i',y.At≠z.At):=by
 obtain⟨hz,hsu,b,f,ho,hv⟩:=h;have hS:=DE hsu;have hsz:=HF d
 rw[HC,A0 h0]at hv
 obtain⟨t,h1,h2⟩:=Option.bind_eq_some_iff.1 hv
 split at h2
 ·cases h2
 cases h2
 obtain⟨X,q1,q2,_,_,q5,_,q7⟩:=UH hl hchk ho d.Kids 0 [] s (fun k hk=>by have:=Gw hk;omega) (fun i hi=>by
  have hma:=(K4 hw.self hS.n hi hS.c).1;have:=L4 hma;rw[K1]
  exact⟨hS.k i hi,hw.arg hma,by omega⟩) (.inl rfl) h1
 exact⟨X,fun i hi=>by have:=q1 i hi;rwa[K1]at this,q2,q5,q7⟩
theorem Fm {l:List A8} (hl:l.length≤4096) (hchk:Cy l=0):∀(n:Nat) (p:A1) (d:A3) (o:Nat) (s:List PR),PX d≤n→Ga p→p.pre.length≤64→Tr l d p s→(∀x∈GF l d p o,∃y∈s,y.At=(x.1:Int))∧Fnd l d p
 |0,p,d,o,s,h,_,_,_=>by rw[Z5]at h;omega
 | n +1,p,d,o,s,h,hw,hpp,ht=>by
  have hdp:=Z5 d
  by_cases h0:p.Op=0
  ·obtain⟨hz,hsu,b,f,ho,hv⟩:=ht
   rw[HC,A2 h0]at hv
   cases hp:Mj l d.Ref with
   |none=>rw[hp]at hv;cases hv
   | some i=>
    rw[hp]at hv
    dsimp only at hv
    split at hv
    ·cases hv;refine⟨fun x hx=>?_,fun y hy=>?_⟩
     ·rw[OL,A2 h0,hp,CH]at hx
      simp_all
     rw[Ub,A2 h0,CH]at hy
     simp_all
    cases hv
  obtain⟨X,q1,q2,_⟩:=ht.kids hl hchk hw hpp h0;have hS:=DE ht.2.1
  have ih:∀(i:Nat) (hi:i<d.Kids.length),(∀x∈GF l d.Kids[i] (M4 p d.Choice i) (o+Ai p d.Choice i),∃y∈X i,y.At=(x.1:Int))∧Fnd l d.Kids[i] (M4 p d.Choice i):=by
   intro i hi;have hm:=G3 hi;have hma:=(K4 hw.self hS.n hi hS.c).1;have h1:=AZ hm;have:=L4 hma;exact Fm hl hchk n _ _ _ (X i) (by omega) (hw.arg hma) (by omega) (q1 i hi)
  constructor
  ·intro x hx;obtain⟨i,hi,hx⟩:=(Ff h0).1 hx
   grind
  have bm:∀(ks:List A3) (c:Int) (j:Nat) (y:E1),y∈NB ks p c j→∃i,∃h:i<ks.length,y∈bnA ks[i] (M4 p c (j+i)):=by
   intro ks
   induction ks with
   |nil=>simp[NB]
   |cons k ks ih2=>
    intro c j y hy
    rw[NB,CU]at hy
    rcases hy with hy|hy
    ·exact⟨0,by simp,hy⟩
    obtain⟨i,hi,h9⟩:=ih2 c (j+1) y hy;exact⟨i+1,by grind,by rw[show j+(i+1)=j+1+i by omega];exact h9⟩
  intro y hy
  rw[Ub,A0 h0]at hy
  obtain⟨i,hi,h9⟩:=bm _ _ _ y hy
  rw[K1]at h9
  exact(ih i hi).2 y h9
theorem UT {C:A3→List (Nat×Nat)}:∀(ks ks':List A3),(∀k∈ks,C k≠[])→(∀k∈ks',C k≠[])→
 (∀k∈ks,∀k'∈ks',(∀x∈C k,x∈C k')→k=k')→(∀k'∈ks',∀k∈ks,(∀x∈C k',x∈C k)→k'=k)→
 ks.Pairwise (fun k k'=>∀x∈C k,∀y∈C k',x.1<y.1)→ks'.Pairwise (fun k k'=>∀x∈C k,∀y∈C k',x.1<y.1)→
 (∀x,(∃k∈ks,x∈C k)↔∃k∈ks',x∈C k)→ks=ks'
 |[],[],_,_,_,_,_,_,_=>rfl
 |[],k'::ks',_,n2,_,_,_,_,he=>by
  obtain⟨x,hx⟩:=Bi _ (n2 k' (by simp))
  simp_all
 |k::ks,[],n1,_,_,_,_,_,he=>by
  obtain⟨x,hx⟩:=Bi _ (n1 k (by simp))
  simp_all
 | k::ks,k'::ks',n1,n2,i1,i2,p1,p2,he=>by
  rw[DY]at p1 p2
  have hkk:k=k':=by
   rcases Classical.em (∀x∈C k,x∈C k')with h|h
   ·grind
   rcases Classical.em (∀x∈C k',x∈C k)with h'|h'
   ·grind
   obtain⟨x,hx⟩:=Classical.not_forall.1 h;obtain⟨hx1,hx2⟩:=Classical.not_imp.1 hx;obtain⟨y,hy⟩:=Classical.not_forall.1 h';obtain⟨hy1,hy2⟩:=Classical.not_imp.1 hy;obtain⟨a,ha,hax⟩:=(he x).1 ⟨k,by simp,hx1⟩;obtain⟨b,hb,hby⟩:=(he y).2 ⟨k',by simp,hy1⟩
   grind
  subst hkk;refine J6 _ (UT ks ks' (fun a ha=>n1 a (by simp[ha])) (fun a ha=>n2 a (by simp[ha])) (fun a ha b hb=>i1 a (by simp[ha]) b (by simp[hb])) (fun a ha b hb=>i2 a (by simp[ha]) b (by simp[hb])) p1.2 p2.2 fun x=>?_)
  constructor
  ·rintro⟨a,ha,hx⟩;obtain⟨b,hb,hx'⟩:=(he x).1 ⟨a,by simp[ha],hx⟩
   grind
  rintro⟨a,ha,hx⟩;obtain⟨b,hb,hx'⟩:=(he x).2 ⟨a,by simp[ha],hx⟩
  grind
def L1 (p:A1):Prop:=∀y∈p.pre,y.Op=4→∀a∈y.cL,Bo a
theorem L1.arg {p q:A1}(h:L1 p)(hq:q∈p.cL):L1 q:=fun y hy=>h y (by rw[A1.pre_eq];exact List.mem_cons_of_mem _ (U4.2 ⟨q,hq,hy⟩))
theorem Bo.l1 {p:A1}(h:Bo p):L1 p:=fun y hy h4=>absurd h4 (h y hy)
theorem JN {p:A1}(hw:Ga p){d:A3}(hs:Su d p)(h4:p.Op=4):∃q,p.cL=[q]∧∀i,M4 p d.Choice i=q∧Ai p d.Choice i=0:=by
 obtain⟨q,hq⟩:=hw.self.a2 (by omega)
 simp_all[M4,Ai]
theorem PH {l:List A8} (hl:l.length≤4096) (hchk:Cy l=0):∀(n:Nat) (p:A1) (d d':A3) (o:Nat) (s s':List PR),PX d≤n→Tr l d p s→Tr l d' p s'→Ga p→p.pre.length≤64→L1 p→(∀x,x∈GF l d p o↔x∈GF l d' p o)→d=d'
 |0,p,d,d',o,s,s',h,_,_,_,_,_,_=>by rw[Z5]at h;omega
 | n+1,p,d,d',o,s,s',h,ht,ht',hw,hpp,h1,hc=>by
  have hdp:=Z5 d
  by_cases h0:p.Op=0
  ·refine WM (PX d) p d d' o (B3 _) ht.2.1 ht'.2.1 hw (fun y hy=>?_) (Fm hl hchk _ p d o s (B3 _) hw hpp ht).2 (Fm hl hchk _ p d' o s' (B3 _) hw hpp ht').2 fun x hx=>(hc x).1 hx
   rw[A1.pre_eq,hw.self.a0 h0]at hy
   have e:y=p:=by simpa[A1.pres]using hy
   rw[e];omega
  have hS:=DE ht.2.1;have hS':=DE ht'.2.1;obtain⟨r1,c1⟩:=Hg ht.2.1;obtain⟨r2,c2⟩:=Hg ht'.2.1
  have ext:d.Ref=d'.Ref→d.Choice=d'.Choice→d.Kids=d'.Kids→d=d':=by
   intro a b c;cases d;cases d'
   simp_all
  obtain⟨X,q1,q2,q3,_⟩:=ht.kids hl hchk hw hpp h0;obtain⟨X',q1',q2',q3',_⟩:=ht'.kids hl hchk hw hpp h0
  by_cases h4:p.Op=4
  ·
   refine ext (by rw[r1 h0,r2 h0]) (by rw[c1 (by omega),c2 (by omega)]) ?_;obtain⟨q,hq,ha⟩:=JN hw hS h4;obtain⟨q',hq',ha'⟩:=JN hw hS' h4
   rw[hq]at hq'
   obtain rfl:q=q':=(Lh hq').1
   have hqm:q∈p.cL:=by rw[hq];simp
   have hwq:=hw.arg hqm;have hpq:=L4 hqm;have hnq:Bo q:=h1 p (Gz p) h4 q hqm
   have kd:∀k∈d.Kids,IU k q=0∧Fnd l k q∧GF l k q o≠[]:=by
    intro k hk;obtain⟨i,hi,rfl⟩:=List.mem_iff_getElem.1 hk;have t:=q1 i hi
    rw[(ha i).1]at t
    exact⟨t.2.1,(Fm hl hchk _ q _ o (X i) (B3 _) hwq (by omega) t).2,(Fe _ q _ o (B3 _) t.2.1 hwq).2⟩
   have kd':∀k∈d'.Kids,IU k q=0∧Fnd l k q∧GF l k q o≠[]:=by
    intro k hk;obtain⟨i,hi,rfl⟩:=List.mem_iff_getElem.1 hk;have t:=q1' i hi
    rw[(ha' i).1]at t
    exact⟨t.2.1,(Fm hl hchk _ q _ o (X' i) (B3 _) hwq (by omega) t).2,(Fe _ q _ o (B3 _) t.2.1 hwq).2⟩
   refine UT (C:=fun k=>GF l k q o) d.Kids d'.Kids (fun k hk=>(kd k hk).2.2) (fun k hk=>(kd' k hk).2.2)
    (fun k hk k' hk' hx=>WM (PX k) q k k' o (B3 _) (kd k hk).1 (kd' k' hk').1 hwq hnq (kd k hk).2.1 (kd' k' hk').2.1 hx)
    (fun k' hk' k hk hx=>WM (PX k') q k' k o (B3 _) (kd' k' hk').1 (kd k hk).1 hwq hnq (kd' k' hk').2.1 (kd k hk).2.1 hx) ?_ ?_ fun x=>?_
   ·rw[Bj];intro i j hi hj hij x hx y hy;have t:=q1 i hi;have u:=q1 j hj
    rw[(ha i).1]at t;rw[(ha j).1]at u
    obtain⟨a,a1,a2⟩:=(Fm hl hchk _ q _ o (X i) (B3 _) hwq (by omega) t).1 x hx;obtain⟨b,b1,b2⟩:=(Fm hl hchk _ q _ o (X j) (B3 _) hwq (by omega) u).1 y hy;have:=q3 (.inr h4) i j hij hj a a1 b b1;omega
   ·rw[Bj];intro i j hi hj hij x hx y hy;have t:=q1' i hi;have u:=q1' j hj
    rw[(ha' i).1]at t;rw[(ha' j).1]at u
    obtain⟨a,a1,a2⟩:=(Fm hl hchk _ q _ o (X' i) (B3 _) hwq (by omega) t).1 x hx;obtain⟨b,b1,b2⟩:=(Fm hl hchk _ q _ o (X' j) (B3 _) hwq (by omega) u).1 y hy;have:=q3' (.inr h4) i j hij hj a a1 b b1;omega
   have m1:∀(e:A3),(∀i,M4 p e.Choice i=q∧Ai p e.Choice i=0)→(x∈GF l e p o↔∃k∈e.Kids,x∈GF l k q o):=by
    intro e he;rw[Ff h0]
    constructor
    ·grind
    rintro⟨k,hk,hx⟩;obtain⟨i,hi,rfl⟩:=List.mem_iff_getElem.1 hk
    grind
   grind
  obtain⟨e1,e2,e3,e4⟩:=JT ht.2.1 ht'.2.1 hw h0 h4 (fun x hx=>(hc x).1 hx);obtain⟨_,_,_,e5⟩:=JT ht'.2.1 ht.2.1 hw h0 h4 (fun x hx=>(hc x).2 hx);refine ext e1 e2 (Gl e3 fun i hi hi'=>?_);have hma:=(K4 hw.self hS.n hi hS.c).1;have hm:=G3 hi;have h9:=AZ hm;have hp2:=L4 hma;have t':=q1' i hi'
  rw[←e2]at t'
  have e5':=e5 i hi' hi
  rw[←e2]at e5'
  exact PH hl hchk n (M4 p d.Choice i) _ _ (o+Ai p d.Choice i) (X i) (X' i) (by omega) (q1 i hi) t' (hw.arg hma) (by omega) (h1.arg hma) fun x=>⟨e4 i hi hi' x,e5' x⟩
theorem AE5 {α:Type} (m:α→Nat):∀L:List α,L≠[]→∃y∈L,∀w∈L,m y≤m w
 |[],h=>absurd rfl h
 |[a],_=>⟨a,by simp,fun w hw=>by rw[List.mem_singleton.1 hw];omega⟩
 |a::b::r,_=>by
  obtain⟨y,hy,h⟩:=AE5 m (b::r) (by simp)
  grind
abbrev FC:=Nat×Nat×Bool
def flg (C:List (Nat×Nat)):List FC:=C.map fun x=>(x.1,x.2,decide (∀y∈C,x.1≤y.1))
theorem ES {C:List (Nat×Nat)}{z:FC}:z∈flg C↔(z.1,z.2.1)∈C∧z.2.2=decide (∀y∈C,z.1≤y.1):=by
 unfold flg;rw[Ge]
 grind
theorem Qw {C:List (Nat×Nat)}{x:Nat×Nat}(h:x∈C):(x.1,x.2,decide (∀y∈C,x.1≤y.1))∈flg C:=ES.2 ⟨h,rfl⟩
theorem SI {C:A3→List (Nat×Nat)}:∀(ks ks':List A3),(∀k∈ks,C k≠[])→(∀k∈ks',C k≠[])→
 (∀k∈ks,∀k'∈ks',(∀x,x∈C k↔x∈C k')→k=k')→
 ks.Pairwise (fun k k'=>∀x∈C k,∀y∈C k',x.1<y.1)→ks'.Pairwise (fun k k'=>∀x∈C k,∀y∈C k',x.1<y.1)→
 (∀z,(∃k∈ks,z∈flg (C k))↔∃k∈ks',z∈flg (C k))→ks=ks'
 |[],[],_,_,_,_,_,_=>rfl
 |[],k'::ks',_,n2,_,_,_,he=>by
  obtain⟨x,hx⟩:=Bi _ (n2 k' (by simp));obtain⟨k,hk,_⟩:=(he _).2 ⟨k',by simp,Qw hx⟩;cases hk
 |k::ks,[],n1,_,_,_,_,he=>by
  obtain⟨x,hx⟩:=Bi _ (n1 k (by simp));obtain⟨k,hk,_⟩:=(he _).1 ⟨k,by simp,Qw hx⟩;cases hk
 | k::ks,k'::ks',n1,n2,i1,p1,p2,he=>by
  rw[DY]at p1 p2
  have half:∀(k k':A3) (ks ks':List A3),(∀a∈ks,∀x∈C k,∀y∈C a,x.1<y.1)→(∀a∈ks',∀x∈C k',∀y∈C a,x.1<y.1)→(∀a∈ks',C a≠[])→C k'≠[]→(∀z,(∃a∈k::ks,z∈flg (C a))↔∃a∈k'::ks',z∈flg (C a))→∀x∈C k,x∈C k':=by
   intro k k' ks ks' p1 p2 n2 n3 he x hx;obtain⟨a,ha,hxa⟩:=(he _).1 ⟨k,by simp,Qw hx⟩;have hxa:=(ES.1 hxa).1
   rcases List.mem_cons.1 ha with rfl|ha
   ·exact hxa
   exfalso;obtain⟨y,hy,hmin⟩:=AE5 (fun w:Nat×Nat=>w.1) (C a) (n2 a ha);obtain⟨b,hb,hyb⟩:=(he _).2 ⟨a,by simp[ha],Qw hy⟩;obtain⟨hyb,hfl⟩:=ES.1 hyb
   simp only at hyb hfl
   rw[J1 hmin]at hfl
   have hfl:=Iz hfl.symm;have hyx:=hmin x hxa
   rcases List.mem_cons.1 hb with rfl|hb
   ·obtain⟨w,hw⟩:=Bi _ n3;have hwy:=p2 a ha w hw y hy;obtain⟨e,hee,hwe⟩:=(he _).2 ⟨k',by simp,Qw hw⟩;have hwe:=(ES.1 hwe).1
    grind
   grind
  have hkk:k=k':=i1 k (by simp) k' (by simp) fun x=>⟨half k k' ks ks' p1.1 p2.1 (fun a ha=>n2 a (by simp[ha])) (n2 k' (by simp)) he x,half k' k ks' ks p2.1 p1.1 (fun a ha=>n1 a (by simp[ha])) (n1 k (by simp)) (fun z=>(he z).symm) x⟩;subst hkk;refine J6 _ (SI ks ks' (fun a ha=>n1 a (by simp[ha])) (fun a ha=>n2 a (by simp[ha])) (fun a ha b hb=>i1 a (by simp[ha]) b (by simp[hb])) p1.2 p2.2 fun z=>?_)
  constructor
  ·rintro⟨a,ha,hx⟩;obtain⟨b,hb,hx'⟩:=(he z).1 ⟨a,by simp[ha],hx⟩
   rcases List.mem_cons.1 hb with rfl|hb
   ·have:=p1.1 a ha _ (ES.1 hx').1 _ (ES.1 hx).1;omega
   grind
  rintro⟨a,ha,hx⟩;obtain⟨b,hb,hx'⟩:=(he z).2 ⟨a,by simp[ha],hx⟩
  rcases List.mem_cons.1 hb with rfl|hb
  ·have:=p2.1 a ha _ (ES.1 hx').1 _ (ES.1 hx).1;omega
  grind
mutual
def cd2 (l:List A8):A3→A1→Nat→List FC
 |⟨r,c,ks⟩,p,o=>if L1 p then(GF l ⟨r,c,ks⟩ p o).map (fun x=>(x.1,x.2,false))else if p.Op=4 then ks.flatMap (fun k=>flg (GF l k (M4 p c 0) o))else Aw1 l ks p c 0 o
def Aw1 (l:List A8):List A3→A1→Int→Nat→Nat→List FC
 |[],_,_,_,_=>[]
 |k::ks,p,c,i,o=>cd2 l k (M4 p c i) (o+Ai p c i)++Aw1 l ks p c (i+1) o
end
theorem WN (l:List A8)(d:A3)(p:A1)(o:Nat):cd2 l d p o=if L1 p then(GF l d p o).map (fun x=>(x.1,x.2,false))else if p.Op=4 then d.Kids.flatMap (fun k=>flg (GF l k (M4 p d.Choice 0) o))else Aw1 l d.Kids p d.Choice 0 o:=by cases d;simp only[cd2]
theorem Kb {l:List A8}:∀{ks:List A3} {p:A1} {c:Int} {j o:Nat} {x:FC},x∈Aw1 l ks p c j o↔∃i,∃h:i<ks.length,x∈cd2 l ks[i] (M4 p c (j+i)) (o+Ai p c (j+i))
 |[],p,c,j,o,x=>by simp[Aw1]
 | k::ks,p,c,j,o,x=>by
  rw[Aw1,CU,Kb]
  constructor
  ·rintro(h|⟨i,h,hx⟩)
   ·exact⟨0,by simp,h⟩
   exact⟨i+1,by grind,by rw[show j+(i+1)=j+1+i by omega];exact hx⟩
  grind
theorem DM {l:List A8}:∀(n:Nat) (p:A1) (d:A3) (o:Nat),PX d≤n→IU d p=0→Ga p→∀y:Nat×Nat,(∃b,(y.1,y.2,b)∈cd2 l d p o)↔y∈GF l d p o
 |0,p,d,o,h,_,_=>by rw[Z5]at h;omega
 | n+1,p,d,o,h,hsu,hw=>by
  intro y;have hdp:=Z5 d;have hS:=DE hsu;rw[WN]
  by_cases h1:L1 p
  ·rw[A2 h1]
   simp_all
  rw[A0 h1]
  have h0:p.Op≠0:=by
   intro h0;refine h1 fun z hz=>?_
   rw[A1.pre_eq,hw.self.a0 h0]at hz
   have e:z=p:=by simpa[A1.pres]using hz
   rw[e,h0];omega
  by_cases h4:p.Op=4
  ·rw[A2 h4];obtain⟨q,hq,ha⟩:=JN hw hS h4;rw[Ff h0]
   constructor
   ·rintro⟨b,hb⟩;obtain⟨k,hk,hx⟩:=List.mem_flatMap.1 hb;obtain⟨i,hi,rfl⟩:=List.mem_iff_getElem.1 hk;have:=(ES.1 hx).1
    rw[(ha 0).1]at this
    grind
   rintro⟨i,hi,hx⟩
   rw[(ha i).1,(ha i).2]at hx
   exact⟨_,List.mem_flatMap.2 ⟨_,G3 hi,by rw[(ha 0).1];exact Qw hx⟩⟩
  rw[A0 h4,Ff h0]
  have ih:∀(i:Nat) (hi:i<d.Kids.length),(∃b,(y.1,y.2,b)∈cd2 l d.Kids[i] (M4 p d.Choice i) (o+Ai p d.Choice i))↔y∈GF l d.Kids[i] (M4 p d.Choice i) (o+Ai p d.Choice i):=by
   intro i hi;have h9:=AZ (G3 hi);exact DM n _ _ _ (by omega) (hS.k i hi) (hw.arg (K4 hw.self hS.n hi hS.c).1) y
  constructor
  ·rintro⟨b,hb⟩;obtain⟨i,hi,hx⟩:=Kb.1 hb
   grind
  rintro⟨i,hi,hx⟩;obtain⟨b,hb⟩:=(ih i hi).2 hx;exact⟨b,Kb.2 ⟨i,hi,by simp_all⟩⟩
theorem Ag6 {l:List A8} (hl:l.length≤4096) (hchk:Cy l=0):∀(n:Nat) (p:A1) (d:A3) (o:Nat) (s:List PR),PX d≤n→Tr l d p s→Ga p→p.pre.length≤64→∀x∈GF l d p o,∀y∈GF l d p o,x.1=y.1→x=y
 |0,p,d,o,s,h,_,_,_=>by rw[Z5]at h;omega
 | n+1,p,d,o,s,h,ht,hw,hpp=>by
  intro x hx y hy e;have hdp:=Z5 d
  by_cases h0:p.Op=0
  ·rw[OL,A2 h0,CH]at hx hy
   rw[hx,hy]
  have hS:=DE ht.2.1;obtain⟨X,q1,q2,_,q4⟩:=ht.kids hl hchk hw hpp h0;obtain⟨i,hi,hxi⟩:=(Ff h0).1 hx;obtain⟨j,hj,hyj⟩:=(Ff h0).1 hy;have wi:=hw.arg (K4 hw.self hS.n hi hS.c).1;have wj:=hw.arg (K4 hw.self hS.n hj hS.c).1;have pi:=L4 (K4 hw.self hS.n hi hS.c).1;have pj:=L4 (K4 hw.self hS.n hj hS.c).1;obtain⟨a,a1,a2⟩:=(Fm hl hchk _ _ _ _ (X i) (B3 _) wi (by omega) (q1 i hi)).1 x hxi;obtain⟨b,b1,b2⟩:=(Fm hl hchk _ _ _ _ (X j) (B3 _) wj (by omega) (q1 j hj)).1 y hyj
  have hij:i=j:=by
   grind
  subst hij;have h9:=AZ (G3 hi);exact Ag6 hl hchk n _ _ _ (X i) (by omega) (q1 i hi) wi (by omega) x hxi y hyj e
theorem Tt {l:List A8} {p:A1} {d:A3} {o:Nat} (hsu:IU d p=0) (hw:Ga p) (h0:p.Op≠0) (h4:p.Op≠4) {i j:Nat} (hi:i<d.Kids.length) (hj:j<d.Kids.length) {x y:Nat×Nat} (hx:x∈GF l d.Kids[i] (M4 p d.Choice i) (o+Ai p d.Choice i)) (hy:y∈GF l d.Kids[j] (M4 p d.Choice j) (o+Ai p d.Choice j)) (e:x.2=y.2):i=j:=by
 have hS:=DE hsu;have g1:=(Fe (l:=l) (PX d.Kids[i]) _ _ (o+Ai p d.Choice i) (B3 _) (hS.k i hi) (hw.arg (K4 hw.self hS.n hi hS.c).1)).1 x hx;have g2:=(Fe (l:=l) (PX d.Kids[j]) _ _ (o+Ai p d.Choice j) (B3 _) (hS.k j hj) (hw.arg (K4 hw.self hS.n hj hS.c).1)).1 y hy
 by_cases h1:p.Op=1∨p.Op=3
 ·have m1:=(K4 hw.self hS.n hi hS.c).2.1 h1;have m2:=(K4 hw.self hS.n hj hS.c).2.1 h1;obtain⟨a1,a2⟩:=List.getElem?_eq_some_iff.1 m1;obtain⟨b1,b2⟩:=List.getElem?_eq_some_iff.1 m2
  have o1:Ai p d.Choice i=((p.cL.map W5).take i).sum:=by simp_all[Ai]
  have o2:Ai p d.Choice j=((p.cL.map W5).take j).sum:=by simp_all[Ai]
  rw[o1,←a2]at g1
  rw[o2,←b2]at g2
  have e1:=Ey (L:=p.cL.map W5) (i:=i) (by grind);have e2:=Ey (L:=p.cL.map W5) (i:=j) (by grind)
  rw[Ev]at e1 e2
  rcases Ew i j with h|h|h
  ·have:=Ex (p.cL.map W5) (i+1) j h;omega
  ·exact h
  have:=Ex (p.cL.map W5) (j+1) i h;omega
 have:=hS.one h0 h1 h4;omega
def L2 (p:A1):Prop:=∀y∈p.pre,y.Op=4→∀a∈y.cL,L1 a
theorem L2.arg {p q:A1}(h:L2 p)(hq:q∈p.cL):L2 q:=fun y hy=>h y (by rw[A1.pre_eq];exact List.mem_cons_of_mem _ (U4.2 ⟨q,hq,hy⟩))
theorem Ao1 {l:List A8} (hl:l.length≤4096) (hchk:Cy l=0):∀(n:Nat) (p:A1) (d d':A3) (o:Nat) (s s':List PR),PX d≤n→Tr l d p s→Tr l d' p s'→Ga p→p.pre.length≤64→L2 p→(∀x,x∈cd2 l d p o↔x∈cd2 l d' p o)→d=d'
 |0,p,d,d',o,s,s',h,_,_,_,_,_,_=>by rw[Z5]at h;omega
 | n +1,p,d,d',o,s,s',h,ht,ht',hw,hpp,h2,hc=>by
  have hdp:=Z5 d
  have hcA:∀x,x∈GF l d p o↔x∈GF l d' p o:=fun x=>by
   rw[←DM _ p d o (B3 _) ht.2.1 hw x,←DM _ p d' o (B3 _) ht'.2.1 hw x]
   simp_all
  by_cases h1:L1 p
  ·exact PH hl hchk _ p d d' o s s' (B3 _) ht ht' hw hpp h1 hcA
  have h0:p.Op≠0:=by
   intro h0;refine h1 fun z hz=>?_
   rw[A1.pre_eq,hw.self.a0 h0]at hz
   have e:z=p:=by simpa[A1.pres]using hz
   rw[e,h0];omega
  have hS:=DE ht.2.1;have hS':=DE ht'.2.1;obtain⟨r1,c1⟩:=Hg ht.2.1;obtain⟨r2,c2⟩:=Hg ht'.2.1
  have ext:d.Ref=d'.Ref→d.Choice=d'.Choice→d.Kids=d'.Kids→d=d':=by
   intro a b c;cases d;cases d'
   simp_all
  obtain⟨X,q1,q2,q3,_⟩:=ht.kids hl hchk hw hpp h0;obtain⟨X',q1',q2',q3',_⟩:=ht'.kids hl hchk hw hpp h0
  by_cases h4:p.Op=4
  ·refine ext (by rw[r1 h0,r2 h0]) (by rw[c1 (by omega),c2 (by omega)]) ?_;obtain⟨q,hq,ha⟩:=JN hw hS h4;obtain⟨q',hq',ha'⟩:=JN hw hS' h4
   rw[hq]at hq'
   obtain rfl:q=q':=(Lh hq').1
   have hqm:q∈p.cL:=by rw[hq];simp
   have hwq:=hw.arg hqm;have hpq:=L4 hqm;have hlq:L1 q:=h2 p (Gz p) h4 q hqm
   have tk:∀k∈d.Kids,∃x,Tr l k q x:=by
    intro k hk;obtain⟨i,hi,rfl⟩:=List.mem_iff_getElem.1 hk;have t:=q1 i hi
    rw[(ha i).1]at t
    grind
   have tk':∀k∈d'.Kids,∃x,Tr l k q x:=by
    intro k hk;obtain⟨i,hi,rfl⟩:=List.mem_iff_getElem.1 hk;have t:=q1' i hi
    rw[(ha' i).1]at t
    grind
   have ne:∀k,(∃x,Tr l k q x)→GF l k q o≠[]:=fun k ⟨x,t⟩=>(Fe _ q k o (B3 _) t.2.1 hwq).2
   refine SI (C:=fun k=>GF l k q o) d.Kids d'.Kids (fun k hk=>ne k (tk k hk)) (fun k hk=>ne k (tk' k hk))
    (fun k hk k' hk' hx=>by
     obtain⟨x,t⟩:=tk k hk;obtain⟨x',t'⟩:=tk' k' hk'
     exact PH hl hchk _ q k k' o x x' (B3 _) t t' hwq (by omega) hlq hx) ?_ ?_ fun z=>?_
   ·rw[Bj];intro i j hi hj hij x hx y hy;have t:=q1 i hi;have u:=q1 j hj
    rw[(ha i).1]at t;rw[(ha j).1]at u
    obtain⟨a,a1,a2⟩:=(Fm hl hchk _ q _ o (X i) (B3 _) hwq (by omega) t).1 x hx;obtain⟨b,b1,b2⟩:=(Fm hl hchk _ q _ o (X j) (B3 _) hwq (by omega) u).1 y hy;have:=q3 (.inr h4) i j hij hj a a1 b b1;omega
   ·rw[Bj];intro i j hi hj hij x hx y hy;have t:=q1' i hi;have u:=q1' j hj
    rw[(ha' i).1]at t;rw[(ha' j).1]at u
    obtain⟨a,a1,a2⟩:=(Fm hl hchk _ q _ o (X' i) (B3 _) hwq (by omega) t).1 x hx;obtain⟨b,b1,b2⟩:=(Fm hl hchk _ q _ o (X' j) (B3 _) hwq (by omega) u).1 y hy;have:=q3' (.inr h4) i j hij hj a a1 b b1;omega
   have m1:∀e:A3,(∀i,M4 p e.Choice i=q∧Ai p e.Choice i=0)→(z∈cd2 l e p o↔∃k∈e.Kids,z∈flg (GF l k q o)):=by
    intro e he;rw[WN,A0 h1,A2 h4,List.mem_flatMap,(he 0).1]
   grind
  obtain⟨e1,e2,e3,e4⟩:=JT ht.2.1 ht'.2.1 hw h0 h4 (fun x hx=>(hcA x).1 hx);obtain⟨_,_,_,e5⟩:=JT ht'.2.1 ht.2.1 hw h0 h4 (fun x hx=>(hcA x).2 hx)
  have m2:∀(e:A3) (z:FC),z∈cd2 l e p o↔∃i,∃h:i<e.Kids.length,z∈cd2 l e.Kids[i] (M4 p e.Choice i) (o+Ai p e.Choice i):=by
   intro e z;rw[WN,A0 h1,A0 h4,Kb]
   grind
  refine ext e1 e2 (Gl e3 fun i hi hi'=>?_);have hma:=(K4 hw.self hS.n hi hS.c).1;have h9:=AZ (G3 hi);have hp2:=L4 hma;have t':=q1' i hi'
  rw[←e2]at t'
  refine Ao1 hl hchk n (M4 p d.Choice i) _ _ (o+Ai p d.Choice i) (X i) (X' i) (by omega) (q1 i hi) t' (hw.arg hma) (by omega) (h2.arg hma) fun z=>⟨fun hz=>?_,fun hz=>?_⟩
  ·obtain⟨j,hj,hz'⟩:=(m2 d' z).1 ((hc z).1 ((m2 d z).2 ⟨i,hi,hz⟩));have c1:=(DM _ _ _ _ (B3 _) (hS.k i hi) (hw.arg hma) (z.1,z.2.1)).1 ⟨z.2.2,hz⟩;have c2:=e4 i hi hi' _ c1;have c3:=(DM _ _ _ _ (B3 _) (hS'.k j hj) (hw.arg (K4 hw.self hS'.n hj hS'.c).1) (z.1,z.2.1)).1 ⟨z.2.2,hz'⟩
   rw[e2]at c2
   have hij:=Tt ht'.2.1 hw h0 h4 hi' hj c2 c3 rfl
   grind
  rw[e2]at hz
  obtain⟨j,hj,hz'⟩:=(m2 d z).1 ((hc z).2 ((m2 d' z).2 ⟨i,hi',hz⟩));have c1:=(DM _ _ _ _ (B3 _) (hS'.k i hi') (by rw[←e2];exact hw.arg hma) (z.1,z.2.1)).1 ⟨z.2.2,hz⟩;have c2:=e5 i hi' hi _ c1;have c3:=(DM _ _ _ _ (B3 _) (hS.k j hj) (hw.arg (K4 hw.self hS.n hj hS.c).1) (z.1,z.2.1)).1 ⟨z.2.2,hz'⟩
  rw[←e2]at c2
  have hij:=Tt ht.2.1 hw h0 h4 hi hj c2 c3 rfl
  grind
def KY (B:Nat)(w:Nat→Nat):Nat→Nat
 |0=>0
 |m+1=>KY B w m*B+w m
theorem Ak2 {B:Nat} {w:Nat→Nat}:∀{m:Nat},(∀i,i<m→w i<B)→KY B w m<B ^ m
 |0,_=>by simp[KY]
 | m+1,h=>by
  have h1:=Ak2 (m:=m) fun i hi=>h i (by omega);have h2:=h m (by omega);rw[KY,Le]
  calc KY B w m*B+w m<KY B w m*B+B:=by omega
   _=(KY B w m+1)*B:=by rw[E3,S5]
   _≤B ^ m*B:=G5 B h1
theorem Yq {B:Nat} {w v:Nat→Nat}:∀{m:Nat},(∀i,i<m→w i<B)→(∀i,i<m→v i<B)→KY B w m=KY B v m→∀i,i<m→w i=v i
 |0,_,_,_,i,hi=>absurd hi (Nat.not_lt_zero i)
 | m+1,hw,hv,h,i,hi=>by
  rw[KY,KY]at h
  have h1:=hw m (by omega);have h2:=hv m (by omega)
  have hB:0<B:=by omega
  have e1:(KY B w m*B+w m) / B=KY B w m:=by
   rw[Ip,LI _ _ hB,Lt h1,K1]
  have e2:(KY B v m*B+v m) / B=KY B v m:=by
   rw[Ip,LI _ _ hB,Lt h2,K1]
  have e:KY B w m=KY B v m:=by rw[←e1,←e2,h]
  rcases BG i m with him|him
  ·exact Yq (fun i hi=>hw i (by omega)) (fun i hi=>hv i (by omega)) e i him
  grind
theorem Yr {α:Type} {L:List α} {g:α→Nat} {B:Nat} (hn:L.Nodup) (hi:∀a∈L,∀b∈L,g a=g b→a=b) (hb:∀a∈L,g a<B):L.length≤B:=by
 have h1:(L.map g).Nodup:=by
  unfold Nodup at *
  rw[S6];exact hn.imp_of_mem fun{a b} ha hb hab e=>hab (hi a ha b hb e)
 have:=LN h1 (l₂:=List.range B) fun x hx=>by
  grind
 simp_all
def VO {α:Type}(pos let_:α→Nat)(C:List α)(i:Nat):Nat:=match C.find? (fun x=>decide (pos x=i))with|some x=>let_ x+1|none=>0
theorem VN {α:Type}{pos let_:α→Nat}{C:List α}{B:Nat}(hb:∀x∈C,let_ x<B)(i:Nat):VO pos let_ C i<B+1:=by
 grind[VO]
theorem ME {α β:Type}{L:List β}{C:β→List α}{pos let_:α→Nat}{m B:Nat}(hn:L.Nodup)(hp:∀x y:α,pos x=pos y→let_ x=let_ y→x=y)(hf:∀d∈L,∀x∈C d,∀y∈C d,pos x=pos y→x=y)(hC:∀d∈L,∀x∈C d,pos x<m)(hl:∀d∈L,∀x∈C d,let_ x<B)
 (hi:∀d∈L,∀e∈L,(∀x,x∈C d↔x∈C e)→d=e):L.length≤(B+1) ^ m:=by
 refine Yr (g:=fun d=>KY (B+1) (VO pos let_ (C d)) m) hn (fun d hd e he h=>?_) fun d hd=>Ak2 fun i _=>VN (hl d hd) i;have:=Yq (fun i _=>VN (hl d hd) i) (fun i _=>VN (hl e he) i) h
 grind[VO]
theorem Ao0 {l:List A8}:∀(n:Nat) (p:A1) (d:A3) (o:Nat),PX d≤n→IU d p=0→Ga p→Bo p→∀x∈GF l d p o,∀y∈GF l d p o,x.2=y.2→x=y
 |0,p,d,o,h,_,_,_=>by rw[Z5]at h;omega
 | n+1,p,d,o,h,hsu,hw,hnp=>by
  intro x hx y hy e;have hdp:=Z5 d
  by_cases h0:p.Op=0
  ·rw[OL,A2 h0,CH]at hx hy
   rw[hx,hy]
  have hS:=DE hsu;obtain⟨i,hi,hxi⟩:=(Ff h0).1 hx;obtain⟨j,hj,hyj⟩:=(Ff h0).1 hy;have hij:=Tt hsu hw h0 (hnp p (Gz p)) hi hj hxi hyj e;subst hij;have hma:=(K4 hw.self hS.n hi hS.c).1;have h9:=AZ (G3 hi);exact Ao0 n _ _ _ (by omega) (hS.k i hi) (hw.arg hma) (hnp.arg hma) x hxi y hyj e
theorem Ao2 {l:List A8} (hl:l.length≤4096) (hchk:Cy l=0):∀(n:Nat) (p:A1) (d:A3) (o:Nat) (s:List PR),PX d≤n→Tr l d p s→Ga p→p.pre.length≤64→∀x∈cd2 l d p o,∀y∈cd2 l d p o,x.1=y.1→x=y
 |0,p,d,o,s,h,_,_,_=>by rw[Z5]at h;omega
 | n+1,p,d,o,s,h,ht,hw,hpp=>by
  intro x hx y hy e;have hdp:=Z5 d;have hS:=DE ht.2.1;have sub:=fun(z:FC) (hz:z∈cd2 l d p o)=>(DM _ p d o (B3 _) ht.2.1 hw (z.1,z.2.1)).1 ⟨z.2.2,hz⟩;have hxy:=Ag6 hl hchk _ p d o s (B3 _) ht hw hpp _ (sub x hx) _ (sub y hy) e
  simp only[Gj]at hxy
  suffices hb:x.2.2=y.2.2 from Prod.ext hxy.1 (Prod.ext hxy.2 hb)
  rw[WN]at hx hy
  by_cases h1:L1 p
  ·rw[A2 h1]at hx hy
   grind
  rw[A0 h1]at hx hy
  have h0:p.Op≠0:=by
   intro h0;refine h1 fun z hz=>?_
   rw[A1.pre_eq,hw.self.a0 h0]at hz
   have e:z=p:=by simpa[A1.pres]using hz
   rw[e,h0];omega
  obtain⟨X,q1,q2,_,q4⟩:=ht.kids hl hchk hw hpp h0
  have same:∀(i j:Nat) (hi:i<d.Kids.length) (hj:j<d.Kids.length) (u v:Nat×Nat),u∈GF l d.Kids[i] (M4 p d.Choice i) (o+Ai p d.Choice i)→v∈GF l d.Kids[j] (M4 p d.Choice j) (o+Ai p d.Choice j)→u.1=v.1→i=j:=by
   intro i j hi hj u v hu hv huv;have wi:=hw.arg (K4 hw.self hS.n hi hS.c).1;have wj:=hw.arg (K4 hw.self hS.n hj hS.c).1;have pi:=L4 (K4 hw.self hS.n hi hS.c).1;have pj:=L4 (K4 hw.self hS.n hj hS.c).1;obtain⟨a,a1,a2⟩:=(Fm hl hchk _ _ _ _ (X i) (B3 _) wi (by omega) (q1 i hi)).1 u hu;obtain⟨b,b1,b2⟩:=(Fm hl hchk _ _ _ _ (X j) (B3 _) wj (by omega) (q1 j hj)).1 v hv
   grind
  by_cases h4:p.Op=4
  ·rw[A2 h4]at hx hy
   obtain⟨q,hq,ha⟩:=JN hw hS h4;obtain⟨k,hk,hxk⟩:=List.mem_flatMap.1 hx;obtain⟨k',hk',hyk⟩:=List.mem_flatMap.1 hy;obtain⟨i,hi,rfl⟩:=List.mem_iff_getElem.1 hk;obtain⟨j,hj,rfl⟩:=List.mem_iff_getElem.1 hk'
   rw[(ha 0).1]at hxk hyk
   have m1:=ES.1 hxk;have m2:=ES.1 hyk;have hij:=same i j hi hj (x.1,x.2.1) (y.1,y.2.1) (by rw[(ha i).1,(ha i).2];exact m1.1) (by rw[(ha j).1,(ha j).2];exact m2.1) e
   simp_all
  rw[A0 h4]at hx hy
  obtain⟨i,hi,hxi⟩:=Kb.1 hx;obtain⟨j,hj,hyj⟩:=Kb.1 hy
  simp only[K1]at hxi hyj
  have hmi:=(K4 hw.self hS.n hi hS.c).1;have hmj:=(K4 hw.self hS.n hj hS.c).1;have c1:=(DM _ _ _ _ (B3 _) (hS.k i hi) (hw.arg hmi) (x.1,x.2.1)).1 ⟨x.2.2,hxi⟩;have c2:=(DM _ _ _ _ (B3 _) (hS.k j hj) (hw.arg hmj) (y.1,y.2.1)).1 ⟨y.2.2,hyj⟩;have hij:=same i j hi hj _ _ c1 c2 e;subst hij;have h9:=AZ (G3 hi);have:=L4 hmi;rw[Ao2 hl hchk n _ _ _ (X i) (by omega) (q1 i hi) (hw.arg hmi) (by omega) x hxi y hyj e]
def GQ (m:Nat)(p:A1):Prop:=Sml m p∧(L1 p∨(L2 p∧(2*W5 p+1) ^ m≤4000))
theorem GQ.arg {m:Nat}{p q:A1}(h:GQ m p)(hq:q∈p.cL):GQ m q:=by
 refine⟨h.1.arg hq,?_⟩
 rcases h.2 with h|⟨h1,h2⟩
 ·exact .inl (h.arg hq)
 refine .inr ⟨h1.arg hq,N5 (IH ?_ m) h2⟩;have:=KD hq;omega
theorem AN8:∀m,m<11→∀e,e<11→2≤m→m ^ e≤1500→(m+1) ^ e≤4096∨(e+1) ^ m≤4096:=by decide
theorem Zo {l:List A8} (hl:l.length≤10) (hchk:Cy l=0) {p:A1} (hw:Ga p) (hpp:p.pre.length≤64) (hs:GQ l.length p) {L:List A3} (hn:L.Nodup) (h:∀d∈L,∃s,Tr l d p s):L.length≤4096:=by
 have hl':l.length≤4096:=by omega
 have pos:∀d∈L,∀x∈GF l d p 0,x.1<l.length∧x.2<W5 p:=by
  intro d hd x hx;obtain⟨s,t⟩:=h d hd;obtain⟨y,hy,e⟩:=(Fm hl' hchk _ p d 0 s (B3 _) hw hpp t).1 x hx;obtain⟨hz,hsu,b,f,ho,hv⟩:=t;have hr:=VP hl' hchk hz hw hpp hsu ho hv;have h1:=(hr.gd.wf y hy).2;have h2:=(Fe _ p d 0 (B3 _) hsu hw).1 x hx;omega
 have fn:∀d∈L,∀x∈GF l d p 0,∀y∈GF l d p 0,x.1=y.1→x=y:=by
  intro d hd;obtain⟨s,t⟩:=h d hd;exact Ag6 hl' hchk _ p d 0 s (B3 _) t hw hpp
 have one:L1 p→L.length≤(W5 p+1) ^ l.length:=by
  intro h1;refine ME (C:=fun d=>GF l d p 0) (pos:=fun x=>x.1) (let_:=fun x=>x.2) hn (fun x y a b=>Prod.ext a b) fn (fun d hd x hx=>(pos d hd x hx).1) (fun d hd x hx=>(pos d hd x hx).2) fun d hd e he hc=>?_;obtain⟨s,t⟩:=h d hd;obtain⟨s',t'⟩:=h e he;exact PH hl' hchk _ p d e 0 s s' (B3 _) t t' hw hpp h1 hc
 rcases hs.2 with h1|⟨h2,h3⟩
 ·rcases hs.1 with hA|⟨hnp,hm,hA⟩
  ·have:=one h1;omega
  have he:W5 p<11:=by
   rcases BG (W5 p) 11 with h|h
   ·exact h
   have a1:2 ^ 11≤2 ^ W5 p:=DU (by omega) h;have a2:2 ^ W5 p≤l.length ^ W5 p:=IH hm _
   have a3:(2:Nat) ^ 11=2048:=by decide
   omega
  rcases AN8 l.length (by omega) (W5 p) he hm hA with h4|h4
  ·refine N5 ?_ h4;refine ME (C:=fun d=>GF l d p 0) (pos:=fun x=>x.2) (let_:=fun x=>x.1) hn (fun x y a b=>Prod.ext b a) (fun d hd=>?_) (fun d hd x hx=>(pos d hd x hx).2) (fun d hd x hx=>(pos d hd x hx).1) fun d hd e he hc=>?_
   ·obtain⟨s,t⟩:=h d hd;exact Ao0 _ p d 0 (B3 _) t.2.1 hw hnp
   obtain⟨s,t⟩:=h d hd;obtain⟨s',t'⟩:=h e he;exact PH hl' hchk _ p d e 0 s s' (B3 _) t t' hw hpp h1 hc
  grind
 refine N5 ?_ (N5 h3 (by omega));refine ME (C:=fun d=>cd2 l d p 0) (pos:=fun x=>x.1) (let_:=fun x=>2*x.2.1+(if x.2.2=true then 1 else 0)) hn (fun x y a b=>?_) (fun d hd=>?_) (fun d hd x hx=>?_) (fun d hd x hx=>?_) fun d hd e he hc=>?_
 ·grind
 ·obtain⟨s,t⟩:=h d hd;exact Ao2 hl' hchk _ p d 0 s (B3 _) t hw hpp
 ·obtain⟨s,t⟩:=h d hd;exact(pos d hd (x.1,x.2.1) ((DM _ p d 0 (B3 _) t.2.1 hw _).1 ⟨x.2.2,hx⟩)).1
 ·obtain⟨s,t⟩:=h d hd;have:=(pos d hd (x.1,x.2.1) ((DM _ p d 0 (B3 _) t.2.1 hw _).1 ⟨x.2.2,hx⟩)).2
  grind
 obtain⟨s,t⟩:=h d hd;obtain⟨s',t'⟩:=h e he;exact Ao1 hl' hchk _ p d e 0 s s' (B3 _) t t' hw hpp h2 hc
mutual
def A1.lp:A1→Nat
 |⟨op,args,_,_,_,_,_⟩=>A1.lps args+(if op=4 then 1 else 0)
def A1.lps:List A1→Nat
 |[]=>0
 |a::r=>max (A1.lp a) (A1.lps r)
end
theorem Vc (p:A1):p.lp=A1.lps p.cL+(if p.Op=4 then 1 else 0):=by cases p;simp[A1.lp]
theorem Sf:∀{L:List A1} {a:A1},a∈L→a.lp≤A1.lps L
 |b::L,a,h=>by
  simp only[A1.lps]
  rcases List.mem_cons.1 h with rfl|h
  ·omega
  have:=Sf h;omega
theorem Al4:∀(L:List A1) (a:A1),A1.lps (L++[a])=max (A1.lps L) a.lp
 |[],a=>by simp[A1.lps]
 |b::L,a=>by
  simp only[X2,A1.lps,Al4 L a];omega
theorem Wr:∀(n:Nat) (p y:A1),p.pre.length≤n→y∈p.pre→y.lp≤p.lp
 |0,p,y,h,_=>by have:=V2 p;omega
 |n+1,p,y,h,hy=>by
  rw[A1.pre_eq]at hy
  rcases List.mem_cons.1 hy with rfl|hy
  ·omega
  obtain⟨a,ha,hya⟩:=U4.1 hy;have h1:=L4 ha;have h2:=Wr n a y (by omega) hya;have h3:=Sf ha;have h4:=Vc p;omega
theorem Bd6 {p:A1}(h:p.lp=0):Bo p:=by
 intro y hy h4;have h1:=Wr _ p y (B3 _) hy;have h2:=Vc y
 rw[A2 h4]at h2
 omega
theorem AW2 {p:A1}(h:p.lp≤1):L1 p:=by
 intro y hy h4 a ha;have h1:=Wr _ p y (B3 _) hy;have h2:=Vc y
 rw[A2 h4]at h2
 have h3:=Sf ha;exact Bd6 (by omega)
theorem Be6 {p:A1}(h:p.lp≤2):L2 p:=by
 intro y hy h4 a ha;have h1:=Wr _ p y (B3 _) hy;have h2:=Vc y
 rw[A2 h4]at h2
 have h3:=Sf ha;exact AW2 (by omega)
theorem YC {N:Nat} (hN:40000000≤N):∀(n:Nat) (p:A1),p.pre.length≤n→p.pre.length≤16777216→CX N n p=some (p.lp:Int)
 |0,p,h,_=>by have:=V2 p;omega
 | n + 1,p,h,hm=>by
  have hal:=V2 p
  have hle:p.lp≤p.pre.length:=by
   have :∀(n:Nat) (p:A1),p.pre.length≤n→p.lp≤p.pre.length:=by
    intro n
    induction n with
    |zero=>intro p h;have:=V2 p;omega
    | succ n ih=>
     intro p h
     have hs:A1.lps p.cL+1≤p.pre.length:=by
      have key:∀L:List A1,(∀a∈L,a∈p.cL)→A1.lps L+1≤p.pre.length:=by
       intro L
       induction L with
       |nil=>intro _;simp only[A1.lps];have:=V2 p;omega
       |cons a L ih2=>
        intro hL;have h1:=L4 (hL a (by simp));have h2:=ih a (by omega);have h3:=ih2 fun b hb=>hL b (by simp[hb])
        grind[A1.lps]
      simp_all
     rw[Vc];split<;>omega
   grind
  have hlp:=Vc p;unfold CX;refine Fx (m:=p.cL.length) (fun i (t:Nat)=>((t:Int),(i:Int))) (fun i t=>t=A1.lps (p.cL.take i)) (fun t=>(t:Int)) (t0:=0) rfl (by omega) (by simp[A1.lps]) (fun i hi t ht=>?_) (fun t _=>by dsimp only;rw[A0 FD]) fun t ht=>?_
  ·have hma:=G3 hi;have h1:=L4 hma;refine⟨max t (p.cL[i]).lp,?_,by rw[ht,Bk hi,Al4]⟩
   dsimp only
   rw[A2 (X7 (by omega)),F6,E0 hi];simp only[A4];rw[YC hN n _ (by omega) (by omega)];simp only[A4];rw[D3 (by omega) (by omega),show Ar.mx (t:Int) ((p.cL[i]).lp:Int)=((max t (p.cL[i]).lp:Nat):Int) by rw[Kw];split<;>omega];rfl
  rw[X0]at ht
  subst ht
  by_cases h4:p.Op=4
  ·rw[A2 h4]at hlp
   rw[A2 (L6 h4),D3 (by omega) (by omega),hlp];rfl
  rw[A0 h4]at hlp
  rw[A0 (PW h4),hlp];rfl
theorem Rn {N:Nat} (hN:40000000≤N):∀(n:Nat) (p:A1),p.pre.length≤n→p.pre.length≤16777216→Dp N n p=some (W5 p:Int)
 |0,p,h,_=>by have:=V2 p;omega
 | n+1,p,h,hm=>by
  have hal:=V2 p;have hev:W5 p≤p.pre.length:=Fp;unfold Dp
  have e0:(if Ar.cmp .eql p.Op 0=true then some 1 else some 0:Option Int)=some (((if p.Op=0 then 1 else 0:Nat):Nat):Int):=by
   by_cases h0:p.Op=0
   ·rw[A2 (L6 h0),A2 h0];rfl
   rw[A0 (PW h0),A0 h0];rfl
  rw[e0];simp only[A4];have hsum:=Fa p
  rw[WI]at hsum
  refine Fx (m:=p.cL.length) (fun i (t:Nat)=>((t:Int),(i:Int))) (fun i t=>t=(if p.Op=0 then 1 else 0)+((p.cL.map W5).take i).sum) (fun t=>(t:Int)) (t0:=if p.Op=0 then 1 else 0) rfl (by omega) (by simp) (fun i hi t ht=>?_) (fun t _=>by dsimp only;rw[A0 FD]) fun t ht=>?_
  ·have hma:=G3 hi;have h1:=L4 hma;have h2:=Ey (L:=p.cL.map W5) (i:=i) (by grind)
   rw[Ev]at h2
   have h3:=Pc (p.cL.map W5) (i+1);refine⟨t+W5 p.cL[i],?_,by rw[h2,ht];omega⟩
   dsimp only
   rw[A2 (X7 (by omega)),F6,E0 hi];simp only[A4];rw[Rn hN n _ (by omega) (by omega)];simp only[A4];rw[D3 (by omega) (by omega),D3 (by omega) (by omega)];rfl
  rw[Bh (by simp)]at ht
  rw[ht,←hsum]
theorem Ay7 {X:Type} {step:Int×Int→Option ((Int×Int)⊕Int)} {k:Int→Option X} {Q:X→Prop} {c:Prop} {B m N:Nat} (hB:1≤B) (hB2:B≤33554435) (hN:m<N)
 (hs:∀s i:Nat,i<m→s≤134217740000→step ((s:Int),(i:Int))=some (if c∧s≤4000 then .inl (((s*B:Nat):Int),((i+1:Nat):Int))else .inr (s:Int)))
 (he:∀s:Nat,step ((s:Int),(m:Int))=some (.inr (s:Int))) (hk:∀r:Nat,(c→r≤4000→B ^ m≤4000)→∃x,k (r:Int)=some x∧Q x):∃x,(loopN step N (1,0)).bind k=some x∧Q x:=by
 have key:∀(d i K s:Nat),i+d=m→d<K→1≤s→s≤134217740000→∃r:Nat,loopN step K ((s:Int),(i:Int))=some (r:Int)∧(c→r≤4000→s*B ^ d≤4000):=by
  intro d
  induction d with
  |zero=>
   intro i K s hi hK h1 hs';obtain⟨K,rfl⟩:∃q,K=q+1:=⟨K-1,by omega⟩
   grind[loopN]
  | succ d ih=>
   intro i K s hi hK h1 hs';obtain⟨K,rfl⟩:∃q,K=q+1:=⟨K-1,by omega⟩;unfold loopN;rw[hs s i (by omega) hs']
   by_cases hc:c∧s≤4000
   ·rw[A2 hc];have hsb:s*B≤4000*33554435:=R5 hc.2 hB2;obtain⟨r,h5,h6⟩:=ih (i+1) K (s*B) (by omega) (by omega) (Nat.mul_pos h1 hB) (by omega)
    grind
   grind
 obtain⟨r,h5,h6⟩:=key m 0 N 1 (by omega) hN (B3 _) (by omega);have h5':loopN step N (1,0)=some (r:Int):=h5;rw[h5']
 simp_all
theorem AL9 {N:Nat} (hN:40000000≤N) {p:A1} (hb:p.bulk≤16777216) (hpl:p.pre.length≤16777216) {l:List A8} (hlb:l.length≤16777216):
 ∃b,IX N p l=some b∧(b=true→l.length≤10∧((W5 p+1) ^ l.length≤1500∨(Bo p∧l.length ^ W5 p≤1500))∧(L1 p∨(L2 p∧(2*W5 p+1) ^ l.length≤4000))):=by
 unfold IX;obtain⟨b,h1,h2⟩:=Az6 hN hb hlb;rw[h1];simp only[A4]
 cases b with
 |false=>exact⟨false,rfl,fun h=>by cases h⟩
 | true=>
  obtain⟨h3,h4⟩:=h2 rfl;rw[A0 (by simp[R8]),YC hN N p (by omega) hpl];simp only[A4]
  by_cases hg:p.lp≤2
  ·rw [A0 (T9 (by omega))];have hev:W5 p≤p.pre.length:=Fp;refine Ay7 (c:=p.lp=2) (B:=2*W5 p+1) (m:=l.length) (by omega) (by omega) (by omega) (fun s i hi hs=>?_) (fun s=>by rw[A0 (N4 (by rw[B4];omega))]) fun r hr=>⟨_,rfl,fun h=>⟨h3,h4,?_⟩⟩
   ·rw[A2 (X7 (by omega))]
    by_cases hc:p.lp=2∧s≤4000
    ·rw[A2 (by rw[L3,L6 (by omega),BS,J1 (by omega)];rfl),A2 hc,Rn hN N p (by omega) hpl];simp only[A4]
     have e1:ar .add .i64 (ar .mul .i64 2 (W5 p:Int)) 1=((2*W5 p+1:Nat):Int):=by
      have:ar .mul .i64 2 (W5 p:Int)=IntKind.wrap .i64 (2*(W5 p:Int)):=rfl;rw[this,Bs (by omega) (by omega),D3 (by omega) (by omega)];omega
     have hsb:s*(2*W5 p+1)≤4000*33554435:=R5 hc.2 (by omega)
     have e2:ar .mul .i64 (s:Int) ((2*W5 p+1:Nat):Int)=((s*(2*W5 p+1):Nat):Int):=by
      have:ar .mul .i64 (s:Int) ((2*W5 p+1:Nat):Int)=IntKind.wrap .i64 ((s:Int)*((2*W5 p+1:Nat):Int)):=rfl;rw[this,←Int.natCast_mul,Bs (by omega) (by omega)]
     rw[e1,e2,D3 (by omega) (by omega)];rfl
    rw[A0 (by
     rw[L3];intro h
     rw[L9,D8,BS,H8,H8]at h
     omega),A0 hc]
   rw[BS,H8]at h
   by_cases h2':p.lp=2
   ·exact .inr ⟨Be6 hg,hr h2' (by omega)⟩
   exact .inl (AW2 (by omega))
  rw[A2 (Y4 (by omega))]
  simp_all
abbrev TD:=List PR×A3
def Gu (t:TD):A9:=⟨t.1,t.2⟩
def JG (t:TD):A7:=⟨t.2,t.1.map O2⟩
structure TL (l:List A8) (p:A1) (b:List PR) (f:Int) (L:List TD):Prop where
 tr:∀t∈L,IU t.2 p=0∧OX l t.2 p b f=some t.1∧GK t.2≤t.1.length*p.pre.length∧GR l f t.1
 nd:(L.map (·.2)).Nodup
theorem TL.tree {l:List A8}(hl:l.length≤10){p:A1}(hpp:p.pre.length≤64){b:List PR}{f:Int}(ho:KW l b f){L:List TD}(h:TL l p b f L):∀t∈L,Tr l t.2 p t.1:=by
 intro t ht;obtain⟨h1,h2,h3,h4⟩:=h.tr t ht;have hlen:=h4.gd.len;have:t.1.length*p.pre.length≤10*64:=R5 (by omega) hpp;exact⟨by omega,h1,b,f,ho,h2⟩
theorem TL.few {l:List A8} (hl:l.length≤10) (hchk:Cy l=0) {p:A1} (hw:Ga p) (hpp:p.pre.length≤64) (hs:GQ l.length p) {b:List PR} {f:Int} (ho:KW l b f) {L:List TD} (h:TL l p b f L):L.length≤4096:=by
 have:=Zo hl hchk hw hpp hs h.nd fun d hd=>by
  obtain⟨t,ht,rfl⟩:=List.mem_map.1 hd;exact⟨_,h.tree hl hpp ho t ht⟩
 simp_all
structure PT (N:Nat) (l:List A8) (p:A1) (b:List PR) (f:Int) (m:Nat) (L:List TD):Prop where
 ref:∀n,m≤n→M3 N n p l b f=some (L.map Gu)
 prg:∀n,m≤n→E9 N n ⟨l,0⟩ p (b.map O2) f=some (L.map JG)
theorem Pj {α R:Type} {step:Int→α→Option (List α×(Int⊕R))} {m:Nat} (hs:∀(s:Nat) (y:α),s<m→step (s:Int) y=some ([y],.inl ((s+1:Nat):Int))):∀(L:List α) (s:Nat),s+L.length≤m→Af step L (s:Int)=some (L,.inl ((s+L.length:Nat):Int))
 |[],s,_=>rfl
 |y::L,s,h=>by
  rw[H7]at h
  unfold Af;rw[hs s y (by omega)];have:=Pj hs L (s+1) (by omega)
  grind
theorem Ut {α R:Type}{step:Int→α→Option (List α×(Int⊕R))}{m:Nat}{L:List α}(hL:L.length≤m)(hs:∀(s:Nat) (y:α),s<m→step (s:Int) y=some ([y],.inl ((s+1:Nat):Int))):Af step L 0=some (L,.inl (L.length:Int)):=by
 have:=Pj hs L 0 (by omega)
 rwa[K1]at this
theorem No {N:Nat} (hN:40000000≤N) {x:E8} (hx:x.count=0) {p:A1} {o:List DP} {f:Int} {n:Nat} {L:List A7} (h:L8 N n x p o f=some L) (hL:L.length≤4096):E9 N (n+2) x p o f=some L:=by
 rw[E9,U0,h];simp only[A4]
 rw[Ut (m:=4096) hL (fun s y hs=>by
  have e:ar .add .i64 (s:Int) 1=((s+1:Nat):Int):=by rw[D3 (by omega) (by omega)];omega
  rw[e,A0 (T9 (by omega))];simp only[V0,A4];rw[A2 (L6 hx)]
  simp)]
 simp[V0]
theorem MP {β γ:Type} (T:Nat→Bool) (g:Nat→β) (h:β→γ):∀k i,(WZ T g k i).map h=WZ T (fun i=>h (g i)) k i
 |0,i=>rfl
 |k+1,i=>by
  rw[JF,JF]
  by_cases ht:T i=true
  ·rw[A2 ht,A2 ht,D5,MP T g h k (i+1)]
  rw[A0 ht,A0 ht,MP T g h k (i+1)]
theorem Ai5 {β:Type} (T:Nat→Bool) (g:Nat→β):∀k i,(WZ T g k i).length≤k
 |0,i=>B3 _
 |k+1,i=>by
  rw[JF];have:=Ai5 T g k (i+1)
  grind
theorem Ai1 {β X:Type} {n:Nat} {step:List β×Int→Option ((List β×Int)⊕List β)} {T:Nat→Bool} {g:Nat→β} {k:List β→Option X}
 (hs:∀(t:List β) (i:Nat),i<n→t.length≤100000→step (t,(i:Int))=some (.inl (t++(if T i=true then[g i]else[]),((i+1:Nat):Int)))) (he:∀t:List β,step (t,(n:Int))=some (.inr t)):
 ∀(d i N:Nat) (t:List β),i+d=n→d<N→t.length+d≤100000→(loopN step N (t,(i:Int))).bind k=k (t++WZ T g d i)
 |0,i,N,t,h,hN,_=>by
  obtain⟨N,rfl⟩:∃m,N=m+1:=⟨N-1,by omega⟩
  simp_all[loopN,WZ]
 |d+1,i,N,t,h,hN,ht=>by
  obtain⟨N,rfl⟩:∃m,N=m+1:=⟨N-1,by omega⟩;unfold loopN;rw[hs t i (by omega) (by omega),JF];have:=Ai1 (k:=k) hs he d (i+1) N (t++(if T i=true then[g i]else[])) (by omega) (by omega) (by rw[J2];split<;>simp<;>omega)
  grind
theorem Ae1 {N:Nat} (hN:40000000≤N) {l:List A8} (hl:l.length≤10) (hchk:Cy l=0) {p:A1} (hw:Ga p) (h0:p.Op=0) {b:List PR} {f:Nat} (ho:KW l b f):∃L,TL l p b f L∧PT N l p b f 3 L:=by
 have hf:=ho.f1;have hbl:=ho.gd.len
 have gt:∀j,j<l.length→Mj l (Mb l (j:Int))=some j:=by
  intro j hj;refine Aj6 (by omega) hchk hj ?_
  simp_all[Z3,X8,Mb]
 have hra:∀j (hj:j<l.length),Mb l (j:Int)=⟨l[j].Time,l[j].Source,l[j].Seq⟩:=by
  simp_all[Mb]
 refine⟨WZ (fun i=>Mx l p b i) (fun i=>([⟨p.Var,(i:Int)⟩],⟨Mb l i,0,[]⟩)) (l.length-f) f,⟨?_,?_⟩,⟨?_,?_⟩⟩
 ·intro t ht;obtain⟨j,h1,h2,h3,rfl⟩:=Ps.1 ht
  have hj:j<l.length:=by omega
  refine⟨?_,?_,?_,⟨⟨fun x hx=>?_,LL _ _⟩,fun x hx=>?_,by simp⟩⟩
  ·dsimp only
   rw[Jv]
   simp_all[KL,Ci]
  ·rw[HC,A2 h0,gt j hj]
   simp_all
  ·have:=V2 p;simp[HF,Fi];omega
  ·rw[List.mem_singleton.1 hx];exact⟨hw.self.var h0,by simp_all⟩
  simp_all
 ·rw[MP,←MP (fun i=>Mx l p b i) (fun i=>i) (fun i=>(⟨Mb l (i:Int),0,[]⟩:A3))];have hn:=Qo (T:=fun i=>Mx l p b i) (g:=fun i:Nat=>i) (fun i j h=>h) (k:=l.length-f) (i:=f)
  unfold Nodup at *
  rw[S6];refine hn.imp_of_mem fun{a c} ha hc hne e=>hne ?_;obtain⟨j,h1,h2,_,ej⟩:=Ps.1 ha;obtain⟨j',h1',h2',_,ej'⟩:=Ps.1 hc
  have e':Mb l (a:Int)=Mb l (c:Int):=by injection e
  have g1:=gt a (by omega);have g2:=gt c (by omega)
  rw[e',g2]at g1
  simp_all
 ·intro n hn;obtain⟨n,rfl⟩:∃m,n=m+1:=⟨n-1,by omega⟩;rw[M3,A2 (L6 h0)];refine(Ai1 (n:=l.length) (T:=fun i=>Mx l p b i) (g:=fun i=>Gu ([⟨p.Var,(i:Int)⟩],⟨Mb l i,0,[]⟩)) (fun t i hi ht=>?_) (fun t=>by dsimp only;rw[A0 FD]) (l.length-f) f N [] (by omega) (by omega) (by simp;omega)).trans ?_
  ·dsimp only
   rw[A2 (X7 (by omega)),AR2 hN (by omega) ho.gd.wf hw.self.cond hi];simp only[A4];rw[show ar .add .i64 (i:Int) 1=((i+1:Nat):Int) by rw[D3 (by omega) (by omega)];omega]
   by_cases hT:Mx l p b i=true
   ·rw[A2 hT,A2 hT,F6,E0 hi];simp only[A4,Qk];rw[S3 (by simp;omega),hra i hi];rfl
   simp_all
  rw[K2,MP]
 intro n hn;obtain⟨n,rfl⟩:∃m,n=m+3:=⟨n-3,by omega⟩;refine No hN rfl ?_ (by rw[D6];have:=Ai5 (fun i=>Mx l p b i) (fun i=>(([⟨p.Var,(i:Int)⟩],⟨Mb l i,0,[]⟩):TD)) (l.length-f) f;omega);rw[L8,A2 (L6 h0)]
 dsimp only
 rw[YG (n:=l.length) (T:=fun i=>Mx l p b i) (g:=fun i=>JG ([⟨p.Var,(i:Int)⟩],⟨Mb l i,0,[]⟩)) (u:=()) (fun i hi=>by
  rw[A2 (X7 (by omega)),Ss hN (by rw[D6];omega) (by rw[I3];exact ho.gd.wf) 0 hw.self.cond hi,I3];simp only[A4];rw[show ar .add .i64 (i:Int) 1=(i:Int)+1 from D3 (by omega) (by omega)]
  by_cases hT:Mx l p b i=true
  ·rw[A2 hT,A2 hT,F6,E0 hi];simp only[A4,Du,V0];rw[hra i hi];rfl
  simp_all) (by rw[A0 FD]) (l.length-f) f N (by omega) (by omega)]
 simp only[V0,A4,H6];rw[MP]
theorem Ah9 {l:List A8} {p q:A1} {b:List PR} {f:Int} {s:List PR} {d:A3} {c:Int} (hop:p.Op=2∨(5≤p.Op∧p.Op≤7)) (hq:q∈p.cL) (hc:p.Op=2→0≤c∧c<p.cL.length∧p.cL[c.toNat]? =some q) (hc0:p.Op≠2→c=0∧p.cL=[q]) (hk:5≤p.Op→Bz l p b s=true)
 (h:IU d q=0∧OX l d q b f=some s∧GK d≤s.length*q.pre.length∧GR l f s):
 IU ⟨⟨0,0,0⟩,c,[d]⟩ p=0∧OX l ⟨⟨0,0,0⟩,c,[d]⟩ p b f=some s∧GK ⟨⟨0,0,0⟩,c,[d]⟩≤s.length*p.pre.length∧GR l f s:=by
 obtain⟨h1,h2,h3,h4⟩:=h;have hpq:=L4 hq
 have ha:M4 p c 0=q:=by
  grind[M4]
 have hnc:¬BV p:=by grind[BV]
 refine⟨?_,?_,?_,h4⟩
 ·rw[Jv]
  grind[KL,Ci]
 ·rw[HC,A0 (by omega)]
  dsimp only
  rw[W2];simp only[Uu,Eb,AP,hnc,G4,false_and,ha];rw[h2];simp only[A4];rw[A0 (by simp[S8]),Ds]
  simp_all[Dz]
 have hs:=List.length_pos_iff.2 h4.ne;have:s.length*(q.pre.length+1)≤s.length*p.pre.length:=LA _ hpq
 rw[BF,Io]at this
 simp only[GK,Fi];omega
def IHT (N:Nat)(l:List A8)(k:Nat):Prop:=∀(q:A1) (b:List PR) (f:Nat),mu l q f≤k→q.pre.length≤64→Ga q→GQ l.length q→KW l b f→∃L,TL l q b f L∧PT N l q b f (8*k+8) L
def wr (c:Int)(t:TD):TD:=(t.1,⟨⟨0,0,0⟩,c,[t.2]⟩)
theorem WE {α β:Type} (P:α→Bool) (g:α→β):∀L:List α,L.flatMap (fun x=>if P x=true then[g x]else[])=(L.filter P).map g
 |[]=>rfl
 |a::L=>by
  rw[U8,WE P g L,List.filter_cons]
  grind
theorem Xi {l:List A8}{p q:A1}{b:List PR}{f:Int}{L:List TD}(hop:5≤p.Op∧p.Op≤7)(hq:p.cL=[q])(h:TL l q b f L):TL l p b f ((L.filter fun t=>Bz l p b t.1).map (wr 0)):=by
 constructor
 ·intro t ht;obtain⟨u,hu,rfl⟩:=List.mem_map.1 ht;obtain⟨h1,h2⟩:=List.mem_filter.1 hu;exact Ah9 (q:=q) (.inr hop) (by rw[hq];simp) (fun h=>by omega) (fun _=>⟨rfl,hq⟩) (fun _=>h2) (h.tr u h1)
 have h1:((L.filter fun t=>Bz l p b t.1).map (·.2)).Nodup:=List.Nodup.sublist ((List.filter_sublist).map _) h.nd;rw[J0]
 unfold Nodup at *
 rw[S6]at h1 ⊢
 simp_all[wr]
theorem Ap4 {N:Nat} (hN:40000000≤N) {l:List A8} (hl:l.length≤10) (hchk:Cy l=0) {p q:A1} (hw:Ga p) (hpp:p.pre.length≤64) (hs:GQ l.length p) (hop:5≤p.Op∧p.Op≤7) (hq:p.cL=[q]) {b:List PR} {f:Int} (ho:KW l b f) {L:List TD} {m:Nat} (h:TL l q b f L) (hL:PT N l q b f m L):
 ∀n,m+3≤n→E9 N n ⟨l,0⟩ p (b.map O2) f=some (((L.filter fun t=>Bz l p b t.1).map (wr 0)).map JG):=by
 intro n hn;obtain⟨n,rfl⟩:∃k,n=k+3:=⟨n-3,by omega⟩;have htl:=Xi hop hq h;refine No hN rfl ?_ (by rw[D6];exact htl.few hl hchk hw hpp hs ho);rw[L8,A0 (PW (by omega)),A0 (PW (by omega)),A0 (PW (by omega)),A0 (PW (by omega))];simp only[V0,A4];rw[A0 (PW (by omega)),hq];have hi:C3 [q] 0=some q:=rfl;rw[hi];simp only[A4];rw[hL.prg n (by omega)];simp only[A4]
 rw[HL (f:=fun y:A7=>if Bz l p b (N7 y.s)=true then[(⟨⟨⟨0,0,0⟩,0,[y.d]⟩,y.s⟩:A7)]else[]) (fun y hy=>by
  obtain⟨t,ht,rfl⟩:=List.mem_map.1 hy;obtain⟨_,_,_,hr⟩:=h.tr t ht;have e1:(JG t).s=t.1.map O2:=rfl;rw[e1,VB hN (by omega) hw.self.cond hop (by rw[I3];exact ho.gd) (by rw[I3];exact hr.gd) (by simpa using hr.ne) (by rw[I3,I3];exact ho.apart hr) 0,I3,I3]
  grind)]
 simp only[A4];rw[A2 (L6 rfl),WE (fun y:A7=>Bz l p b (N7 y.s))];simp only[A4,H6,List.filter_map,J0,K2]
 congr 1
 rw[V6 (g:=JG∘wr 0) (fun t _=>by rfl)]
 congr 1
 apply List.filter_congr;intro t _;simp only[Function.comp,JG,I3]
def Aw3 (F:Nat→List TD)(m:Nat):List TD:=(List.range m).flatMap fun i=>(F i).map (wr (i:Int))
theorem AJ5 {l:List A8} {p:A1} {b:List PR} {f:Int} {F:Nat→List TD} (hop:p.Op=2) (h:∀i (hi:i<p.cL.length),TL l p.cL[i] b f (F i)):TL l p b f (Aw3 F p.cL.length):=by
 constructor
 ·intro t ht;obtain⟨i,hi,ht⟩:=List.mem_flatMap.1 ht
  rw[CB]at hi
  obtain⟨u,hu,rfl⟩:=List.mem_map.1 ht;exact Ah9 (q:=p.cL[i]) (.inl hop) (G3 hi) (fun _=>⟨by omega,by omega,by rw[CG,E0 hi]⟩) (fun h=>absurd hop h) (fun h=>by omega) ((h i hi).tr u hu)
 unfold Aw3 Nodup;rw[S6,IK]
 constructor
 ·intro i hi
  rw[CB]at hi
  have h1:=(h i hi).nd
  unfold Nodup at h1
  rw[S6]at h1 ⊢
  simp_all[wr]
 refine LM (fun{i j} _ _ hij=>?_) QO;intro x hx y hy e;obtain⟨u,_,rfl⟩:=List.mem_map.1 hx;obtain⟨v,_,rfl⟩:=List.mem_map.1 hy
 simp only[wr]at e
 grind
theorem AT1 {N:Nat} (hN:40000000≤N) {l:List A8} (hl:l.length≤10) (hchk:Cy l=0) {p:A1} (hw:Ga p) (hpp:p.pre.length≤64) (hs:GQ l.length p) (hop:p.Op=2) {b:List PR} {f:Int} (ho:KW l b f) {F:Nat→List TD} {m:Nat} (h:∀i (hi:i<p.cL.length),TL l p.cL[i] b f (F i)) (hL:∀i (hi:i<p.cL.length),PT N l p.cL[i] b f m (F i)):
 ∀n,m+3≤n→E9 N n ⟨l,0⟩ p (b.map O2) f=some ((Aw3 F p.cL.length).map JG):=by
 intro n hn;obtain⟨n,rfl⟩:∃k,n=k+3:=⟨n-3,by omega⟩;have htl:=AJ5 hop h;have hal:=V2 p;refine No hN rfl ?_ (by rw[D6];exact htl.few hl hchk hw hpp hs ho);rw[L8,A0 (PW (by omega)),A2 (L6 hop)]
 rw[At8 (s0:=(0:Int)) (k:=p.cL.length) (fun i=>(i:Int)) (fun i=>((F i).map (wr (i:Int))).map JG) [] () rfl (by omega) (fun i hi=>by
  rw[A2 (X7 (by omega)),F6,E0 hi];simp only[A4];rw[(hL i hi).prg n (by omega)];simp only[A4];rw[HL (f:=fun y:A7=>[(⟨⟨⟨0,0,0⟩,(i:Int),[y.d]⟩,y.s⟩:A7)]) (fun y hy=>rfl)];simp only[V0,A4,H6];rw[show ar .add .i64 (i:Int) 1=((i+1:Nat):Int) by rw[D3 (by omega) (by omega)];omega]
  congr 2
  rw[J0,Lr]
  have:∀L:List TD,L.flatMap (fun a=>[(⟨⟨⟨0,0,0⟩,(i:Int),[(JG a).d]⟩,(JG a).s⟩:A7)])=L.map (JG∘wr (i:Int)):=by
   intro L
   induction L with
   |nil=>rfl
   |cons a L ih=>rw[U8,ih];rfl
  simp_all) (by rw[A0 FD])]
 simp only[V0,A4];rw[A2 (L6 rfl)];simp only[A4,H6,Aw3,CE]
def QG (l:List A8)(p:A1)(b:List PR)(i:Nat)(t:TD):List TD:=if p.Op=2 then[wr (i:Int) t]else if Bz l p b t.1=true then[wr 0 t]else[]
theorem ZK (l:List A8)(p:A1)(b:List PR)(i:Nat)(t:TD):(QG l p b i t).length≤1:=by
 unfold QG
 grind
theorem Mw {α β:Type} {g:α→List β} (hg:∀x,(g x).length≤1):∀L:List α,(L.flatMap g).length≤L.length
 |[]=>B3 _
 |a::L=>by
  rw[U8,J2,H7];have:=hg a;have:=Mw hg L;omega
theorem JU {α β:Type}{g:α→List β}{L:List α}{j:Nat}(h:j<L.length):(L.take (j+1)).flatMap g=(L.take j).flatMap g++g L[j]:=by
 rw[Bk h,List.flatMap_append];simp
theorem AQ3 {N:Nat} (hN:40000000≤N) {l:List A8} (hl:l.length≤10) {p:A1} (hw:Ga p) (hpp:p.pre.length≤64) (hop:p.Op=2∨(5≤p.Op∧p.Op≤7)) {b:List PR} {f:Int} (ho:KW l b f) {F:Nat→List TD} {m:Nat} (h:∀i (hi:i<p.cL.length),TL l p.cL[i] b f (F i)) (hF:∀i,i<p.cL.length→(F i).length≤4096) (hL:∀i (hi:i<p.cL.length),PT N l p.cL[i] b f m (F i)):
 ∀n,m+1≤n→M3 N n p l b f=some (((List.range p.cL.length).flatMap fun i=>(F i).flatMap (QG l p b i)).map Gu):=by
 intro n hn;obtain⟨n,rfl⟩:∃k,n=k+1:=⟨n-1,by omega⟩;have hal:=V2 p;rw[M3,A0 (PW (by omega)),A0 (PW (by omega)),A0 (PW (by omega)),A0 (PW (by omega))];refine Fx (m:=p.cL.length) (fun i acc=>(acc,(i:Int))) (fun i acc=>acc=((List.range i).flatMap fun i=>(F i).flatMap (QG l p b i)).map Gu∧acc.length≤i*4096) (fun acc=>acc) (t0:=[]) rfl (by omega) ⟨by simp,by simp⟩ (fun i hi acc ⟨ha,hal'⟩=>?_) (fun acc _=>by dsimp only;rw[A0 FD]) (fun acc hacc=>by rw[hacc.1]);have hFi:=hF i hi;have hb1:i*4096≤64*4096:=G5 _ (by omega);have hfl:=Mw (ZK l p b i) (F i);refine⟨acc++((F i).flatMap (QG l p b i)).map Gu,?_,?_,?_⟩
 ·dsimp only
  rw[A2 (X7 (by omega)),F6,E0 hi];simp only[A4];rw[(hL i hi).ref n (by omega)];simp only[A4]
  refine Fx (m:=(F i).length) (fun j acc'=>(acc',(j:Int))) (fun j acc'=>acc'=acc++(((F i).take j).flatMap (QG l p b i)).map Gu) (fun acc'=>acc') (t0:=acc) rfl (by omega) (by simp) (fun j hj acc' hacc=>?_) (fun acc' _=>by
   dsimp only
   rw[A0 (N4 (by rw[B4,D6];omega))]) (fun acc' hacc=>by
   rw[hacc,X0,show ar .add .i64 (i:Int) 1=((i+1:Nat):Int) by rw[D3 (by omega) (by omega)];omega])
  have hjm:j<((F i).map Gu).length:=by rw[D6];exact hj
  have hlen:acc'.length≤1000000:=by
   have:=Mw (ZK l p b i) ((F i).take j);rw[hacc,J2,D6]
   rw[Bf]at this
   omega
  have hgt:((F i).map Gu)[j]? =some (Gu (F i)[j]):=by rw[R6,E0 hj];rfl
  refine⟨acc'++(QG l p b i (F i)[j]).map Gu,?_,by rw[JU hj,O3,←E6,←hacc]⟩
  dsimp only
  rw[A2 (X7 (by rw[D6];omega)),F6,hgt];simp only[A4]
  have ea:ar .add .i64 (j:Int) 1=((j+1:Nat):Int):=by rw[D3 (by omega) (by omega)];omega
  by_cases h2:p.Op=2
  ·rw[A2 (L6 h2)];simp only[A4];rw[A2 (L6 h2)];rw[S3 (by simp;omega),ea];simp only[A4];unfold QG;rw[A2 h2];rfl
  have h5:5≤p.Op∧p.Op≤7:=hop.resolve_left h2;rw[A0 (PW h2)];simp only[A4];rw[A0 (PW h2)];obtain⟨_,_,_,hr⟩:=(h i hi).tr _ (G3 hj);have e1:(Gu (F i)[j]).s=((F i)[j]).1:=rfl;rw[e1,Ae4 hN (by omega) hw.self.cond ho.gd hr.gd hr.ne (ho.apart hr),A2 h5];simp only[A4];unfold QG;rw[A0 h2]
  by_cases hk:Bz l p b ((F i)[j]).1=true
  ·rw[A2 hk,A2 hk,S3 (by simp;omega),ea];rfl
  simp_all
 ·rw[ha,List.range_succ,List.flatMap_append,O3];simp
 grind
theorem PT.mono {N:Nat}{l:List A8}{p:A1}{b:List PR}{f:Int}{m m':Nat}{L:List TD}(h:PT N l p b f m L)(hm:m≤m'):PT N l p b f m' L:=⟨fun n hn=>h.ref n (by omega),fun n hn=>h.prg n (by omega)⟩
theorem AF5 {N:Nat} (hN:40000000≤N) {l:List A8} (hl:l.length≤10) (hchk:Cy l=0) {k:Nat} (ih:IHT N l k) {p:A1} (hw:Ga p) (hpp:p.pre.length≤64) (hs:GQ l.length p) (hop:p.Op=2∨(5≤p.Op∧p.Op≤7)) {b:List PR} {f:Nat} (ho:KW l b f) (hmu:mu l p f≤k+1):∃L,TL l p b f L∧PT N l p b f (8*k+16) L:=by
 have hex:∀i:Nat,∃L,∀hi:i<p.cL.length,TL l p.cL[i] b f L∧PT N l p.cL[i] b f (8*k+8) L:=by
  intro i
  by_cases hi:i<p.cL.length
  ·have hq:=G3 hi;have hpq:=L4 hq;have:=AP7 (l:=l) (f:=f) (g:=f) hpq;obtain⟨L,h1,h2⟩:=ih p.cL[i] b f (by omega) (by omega) (hw.arg hq) (hs.arg hq) ho;exact⟨L,fun _=>⟨h1,h2⟩⟩
  exact⟨[],fun h=>absurd h hi⟩
 obtain⟨F,hF⟩:=IN hex
 have few:∀i,i<p.cL.length→(F i).length≤4096:=by
  intro i hi;have hq:=G3 hi;have hpq:=L4 hq;exact(hF i hi).1.few hl hchk (hw.arg hq) (by omega) (hs.arg hq) ho
 have href:=AQ3 hN hl hw hpp hop ho (fun i hi=>(hF i hi).1) few (fun i hi=>(hF i hi).2)
 rcases hop with h2|h5
 ·refine⟨Aw3 F p.cL.length,AJ5 h2 fun i hi=>(hF i hi).1,⟨fun n hn=>?_,fun n hn=>?_⟩⟩
  ·rw[href n (by omega)]
   congr 2
   unfold Aw3
   congr 1
   funext i
   have:∀L:List TD,L.flatMap (QG l p b i)=L.map (wr (i:Int)):=by
    intro L
    induction L with
    |nil=>rfl
    |cons a L ih2=>rw[U8,ih2];simp_all[QG]
   simp_all
  exact AT1 hN hl hchk hw hpp hs h2 ho (fun i hi=>(hF i hi).1) (fun i hi=>(hF i hi).2) n (by omega)
 obtain⟨q,hq⟩:=hw.self.a2 (by omega)
 have h0:0<p.cL.length:=by rw[hq];simp
 have e0:p.cL[0]=q:=by simp[hq]
 have t0:=hF 0 h0
 rw[e0]at t0
 refine⟨_,Xi h5 hq t0.1,⟨fun n hn=>?_,fun n hn=>?_⟩⟩
 ·rw[href n (by omega),hq]
  congr 2
  have:∀L:List TD,L.flatMap (QG l p b 0)=(L.filter fun t=>Bz l p b t.1).map (wr 0):=by
   intro L;rw[←WE]
   congr 1
   funext t
   unfold QG;rw[A0 (by omega)]
  simp_all
 exact Ap4 hN hl hchk hw hpp hs h5 hq ho t0.1 t0.2 n (by omega)
end
end Go.Ab
