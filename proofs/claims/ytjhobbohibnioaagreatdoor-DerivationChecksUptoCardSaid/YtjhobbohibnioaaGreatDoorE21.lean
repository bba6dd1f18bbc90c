/- GVB9 GVS1 GVS2 GVS3 GVS4 GVS5 GVS6 -/
import Derived.Test.YtjhobbohibnioaaGreatDoorE20
set_option linter.all false
open List (append_assoc append_nil cons_append)
open Nat (add_mul)
open Bool (and_eq_true)
open Go.Ab.Ar (an ar sh wr)
namespace Go.Ab
open Classical
noncomputable section
theorem Hq {S T R:Type} {m:Nat} {step:S→Option (S ⊕ R)} {rep:Nat→T→S} {I:Nat→T→Prop} {res:T→R}
 (hs:∀i,i<m→∀t,I i t→∃t',step (rep i t)=some (.inl (rep (i+1) t'))∧I (i+1) t')
 (he:∀t,I m t→step (rep m t)=some (.inr (res t))) {N:Nat} (hN:m<N) {t0:T} (h0:I 0 t0):
 ∃t,I m t∧loopN step N (rep 0 t0)=some (res t):=by
 have key:∀(d i N:Nat) (t:T),i+d=m→d<N→I i t→∃t',I m t'∧loopN step N (rep i t)=some (res t'):=by
  intro d
  induction d with
  |zero=>
   intro i N t hi hN ht;obtain⟨N,rfl⟩:∃m,N=m+1:=⟨N - 1,by omega⟩
   have:i=m:=by omega
   subst this;refine⟨t,ht,?_⟩;unfold loopN;rw[he t ht]
  |succ d ih=>
   intro i N t hi hN ht;obtain⟨N,rfl⟩:∃m,N=m+1:=⟨N - 1,by omega⟩;unfold loopN;obtain⟨t',h2,h3⟩:=hs i (by omega) t ht;rw[h2];exact ih (i+1) N t' (by omega) (by omega) h3
 exact key m 0 N t0 (by omega) hN h0
theorem Vq {S T R X:Type}{m:Nat}{step:S→Option (S ⊕ R)}{s0:S}{k:R→Option X}{x:Option X}(rep:Nat→T→S)(I:Nat→T→Prop)(res:T→R){t0:T}(e0:s0=rep 0 t0){N:Nat}(hN:m<N)(h0:I 0 t0)
 (hs:∀i,i<m→∀t,I i t→∃t',step (rep i t)=some (.inl (rep (i+1) t'))∧I (i+1) t') (he:∀t,I m t→step (rep m t)=some (.inr (res t))) (k1:∀t,I m t→k (res t)=x):(loopN step N s0).bind k=x:=by
 subst e0;obtain⟨t,h1,h2⟩:=Hq hs he hN h0;rw[h2];exact k1 t h1
mutual
theorem SE :∀(d:A2) (p:A0),(QV d p).length≤FY d
 |⟨r,c,ks⟩,p=>by
  simp only[QV,FY]
  split
  ·simp
  have:=TD ks p c 0;omega
theorem TD :∀(ks:List A2) (p:A0) (c:Int) (i:Nat),(GX ks p c i).length≤Ft ks
 |[],_,_,_=>Nat.zero_le _
 |k::ks,p,c,i=>by
  rw[GX,List.length_append,Ft];have:=SE k (AU p c i);have:=TD ks p c (i+1);omega
end
def BI (ks:List A2)(p:A0)(c:Int)(i:Nat)(t:List A4):Prop:=t++GX (ks.drop i) p c i=GX ks p c 0∧t.length+Ft (ks.drop i)≤4096
theorem BI.next {ks:List A2}{p:A0}{c:Int}{i:Nat}{t:List A4}(h:BI ks p c i t)(hi:i<ks.length):S8 t (QV ks[i] (AU p c i))=some (t++QV ks[i] (AU p c i))∧BI ks p c (i+1) (t++QV ks[i] (AU p c i)):=by
 obtain⟨h1,h2⟩:=h
 rw[List.drop_eq_getElem_cons hi]at h1 h2
 rw[GX]at h1
 rw[Ft]at h2
 have:=SE ks[i] (AU p c i);refine⟨Jn (by omega),by rw[append_assoc];exact h1,by rw[List.length_append];omega⟩
theorem BI.start {ks:List A2}{p:A0}{c:Int}(h:Ft ks≤4096):BI ks p c 0 []:=⟨rfl,by simpa using h⟩
theorem BI.stop {ks:List A2}{p:A0}{c:Int}{t:List A4}(h:BI ks p c ks.length t):t=GX ks p c 0:=by
 have:=h.1
 rw[List.drop_eq_nil_of_le (Nat.le_refl _),GX,append_nil]at this
 exact this
theorem QE {N:Nat} (hN:40000000≤N):∀(n:Nat) (p:A0) (d:A2),KT d≤n→FY d≤4096→KF p→p.pre.length≤64→NV d p=0→H7 N n p d=some (QV d p)
 |0,p,d,h,_,_,_,_=>by rw[AT]at h;omega
 | n+1,p,d,h,hs,hw,hpp,hsu=>by
  have hsz:=Fu d;have hdp:=AT d;have hkl:=BT d.Kids;unfold H7;rw[OJ]
  by_cases h0:p.Op=0
  ·rw[if_pos (R8 h0),if_pos h0]
  rw[if_neg (UJ h0),if_neg h0];have hS:=Vv hsu
  have kid:∀(i:Nat) (hi:i<d.Kids.length),H7 N n (AU p d.Choice i) d.Kids[i]=some (QV d.Kids[i] (AU p d.Choice i)):=by
   intro i hi;have hm:=List.getElem_mem hi;have hma:=(V5 hw.self hS.n hi hS.c).1;have h1:=Ck hm;have h2:=BS hm;have h3:=BY hma;exact QE hN n _ _ (by omega) (by omega) (hw.arg hma) (by omega) (hS.k i hi)
  by_cases h2:p.Op=2
  ·rw[if_pos (R8 h2)];have hc:=hS.c h2;have hone:=hS.one h0 (by omega) (by omega)
   have hi:0<d.Kids.length:=by omega
   have ha:=(V5 hw.self hS.n hi hS.c).2.2.1 h2
   have hci:C1 p.cK d.Choice=some (AU p d.Choice 0):=by
    obtain⟨m,hm⟩:=Int.eq_ofNat_of_zero_le hc.1;rw[hm,F2]
    rw[hm,Int.toNat_natCast]at ha
    rw[ha]
   have hk:C1 d.Kids 0=some d.Kids[0]:=by
    rw[show(0:Int)=((0:Nat):Int)from rfl,F2,List.getElem?_eq_getElem hi]
   rw[hci,hk];simp only[Option.bind_some];rw[kid 0 hi];simp only[Option.bind_some]
   obtain⟨k0,hk0⟩:∃k0,d.Kids=[k0]:=by
    match hk:d.Kids,hone with
    |[k0],_=>exact⟨k0,rfl⟩
   have e4:d.Kids[0]=k0:=by simp[hk0]
   rw[e4,hk0,GX,GX,append_nil]
  rw[if_neg (UJ h2)]
  exact Vq (m:=d.Kids.length) (fun i t=>(t,(i:Int))) (BI d.Kids p d.Choice) (fun t=>t) (t0:=[]) rfl (by omega) (.start (by omega)) (fun i hi t hI=>by
   dsimp only
   have hne:p.cK≠[]:=fun e=>by
    have:=(V5 hw.self hS.n hi hS.c).1
    rw[e]at this;cases this
   have hq:AI (Ar.cmp .neq (Ar.len p.cK) 0)=some ():=by
    unfold AI;rw[if_pos (O2 (by rw[C0];have:=List.length_pos_iff.2 hne;omega))]
   obtain⟨e1,e2⟩:=hI.next hi;refine⟨_,?_,e2⟩;rw[if_pos (FF (by omega)),F2,List.getElem?_eq_getElem hi,hq,TG hw hpp hS h0 h2 hi];simp only[Option.bind_some];rw[kid i hi];simp only[Option.bind_some];rw[e1];simp only[Option.bind_some]
   rw[D4 (by omega) (by omega)];rfl) (fun t _=>by dsimp only;rw[if_neg JJ]) (fun t h1=>by rw[h1.stop])
theorem PI {N:Nat} (hN:40000000≤N):∀(n:Nat) (p:A0) (d:A2),KT d≤n→FY d≤4096→KF p→NV d p=0→Y1 N n p d=some (QV d p)
 |0,p,d,h,_,_,_=>by rw[AT]at h;omega
 | n+1,p,d,h,hs,hw,hsu=>by
  have hsz:=Fu d;have hdp:=AT d;have hkl:=BT d.Kids;unfold Y1;rw[OJ]
  by_cases h0:p.Op=0
  ·rw[if_pos (R8 h0),if_pos h0]
  rw[if_neg (UJ h0),if_neg h0];have hS:=Vv hsu
  exact Vq (m:=d.Kids.length) (fun i t=>(t,(i:Int))) (BI d.Kids p d.Choice) (fun t=>t) (t0:=[]) rfl (by omega) (.start (by omega)) (fun i hi t hI=>by
   dsimp only
   obtain⟨e1,e2⟩:=hI.next hi;refine⟨_,?_,e2⟩;have hm:=List.getElem_mem hi;have hma:=(V5 hw.self hS.n hi hS.c).1;have h1:=Ck hm;have h2:=BS hm;rw[if_pos (FF (by omega)),YT hw hS h0 hi,F2,List.getElem?_eq_getElem hi];simp only[Option.bind_some];rw[PI hN n _ _ (by omega) (by omega) (hw.arg hma) (hS.k i hi)];simp only[Option.bind_some];rw[e1];simp only[Option.bind_some]
   rw[D4 (by omega) (by omega)];rfl) (fun t _=>by dsimp only;rw[if_neg JJ]) (fun t h1=>by rw[h1.stop])
theorem Kb {N:Nat} (hN:40000000≤N):∀(n:Nat) (p:A0) (d:A2),KT d≤n→FY d≤4096→KF p→p.pre.length≤64→BD N n p d=some (NV d p)
 |0,p,d,h,_,_,_=>by rw[AT]at h;omega
 | n+1,p,d,h,hs,hw,hpp=>by
  have hsz:=Fu d;have hdp:=AT d;have hl:=BT d.Kids;have ho:=hw.self.op;have hal:=Eg p;unfold BD;rw[Rj]
  by_cases hf:(p.Op≠0∧¬(d.Ref.Time=0∧d.Ref.Source=0∧d.Ref.Seq=0))∨(p.Op≠2∧d.Choice≠0)
  ·rw[if_pos ((IZ p d).2 hf),if_pos hf]
  rw[if_neg (fun e=>hf ((IZ p d).1 e)),if_neg hf]
  by_cases hc:p.Op=2∧(d.Choice<0∨(p.cK.length:Int)≤d.Choice)
  ·rw[if_pos (by simp only[K0,M4,G5,C8,Ak,C0];simpa using hc),if_pos hc]
  rw[if_neg (by simp only[K0,M4,G5,C8,Ak,C0];simpa using hc),if_neg hc]
  have hdem:∃lo hi,Aq N p=some (lo,hi)∧((((d.Kids.length:Int)<lo∨(d.Kids.length:Int)>hi))↔Er p d.Kids.length):=by
   unfold Aq Er
   by_cases h0:p.Op=0
   ·rw[if_pos (R8 h0),if_pos h0];exact⟨_,_,rfl,by omega⟩
   rw[if_neg (UJ h0),if_neg h0]
   by_cases h1:p.Op=1∨p.Op=3
   ·rw[if_pos (by simp only[M4,G5];simpa using h1),if_pos h1];exact⟨_,_,rfl,by rw[C0];omega⟩
   rw[if_neg (by simp only[M4,G5];simpa using h1),if_neg h1]
   by_cases h4:p.Op=4
   ·rw[if_pos (R8 h4),if_pos h4];exact⟨_,_,rfl,by omega⟩
   rw[if_neg (UJ h4),if_neg h4];exact⟨_,_,rfl,by omega⟩
  obtain⟨lo,hi,e1,e2⟩:=hdem;rw[e1];simp only[Option.bind_some]
  by_cases hb:Er p d.Kids.length
  ·have:=e2.2 hb;rw[if_pos (by simp only[M4,C8,X9,C0];simpa using this),if_pos hb]
  have:=fun h=>hb (e2.1 h);rw[if_neg (by simp only[M4,C8,X9,C0];simpa using this),if_neg hb]
  have hcc:p.Op=2→0≤d.Choice∧d.Choice<p.cK.length:=fun h2=>by
   rcases Classical.em (d.Choice<0∨(p.cK.length:Int)≤d.Choice)with h|h
   ·exact absurd ⟨h2,h⟩ hc
   omega
  refine Tj (by omega) (by omega) (fun i hi=>?_) (by rw[if_neg JJ]) rfl fun e=>rfl
  have h0:p.Op≠0:=fun h0=>by unfold Er at hb;rw[if_pos h0]at hb;omega
  have hm:=List.getElem_mem hi;have hma:=(V5 hw.self hb hi hcc).1;rw[if_pos (FF (by omega)),QN hw hb hcc h0 hi,F2,List.getElem?_eq_getElem hi];simp only[Option.bind_some];rw[Kb hN n _ _ (by have:=Ck hm;omega) (by have:=BS hm;omega) (hw.arg hma) (by have:=BY hma;omega)];rfl
def ckD (N:Nat)(p:A0)(d:A2):Int:=if KC N p=0 then(if FY d≤4096 then NV d p else 5)else KC N p
theorem NB {N:Nat} (hN:40000000≤N) {p:A0} (hb:p.bulk≤16777216) {d:A2} (hd:KT d≤30000000) (hs:FY d≤30000000):Q4 N p d=some (ckD N p d):=by
 unfold Q4 ckD;rw[Uo hN hb];simp only[Option.bind_some]
 by_cases hc:KC N p=0
 ·rw[if_neg (R6 hc),if_pos hc,Md hN N d (by omega) hs];simp only[Option.bind_some]
  by_cases h5:FY d≤4096
  ·obtain⟨hw,hpp⟩:=Jx hN hb hc;rw[if_neg (M5 (by omega)),if_pos h5,Nx hN N p d (by omega) h5 hw hpp];rfl
  rw[if_pos (P4 (by omega)),if_neg h5]
 rw[if_pos (O2 hc),if_neg hc]
theorem Kc {N:Nat} (hN:40000000≤N) {p:A0} (hb:p.bulk≤16777216) {d:A2} (hd:KT d≤30000000) (hs:FY d≤30000000):BE N p d=some (ckD N p d):=by
 unfold BE ckD;rw[Uk hN hb];simp only[Option.bind_some]
 by_cases hc:KC N p=0
 ·rw[if_neg (R6 hc),if_pos hc,IN hN N d (by omega) hs];simp only[Option.bind_some]
  by_cases h5:FY d≤4096
  ·obtain⟨hw,hpp⟩:=Jx hN hb hc;rw[if_neg (M5 (by omega)),if_pos h5,Kb hN N p d (by omega) h5 hw hpp];rfl
  rw[if_pos (P4 (by omega)),if_neg h5]
 rw[if_pos (O2 hc),if_neg hc]
theorem WU {N:Nat} {p:A0} {d:A2} (h:ckD N p d=0):KC N p=0∧FY d≤4096∧NV d p=0:=by
 unfold ckD at h
 by_cases hc:KC N p=0
 ·rw[if_pos hc]at h
  by_cases h5:FY d≤4096
  ·rw[if_pos h5]at h;exact⟨hc,h5,h⟩
  rw[if_neg h5]at h;cases h
 rw[if_neg hc]at h;exact absurd h hc
theorem few1 {N:Nat} (hN:40000000≤N) (l:List B3):∃b,Fc N l=some b∧True:=by
 unfold Fc;refine SO (m:=min l.length 40) (fun i _=>(i:Int)) (fun _ _=>True) True (fun _=>()) (t0:=()) rfl (by omega) trivial (fun i hi t _=>?_) (fun t _=>?_) (fun _=>⟨_,rfl,trivial⟩) (fun t _=>⟨_,rfl,trivial⟩)
 ·have hil:i<l.length:=by omega
  rw[if_pos (by rw[K0,FF (by omega),L4 (by omega)];rfl),F2,List.getElem?_eq_getElem hil];simp only[Option.bind_some]
  split
  ·exact .inl ⟨trivial,rfl⟩
  refine .inr ⟨(),?_,trivial⟩;rw[D4 (by omega) (by omega)];rfl
 rw[if_neg];rw[K0];intro h
 rw[and_eq_true,C8,C8,decide_eq_true_eq,decide_eq_true_eq,C0]at h
 omega
theorem few4 {N:Nat} (hN:40000000≤N) (l:List B8):∃b,BX N l=some b∧(b=true→l.length≤20):=by
 unfold BX;refine SO (m:=min l.length 20) (fun i _=>(i:Int)) (fun _ _=>True) True (fun _=>()) (t0:=()) rfl (by omega) trivial (fun i hi t _=>?_) (fun t _=>?_) (fun _=>⟨false,rfl,fun h=>by cases h⟩) (fun t _=>⟨_,rfl,fun h=>?_⟩)
 ·have hil:i<l.length:=by omega
  rw[if_pos (by rw[K0,FF (by omega),L4 (by omega)];rfl),F2,List.getElem?_eq_getElem hil];simp only[Option.bind_some];obtain⟨b,hb,_⟩:=few1 hN l[i].Values;unfold Hk;rw[hb];simp only[Option.bind_some]
  split
  ·exact .inl ⟨trivial,rfl⟩
  refine .inr ⟨(),?_,trivial⟩;rw[D4 (by omega) (by omega)];rfl
 ·rw[if_neg];rw[K0];intro h
  rw[and_eq_true,C8,C8,decide_eq_true_eq,decide_eq_true_eq,C0]at h
  omega
 rw[Ac,decide_eq_true_eq,C0]at h
 omega
theorem Ag0 {N:Nat} (hN:40000000≤N) {p:A0} (hb:p.bulk≤16777216) (l:List B8) {d:A2} (hs:FY d≤30000000):∃b,Fh N p l d=some b∧(b=true→l.length≤20∧KT d≤20∧FY d≤4101):=by
 unfold Fh;obtain⟨b1,h1⟩:=few9 hN hb;rw[h1];simp only[Option.bind_some]
 cases b1 with
 |false=>exact⟨false,rfl,fun h=>by cases h⟩
 | true=>
  obtain⟨b2,h2,h3⟩:=few4 hN l;rw[if_pos rfl,h2];simp only[Option.bind_some]
  cases b2 with
  |false=>exact⟨false,rfl,fun h=>by cases h⟩
  |true=>
   rw[if_pos rfl,YH hN hs];exact⟨_,rfl,fun h=>by have:=of_decide_eq_true h;exact⟨h3 rfl,this⟩⟩
end
end Go.Ab
namespace Go.Ab
open Classical
noncomputable section
abbrev BG :=A4
theorem SR {α:Type}{l:List α}{i:Nat}(h:i<l.length)(v:α):Ej l (i:Int) (fun _=>v)=some (l.set i v):=by
 unfold Ej;rw[F2,List.getElem?_eq_getElem h,Int.toNat_natCast];rfl
theorem EE {α:Type}{l:List α}{i:Nat}(h:i<l.length):AI (Cu l (i:Int))=some ():=by
 unfold AI Cu;rw[if_pos];rw[decide_eq_true_eq];omega
def FZ (l:List BG)(j i:Int):Option (List BG):=
 (AI (Cu l j)).bind fun _=>
 (C1 l j).bind fun x=>
 (AI (Cu l i)).bind fun _=>
 (C1 l i).bind fun y=>
 (AI (Cu l i)).bind fun _=>
 (Ej l i (fun _=>x)).bind fun l1=>
 (AI (Cu l1 j)).bind fun _=>
 (Ej l1 j (fun _=>y)).bind fun l2=>
 some l2
theorem Pj {l:List BG}{i j:Nat}(hi:i<l.length)(hj:j<l.length):FZ l (j:Int) (i:Int)=some ((l.set i l[j]).set j l[i]):=by
 unfold FZ;rw[EE hj,EE hi,F2,List.getElem?_eq_getElem hj,F2,List.getElem?_eq_getElem hi];simp only[Option.bind_some];rw[SR hi];simp only[Option.bind_some];rw[EE (by simpa using hj),SR (by simpa using hj)];rfl
theorem IL {α:Type}(P S:List α)(x y:α){i:Nat}(h:i=P.length):(P++x::S).set i y=P++y::S:=by
 subst h;simp
theorem LV {α:Type}(P S:List α)(x:α){i:Nat}(h:i=P.length)(hi:i<(P++x::S).length):(P++x::S)[i]=x:=by
 subst h;simp
theorem Hh {P M S:List BG} {x y:BG} {i j:Nat} (hi:i=P.length) (hj:j=P.length+1+M.length):
 FZ (P++x::(M++y::S)) (j:Int) (i:Int)=some (P++y::(M++x::S))∧FZ (P++x::(M++y::S)) (i:Int) (j:Int)=some (P++y::(M++x::S)):=by
 have h1:i<(P++x::(M++y::S)).length:=by simp;omega
 have h2:j<(P++x::(M++y::S)).length:=by simp;omega
 have g1:(P++x::(M++y::S))[i]=x:=LV _ _ _ hi h1
 have e:∀z:BG,P++z::(M++y::S)=(P++z::M)++y::S:=fun z=>by simp
 have g2:(P++x::(M++y::S))[j]=y:=by
  have h2':j<((P++x::M)++y::S).length:=by rw[←e];exact h2
  have h3:=LV (P++x::M) S y (i:=j) (by simp;omega) h2'
  have h4:(P++x::(M++y::S))[j]? =((P++x::M)++y::S)[j]? :=by rw[e x]
  rw[List.getElem?_eq_getElem h2,List.getElem?_eq_getElem h2',h3]at h4
  exact Option.some.inj h4
 rw[Pj h1 h2,Pj h2 h1,g1,g2]
 constructor
 ·rw[IL _ _ _ _ hi,e y,IL (P++y::M) S y x (by simp;omega)];simp
 rw[e x,IL (P++x::M) S y x (by simp;omega),show(P++x::M)++x::S=P++x::(M++x::S) by simp,IL _ _ _ _ hi]
theorem JA {N:Nat} (hN:40000000≤N) (P A M B S:List BG) (hab:A.length=B.length) (cmp:BG→BG→Option Int) {a b n:Int} (ha:a=P.length) (hb:b=((P.length+A.length+M.length:Nat):Int)) (hn:n=A.length) (hl:(P++A++M++B++S).length≤1000000):
 D5 N (P++A++M++B++S) a b n cmp=some (P++B++M++A++S):=by
 subst ha;subst hb;subst hn
 simp only[List.length_append]at hl
 unfold D5
 obtain⟨_,_,h⟩:=Hq (N:=N) (m:=A.length) (T:=Unit) (R:=List BG) (step:=fun(s1:Int×(List A4))=>
  (
   if Ar.cmp .lss s1.1 (A.length:Int)=true then
    (FZ s1.2 (ar .add .i64 ((P.length+A.length+M.length:Nat):Int) s1.1) (ar .add .i64 (P.length:Int) s1.1)).bind fun s4=>
    some (.inl (ar .add .i64 s1.1 1,s4))
   else
    some (.inr s1.2)
   :Option ((Int×(List A4)) ⊕ (((List A4))))))
  (rep:=fun i _=>((i:Int),P++B.take i++A.drop i++M++A.take i++B.drop i++S)) (I:=fun _ _=>True) (res:=fun _=>P++B++M++A++S) (fun i hi _ _=>by
   refine⟨(),?_,trivial⟩
   have hi':i<B.length:=by omega
   rw[if_pos (L4 (by omega)),D4 (by omega) (by omega),D4 (by omega) (by omega),D4 (by omega) (by omega)]
   have e1:P++B.take i++A.drop i++M++A.take i++B.drop i++S=(P++B.take i)++A[i]::((A.drop (i+1)++M++A.take i)++B[i]::(B.drop (i+1)++S)):=by
    rw[List.drop_eq_getElem_cons hi,List.drop_eq_getElem_cons hi'];simp only[append_assoc,cons_append]
   have e2:P++B.take (i+1)++A.drop (i+1)++M++A.take (i+1)++B.drop (i+1)++S=(P++B.take i)++B[i]::((A.drop (i+1)++M++A.take i)++A[i]::(B.drop (i+1)++S)):=by
    rw[List.take_succ_eq_append_getElem hi,List.take_succ_eq_append_getElem hi'];simp only[append_assoc,cons_append,List.nil_append]
   rw[e1,e2];have:=(Hh (P:=P++B.take i) (M:=A.drop (i+1)++M++A.take i) (S:=B.drop (i+1)++S) (x:=A[i]) (y:=B[i]) (i:=P.length+i) (j:=P.length+A.length+M.length+i) (by simp;omega) (by simp;omega)).1
   rw[show((P.length+A.length+M.length:Nat):Int)+(i:Int)=((P.length+A.length+M.length+i:Nat):Int) by omega,show(P.length:Int)+(i:Int)=((P.length+i:Nat):Int) by omega,this];rfl) (fun _ _=>by
   rw[if_neg (K9 (by omega)),List.take_of_length_le (show B.length≤A.length by omega),List.drop_eq_nil_of_le (show A.length≤A.length by omega),List.take_of_length_le (show A.length≤A.length by omega),List.drop_eq_nil_of_le (show B.length≤A.length by omega)]
   simp only[append_nil]) (by omega) (t0:=()) trivial
 have h':loopN (fun(s1:Int×(List A4))=>
  (
   if Ar.cmp .lss s1.1 (A.length:Int)=true then
    (FZ s1.2 (ar .add .i64 ((P.length+A.length+M.length:Nat):Int) s1.1) (ar .add .i64 (P.length:Int) s1.1)).bind fun s4=>
    some (.inl (ar .add .i64 s1.1 1,s4))
   else
    some (.inr s1.2)
   :Option ((Int×(List A4)) ⊕ (((List A4)))))) N (0,P++A++M++B++S)=some (P++B++M++A++S):=by
  rw[←h];simp
 exact congrArg (fun x=>x.bind fun s3=>some s3) h'
theorem Ug {N:Nat} (hN:40000000≤N) (cmp:BG→BG→Option Int) (P U V S:List BG) (hu:U≠[]) (hv:V≠[]) {a m b:Int} (ha:a=P.length) (hm:m=((P.length+U.length:Nat):Int)) (hb:b=((P.length+U.length+V.length:Nat):Int)) (hl:(P++U++V++S).length≤1000000):
 H8 N (P++U++V++S) a m b cmp=some (P++V++U++S):=by
 have hul:=List.length_pos_iff.2 hu;have hvl:=List.length_pos_iff.2 hv
 have key:∀(d K:Nat) (P U V S:List BG),U.length+V.length≤d→d<K→U≠[]→V≠[]→m=((P.length+U.length:Nat):Int)→(P++U++V++S).length≤1000000→
  (loopN (fun(s1:Int×Int×(List A4))=>
  (
   if Ar.cmp .neq s1.1 s1.2.1=true then
    if Ar.cmp .gtr s1.1 s1.2.1=true then
     (D5 N s1.2.2 (ar .sub .i64 m s1.1) m s1.2.1 cmp).bind fun l4=>
     some (.inl (ar .sub .i64 s1.1 s1.2.1,s1.2.1,l4))
    else
     (D5 N s1.2.2 (ar .sub .i64 m s1.1) (ar .sub .i64 (ar .add .i64 m s1.2.1) s1.1) s1.1 cmp).bind fun l5=>
     some (.inl (s1.1,ar .sub .i64 s1.2.1 s1.1,l5))
   else
    some (.inr (s1.1,s1.2.2))
   :Option ((Int×Int×(List A4)) ⊕ ((Int×(List A4)))))) K ((U.length:Int),(V.length:Int),P++U++V++S)).bind (fun s3=>
   (D5 N s3.2 (ar .sub .i64 m s3.1) m s3.1 cmp).bind fun l7=>some l7)=some (P++V++U++S):=by
  intro d
  induction d with
  |zero=>
   intro K P U V S h0 _ hu _ _ _;have:=List.length_pos_iff.2 hu;omega
  | succ d ih=>
   intro K P U V S h0 hK hu hv hm hl;have hul:=List.length_pos_iff.2 hu;have hvl:=List.length_pos_iff.2 hv;have hl':=hl
   simp only[List.length_append]at hl'
   obtain⟨K,rfl⟩:∃q,K=q+1:=⟨K - 1,by omega⟩
   have em:ar .sub .i64 m (U.length:Int)=(P.length:Int):=by rw[hm,N9 (by omega) (by omega)];omega
   unfold loopN
   dsimp only
   by_cases heq:U.length=V.length
   ·rw[if_neg (R6 (by omega))];simp only[Option.bind_some];rw[em];have:=JA hN P U [] V S heq cmp (a:=(P.length:Int)) (b:=m) (n:=(U.length:Int)) rfl (by simpa using hm) rfl (by simpa using hl)
    simp only[append_nil]at this
    rw[this];rfl
   rw[if_pos (O2 (by omega))]
   by_cases hgt:V.length<U.length
   ·rw[if_pos (P4 (by omega)),em];obtain⟨U1,U2,rfl,ht⟩:∃U1 U2,U=U1++U2∧U1.length=V.length:=⟨U.take V.length,U.drop V.length,(List.take_append_drop _ _).symm,by rw[List.length_take];omega⟩
    simp only[List.length_append]at hul hgt hl' hm h0 hl
    have e:=JA hN P U1 U2 V S ht cmp (a:=(P.length:Int)) (b:=m) (n:=(V.length:Int)) rfl (by rw[hm];omega) (by rw[ht]) (by simp only[List.length_append];omega);rw[show P++(U1++U2)++V++S=P++U1++U2++V++S by simp,e];simp only[Option.bind_some];rw[N9 (by simp;omega) (by simp;omega)];have:=ih K (P++V) U2 U1 S (by omega) (by omega) (by rintro rfl;simp at hgt;omega) (by rintro rfl;simp at ht;omega) (by rw[hm,List.length_append];omega) (by simp only[List.length_append];omega);rw[show(((U1++U2).length:Nat):Int) - (V.length:Int)=(U2.length:Int) by rw[List.length_append];omega,←ht,this];simp
   rw[if_neg (M5 (by omega)),em];obtain⟨V1,V2,rfl,hd⟩:∃V1 V2,V=V1++V2∧V2.length=U.length:=⟨V.take (V.length - U.length),V.drop (V.length - U.length),(List.take_append_drop _ _).symm,by rw[List.length_drop];omega⟩
   simp only[List.length_append]at hvl hgt hl' hm h0 hl heq
   have e:=JA hN P U V1 V2 S hd.symm cmp (a:=(P.length:Int)) (b:=ar .sub .i64 (ar .add .i64 m ((V1++V2).length:Int)) (U.length:Int)) (n:=(U.length:Int)) rfl (by rw[hm,List.length_append,D4 (by omega) (by omega),N9 (by omega) (by omega)];omega) rfl (by simp only[List.length_append];omega);rw[show P++U++(V1++V2)++S=P++U++V1++V2++S by simp,e];simp only[Option.bind_some];rw[N9 (by simp;omega) (by simp;omega)];have:=ih K P V2 V1 (U++S) (by omega) (by omega) (by rintro rfl;simp at hd;omega) (by rintro rfl;simp at heq;omega) (by rw[hm];omega) (by simp only[List.length_append];omega);rw[show(((V1++V2).length:Nat):Int) - (U.length:Int)=(V1.length:Int) by rw[List.length_append];omega,←hd,show P++V2++V1++U++S=P++V2++V1++(U++S) by simp,this];simp
 have hl':=hl
 simp only[List.length_append]at hl'
 unfold H8
 have e1:ar .sub .i64 m a=(U.length:Int):=by rw[hm,ha,N9 (by omega) (by omega)];omega
 have e2:ar .sub .i64 b m=(V.length:Int):=by rw[hm,hb,N9 (by omega) (by omega)];omega
 rw[e1,e2];exact key (U.length+V.length) N P U V S (Nat.le_refl _) (by omega) hu hv hm hl
end
end Go.Ab
namespace Go.Ab
open Classical
noncomputable section
def cB (x y:BG):Int:=N0 (K6 x.Ref) (K6 y.Ref)
def HP (x y:BG):Prop:=cB x y≤0
def IB (l:List BG):Prop:=l.Pairwise HP
theorem WY (x y:BG):cB y x= - cB x y:=Qm _ _
theorem HP.of_lt {x y:BG}(h:cB x y<0):HP x y:=by unfold HP;omega
theorem HP.of_not {x y:BG}(h:¬cB x y<0):HP y x:=by unfold HP;rw[WY];omega
theorem HP.trans {x y z:BG}(h1:HP x y)(h2:HP y z):HP x z:=by
 unfold HP cB at *
 by_cases e1:N0 (K6 x.Ref) (K6 y.Ref)=0
 ·rw[KQ e1];exact h2
 by_cases e2:N0 (K6 y.Ref) (K6 z.Ref)=0
 ·rw[←KQ e2];exact h1
 have:=Ip (a:=K6 x.Ref) (b:=K6 y.Ref) (c:=K6 z.Ref) (by omega) (by omega);omega
theorem HP.refl (x:BG):HP x x:=by unfold HP cB;rw[Fg];exact Int.le_refl _
variable {N:Nat}{cmp:BG→BG→Option Int}
theorem insB (hN:40000000≤N) (hc:∀x y,cmp x y=some (cB x y)) (P S:List BG) (x:BG) {a:Int} (ha:a=P.length):∀(n K:Nat) (Q1 Q2:List BG),Q1.length≤n→n<K→IB (Q1++Q2)→(∀y∈Q2,cB x y<0)→(P++Q1++x::(Q2++S)).length≤1000000→
 ∃ Z,Z.Perm (Q1++x::Q2)∧IB Z∧loopN (fun(s4:Int×(List A4))=>
  (
   if Ar.cmp .gtr s4.1 a=true then
    (AI (Cu s4.2 s4.1)).bind fun _=>
    (C1 s4.2 s4.1).bind fun x7=>
    (AI (Cu s4.2 (ar .sub .i64 s4.1 1))).bind fun _=>
    (C1 s4.2 (ar .sub .i64 s4.1 1)).bind fun x8=>
    (cmp x7 x8).bind fun r9=>
    if Ar.cmp .lss r9 0=true then
     (FZ s4.2 (ar .sub .i64 s4.1 1) s4.1).bind fun s10=>
     some (.inl (ar .sub .i64 s4.1 1,s10))
    else
     some (.inr s4.2)
   else
    some (.inr s4.2)
   :Option ((Int×(List A4)) ⊕ (((List A4)))))) K (((P.length+Q1.length:Nat):Int),P++Q1++x::(Q2++S))=some (P++Z++S):=by
 intro n
 induction n with
 |zero=>
  intro K Q1 Q2 h1 hK hs hx hl;obtain rfl:Q1=[]:=List.length_eq_zero_iff.1 (by omega);obtain⟨K,rfl⟩:∃q,K=q+1:=⟨K - 1,by omega⟩;refine⟨x::Q2,List.Perm.refl _,List.pairwise_cons.2 ⟨fun y hy=>.of_lt (hx y hy),by simpa[IB]using hs⟩,?_⟩;unfold loopN
  dsimp only
  rw[if_neg (M5 (by rw[ha];simp))];simp
 | succ n ih=>
  intro K Q1 Q2 h1 hK hs hx hl;obtain⟨K,rfl⟩:∃q,K=q+1:=⟨K - 1,by omega⟩
  rcases List.eq_nil_or_concat Q1 with rfl|⟨Q,y,rfl⟩
  ·exact ih (K+1) [] Q2 (by simp) (by omega) hs hx hl
  rw[List.concat_eq_append]at *
  simp only[List.length_append,List.length_cons,List.length_nil]at h1 hl
  have hli:(P++(Q++[y])++x::(Q2++S)).length=P.length+Q.length+1+1+Q2.length+S.length:=by simp;omega
  have i1:P.length+(Q++[y]).length<(P++(Q++[y])++x::(Q2++S)).length:=by rw[hli];simp;omega
  have i2:P.length+Q.length<(P++(Q++[y])++x::(Q2++S)).length:=by rw[hli];omega
  have g1:(P++(Q++[y])++x::(Q2++S))[P.length+(Q++[y]).length]=x:=LV _ _ _ (by simp) i1
  have g2:(P++(Q++[y])++x::(Q2++S))[P.length+Q.length]? =some y:=by
   rw[show P++(Q++[y])++x::(Q2++S)=(P++Q)++y::(x::(Q2++S)) by simp,List.getElem?_append_right (by simp)];simp
  have e1:ar .sub .i64 ((P.length+(Q++[y]).length:Nat):Int) 1=((P.length+Q.length:Nat):Int):=by
   rw[N9 (by simp;omega) (by simp;omega)];simp;omega
  unfold loopN
  dsimp only
  rw[if_pos (P4 (by rw[ha];simp;omega)),EE i1,F2,List.getElem?_eq_getElem i1,g1,e1,EE i2,F2,g2];simp only[Option.bind_some];rw[hc];simp only[Option.bind_some]
  by_cases hlt:cB x y<0
  ·rw[if_pos (L4 hlt)];have hsw:=(Hh (P:=P++Q) (M:=[]) (S:=Q2++S) (x:=y) (y:=x) (i:=P.length+Q.length) (j:=P.length+(Q++[y]).length) (by simp) (by simp;omega)).2;rw[show P++(Q++[y])++x::(Q2++S)=(P++Q)++y::([]++x::(Q2++S)) by simp,hsw];simp only[Option.bind_some]
   have hs':IB (Q++(y::Q2)):=by unfold IB at *;simpa using hs
   have hx':∀z∈y::Q2,cB x z<0:=fun z hz=>by
    rcases List.mem_cons.1 hz with rfl|h
    ·exact hlt
    exact hx z h
   obtain⟨Z,z1,z2,z3⟩:=ih K Q (y::Q2) (by omega) (by omega) hs' hx' (by simp;omega);refine⟨Z,z1.trans ?_,z2,?_⟩
   ·rw[append_assoc];exact List.Perm.append_left Q (List.Perm.swap y x Q2)
   rw[show P++Q++x::([]++y::(Q2++S))=P++Q++x::((y::Q2)++S) by simp];exact z3
  rw[if_neg (K9 hlt)];refine⟨(Q++[y])++x::Q2,List.Perm.refl _,?_,by simp⟩
  unfold IB at *
  rw[List.pairwise_append]at hs ⊢
  refine⟨hs.1,List.pairwise_cons.2 ⟨fun z hz=>.of_lt (hx z hz),hs.2.1⟩,fun z hz w hw=>?_⟩
  have hzy:HP z y:=by
   rcases List.mem_append.1 hz with h|h
   ·have:=hs.1
    rw[List.pairwise_append]at this
    exact this.2.2 z h y (by simp)
   rw[List.mem_singleton.1 h];exact .refl _
  rcases List.mem_cons.1 hw with rfl|h
  ·exact hzy.trans (.of_not hlt)
  exact hs.2.2 z hz w h
theorem LR (hN:40000000≤N) (hc:∀x y,cmp x y=some (cB x y)) (P X S:List BG) {a b:Int} (ha:a=P.length) (hb:b=((P.length+X.length:Nat):Int)) (hl:(P++X++S).length≤1000000):
 ∃Z,Z.Perm X∧IB Z∧D3 N (P++X++S) a b cmp=some (P++Z++S):=by
 have hl':=hl
 simp only[List.length_append]at hl'
 have ha1:ar .add .i64 a 1=((P.length+1:Nat):Int):=by rw[ha,D4 (by omega) (by omega)];omega
 rcases Nat.eq_zero_or_pos X.length with h0|h0
 ·obtain rfl:X=[]:=List.length_eq_zero_iff.1 h0;refine⟨[],List.Perm.refl _,List.Pairwise.nil,?_⟩;unfold D3;obtain⟨K,rfl⟩:∃q,N=q+1:=⟨N - 1,by omega⟩;unfold loopN
  dsimp only
  rw[ha1,if_neg (K9 (by rw[hb];simp;omega))];rfl
 unfold D3
 obtain ⟨t,⟨t1,t2⟩,h⟩:=Hq (N:=N) (m:=X.length - 1) (T:=List BG) (R:=List BG) (step:=fun(s1:Int×(List A4))=>
  (
   if Ar.cmp .lss s1.1 b=true then
    (loopN
     (fun(s4:Int×(List A4))=>
      (
       if Ar.cmp .gtr s4.1 a=true then
        (AI (Cu s4.2 s4.1)).bind fun _=>
        (C1 s4.2 s4.1).bind fun x7=>
        (AI (Cu s4.2 (ar .sub .i64 s4.1 1))).bind fun _=>
        (C1 s4.2 (ar .sub .i64 s4.1 1)).bind fun x8=>
        (cmp x7 x8).bind fun r9=>
        if Ar.cmp .lss r9 0=true then
         (FZ s4.2 (ar .sub .i64 s4.1 1) s4.1).bind fun s10=>
         some (.inl (ar .sub .i64 s4.1 1,s10))
        else
         some (.inr s4.2)
       else
        some (.inr s4.2)
       :Option ((Int×(List A4)) ⊕ (((List A4))))))
     N (s1.1,s1.2)).bind fun s6=>
    some (.inl (ar .add .i64 s1.1 1,s6))
   else
    some (.inr s1.2)
   :Option ((Int×(List A4)) ⊕ (((List A4))))))
  (rep:=fun k t=>(((P.length+1+k:Nat):Int),P++t++(X.drop (k+1)++S))) (I:=fun k t=>t.Perm (X.take (k+1))∧IB t) (res:=fun t=>P++t++S) (fun k hk t ⟨t1,t2⟩=>by
   have hk1:k+1<X.length:=by omega
   have tl:t.length=k+1:=by rw[t1.length_eq,List.length_take];omega
   have ed:P++t++(X.drop (k+1)++S)=P++t++X[k+1]::([]++(X.drop (k+1+1)++S)):=by
    rw[List.drop_eq_getElem_cons hk1];simp only[List.nil_append,cons_append]
   obtain⟨Z,z1,z2,z3⟩:=insB hN hc P (X.drop (k+1+1)++S) X[k+1] ha t.length N t [] (Nat.le_refl _) (by omega) (by simpa using t2) (fun y hy=>absurd hy List.not_mem_nil) (by simp;omega);refine⟨Z,?_,z1.trans ?_,z2⟩
   ·dsimp only
    rw[if_pos (L4 (by rw[hb];omega)),ed]
    rw[show P.length+t.length=P.length+1+k by omega]at z3
    rw[z3];simp only[Option.bind_some];rw[D4 (by omega) (by omega)];rfl
   ·rw[List.take_succ_eq_append_getElem hk1]
    exact List.Perm.append_right _ t1) (fun t _=>by
   dsimp only
   rw[if_neg (K9 (by rw[hb];omega)),List.drop_eq_nil_of_le (by omega),List.nil_append]) (by omega) (t0:=X.take 1) ⟨List.Perm.refl _,by
    unfold IB
    match X with
    |[]=>exact List.Pairwise.nil
    |[x]=>exact List.pairwise_singleton _ _
    |x::_::_=>exact List.pairwise_singleton _ _⟩
 refine⟨t,?_,t2,?_⟩
 ·rw[show X.length - 1+1=X.length by omega,List.take_length]at t1;exact t1
 rw[show P++X.take 1++(X.drop (0+1)++S)=P++X++S by rw[Nat.zero_add,←append_assoc,append_assoc P,List.take_append_drop],show((P.length+1+0:Nat):Int)=ar .add .i64 a 1 by rw[ha1]]at h
 exact congrArg (fun x=>x.bind fun s3=>some s3) h
end
end Go.Ab
namespace Go.Ab
open Classical
noncomputable section
theorem OI {step:Int×Int→Option ((Int×Int) ⊕ Int)} {T:Nat→Bool} {lo hi:Nat}
 (hs:∀i j:Nat,lo≤i→i<j→j≤hi→step ((i:Int),(j:Int))=some (.inl (if T ((i+j) / 2)=true then((((i+j) / 2+1:Nat):Int),(j:Int))else((i:Int),(((i+j) / 2:Nat):Int)))))
 (he:∀i:Nat,step ((i:Int),(i:Int))=some (.inr (i:Int))) (hle:lo≤hi) {N:Nat} (hN:hi - lo<N):
 ∃s:Nat,lo≤s∧s≤hi∧loopN step N ((lo:Int),(hi:Int))=some (s:Int)∧(s=lo∨lo<s∧T (s - 1)=true)∧(s=hi∨s<hi∧T s=false):=by
 have key:∀(d K i j:Nat),j - i≤d→d<K→lo≤i→i≤j→j≤hi→(i=lo∨lo<i∧T (i - 1)=true)→(j=hi∨j<hi∧T j=false)→∃s:Nat,lo≤s∧s≤hi∧loopN step K ((i:Int),(j:Int))=some (s:Int)∧(s=lo∨lo<s∧T (s - 1)=true)∧(s=hi∨s<hi∧T s=false):=by
  intro d
  induction d with
  |zero=>
   intro K i j hd hK h1 h2 h3 h4 h5;obtain⟨K,rfl⟩:∃q,K=q+1:=⟨K - 1,by omega⟩
   obtain rfl:i=j:=by omega
   exact⟨i,h1,h3,by unfold loopN;rw[he],h4,h5⟩
  | succ d ih=>
   intro K i j hd hK h1 h2 h3 h4 h5;obtain⟨K,rfl⟩:∃q,K=q+1:=⟨K - 1,by omega⟩
   rcases Nat.lt_or_ge i j with hij|hij
   ·unfold loopN;rw[hs i j h1 hij h3]
    by_cases ht:T ((i+j) / 2)=true
    ·rw[if_pos ht];exact ih K ((i+j) / 2+1) j (by omega) (by omega) (by omega) (by omega) h3 (.inr ⟨by omega,by rw[show(i+j) / 2+1 - 1=(i+j) / 2 by omega];exact ht⟩) h5
    rw[if_neg ht]
    rw[Bool.not_eq_true]at ht
    exact ih K i ((i+j) / 2) (by omega) (by omega) h1 (by omega) (by omega) h4 (.inr ⟨by omega,ht⟩)
   obtain rfl:i=j:=by omega
   exact⟨i,h1,h3,by unfold loopN;rw[he],h4,h5⟩
 exact key (hi - lo) N lo hi (Nat.le_refl _) hN (Nat.le_refl _) hle (Nat.le_refl _) (.inl rfl) (.inl rfl)
variable {N:Nat}{cmp:BG→BG→Option Int}
theorem ZO (hN:40000000≤N) (P W S:List BG) (x:BG) {a e:Int} (ha:a=P.length) (he:e=((P.length+W.length:Nat):Int)) (hl:(P++x::(W++S)).length≤1000000):
 loopN (fun(s6:Int×(List A4))=>
       (
        if Ar.cmp .lss s6.1 e=true then
         (FZ s6.2 (ar .add .i64 s6.1 1) s6.1).bind fun s9=>
         some (.inl (ar .add .i64 s6.1 1,s9))
        else
         some (.inr s6.2)
        :Option ((Int×(List A4)) ⊕ (((List A4)))))) N (a,P++x::(W++S))=some (P++W++x::S):=by
 simp only[List.length_append,List.length_cons]at hl
 obtain ⟨_,_,h⟩:=Hq (N:=N) (m:=W.length) (T:=Unit) (R:=List BG) (step:=fun(s6:Int×(List A4))=>
         (
          if Ar.cmp .lss s6.1 e=true then
           (FZ s6.2 (ar .add .i64 s6.1 1) s6.1).bind fun s9=>
           some (.inl (ar .add .i64 s6.1 1,s9))
          else
           some (.inr s6.2)
          :Option ((Int×(List A4)) ⊕ (((List A4))))))
  (rep:=fun k _=>(((P.length+k:Nat):Int),P++W.take k++x::(W.drop k++S))) (I:=fun _ _=>True) (res:=fun _=>P++W++x::S) (fun k hk _ _=>by
   refine⟨(),?_,trivial⟩
   dsimp only
   rw[if_pos (L4 (by rw[he];omega)),D4 (by omega) (by omega),show((P.length+k:Nat):Int)+1=((P.length+k+1:Nat):Int) by omega];have:=(Hh (P:=P++W.take k) (M:=[]) (S:=W.drop (k+1)++S) (x:=x) (y:=W[k]) (i:=P.length+k) (j:=P.length+k+1) (by simp;omega) (by simp;omega)).1;rw[List.drop_eq_getElem_cons hk]
   simp only[List.nil_append]at this
   rw[cons_append,this,List.take_succ_eq_append_getElem hk];simp only[Option.bind_some];rw[show P++(W.take k++[W[k]])++x::(W.drop (k+1)++S)=P++W.take k++W[k]::x::(W.drop (k+1)++S) by simp only[append_assoc,cons_append,List.nil_append]]
   rfl) (fun _ _=>by
   dsimp only
   rw[if_neg (K9 (by rw[he];omega)),List.take_length,List.drop_length,List.nil_append]) (by omega) (t0:=()) trivial
 rw[List.take_zero,append_nil,List.drop_zero,Nat.add_zero,←ha]at h
 exact h
theorem ZP (hN:40000000≤N) (P W S:List BG) (y:BG) {a e:Int} (ha:a=((P.length+W.length:Nat):Int)) (he:e=P.length) (hl:(P++W++y::S).length≤1000000):
 loopN (fun(s777:Int×(List A4))=>
  (
   if Ar.cmp .gtr s777.1 e=true then
    (FZ s777.2 (ar .sub .i64 s777.1 1) s777.1).bind fun s780=>
    some (.inl (ar .sub .i64 s777.1 1,s780))
   else
    some (.inr s777.2)
   :Option ((Int×(List A4)) ⊕ (((List A4)))))) N (a,P++W++y::S)=some (P++y::(W++S)):=by
 simp only[List.length_append,List.length_cons]at hl
 obtain⟨_,_,h⟩:=Hq (N:=N) (m:=W.length) (T:=Unit) (R:=List BG) (step:=fun(s777:Int×(List A4))=>
  (
   if Ar.cmp .gtr s777.1 e=true then
    (FZ s777.2 (ar .sub .i64 s777.1 1) s777.1).bind fun s780=>
    some (.inl (ar .sub .i64 s777.1 1,s780))
   else
    some (.inr s777.2)
   :Option ((Int×(List A4)) ⊕ (((List A4))))))
  (rep:=fun k _=>(((P.length+(W.length - k):Nat):Int),P++W.take (W.length - k)++y::(W.drop (W.length - k)++S))) (I:=fun _ _=>True) (res:=fun _=>P++y::(W++S)) (fun k hk _ _=>by
   refine⟨(),?_,trivial⟩;obtain⟨q,hq⟩:∃q,W.length - k=q+1:=⟨W.length - k - 1,by omega⟩
   have hqw:q<W.length:=by omega
   have hq2:W.length - (k+1)=q:=by omega
   dsimp only
   rw[hq,hq2,if_pos (P4 (by rw[he];omega)),N9 (by omega) (by omega),show((P.length+(q+1):Nat):Int) - 1=((P.length+q:Nat):Int) by omega];have:=(Hh (P:=P++W.take q) (M:=[]) (S:=W.drop (q+1)++S) (x:=W[q]) (y:=y) (i:=P.length+q) (j:=P.length+(q+1)) (by simp;omega) (by simp;omega)).2
   simp only[List.nil_append]at this
   rw[List.take_succ_eq_append_getElem hqw,show P++(W.take q++[W[q]])++y::(W.drop (q+1)++S)=P++W.take q++W[q]::y::(W.drop (q+1)++S) by simp only[append_assoc,cons_append,List.nil_append],this];simp only[Option.bind_some]
   rw[List.drop_eq_getElem_cons hqw];rfl) (fun _ _=>by
   dsimp only
   rw[if_neg (M5 (by rw[he];omega)),Nat.sub_self,List.take_zero,List.drop_zero,append_nil]) (by omega) (t0:=()) trivial
 rw[Nat.sub_zero,List.take_length,List.drop_length,List.nil_append,←ha]at h
 exact h
theorem Dl {l:List BG}(h:IB l){i j:Nat}(hij:i≤j)(hj:j<l.length):HP (l[i]'(by omega)) l[j]:=by
 rcases Nat.lt_or_ge i j with h1|h1
 ·exact List.pairwise_iff_getElem.1 h i j (by omega) hj h1
 obtain rfl:i=j:=by omega
 exact .refl _
theorem Y9 {l:List BG}{n:Nat}{x:BG}(h:x∈l.take n):∃i,∃hi:i<l.length,i<n∧l[i]=x:=by
 obtain⟨i,hi,e⟩:=List.mem_iff_getElem.1 h
 rw[List.length_take]at hi
 exact⟨i,by omega,by omega,by rw[←e,List.getElem_take]⟩
theorem BK {l:List BG}{n:Nat}{x:BG}(h:x∈l.drop n):∃i,∃hi:i<l.length,n≤i∧l[i]=x:=by
 obtain⟨i,hi,e⟩:=List.mem_iff_getElem.1 h
 rw[List.length_drop]at hi
 exact⟨n+i,by omega,by omega,by rw[←e,List.getElem_drop]⟩
theorem IB.take {l:List BG}(h:IB l)(n:Nat):IB (l.take n):=List.Pairwise.sublist (List.take_sublist _ _) h
theorem IB.drop {l:List BG}(h:IB l)(n:Nat):IB (l.drop n):=List.Pairwise.sublist (List.drop_sublist _ _) h
theorem Tu {P X Y S:List BG}{k:Nat}(h1:P.length≤k)(h2:k<P.length+X.length):(P++X++Y++S)[k]? =some (X[k - P.length]'(by omega)):=by
 rw[append_assoc,List.getElem?_append_left (by simp;omega),List.getElem?_append_right h1,List.getElem?_eq_getElem]
theorem Qs {P X Y S:List BG}{k:Nat}(h1:P.length+X.length≤k)(h2:k<P.length+X.length+Y.length):(P++X++Y++S)[k]? =some (Y[k - (P.length+X.length)]'(by omega)):=by
 rw[append_assoc,List.getElem?_append_right (by simp;omega),List.getElem?_append_left (by simp;omega),List.getElem?_eq_getElem (by simp;omega)]
 congr 1;simp
theorem JG {l:List BG}{k:Nat}{x:BG}(h:l[k]? =some x):AI (Cu l (k:Int))=some ():=EE (List.getElem?_eq_some_iff.1 h).1
end
end Go.Ab
namespace Go.Ab
open Classical
noncomputable section
variable {N:Nat}{cmp:BG→BG→Option Int}
theorem NU (hN:40000000≤N) (hc:∀x y,cmp x y=some (cB x y)):∀(n:Nat) (P X Y S:List BG) (a m b:Int),X≠[]→Y≠[]→IB X→IB Y→X.length+Y.length≤n→a=P.length→m=((P.length+X.length:Nat):Int)→b=((P.length+X.length+Y.length:Nat):Int)→(P++X++Y++S).length≤100000→
 ∃Z,Z.Perm (X++Y)∧IB Z∧C3 N n (P++X++Y++S) a m b cmp=some (P++Z++S)
 |0,P,X,Y,S,a,m,b,hx,_,_,_,hn,_,_,_,_=>by have:=List.length_pos_iff.2 hx;omega
 | n + 1, P, X,Y,S,a,m,b,hx,hy,sx,sy,hn,ha,hm,hb,hl=>by
  have hxl:=List.length_pos_iff.2 hx;have hyl:=List.length_pos_iff.2 hy;have hl':=hl
  simp only[List.length_append]at hl'
  have lh:∀i j:Nat,i<100000→j≤100000→wr .i64 (sh .shr .u64 (wr .u64 (ar .add .i64 (i:Int) (j:Int))) 1)=(((i+j) / 2:Nat):Int):=fun i j h1 h2=>YD (by omega);unfold C3
  by_cases c1:X.length=1
  ·
   obtain⟨x,rfl⟩:∃x,X=[x]:=by
    match X,c1 with
    |[x],_=>exact⟨x,rfl⟩
   rw[if_pos (R8 (by rw[hm,ha,N9 (by omega) (by omega)];simp;omega))]
   have gx:(P++[x]++Y++S)[P.length]? =some x:=by rw[append_assoc,append_assoc,List.getElem?_append_right (Nat.le_refl _)];simp
   obtain⟨s,s1,s2,s3,s4,s5⟩:=OI (N:=N) (lo:=P.length+1) (hi:=P.length+1+Y.length) (T:=fun h=>decide (cB ((P++[x]++Y++S)[h]?.getD x) x<0)) (step:=fun(s1:Int×Int)=>
    (
     if Ar.cmp .lss s1.1 s1.2=true then
      (AI (Cu (P++[x]++Y++S) (wr .i64 (sh .shr .u64 (wr .u64 (ar .add .i64 s1.1 s1.2)) 1)))).bind fun _=>
      (C1 (P++[x]++Y++S) (wr .i64 (sh .shr .u64 (wr .u64 (ar .add .i64 s1.1 s1.2)) 1))).bind fun x3=>
      (AI (Cu (P++[x]++Y++S) a)).bind fun _=>
      (C1 (P++[x]++Y++S) a).bind fun x4=>
      (cmp x3 x4).bind fun r5=>
      if Ar.cmp .lss r5 0=true then
       some (.inl (ar .add .i64 (wr .i64 (sh .shr .u64 (wr .u64 (ar .add .i64 s1.1 s1.2)) 1)) 1,s1.2))
      else
       some (.inl (s1.1,wr .i64 (sh .shr .u64 (wr .u64 (ar .add .i64 s1.1 s1.2)) 1)))
     else
      some (.inr s1.1)
     :Option ((Int×Int) ⊕ (Int)))) (fun i j h1 h2 h3=>by
    have gy:=Qs (P:=P) (X:=[x]) (Y:=Y) (S:=S) (k:=(i+j) / 2) (by simp;omega) (by simp;omega)
    dsimp only
    rw[if_pos (L4 (by omega)),lh i j (by omega) (by omega),JG gy,F2,gy,ha,JG gx,F2,gx];simp only[Option.bind_some];rw[hc];simp only[Option.bind_some,Option.getD_some]
    by_cases hlt:cB (Y[(i+j) / 2 - (P.length+[x].length)]'(by simp;omega)) x<0
    ·rw[if_pos (L4 hlt),if_pos (decide_eq_true hlt),D4 (by omega) (by omega)];rfl
    rw[if_neg (K9 hlt),if_neg (by simpa using hlt)]) (fun i=>by dsimp only;rw[if_neg (K9 (by omega))]) (by omega) (by omega)
   have em:m=((P.length+1:Nat):Int):=by rw[hm];simp
   have eb:b=((P.length+1+Y.length:Nat):Int):=by rw[hb];simp
   rw[em,eb,s3];simp only[Option.bind_some];obtain⟨q,rfl⟩:∃q,s=P.length+1+q:=⟨s - (P.length+1),by omega⟩;have hsh:=ZO hN P (Y.take q) (Y.drop q++S) x (a:=a) (e:=ar .sub .i64 ((P.length+1+q:Nat):Int) 1) ha (by rw[N9 (by omega) (by omega),List.length_take];omega) (by simp;omega)
   rw[←append_assoc (Y.take q),List.take_append_drop]at hsh
   refine⟨Y.take q++x::Y.drop q,?_,?_,?_⟩
   ·have:(Y.take q++x::Y.drop q).Perm (x::(Y.take q++Y.drop q)):=List.perm_middle
    rw[List.take_append_drop]at this
    exact this
   ·unfold IB;rw[List.pairwise_append]
    have lo:∀y∈Y.take q,HP y x:=by
     intro y hy;obtain⟨i,hi,hiq,rfl⟩:=Y9 hy
     rcases s4 with h|⟨_,h⟩
     ·omega
     rw[show P.length+1+q - 1=P.length+q by omega]at h
     rw[Qs (P:=P) (X:=[x]) (Y:=Y) (S:=S) (k:=P.length+q) (by simp;omega) (by simp;omega)]at h
     have h:=of_decide_eq_true h
     simp only[Option.getD_some]at h
     exact(Dl sy (i:=i) (j:=P.length+q - (P.length+[x].length)) (by simp;omega) (by simp;omega)).trans (.of_lt h)
    have hi2:∀y∈Y.drop q,HP x y:=by
     intro y hy;obtain⟨i,hi,hiq,rfl⟩:=BK hy
     rcases s5 with h|⟨hh,h⟩
     ·omega
     rw[Qs (P:=P) (X:=[x]) (Y:=Y) (S:=S) (k:=P.length+1+q) (by simp) (by simp;omega)]at h
     have h:=of_decide_eq_false h
     simp only[Option.getD_some]at h
     exact(HP.of_not h).trans (Dl sy (i:=P.length+1+q - (P.length+[x].length)) (j:=i) (by simp;omega) hi)
    refine⟨sy.take q,List.pairwise_cons.2 ⟨hi2,sy.drop q⟩,fun y hy z hz=>?_⟩
    rcases List.mem_cons.1 hz with rfl|hz
    ·exact lo y hy
    exact(lo y hy).trans (hi2 z hz)
   have:P++[x]++Y++S=P++x::(Y++S):=by simp
   rw[this];refine(congrArg (fun x=>x.bind fun s8=>some s8) hsh).trans ?_;simp
  rw[if_neg (UJ (by rw[hm,ha,N9 (by omega) (by omega)];omega))]
  by_cases c2:Y.length=1
  ·
   obtain⟨y,rfl⟩:∃y,Y=[y]:=by
    match Y,c2 with
    |[y],_=>exact⟨y,rfl⟩
   rw[if_pos (R8 (by rw[hm,hb,N9 (by simp;omega) (by simp;omega)];simp;omega))]
   have gx:(P++X++[y]++S)[P.length+X.length]? =some y:=by
    have:=Qs (P:=P) (X:=X) (Y:=[y]) (S:=S) (k:=P.length+X.length) (Nat.le_refl _) (by simp);rw[this];simp
   obtain⟨s,s1,s2,s3,s4,s5⟩:=OI (N:=N) (lo:=P.length) (hi:=P.length+X.length) (T:=fun h=> !decide (cB y ((P++X++[y]++S)[h]?.getD y)<0)) (step:=fun(s772:Int×Int)=>
    (
     if Ar.cmp .lss s772.1 s772.2=true then
      (AI (Cu (P++X++[y]++S) m)).bind fun _=>
      (C1 (P++X++[y]++S) m).bind fun x774=>
      (AI (Cu (P++X++[y]++S) (wr .i64 (sh .shr .u64 (wr .u64 (ar .add .i64 s772.1 s772.2)) 1)))).bind fun _=>
      (C1 (P++X++[y]++S) (wr .i64 (sh .shr .u64 (wr .u64 (ar .add .i64 s772.1 s772.2)) 1))).bind fun x775=>
      (cmp x774 x775).bind fun r776=>
      if Ar.nt (Ar.cmp .lss r776 0)=true then
       some (.inl (ar .add .i64 (wr .i64 (sh .shr .u64 (wr .u64 (ar .add .i64 s772.1 s772.2)) 1)) 1,s772.2))
      else
       some (.inl (s772.1,wr .i64 (sh .shr .u64 (wr .u64 (ar .add .i64 s772.1 s772.2)) 1)))
     else
      some (.inr s772.1)
     :Option ((Int×Int) ⊕ (Int)))) (fun i j h1 h2 h3=>by
    have gy:=Tu (P:=P) (X:=X) (Y:=[y]) (S:=S) (k:=(i+j) / 2) (by omega) (by omega)
    dsimp only
    rw[if_pos (L4 (by omega)),hm,JG gx,F2,gx,lh i j (by omega) (by omega),JG gy,F2,gy];simp only[Option.bind_some];rw[hc];simp only[Option.bind_some,Option.getD_some]
    by_cases hlt:cB y (X[(i+j) / 2 - P.length]'(by omega))<0
    ·rw[if_neg (by rw[V3,L4 hlt];simp),if_neg (by simpa using hlt)]
    rw[if_pos (by rw[V3];have:=K9 hlt;rw[Bool.not_eq_true]at this;rw[this];rfl),if_pos (by simpa using hlt),D4 (by omega) (by omega)];rfl) (fun i=>by dsimp only;rw[if_neg (K9 (by omega))]) (by omega) (by omega)
   rw[←ha,←hm]at s3
   rw[s3,hm];simp only[Option.bind_some];obtain⟨q,rfl⟩:∃q,s=P.length+q:=⟨s - P.length,by omega⟩;have hsh:=ZP hN (P++X.take q) (X.drop q) S y (a:=((P.length+X.length:Nat):Int)) (e:=((P.length+q:Nat):Int)) (by simp;omega) (by simp;omega) (by simp;omega);refine⟨X.take q++y::X.drop q,?_,?_,?_⟩
   ·have:(X.take q++y::X.drop q).Perm (y::(X.take q++X.drop q)):=List.perm_middle
    rw[List.take_append_drop]at this
    exact this.trans (List.perm_append_singleton y X).symm
   ·unfold IB;rw[List.pairwise_append]
    have lo:∀x∈X.take q,HP x y:=by
     intro x hx;obtain⟨i,hi,hiq,rfl⟩:=Y9 hx
     rcases s4 with h|⟨_,h⟩
     ·omega
     rw[Tu (P:=P) (X:=X) (Y:=[y]) (S:=S) (k:=P.length+q - 1) (by omega) (by omega)]at h
     simp only[Option.getD_some,Bool.not_eq_true',decide_eq_false_iff_not]at h
     exact(Dl sx (i:=i) (j:=P.length+q - 1 - P.length) (by omega) (by omega)).trans (.of_not h)
    have hi2:∀x∈X.drop q,HP y x:=by
     intro x hx;obtain⟨i,hi,hiq,rfl⟩:=BK hx
     rcases s5 with h|⟨hh,h⟩
     ·omega
     rw[Tu (P:=P) (X:=X) (Y:=[y]) (S:=S) (k:=P.length+q) (by omega) (by omega)]at h
     simp only[Option.getD_some,Bool.not_eq_false',decide_eq_true_eq]at h
     exact(HP.of_lt h).trans (Dl sx (i:=P.length+q - P.length) (j:=i) (by omega) hi)
    refine⟨sx.take q,List.pairwise_cons.2 ⟨hi2,sx.drop q⟩,fun x hx z hz=>?_⟩
    rcases List.mem_cons.1 hz with rfl|hz
    ·exact lo x hx
    exact(lo x hx).trans (hi2 z hz)
   have:P++X++[y]++S=(P++X.take q)++X.drop q++y::S:=by
    rw[append_assoc P (X.take q),List.take_append_drop];simp
   rw[this];refine(congrArg (fun x=>x.bind fun s8=>some s8) hsh).trans ?_;simp
  rw[if_neg (UJ (by rw[hm,hb,N9 (by omega) (by omega)];omega))];have gx:=fun k h1 h2=>Tu (P:=P) (X:=X) (Y:=Y) (S:=S) (k:=k) h1 h2;have gy:=fun k h1 h2=>Qs (P:=P) (X:=X) (Y:=Y) (S:=S) (k:=k) h1 h2;obtain⟨mid,hmid⟩:∃mid:Nat,mid=(P.length+(P.length+X.length+Y.length)) / 2:=⟨_,rfl⟩
  have emid:wr .i64 (sh .shr .u64 (wr .u64 (ar .add .i64 a b)) 1)=(mid:Int):=by rw[ha,hb,lh _ _ (by omega) (by omega),hmid]
  rw[emid]
  have en:ar .add .i64 (mid:Int) m=((mid+(P.length+X.length):Nat):Int):=by rw[hm,D4 (by omega) (by omega)];omega
  rw[en]
  obtain ⟨lo,hi,e1,h1,h2,h3,h4,h5⟩:∃lo hi:Nat,(if Ar.cmp .gtr m (mid:Int)=true then
          some (ar .sub .i64 ((mid+(P.length+X.length):Nat):Int) b,(mid:Int))
   else
    some (a,m):Option (Int×Int))=some ((lo:Int),(hi:Int))∧lo≤hi∧P.length≤lo∧hi≤mid∧hi≤P.length+X.length∧
   ((lo=P.length∧hi=P.length+X.length∧P.length+X.length≤mid)∨(lo+(P.length+X.length+Y.length)=mid+(P.length+X.length)∧hi=mid∧mid<P.length+X.length)):=by
   by_cases hg:mid<P.length+X.length
   ·refine⟨mid+(P.length+X.length) - (P.length+X.length+Y.length),mid,?_,by omega,by omega,Nat.le_refl _,by omega,.inr ⟨by omega,rfl,hg⟩⟩;rw[if_pos (P4 (by rw[hm];omega)),hb,N9 (by omega) (by omega),show((mid+(P.length+X.length):Nat):Int) - ((P.length+X.length+Y.length:Nat):Int)=((mid+(P.length+X.length) - (P.length+X.length+Y.length):Nat):Int) by omega]
   refine⟨P.length,P.length+X.length,?_,by omega,Nat.le_refl _,by omega,Nat.le_refl _,.inl ⟨rfl,rfl,by omega⟩⟩;rw[if_neg (M5 (by rw[hm];omega)),ha,hm]
  rw[e1];simp only[Option.bind_some]
  obtain ⟨s, s1,s2,s3,s4,s5⟩:=OI (N:=N) (lo:=lo) (hi:=hi) (T:=fun c=>if h:P.length≤c∧c<P.length+X.length∧P.length+X.length≤mid+(P.length+X.length) - 1 - c∧mid+(P.length+X.length) - 1 - c<P.length+X.length+Y.length then !decide (cB (Y[mid+(P.length+X.length) - 1 - c - (P.length+X.length)]'(by omega)) (X[c - P.length]'(by omega))<0)else false) (step:=fun(s1544:Int×Int)=>
          (
           if Ar.cmp .lss s1544.1 s1544.2=true then
            (AI (Cu (P++X++Y++S) (ar .sub .i64 (ar .sub .i64 ((mid+(P.length+X.length):Nat):Int) 1) (wr .i64 (sh .shr .u64 (wr .u64 (ar .add .i64 s1544.1 s1544.2)) 1))))).bind fun _=>
            (C1 (P++X++Y++S) (ar .sub .i64 (ar .sub .i64 ((mid+(P.length+X.length):Nat):Int) 1) (wr .i64 (sh .shr .u64 (wr .u64 (ar .add .i64 s1544.1 s1544.2)) 1)))).bind fun x1546=>
            (AI (Cu (P++X++Y++S) (wr .i64 (sh .shr .u64 (wr .u64 (ar .add .i64 s1544.1 s1544.2)) 1)))).bind fun _=>
            (C1 (P++X++Y++S) (wr .i64 (sh .shr .u64 (wr .u64 (ar .add .i64 s1544.1 s1544.2)) 1))).bind fun x1547=>
            (cmp x1546 x1547).bind fun r1548=>
            if Ar.nt (Ar.cmp .lss r1548 0)=true then
             some (.inl (ar .add .i64 (wr .i64 (sh .shr .u64 (wr .u64 (ar .add .i64 s1544.1 s1544.2)) 1)) 1,s1544.2))
            else
             some (.inl (s1544.1,wr .i64 (sh .shr .u64 (wr .u64 (ar .add .i64 s1544.1 s1544.2)) 1)))
           else
            some (.inr s1544.1)
           :Option ((Int×Int) ⊕ (Int)))) (fun i j k1 k2 k3=>by
   have hc0:P.length≤(i+j) / 2∧(i+j) / 2<P.length+X.length∧P.length+X.length≤mid+(P.length+X.length) - 1 - (i+j) / 2∧mid+(P.length+X.length) - 1 - (i+j) / 2<P.length+X.length+Y.length:=by omega
   have ep:ar .sub .i64 (ar .sub .i64 ((mid+(P.length+X.length):Nat):Int) 1) (((i+j) / 2:Nat):Int)=((mid+(P.length+X.length) - 1 - (i+j) / 2:Nat):Int):=by
    rw[N9 (a:=((mid+(P.length+X.length):Nat):Int)) (by omega) (by omega),N9 (by omega) (by omega)];omega
   dsimp only
   rw[if_pos (L4 (by omega)),lh i j (by omega) (by omega),ep,JG (gy _ hc0.2.2.1 hc0.2.2.2),F2,gy _ hc0.2.2.1 hc0.2.2.2,JG (gx _ hc0.1 hc0.2.1),F2,gx _ hc0.1 hc0.2.1];simp only[Option.bind_some];rw[hc];simp only[Option.bind_some];rw[dif_pos hc0]
   by_cases hlt:cB (Y[mid+(P.length+X.length) - 1 - (i+j) / 2 - (P.length+X.length)]'(by omega)) (X[(i+j) / 2 - P.length]'(by omega))<0
   ·rw[if_neg (by rw[V3,L4 hlt];simp),if_neg (by simpa using hlt)]
   rw[if_pos (by rw[V3];have:=K9 hlt;rw[Bool.not_eq_true]at this;rw[this];rfl),if_pos (by simpa using hlt),D4 (by omega) (by omega)];rfl) (fun i=>by dsimp only;rw[if_neg (K9 (by omega))]) h1 (by omega)
  rw[s3];simp only[Option.bind_some];obtain⟨u,hu⟩:∃u:Nat,s=P.length+u:=⟨s - P.length,by omega⟩;obtain⟨v,hv⟩:∃v:Nat,mid=P.length+u+v:=⟨mid - s,by omega⟩
  have hvY:v≤Y.length:=by omega
  have huX:u≤X.length:=by omega
  have eend:ar .sub .i64 ((mid+(P.length+X.length):Nat):Int) (s:Int)=((P.length+X.length+v:Nat):Int):=by rw[N9 (by omega) (by omega)];omega
  rw[eend]
  have lx1:(X.take u).length=u:=by rw[List.length_take];omega
  have lx2:(X.drop u).length=X.length - u:=List.length_drop
  have ly1:(Y.take v).length=v:=by rw[List.length_take];omega
  have ly2:(Y.drop v).length=Y.length - v:=List.length_drop;have eX:X=X.take u++X.drop u:=(List.take_append_drop _ _).symm;have eY:Y=Y.take v++Y.drop v:=(List.take_append_drop _ _).symm
  have f1:∀x∈X.take u,∀y∈Y.drop v,HP x y:=by
   intro x hx y hy;obtain⟨i,hi,hiu,rfl⟩:=Y9 hx;obtain⟨j,hj,hjv,rfl⟩:=BK hy
   rcases s4 with h|⟨hh,h⟩
   ·omega
   have hc0:P.length≤s - 1∧s - 1<P.length+X.length∧P.length+X.length≤mid+(P.length+X.length) - 1 - (s - 1)∧mid+(P.length+X.length) - 1 - (s - 1)<P.length+X.length+Y.length:=by omega
   rw[dif_pos hc0]at h
   simp only[Bool.not_eq_true',decide_eq_false_iff_not]at h
   exact((Dl sx (i:=i) (j:=s - 1 - P.length) (by omega) (by omega)).trans (.of_not h)).trans (Dl sy (i:=mid+(P.length+X.length) - 1 - (s - 1) - (P.length+X.length)) (j:=j) (by omega) hj)
  have f2:∀y∈Y.take v,∀x∈X.drop u,HP y x:=by
   intro y hy x hx;obtain⟨i,hi,hiu,rfl⟩:=BK hx;obtain⟨j,hj,hjv,rfl⟩:=Y9 hy
   rcases s5 with h|⟨hh,h⟩
   ·omega
   have hc0:P.length≤s∧s<P.length+X.length∧P.length+X.length≤mid+(P.length+X.length) - 1 - s∧mid+(P.length+X.length) - 1 - s<P.length+X.length+Y.length:=by omega
   rw[dif_pos hc0]at h
   simp only[Bool.not_eq_false',decide_eq_true_eq]at h
   exact((Dl sy (i:=j) (j:=mid+(P.length+X.length) - 1 - s - (P.length+X.length)) (by omega) (by omega)).trans (.of_lt h)).trans (Dl sx (i:=s - P.length) (j:=i) (by omega) hi)
  have f3:∀x∈X.take u,∀z∈X.drop u,HP x z:=by
   intro x hx z hz;obtain⟨i,hi,hiu,rfl⟩:=Y9 hx;obtain⟨j,hj,hju,rfl⟩:=BK hz;exact Dl sx (by omega) hj
  have f4:∀x∈Y.take v,∀z∈Y.drop v,HP x z:=by
   intro x hx z hz;obtain⟨i,hi,hiu,rfl⟩:=Y9 hx;obtain⟨j,hj,hju,rfl⟩:=BK hz;exact Dl sy (by omega) hj
  have r1 :(if an (Ar.cmp .lss (s:Int) m) (Ar.cmp .lss m ((P.length+X.length+v:Nat):Int))=true then
          (H8 N (P++X++Y++S) (s:Int) m ((P.length+X.length+v:Nat):Int) cmp).bind fun l1550=>
          some l1550
   else
    some (P++X++Y++S):Option (List A4))=some (P++X.take u++Y.take v++X.drop u++Y.drop v++S):=by
   by_cases hh:u<X.length∧0<v
   ·rw[if_pos (by rw[K0,L4 (by rw[hm];omega),L4 (by rw[hm];omega)];rfl)];have:=Ug hN cmp (P++X.take u) (X.drop u) (Y.take v) (Y.drop v++S) (a:=(s:Int)) (m:=m) (b:=((P.length+X.length+v:Nat):Int)) (by intro h;rw[h]at lx2;simp at lx2;omega) (by intro h;rw[h]at ly1;simp at ly1;omega) (by rw[List.length_append,lx1,hu]) (by rw[List.length_append,lx1,lx2,hm];omega) (by rw[List.length_append,lx1,lx2,ly1];omega) (by simp only[List.length_append,lx1,lx2,ly1,ly2];omega)
    have e9:P++X++Y++S=P++X.take u++X.drop u++Y.take v++(Y.drop v++S):=by
     rw[append_assoc P (X.take u),←eX,←append_assoc,append_assoc (P++X) (Y.take v),←eY]
    rw[e9,this];simp
   rw[if_neg (by
    rw[K0];intro h
    rw[and_eq_true,C8,C8,decide_eq_true_eq,decide_eq_true_eq,hm]at h
    omega)]
   rcases Nat.lt_or_ge u X.length with hux|hux
   ·obtain rfl:v=0:=by omega
    rw[List.take_zero,List.drop_zero,append_nil,append_assoc P (X.take u),←eX]
   rw[List.take_of_length_le hux,List.drop_eq_nil_of_le hux,append_nil,append_assoc (P++X) (Y.take v),←eY]
  rw[r1];simp only[Option.bind_some];have ema:(a:Int)=P.length:=ha
  obtain ⟨Z1,z1,z2,z3⟩:∃Z1,Z1.Perm (X.take u++Y.take v)∧IB Z1∧(if an (Ar.cmp .lss a (s:Int)) (Ar.cmp .lss (s:Int) (mid:Int))=true then
          (C3 N n (P++X.take u++Y.take v++X.drop u++Y.drop v++S) a (s:Int) (mid:Int) cmp).bind fun l1553=>
          some l1553
   else
    some (P++X.take u++Y.take v++X.drop u++Y.drop v++S):Option (List A4))=some (P++Z1++(X.drop u++Y.drop v++S)):=by
   by_cases hh:0<u∧0<v
   ·rw[if_pos (by rw[K0,L4 (by rw[ha];omega),L4 (by omega)];rfl)];obtain⟨Z,q1,q2,q3⟩:=NU hN hc n P (X.take u) (Y.take v) (X.drop u++Y.drop v++S) a (s:Int) (mid:Int) (by intro h;rw[h]at lx1;simp at lx1;omega) (by intro h;rw[h]at ly1;simp at ly1;omega) (sx.take u) (sy.take v) (by rw[lx1,ly1];omega) ha (by rw[lx1,hu]) (by rw[lx1,ly1,hv]) (by simp only[List.length_append,lx1,lx2,ly1,ly2];omega);refine⟨Z,q1,q2,?_⟩;rw[show P++X.take u++Y.take v++X.drop u++Y.drop v++S=P++X.take u++Y.take v++(X.drop u++Y.drop v++S) by simp only[append_assoc],q3];rfl
   rw[if_neg (by
    rw[K0];intro h
    rw[and_eq_true,C8,C8,decide_eq_true_eq,decide_eq_true_eq,ha]at h
    omega)]
   refine⟨X.take u++Y.take v,List.Perm.refl _,?_,by simp only[append_assoc]⟩
   rcases Nat.eq_zero_or_pos u with hu0|hu0
   ·rw[hu0,List.take_zero,List.nil_append];exact sy.take v
   obtain rfl:v=0:=by omega
   rw[List.take_zero,append_nil];exact sx.take u
  rw[z3];simp only[Option.bind_some]
  have lz1:Z1.length=u+v:=by rw[z1.length_eq,List.length_append,lx1,ly1]
  obtain⟨Z2,y1,y2,y3⟩:∃Z2,Z2.Perm (X.drop u++Y.drop v)∧IB Z2∧(if an (Ar.cmp .lss (mid:Int) ((P.length+X.length+v:Nat):Int)) (Ar.cmp .lss ((P.length+X.length+v:Nat):Int) b)=true then
   (C3 N n (P++Z1++(X.drop u++Y.drop v++S)) (mid:Int) ((P.length+X.length+v:Nat):Int) b cmp).bind fun l1555=>
   some l1555
   else
    some (P++Z1++(X.drop u++Y.drop v++S)):Option (List A4))=some (P++Z1++Z2++S):=by
   by_cases hh:u<X.length∧v<Y.length
   ·rw[if_pos (by rw[K0,L4 (by omega),L4 (by rw[hb];omega)];rfl)];obtain⟨Z,q1,q2,q3⟩:=NU hN hc n (P++Z1) (X.drop u) (Y.drop v) S (mid:Int) ((P.length+X.length+v:Nat):Int) b (by intro h;rw[h]at lx2;simp at lx2;omega) (by intro h;rw[h]at ly2;simp at ly2;omega) (sx.drop u) (sy.drop v) (by rw[lx2,ly2];omega) (by rw[List.length_append,lz1];omega) (by rw[List.length_append,lz1,lx2];omega) (by rw[List.length_append,lz1,lx2,ly2,hb];omega) (by simp only[List.length_append,lz1,lx2,ly2];omega);refine⟨Z,q1,q2,?_⟩;rw[show P++Z1++(X.drop u++Y.drop v++S)=P++Z1++X.drop u++Y.drop v++S by simp only[append_assoc],q3];rfl
   rw[if_neg (by
    rw[K0];intro h
    rw[and_eq_true,C8,C8,decide_eq_true_eq,decide_eq_true_eq,hb]at h
    omega)]
   refine⟨X.drop u++Y.drop v,List.Perm.refl _,?_,by simp only[append_assoc]⟩
   rcases Nat.lt_or_ge u X.length with hux|hux
   ·rw[List.drop_eq_nil_of_le (show Y.length≤v by omega),append_nil];exact sx.drop u
   rw[List.drop_eq_nil_of_le hux,List.nil_append];exact sy.drop v
  rw[y3];refine⟨Z1++Z2,?_,?_,by simp only[append_assoc]⟩
  ·refine(z1.append y1).trans ?_
   have:(X.take u++Y.take v++(X.drop u++Y.drop v)).Perm (X.take u++X.drop u++(Y.take v++Y.drop v)):=by
    simp only[append_assoc];refine List.Perm.append_left _ ?_;rw[←append_assoc,←append_assoc];exact List.Perm.append_right _ List.perm_append_comm
   rw[List.take_append_drop,List.take_append_drop]at this
   exact this
  unfold IB;rw[List.pairwise_append];refine⟨z2,y2,fun x hx z hz=>?_⟩;have hx':=z1.mem_iff.1 hx;have hz':=y1.mem_iff.1 hz
  rcases List.mem_append.1 hx' with hx'|hx'<;>rcases List.mem_append.1 hz' with hz'|hz'
  ·exact f3 x hx' z hz'
  ·exact f1 x hx' z hz'
  ·exact f2 x hx' z hz'
  exact f4 x hx' z hz'
end
end Go.Ab
namespace Go.Ab
open Classical
noncomputable section
variable {N:Nat}{cmp:BG→BG→Option Int}
theorem LH {B:Nat}(h:B≤1000000):ar .mul .i64 2 (B:Int)=((2*B:Nat):Int)∧ar .mul .i64 (B:Int) 2=((2*B:Nat):Int):=by
 have e1:ar .mul .i64 2 (B:Int)=IntKind.wrap .i64 (2*(B:Int)):=rfl;have e2:ar .mul .i64 (B:Int) 2=IntKind.wrap .i64 ((B:Int)*2):=rfl;rw[e1,e2,EW (by omega) (by omega),EW (by omega) (by omega)];omega
def Bs (B:Nat)(l:List BG):Prop:=∀k,IB ((l.drop (k*B)).take B)
theorem WZ (B:Nat):Bs B []:=fun k=>by rw[List.drop_nil,List.take_nil];exact List.Pairwise.nil
theorem Mq {B i:Nat} {D Z:List BG} (h:Bs B D) (hD:D.length=i*B) (hZ:IB Z) (hl:Z.length≤B):Bs B (D++Z):=by
 intro k
 rcases Nat.lt_or_ge k i with hk|hk
 ·have h1:(k+1)*B≤i*B:=Nat.mul_le_mul_right B hk
  rw[add_mul,Nat.one_mul]at h1
  rw[List.drop_append_of_le_length (by omega),List.take_append_of_le_length (by rw[List.length_drop];omega)];exact h k
 have h1:i*B≤k*B:=Nat.mul_le_mul_right B hk;rw[List.drop_append,List.drop_eq_nil_of_le (by omega),List.nil_append];exact(hZ.drop _).take _
theorem YR {B i:Nat}{D R:List BG}(h:Bs B (D++R))(hD:D.length=i*B):Bs B R:=by
 intro k;have:=h (i+k)
 rw[add_mul,←hD,List.drop_append,List.drop_eq_nil_of_le (by omega),List.nil_append,Nat.add_sub_cancel_left]at this
 exact this
theorem SD {B:Nat}{l:List BG}(h:Bs B l)(hl:l.length≤B):IB l:=by
 have:=h 0
 rw[Nat.zero_mul,List.drop_zero,List.take_of_length_le hl]at this
 exact this
theorem st1 (hN:40000000≤N) (hc:∀x y,cmp x y=some (cB x y)) {L:Nat} (hL:L≤5000):∀(d K i:Nat) (D R:List BG),L - i*20≤d→d<K→D.length=i*20→D.length+R.length=L→Bs 20 D→
 ∃ i' D' R',loopN (fun(s1:Int×Int×(List A4))=>
  (
   if Ar.cmp .leq s1.2.1 (L:Int)=true then
    (D3 N s1.2.2 s1.1 s1.2.1 cmp).bind fun l4=>
    some (.inl (s1.2.1,ar .add .i64 s1.2.1 20,l4))
   else
    some (.inr (s1.1,s1.2.2))
   :Option ((Int×Int×(List A4)) ⊕ ((Int×(List A4)))))) K (((i*20:Nat):Int),(((i+1)*20:Nat):Int),D++R)=some (((i'*20:Nat):Int),D'++R')∧D'.length=i'*20∧Bs 20 D'∧R'.length≤20∧(D'++R').Perm (D++R):=by
 intro d
 induction d with
 |zero=>
  intro K i D R hd hK hD hR hB;obtain⟨K,rfl⟩:∃q,K=q+1:=⟨K - 1,by omega⟩;refine⟨i,D,R,?_,hD,hB,by omega,List.Perm.refl _⟩;unfold loopN
  dsimp only
  rw[if_neg (by rw[Ac,decide_eq_true_eq];omega)]
 | succ d ih=>
  intro K i D R hd hK hD hR hB;obtain⟨K,rfl⟩:∃q,K=q+1:=⟨K - 1,by omega⟩
  by_cases hle:(i+1)*20≤L
  ·obtain⟨Z,z1,z2,z3⟩:=LR hN hc D (R.take 20) (R.drop 20) (a:=((i*20:Nat):Int)) (b:=(((i+1)*20:Nat):Int)) (by rw[hD]) (by rw[List.length_take,hD];omega) (by simp;omega)
   rw[append_assoc,List.take_append_drop]at z3
   have lz:Z.length=20:=by rw[z1.length_eq,List.length_take];omega
   obtain⟨i',D',R',e1,e2,e3,e4,e5⟩:=ih K (i+1) (D++Z) (R.drop 20) (by omega) (by omega) (by rw[List.length_append,hD,lz];omega) (by rw[List.length_append,List.length_drop,lz];omega) (Mq hB hD z2 (by omega));refine⟨i',D',R',?_,e2,e3,e4,e5.trans ?_⟩
   ·unfold loopN
    dsimp only
    rw[if_pos (by rw[Ac,decide_eq_true_eq];omega),z3];simp only[Option.bind_some];rw[D4 (by omega) (by omega),show(((i+1)*20:Nat):Int)+20=(((i+1+1)*20:Nat):Int) by omega];exact e1
   rw[append_assoc];refine List.Perm.append_left D ?_;have:=z1.append_right (R.drop 20)
   rw[List.take_append_drop]at this
   exact this
  refine⟨i,D,R,?_,hD,hB,by omega,List.Perm.refl _⟩;unfold loopN
  dsimp only
  rw[if_neg (by rw[Ac,decide_eq_true_eq];omega)]
theorem st2 (hN:40000000≤N) (hc:∀x y,cmp x y=some (cB x y)) {L B:Nat} (hL:L≤5000) (hB0:1≤B) (hB1:B≤5000):∀(d K i:Nat) (D R:List BG),L - i*(2*B)≤d→d<K→D.length=i*(2*B)→D.length+R.length=L→Bs (2*B) D→Bs B R→
 ∃ i' D' R',loopN (fun(s10:Int×Int×(List A4))=>
  (
   if Ar.cmp .leq s10.2.1 (L:Int)=true then
    (C3 N N s10.2.2 s10.1 (ar .add .i64 s10.1 (B:Int)) s10.2.1 cmp).bind fun l13=>
    some (.inl (s10.2.1,ar .add .i64 s10.2.1 (ar .mul .i64 2 (B:Int)),l13))
   else
    some (.inr (s10.1,s10.2.2))
   :Option ((Int×Int×(List A4)) ⊕ ((Int×(List A4)))))) K (((i*(2*B):Nat):Int),((i*(2*B)+2*B:Nat):Int),D++R)=some (((i'*(2*B):Nat):Int),D'++R')∧D'.length=i'*(2*B)∧Bs (2*B) D'∧Bs B R'∧R'.length<2*B∧(D'++R').Perm (D++R):=by
 intro d
 induction d with
 |zero=>
  intro K i D R hd hK hD hR hB hC;obtain⟨K,rfl⟩:∃q,K=q+1:=⟨K - 1,by omega⟩;refine⟨i,D,R,?_,hD,hB,hC,by omega,List.Perm.refl _⟩;unfold loopN
  dsimp only
  rw[if_neg (by rw[Ac,decide_eq_true_eq];omega)]
 | succ d ih=>
  intro K i D R hd hK hD hR hB hC;obtain⟨K,rfl⟩:∃q,K=q+1:=⟨K - 1,by omega⟩
  by_cases hle:i*(2*B)+2*B≤L
  ·have h0:=hC 0;have h1:=hC 1
   rw[Nat.zero_mul,List.drop_zero]at h0
   rw[Nat.one_mul]at h1
   have lx:(R.take B).length=B:=by rw[List.length_take];omega
   have ly:((R.drop B).take B).length=B:=by rw[List.length_take,List.length_drop];omega
   have eR:R=R.take B++((R.drop B).take B++R.drop (2*B)):=by
    rw[show 2*B=B+B by omega,←List.drop_drop,List.take_append_drop,List.take_append_drop]
   obtain⟨Z,z1,z2,z3⟩:=NU hN hc N D (R.take B) ((R.drop B).take B) (R.drop (2*B)) ((i*(2*B):Nat):Int) (ar .add .i64 ((i*(2*B):Nat):Int) (B:Int)) ((i*(2*B)+2*B:Nat):Int) (by intro h;rw[h]at lx;simp at lx;omega) (by intro h;rw[h]at ly;simp at ly;omega) h0 h1 (by rw[lx,ly];omega) (by rw[hD]) (by rw[D4 (by omega) (by omega),lx,hD];omega) (by rw[lx,ly,hD];omega) (by rw[append_assoc,append_assoc,←eR];simp;omega)
   rw[append_assoc D,append_assoc D,append_assoc (R.take B),←eR]at z3
   have lz:Z.length=2*B:=by rw[z1.length_eq,List.length_append,lx,ly];omega
   obtain⟨i',D',R',e1,e2,e3,e4,e5,e6⟩:=ih K (i+1) (D++Z) (R.drop (2*B)) (by rw[add_mul,Nat.one_mul];omega) (by omega) (by rw[List.length_append,hD,lz,add_mul,Nat.one_mul]) (by rw[List.length_append,List.length_drop,lz];omega) (Mq hB hD z2 (by omega)) (YR (i:=2) (D:=R.take (2*B)) (by rw[List.take_append_drop];exact hC) (by rw[List.length_take];omega));refine⟨i',D',R',?_,e2,e3,e4,e5,e6.trans ?_⟩
   ·unfold loopN
    dsimp only
    rw[if_pos (by rw[Ac,decide_eq_true_eq];omega),z3];simp only[Option.bind_some];have em:=(LH (B:=B) (by omega)).1;rw[em,D4 (by omega) (by omega),show((i*(2*B)+2*B:Nat):Int)=(((i+1)*(2*B):Nat):Int) by rw[add_mul,Nat.one_mul],show(((i+1)*(2*B):Nat):Int)+((2*B:Nat):Int)=(((i+1)*(2*B)+2*B:Nat):Int) by omega]
    rw[em]at e1
    exact e1
   rw[append_assoc];refine List.Perm.append_left D ?_;have:=z1.append_right (R.drop (2*B))
   rw[append_assoc,←eR]at this
   exact this
  refine⟨i,D,R,?_,hD,hB,hC,by omega,List.Perm.refl _⟩;unfold loopN
  dsimp only
  rw[if_neg (by rw[Ac,decide_eq_true_eq];omega)]
theorem st3 (hN:40000000≤N) (hc:∀x y,cmp x y=some (cB x y)) {L:Nat} (hL:L≤5000):∀(d K B:Nat) (l:List BG),L - B≤d→d<K→1≤B→B≤10000→l.length=L→Bs B l→
 ∃ l', loopN (fun(s7:Int×(List A4))=>
  (
   if Ar.cmp .lss s7.1 (L:Int)=true then
    (loopN
     (fun(s10:Int×Int×(List A4))=>
      (
       if Ar.cmp .leq s10.2.1 (L:Int)=true then
        (C3 N N s10.2.2 s10.1 (ar .add .i64 s10.1 s7.1) s10.2.1 cmp).bind fun l13=>
        some (.inl (s10.2.1,ar .add .i64 s10.2.1 (ar .mul .i64 2 s7.1),l13))
       else
        some (.inr (s10.1,s10.2.2))
       :Option ((Int×Int×(List A4)) ⊕ ((Int×(List A4))))))
     N (0,ar .mul .i64 2 s7.1,s7.2)).bind fun s12=>
    if Ar.cmp .lss (ar .add .i64 s12.1 s7.1) (L:Int)=true then
     (C3 N N s12.2 s12.1 (ar .add .i64 s12.1 s7.1) (L:Int) cmp).bind fun l15=>
     some (.inl (ar .mul .i64 s7.1 2,l15))
    else
     some (.inl (ar .mul .i64 s7.1 2,s12.2))
   else
    some (.inr s7.2)
   :Option ((Int×(List A4)) ⊕ (((List A4)))))) K ((B:Int),l)=some l'∧l'.Perm l∧IB l':=by
 intro d
 induction d with
 |zero=>
  intro K B l hd hK h1 h2 hl hB;obtain⟨K,rfl⟩:∃q,K=q+1:=⟨K - 1,by omega⟩;refine⟨l,?_,List.Perm.refl _,SD hB (by omega)⟩;unfold loopN
  dsimp only
  rw[if_neg (K9 (by omega))]
 | succ d ih=>
  intro K B l hd hK h1 h2 hl hB;obtain⟨K,rfl⟩:∃q,K=q+1:=⟨K - 1,by omega⟩
  by_cases hlt:B<L
  ·have em:=(LH (B:=B) (by omega)).1;have em2:=(LH (B:=B) (by omega)).2;obtain⟨i',D',R',e1,e2,e3,e4,e5,e6⟩:=st2 hN hc hL h1 (by omega) L N 0 [] l (by omega) (by omega) (by simp) (by simpa using hl) (WZ _) hB
   rw[Nat.zero_mul,Nat.zero_add,List.nil_append]at e1
   rw[List.nil_append]at e6
   have el:=e6.length_eq
   rw[List.length_append]at el
   obtain⟨M,hM,p1,p2⟩:∃M,(if Ar.cmp .lss (ar .add .i64 ((i'*(2*B):Nat):Int) (B:Int)) (L:Int)=true then
    (C3 N N (D'++R') ((i'*(2*B):Nat):Int) (ar .add .i64 ((i'*(2*B):Nat):Int) (B:Int)) (L:Int) cmp).bind fun l15=>
    some (.inl (ar .mul .i64 (B:Int) 2,l15))
    else
     some (.inl (ar .mul .i64 (B:Int) 2,D'++R')):Option ((Int×(List A4)) ⊕ (((List A4)))))=some (.inl (((2*B:Nat):Int),M))∧M.Perm l∧Bs (2*B) M:=by
    rw[em2,D4 (by omega) (by omega)]
    by_cases hr:B<R'.length
    ·rw[if_pos (L4 (by omega))];have h0:=e4 0;have h3:=e4 1
     rw[Nat.zero_mul,List.drop_zero]at h0
     rw[Nat.one_mul,List.take_of_length_le (by rw[List.length_drop];omega)]at h3
     have lx:(R'.take B).length=B:=by rw[List.length_take];omega
     have ly:(R'.drop B).length=R'.length - B:=List.length_drop;obtain⟨Z,z1,z2,z3⟩:=NU hN hc N D' (R'.take B) (R'.drop B) [] ((i'*(2*B):Nat):Int) (((i'*(2*B):Nat):Int)+(B:Int)) (L:Int) (by intro h;rw[h]at lx;simp at lx;omega) (by intro h;rw[h]at ly;simp at ly;omega) h0 h3 (by rw[lx,ly];omega) (by rw[e2]) (by rw[lx,e2];omega) (by rw[lx,ly];omega) (by simp;omega)
     rw[append_nil,append_assoc,List.take_append_drop,append_nil]at z3
     have lz:=z1.length_eq
     rw[List.take_append_drop]at z1 lz
     refine⟨D'++Z,by rw[z3];rfl,(z1.append_left D').trans e6,Mq e3 e2 z2 (by omega)⟩
    rw[if_neg (K9 (by omega))];exact⟨D'++R',rfl,e6,Mq e3 e2 (SD e4 (by omega)) (by omega)⟩
   have hMl:=p1.length_eq;obtain⟨l',f1,f2,f3⟩:=ih K (2*B) M (by omega) (by omega) (by omega) (by omega) (by omega) p2;refine⟨l',?_,f2.trans p1,f3⟩;unfold loopN
   dsimp only
   rw[if_pos (L4 (by omega)),em]
   rw[em]at e1
   rw[show(((0:Nat):Nat):Int)=0 from rfl]at e1
   rw[e1];simp only[Option.bind_some];rw[hM];exact f1
  refine⟨l,?_,List.Perm.refl _,SD hB (by omega)⟩;unfold loopN
  dsimp only
  rw[if_neg (K9 (by omega))]
theorem VA (hN:40000000≤N) (hc:∀x y,cmp x y=some (cB x y)) {l:List BG} (hl:l.length≤5000):∃l',J1 N l (l.length:Int) cmp=some l'∧l'.Perm l∧IB l':=by
 obtain⟨i,D,R,e1,e2,e3,e4,e5⟩:=st1 (L:=l.length) hN hc hl l.length N 0 [] l (by omega) (by omega) (by simp) (by simp) (WZ _)
 rw[List.nil_append]at e1 e5
 have el:=e5.length_eq
 rw[List.length_append]at el
 obtain⟨Z,z1,z2,z3⟩:=LR hN hc D R [] (a:=((i*20:Nat):Int)) (b:=(l.length:Int)) (by rw[e2]) (by omega) (by simp;omega)
 rw[append_nil,append_nil]at z3
 have lz:=z1.length_eq;obtain⟨l',f1,f2,f3⟩:=st3 (L:=l.length) hN hc hl l.length N 20 (D++Z) (by omega) (by omega) (by omega) (by omega) (by rw[List.length_append];omega) (Mq e3 e2 z2 (by omega));refine⟨l',?_,f2.trans ((z1.append_left D).trans e5),f3⟩;unfold J1
 have e1':loopN (fun(s1:Int×Int×(List A4))=>
  (
   if Ar.cmp .leq s1.2.1 (l.length:Int)=true then
    (D3 N s1.2.2 s1.1 s1.2.1 cmp).bind fun l4=>
    some (.inl (s1.2.1,ar .add .i64 s1.2.1 20,l4))
   else
    some (.inr (s1.1,s1.2.2))
   :Option ((Int×Int×(List A4)) ⊕ ((Int×(List A4)))))) N (0,20,l)=some (((i*20:Nat):Int),D++R):=e1
 rw[e1'];simp only[Option.bind_some];rw[z3];simp only[Option.bind_some];exact congrArg (fun x=>x.bind fun s9=>some s9) f1
end
end Go.Ab
namespace Go.Ab
open Classical
noncomputable section
variable {N:Nat}
theorem NC (hN:40000000≤N):∀(n:Nat) (p:A0) (d:A2),KT d≤n→n≤N→FY d≤4096→KF p→p.pre.length≤64→NV d p=0→M1 N n p d=some (QV d p)
 |0,p,d,h,_,_,_,_,_=>by rw[AT]at h;omega
 | n + 1, p,d,h,hnN,hs,hw,hpp,hsu=>by
  have hsz:=Fu d;have hdp:=AT d;have hkl:=BT d.Kids;unfold M1;rw[OJ]
  by_cases h0:p.Op=0
  ·rw[if_pos (R8 h0),if_pos h0]
  rw[if_neg (UJ h0),if_neg h0];have hS:=Vv hsu
  have pre:∀(i:Nat) (hi:i<d.Kids.length),KT d.Kids[i]≤n∧FY d.Kids[i]≤4096∧KF (AU p d.Choice i)∧(AU p d.Choice i).pre.length≤64∧NV d.Kids[i] (AU p d.Choice i)=0:=by
   intro i hi;have hm:=List.getElem_mem hi;have hma:=(V5 hw.self hS.n hi hS.c).1;have h1:=Ck hm;have h2:=BS hm;have h3:=BY hma;exact⟨by omega,by omega,hw.arg hma,by omega,hS.k i hi⟩
  by_cases h2:p.Op=2
  ·rw[if_pos (R8 h2)];have hc:=hS.c h2;have hone:=hS.one h0 (by omega) (by omega)
   have hi:0<d.Kids.length:=by omega
   have ha:=(V5 hw.self hS.n hi hS.c).2.2.1 h2
   have hci:C1 p.cK d.Choice=some (AU p d.Choice 0):=by
    obtain⟨m,hm⟩:=Int.eq_ofNat_of_zero_le hc.1;rw[hm,F2]
    rw[hm,Int.toNat_natCast]at ha
    rw[ha]
   have hk:C1 d.Kids 0=some d.Kids[0]:=by
    rw[show(0:Int)=((0:Nat):Int)from rfl,F2,List.getElem?_eq_getElem hi]
   obtain⟨q1,q2,q3,q4,q5⟩:=pre 0 hi;rw[hci,hk];simp only[Option.bind_some];rw[NC hN n _ _ q1 (by omega) q2 q3 q4 q5];simp only[Option.bind_some]
   obtain⟨k0,hk0⟩:∃k0,d.Kids=[k0]:=by
    match hk:d.Kids,hone with
    |[k0],_=>exact⟨k0,rfl⟩
   have e4:d.Kids[0]=k0:=by simp[hk0]
   rw[e4,hk0,GX,GX,append_nil]
  rw[if_neg (UJ h2)]
  obtain ⟨t,h1,h3⟩:=Hq (N:=N) (m:=d.Kids.length) (T:=List A4) (R:=List A4) (step:=fun(s8:Int×(List A4))=>
          (
           if Ar.cmp .lss s8.1 (Ar.len d.Kids)=true then
            (C1 d.Kids s8.1).bind fun x11=>
            (AI (Ar.cmp .neq (Ar.len p.cK) 0)).bind fun _=>
            (C1 p.cK (ar .rem .i64 s8.1 (Ar.len p.cK))).bind fun x13=>
            (H7 N n x13 x11).bind fun r14=>
            (S8 s8.2 r14).bind fun l16=>
            some (.inl (ar .add .i64 s8.1 1,l16))
           else
            some (.inr s8.2)
           :Option ((Int×(List A4)) ⊕ (((List A4))))))
   (rep:=fun i t=>((i:Int),t)) (I:=BI d.Kids p d.Choice) (res:=fun t=>t) (fun i hi t hI=>by
    dsimp only
    have hne:p.cK≠[]:=fun e=>by
     have:=(V5 hw.self hS.n hi hS.c).1
     rw[e]at this;cases this
    have hq:AI (Ar.cmp .neq (Ar.len p.cK) 0)=some ():=by
     unfold AI;rw[if_pos (O2 (by rw[C0];have:=List.length_pos_iff.2 hne;omega))]
    obtain⟨e1,e2⟩:=hI.next hi;obtain⟨q1,q2,q3,q4,q5⟩:=pre i hi;refine⟨_,?_,e2⟩;rw[if_pos (FF (by omega)),F2,List.getElem?_eq_getElem hi,hq,TG hw hpp hS h0 h2 hi];simp only[Option.bind_some];rw[QE hN n _ _ q1 q2 q3 q4 q5];simp only[Option.bind_some];rw[e1];simp only[Option.bind_some]
    rw[D4 (by omega) (by omega)];rfl) (fun t _=>by dsimp only;rw[if_neg JJ]) (by omega) (t0:=[]) (.start (by omega))
  have h4:=h1.stop;subst h4
  rw[show((0:Nat):Int)=0 from rfl]at h3
  rw[h3];rfl
def Vc (l:List BG):Prop:=l.Pairwise fun x y=>cB x y<0
def KN (l:List BG):Prop:=(l.map fun x=>K6 x.Ref).Nodup
theorem Jh {x y:BG}:cB x y=0↔K6 x.Ref=K6 y.Ref:=⟨fun h=>KQ h,fun h=>by unfold cB;rw[h,Fg]⟩
theorem Wq {x y z:BG} (h1:cB x y<0) (h2:HP y z):cB x z<0:=by
 unfold HP at h2
 by_cases e:cB y z=0
 ·have:=Jh.1 e
  unfold cB at *
  rw[←this];exact h1
 exact Ip h1 (by unfold cB at *;omega)
theorem Vc.kn {l:List BG}(h:Vc l):KN l:=by
 unfold KN List.Nodup;rw[List.pairwise_map];refine h.imp fun{x y} hxy e=>?_;have:=Jh.2 e;omega
theorem KN.perm {a b:List BG}(p:a.Perm b)(h:KN a):KN b:=(p.map _).nodup_iff.1 h
theorem Vx {l:List BG} (h:IB l) (hd:∀i (hi:i+1<l.length),K6 l[i].Ref≠K6 l[i+1].Ref):Vc l:=by
 unfold Vc;rw[List.pairwise_iff_getElem];intro i j hi hj hij;have h1:=Dl h (i:=i) (j:=i+1) (by omega) (by omega);have h2:=Dl h (i:=i+1) (j:=j) (by omega) hj
 have h3:cB l[i] l[i+1]<0:=by
  unfold HP at h1
  have:cB l[i] l[i+1]≠0:=fun e=>hd i (by omega) (Jh.1 e);omega
 exact Wq h3 h2
theorem Vw {a b:List BG}(ha:Vc a)(hb:Vc b)(p:a.Perm b):a=b:=by
 refine List.Perm.eq_of_pairwise (le:=fun x y=>cB x y<0) (fun x y _ _ h1 h2=>?_) ha hb p;have:=WY x y;omega
theorem RA (hN:40000000≤N) {l:List BG} (hl:l.length≤4096):(∃t,AJ N l=some (t,true)∧Vc t∧t.Perm l)∨(AJ N l=some ([],false)∧¬KN l):=by
 unfold AJ
 have ins:∀(x:BG) (t:List BG) (k K:Nat),Vc t→k≤t.length→t.length≤4096→k<K→(∀y∈t.drop k,cB x y<0)→∃s:Nat,s≤t.length∧(∀y∈t.drop s,cB x y<0)∧(s=0∨∃y,t[s - 1]? =some y∧0<s∧¬cB x y<0)∧∀i:Int,C1 l i=some x→loopN (fun(s3:Int)=>
  (
   if Ar.cmp .gtr s3 0=true then
    (C1 l i).bind fun x5=>
    (C1 t (ar .sub .i64 s3 1)).bind fun x6=>
    (L8 N x5.Ref x6.Ref).bind fun r7=>
    if Ar.cmp .lss r7 0=true then
     some (.inl (ar .sub .i64 s3 1))
    else
     some (.inr s3)
   else
    some (.inr s3)
   :Option ((Int) ⊕ (Int)))) K (k:Int)=some (s:Int):=by
  intro x t k
  induction k with
  |zero=>
   intro K _ _ _ hK hd;obtain⟨K,rfl⟩:∃q,K=q+1:=⟨K - 1,by omega⟩;refine⟨0,Nat.zero_le _,hd,.inl rfl,fun i hi=>?_⟩;unfold loopN;rw[if_neg (M5 (by omega))]
  | succ k ih=>
   intro K hs hk ht hK hd;obtain⟨K,rfl⟩:∃q,K=q+1:=⟨K - 1,by omega⟩
   have hkt:k<t.length:=by omega
   by_cases hc:cB x t[k]<0
   ·obtain⟨s,a1,a2,a3,a4⟩:=ih K hs (by omega) ht (by omega) (fun y hy=>by
     rw[List.drop_eq_getElem_cons hkt]at hy
     rcases List.mem_cons.1 hy with rfl|hy
     ·exact hc
     exact hd y hy)
    refine⟨s,a1,a2,a3,fun i hi=>?_⟩;unfold loopN;rw[if_pos (P4 (by omega)),hi,N9 (by omega) (by omega),show((k+1:Nat):Int) - 1=(k:Int) by omega,F2,List.getElem?_eq_getElem hkt];simp only[Option.bind_some];rw[PC];simp only[Option.bind_some];rw[if_pos (L4 (show N0 (K6 x.Ref) (K6 t[k].Ref)<0 from hc))];have h9:=a4 i hi
    rw[hi]at h9
    simp only[Option.bind_some]at h9
    exact h9
   refine⟨k+1,hk,hd,.inr ⟨t[k],by simp[hkt],by omega,hc⟩,fun i hi=>?_⟩;unfold loopN;rw[if_pos (P4 (by omega)),hi,N9 (by omega) (by omega),show((k+1:Nat):Int) - 1=(k:Int) by omega,F2,List.getElem?_eq_getElem hkt];simp only[Option.bind_some];rw[PC];simp only[Option.bind_some];rw[if_neg (K9 (show¬N0 (K6 x.Ref) (K6 t[k].Ref)<0 from hc))]
 have cut:∀(t:List BG) (s:Nat) (x:BG) (i:Int),s≤t.length→t.length≤4096→C1 l i=some x→((K7 t none (some (s:Int)) none).bind fun l10=>
  (S8 ([]:List BG) l10).bind fun l13=>
  (C1 l i).bind fun x14=>
  (S8 l13 ([x14])).bind fun l16=>
  (K7 t (some (s:Int)) none none).bind fun l17=>
  (S8 l16 l17).bind fun l20=>
  some (.inl (l20,ar .add .i64 i 1)):Option (((List A4)×Int) ⊕ (((List A4)) ⊕ Unit)))=some (.inl (t.take s++[x]++t.drop s,ar .add .i64 i 1)):=by
  intro t s x i hs ht hi;have e1:K7 t none (some (s:Int)) none=some (t.take s):=Lc hs
  have e2:K7 t (some (s:Int)) none none=some (t.drop s):=by
   unfold K7;rw[if_pos (by simp;omega)];simp only[Option.getD_some,Option.getD_none,Int.toNat_natCast];rw[List.take_of_length_le (by rw[List.length_drop];omega)]
  rw[e1];simp only[Option.bind_some];rw[Jn (by simp;omega)];simp only[Option.bind_some];rw[hi];simp only[Option.bind_some];rw[Jn (by simp;omega)];simp only[Option.bind_some];rw[e2];simp only[Option.bind_some];rw[Jn (by simp;omega)];simp
 have hloop:=Ql (N:=N) (m:=l.length) (T:=List BG) (R:=List BG) (Bad:=¬KN l) (rep:=fun i t=>(t,(i:Int))) (I:=fun i t=>Vc t∧t.Perm (l.take i)) (res:=fun t=>t) (t0:=[]) (step:=fun(s1:(List A4)×Int)=>
  (
   if Ar.cmp .lss s1.2 (Ar.len l)=true then
    (loopN
     (fun(s3:Int)=>
      (
       if Ar.cmp .gtr s3 0=true then
        (C1 l s1.2).bind fun x5=>
        (C1 s1.1 (ar .sub .i64 s3 1)).bind fun x6=>
        (L8 N x5.Ref x6.Ref).bind fun r7=>
        if Ar.cmp .lss r7 0=true then
         some (.inl (ar .sub .i64 s3 1))
        else
         some (.inr s3)
       else
        some (.inr s3)
       :Option ((Int) ⊕ (Int))))
     N (Ar.len s1.1)).bind fun s4=>
    if Ar.cmp .gtr s4 0=true then
     (C1 s1.1 (ar .sub .i64 s4 1)).bind fun x8=>
     (C1 l s1.2).bind fun x9=>
     if an (Ar.cmp .eql x8.Ref.Time x9.Ref.Time) (an (Ar.cmp .eql x8.Ref.Source x9.Ref.Source) (an (Ar.cmp .eql x8.Ref.Seq x9.Ref.Seq) true))=true then
      some (.inr (.inr ()))
     else
      (K7 s1.1 none (some s4) none).bind fun l10=>
      (S8 ([]) l10).bind fun l13=>
      (C1 l s1.2).bind fun x14=>
      (S8 l13 ([x14])).bind fun l16=>
      (K7 s1.1 (some s4) none none).bind fun l17=>
      (S8 l16 l17).bind fun l20=>
      some (.inl (l20,ar .add .i64 s1.2 1))
    else
     (K7 s1.1 none (some s4) none).bind fun l21=>
     (S8 ([]) l21).bind fun l24=>
     (C1 l s1.2).bind fun x25=>
     (S8 l24 ([x25])).bind fun l27=>
     (K7 s1.1 (some s4) none none).bind fun l28=>
     (S8 l27 l28).bind fun l31=>
     some (.inl (l31,ar .add .i64 s1.2 1))
   else
    some (.inr (.inl s1.1))
   :Option (((List A4)×Int) ⊕ (((List A4)) ⊕ Unit)))) (fun i hi t ⟨t1,t2⟩=>by
  have lt:t.length=i:=by rw[t2.length_eq,List.length_take];omega
  have hx:C1 l (i:Int)=some l[i]:=by rw[F2,List.getElem?_eq_getElem hi]
  obtain⟨s,s1,s2,s3,s4⟩:=ins l[i] t t.length N t1 (Nat.le_refl _) (by omega) (by omega) (by simp);have e4:=s4 (i:Int) hx
  dsimp only
  rw[if_pos (FF (by omega)),C0 t,e4];simp only[Option.bind_some]
  have ea:ar .add .i64 (i:Int) 1=((i+1:Nat):Int):=by rw[D4 (by omega) (by omega)];omega
  have prm:(t.take s++[l[i]]++t.drop s).Perm (l.take (i+1)):=by
   rw[List.take_succ_eq_append_getElem hi,append_assoc];have h1:(t.take s++([l[i]]++t.drop s)).Perm (l[i]::(t.take s++t.drop s)):=List.perm_middle
   rw[List.take_append_drop]at h1
   exact h1.trans ((List.Perm.cons _ t2).trans (List.perm_append_singleton _ _).symm)
  have sor:(∀y∈t.take s,cB y l[i]<0)→Vc (t.take s++[l[i]]++t.drop s):=by
   intro hlo;unfold Vc;rw[append_assoc,List.pairwise_append];refine⟨List.Pairwise.sublist (List.take_sublist _ _) t1,?_,?_⟩
   ·exact List.pairwise_cons.2 ⟨s2,List.Pairwise.sublist (List.drop_sublist _ _) t1⟩
   intro y hy z hz
   rcases List.mem_cons.1 hz with rfl|hz
   ·exact hlo y hy
   exact Wq (hlo y hy) (.of_lt (s2 z hz))
  rcases s3 with rfl|⟨y,hy,h0,hyx⟩
  ·rw[if_neg (M5 (by omega))];refine .inr ⟨t.take 0++[l[i]]++t.drop 0,?_,sor (fun y hy=>by rw[List.take_zero]at hy;cases hy),prm⟩;rw[cut t 0 l[i] (i:Int) (by omega) (by omega) hx,ea]
  have e5:C1 t (ar .sub .i64 (s:Int) 1)=some y:=by
   rw[N9 (by omega) (by omega),show(s:Int) - 1=((s - 1:Nat):Int) by omega,F2];exact hy
  have hyt:y∈t:=List.mem_of_getElem? hy;rw[if_pos (P4 (by omega)),e5,hx];simp only[Option.bind_some]
  have eqk:(an (Ar.cmp .eql y.Ref.Time l[i].Ref.Time) (an (Ar.cmp .eql y.Ref.Source l[i].Ref.Source) (an (Ar.cmp .eql y.Ref.Seq l[i].Ref.Seq) true))=true)↔K6 y.Ref=K6 l[i].Ref:=by
   simp only[K0,G5,K6];simp
  by_cases hk:K6 y.Ref=K6 l[i].Ref
  ·rw[if_pos (eqk.2 hk)];refine .inl ⟨fun hkn=>?_,rfl⟩;have hyl:y∈l.take i:=t2.mem_iff.1 hyt;obtain⟨j,hj,hji,hjy⟩:=Y9 hyl;have:=List.pairwise_iff_getElem.1 hkn j i (by simpa using hj) (by simpa using hi) hji
   simp only[List.getElem_map]at this
   rw[hjy]at this
   exact this hk
  rw[if_neg fun h=>hk (eqk.1 h)];refine .inr ⟨t.take s++[l[i]]++t.drop s,?_,sor (fun z hz=>?_),prm⟩
  ·have:=cut t s l[i] (i:Int) (by omega) (by omega) hx
   rw[hx]at this
   simp only[Option.bind_some]at this
   rw[this,ea]
  have hyl:cB y l[i]<0:=by
   have h1:=HP.of_not hyx
   unfold HP at h1
   have:cB y l[i]≠0:=fun e=>hk (Jh.1 e);omega
  obtain⟨j,hj,hjs,rfl⟩:=Y9 hz
  have hs1:s - 1<t.length:=by omega
  have ey:y=t[s - 1]:=by rw[List.getElem?_eq_getElem hs1]at hy;exact(Option.some.inj hy).symm
  rcases Nat.lt_or_ge j (s - 1)with h|h
  ·have:=List.pairwise_iff_getElem.1 t1 j (s - 1) hj hs1 h
   rw[←ey]at this
   exact Wq this (.of_lt hyl)
  have:t[j]=y:=by rw[ey];congr 1;omega
  rw[this];exact hyl) (fun t _=>by dsimp only;rw[if_neg JJ]) (by omega) ⟨List.Pairwise.nil,by rw[List.take_zero]⟩
 rw[show((0:Nat):Int)=0 from rfl]at hloop
 rcases hloop with⟨h1,h2⟩|⟨t,⟨h1,h2⟩,h3⟩
 ·rw[h2];exact .inr ⟨rfl,h1⟩
 rw[h3]
 rw[List.take_length]at h2
 exact .inl ⟨t,rfl,h1,h2⟩
theorem Sr (hN:40000000≤N)(x y:BG):N1 N x y=some (cB x y):=by
 unfold N1 AP;rw[WP hN];rfl
theorem RT (hN:40000000≤N) {p:A0} (hb:p.bulk≤16777216) {d:A2} (hd:KT d≤30000000) (hs:FY d≤30000000):∃r,Q0 N p d=some r∧CY N p d=some r∧r.1.cP.length≤4096:=by
 unfold Q0 CY;rw[NB hN hb hd hs,Kc hN hb hd hs];simp only[Option.bind_some]
 by_cases hk:ckD N p d=0
 case neg=>exact⟨_,by rw[if_pos (O2 hk)],by rw[if_pos (O2 hk)],by simp⟩
 obtain⟨hc,h5,hsu⟩:=WU hk;obtain⟨hw,hpp⟩:=Jx hN hb hc;have hl:=SE d p;rw[if_neg (R6 hk),if_neg (R6 hk),NC hN N p d (by omega) (Nat.le_refl _) h5 hw hpp hsu,PI hN N p d (by omega) h5 hw hsu];simp only[Option.bind_some];obtain⟨l',e1,e2,e3⟩:=VA (N:=N) (cmp:=fun y1 y2=>N1 N y1 y2) hN (fun x y=>Sr hN x y) (l:=QV d p) (by omega);have ll:=e2.length_eq;unfold I0;rw[C0,e1];simp only[Option.bind_some]
 have eqk:∀x y:BG,(an (Ar.cmp .eql x.Ref.Time y.Ref.Time) (an (Ar.cmp .eql x.Ref.Source y.Ref.Source) (an (Ar.cmp .eql x.Ref.Seq y.Ref.Seq) true))=true)↔K6 x.Ref=K6 y.Ref:=by
  intro x y;simp only[K0,G5,K6];simp
 have hlp:=LK (A:=Unit) (n:=l'.length) (P:=fun i=>match l'[i - 1]?,l'[i]? with|some x,some y=>decide (K6 x.Ref=K6 y.Ref)|_,_=>false) (u:=()) (step:=fun(s6:Int)=>
  (
   if Ar.cmp .lss s6 (Ar.len l')=true then
    (AI (Cu l' (ar .sub .i64 s6 1))).bind fun _=>
    (C1 l' (ar .sub .i64 s6 1)).bind fun x8=>
    (AI (Cu l' s6)).bind fun _=>
    (C1 l' s6).bind fun x9=>
    if an (Ar.cmp .eql x8.Ref.Time x9.Ref.Time) (an (Ar.cmp .eql x8.Ref.Source x9.Ref.Source) (an (Ar.cmp .eql x8.Ref.Seq x9.Ref.Seq) true))=true then
     some (.inr (.inr ()))
    else
     some (.inl (ar .add .i64 s6 1))
   else
    some (.inr (.inl ()))
   :Option ((Int) ⊕ (Unit ⊕ Unit)))) 1 (fun i h1 hi=>by
  have h0:i - 1<l'.length:=by omega
  rw[if_pos (FF (by omega)),N9 (by omega) (by omega),show(i:Int) - 1=((i - 1:Nat):Int) by omega,EE h0,F2,List.getElem?_eq_getElem h0,EE hi,F2,List.getElem?_eq_getElem hi];simp only[Option.bind_some];rw[D4 (by omega) (by omega)]
  by_cases hkk:K6 l'[i - 1].Ref=K6 l'[i].Ref
  ·rw[if_pos ((eqk _ _).2 hkk),if_pos (decide_eq_true hkk)]
  rw[if_neg fun h=>hkk ((eqk _ _).1 h),if_neg (by simpa using hkk)]) (fun i hi=>by rw[if_neg (K9 (by rw[C0];omega))]) l'.length 1 N (by omega) (Nat.le_refl _) (by omega)
 rw[show((1:Nat):Int)=1 from rfl]at hlp
 rw[hlp]
 rcases RA hN (l:=QV d p) (by omega)with⟨t,f1,f2,f3⟩|⟨f1,f2⟩
 ·
  have hkn:KN l':=KN.perm (f3.trans e2.symm) f2.kn
  have hst:Vc l':=Vx e3 fun i hi e=>by
   have:=List.pairwise_iff_getElem.1 hkn i (i+1) (by simp;omega) (by simpa using hi) (by omega)
   simp only[List.getElem_map]at this
   exact this e
  have het:l'=t:=Vw hst f2 (e2.trans f3.symm)
  have hany:¬(List.range' 1 (l'.length - 1)).any (fun i=>match l'[i - 1]?,l'[i]? with|some x,some y=>decide (K6 x.Ref=K6 y.Ref)|_,_=>false)=true:=by
   rw[List.any_eq_true];rintro⟨i,hi,h⟩
   rw[List.mem_range'_1]at hi
   have h0:i - 1<l'.length:=by omega
   have h1:i<l'.length:=by omega
   rw[List.getElem?_eq_getElem h0,List.getElem?_eq_getElem h1]at h
   have:=List.pairwise_iff_getElem.1 hst (i - 1) i h0 h1 (by omega);have e:=Jh.2 (of_decide_eq_true h);omega
  rw[if_neg hany,f1];simp only[Option.bind_some];rw[if_neg (by simp[V3]),Yn hN (by omega),VL hN (by rw[←het];omega),het];simp only[Option.bind_some]
  by_cases hm:WV t=0
  ·exact⟨_,by rw[if_neg (R6 hm)],by rw[if_neg (R6 hm)],by show t.length≤4096;rw[←het];omega⟩
  exact⟨_,by rw[if_pos (O2 hm)],by rw[if_pos (O2 hm)],by simp⟩
 have hany:(List.range' 1 (l'.length - 1)).any (fun i=>match l'[i - 1]?,l'[i]? with|some x,some y=>decide (K6 x.Ref=K6 y.Ref)|_,_=>false)=true:=by
  rcases Classical.em ((List.range' 1 (l'.length - 1)).any (fun i=>match l'[i - 1]?,l'[i]? with|some x,some y=>decide (K6 x.Ref=K6 y.Ref)|_,_=>false)=true)with h|h
  ·exact h
  refine absurd (KN.perm e2 (Vx e3 fun i hi e=>h ?_).kn) f2;rw[List.any_eq_true];refine⟨i+1,by rw[List.mem_range'_1];omega,?_⟩
  have h0:i+1 - 1<l'.length:=by omega
  rw[List.getElem?_eq_getElem h0,List.getElem?_eq_getElem hi];exact decide_eq_true e
 rw[if_pos hany,f1];simp only[Option.bind_some];exact⟨_,rfl,by rw[if_pos (by simp[V3])],by simp⟩
theorem Sx (hN:40000000≤N) (haw:BM N=some true) {p:A0} (hb:p.bulk≤16777216) {d:A2} (hs:FY d≤16777216):T7 N p d=some true:=by
 unfold T7;obtain⟨b,h1,h2⟩:=Ag0 hN hb [] (d:=d) (by omega);rw[h1,haw];simp only[Option.bind_some]
 cases b with
 |false=>rfl
 |true=>
  obtain⟨h3,h4,h5⟩:=h2 rfl;rw[if_neg (by simp[V3])];obtain⟨r,r1,r2,r3⟩:=RT hN hb (d:=d) (by omega) (by omega);rw[r1,r2];simp only[Option.bind_some];rw[if_pos trivial,NB hN hb (by omega) (by omega),Kc hN hb (by omega) (by omega)];simp only[Option.bind_some];rw[if_pos (R8 rfl),XQ hN (by omega) (by omega),Yp];simp only[Option.bind_some];rw[if_pos (by rw[K0,R8 rfl,R8 rfl];rfl),Md hN N d (by omega) (by omega),IN hN N d (by omega) (by omega)];simp only[Option.bind_some];rw[R8 rfl]
end
end Go.Ab
