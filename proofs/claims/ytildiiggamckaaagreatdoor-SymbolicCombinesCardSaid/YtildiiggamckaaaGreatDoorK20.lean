/- . -/
import Derived.Test.YtildiiggamckaaaGreatDoorK19
set_option linter.all false
open Go.Ab.Ar (ar cmp mn mx nt)
namespace Go.Ab
def Rp (s:A0):Nat→Nat→Prop
 |0,i=>i=0
 |l+1,i=>∃j,Rp s l j∧Ed s j i
structure NB (s:A0) (T:List Int) (S:List (Int×Bool)):Prop where
 tru:Tru S
 ok:∀k,(k,true)∈S→∃i l:Nat,k=(i:Int)∧i<s.cT.length∧Rp s l i
 sub:∀k∈T,(k,true)∈S
 le:T.length≤S.length
def NB.len {s:A0} {T:List Int} {S:List (Int×Bool)} (h:NB s T S):S.length≤s.cT.length:=by
 have hmem:∀p∈S,∃i l:Nat,p.1=(i:Int)∧i<s.cT.length∧Rp s l i∧p.2=true:=fun p hp=>by
  have:=h.tru.2 p hp;obtain⟨k,b⟩:=p
  simp only at this
  subst this;obtain⟨i,l,h1,h2,h3⟩:=h.ok k hp;exact⟨i,l,h1,h2,h3,rfl⟩
 have hn:(S.map fun p=>p.1.toNat).Nodup:=by
  have hn:=h.tru.1
  rw[JM]at hn ⊢
  rw[JA];refine JK ?_ hn;intro p q hp hq hne e;obtain⟨i,_,e1,_,_,b1⟩:=hmem p hp;obtain⟨j,_,e2,_,_,b2⟩:=hmem q hq;exact hne (Prod.ext (by omega) (by rw[b1,b2]))
 have:=Kk hn (n:=s.cT.length) (fun x hx=>by
  obtain⟨p,hp,rfl⟩:=List.mem_map.1 hx;obtain⟨i,_,e1,h1,_⟩:=hmem p hp
  omega)
 simpa using this
noncomputable def seS (N:Nat) (s17:(List Int)×(List (Int×Bool))) (y16:B5):Option (((List Int)×(List (Int×Bool)))⊕(Unit)):=
 (Ay s17.2 y16.To (false:Bool)).bind fun r23=>
 if nt r23.1=true then
  (O5 N y16.On).bind fun r24=>
  if nt r24=true then
   (BC s17.2 y16.To true).bind fun l26=>
   (I1 s17.1 ([y16.To])).bind fun l28=>
   some (.inl (l28,l26))
  else
   some (.inl (s17.1,s17.2))
 else
  some (.inl (s17.1,s17.2))
noncomputable def reS (N:Nat) (s:A0) (s7:(List Int)×(List (Int×Bool))):Option (((List Int)×(List (Int×Bool)))⊕(((List Int)×(List (Int×Bool))))):=
 if cmp .gtr (Ar.len s7.1) 0=true then
  (C6 s7.1 0).bind fun x13=>
  (K2 N s x13).bind fun r14=>
  (J2 (seS N) r14 (s7.1,s7.2)).bind fun o22=>
  match o22 with
  | .inl s33=>
   (S8 s33.1 (some 1) none none).bind fun l37=>
   some (.inl (l37,s33.2))
  | .inr _=>none
 else
  some (.inr (s7.1,s7.2))
def Yt (N:Nat)(s:A0):W0 N s=(BC ([]:List (Int×Bool)) 0 true).bind fun l4=>(loopN (reS N s) N ([0],l4)).bind fun s12=>some s12.2:=rfl
def Sr {s:A0} (hs:Jc s) {i l:Nat} (hl:Rp s l i):∀(ms:List B5) (T:List Int) (S:List (Int×Bool)),(∀m∈ms,m∈s.cU∧m.cW=(i:Int))→NB s T S→
 ∃T' S',J2 (seS 40000000) ms (T,S)=some (.inl (T++T',S'))∧NB s (T++T') S'∧T'.length+S.length=S'.length∧(∀k,(k,true)∈S→(k,true)∈S')∧(∀k,(k,true)∈S'→(k,true)∈S∨k∈T')∧∀m∈ms,vd m.On=false→(m.To,true)∈S'
 |[],T,S,_,h=>⟨[],S,by rw[G9];rfl,by rw[G9];exact h,by simp,fun k h=>h,fun k h=>.inl h,fun m h=>by cases h⟩
 | m ::ms,T,S,hm,h=>by
  have hm':=fun y hy=>hm y (Y5 m hy);obtain⟨hmm,hmf⟩:=hm m (by simp);obtain⟨⟨_,t0,t1⟩,hp⟩:=hs.each m hmm;have hv:=JU (N:=40000000) (by omega) hp;have hfi:=hs.fi;have hlen:=h.len;have hle:=h.le
  by_cases hin:(m.To,true)∈S
  ·have e:seS 40000000 (T,S) m=some (.inl (T,S)):=by simp[seS,Ag3 h.tru hin,Ao]
   obtain⟨T',S',e2,h2,h3,a1,a2,a3⟩:=Sr hs hl ms T S hm' h;refine⟨T',S',by rw[J2,e];exact e2,h2,h3,a1,a2,fun y hy hv2=>?_⟩
   rcases List.mem_cons.1 hy with rfl|hy
   ·exact a1 _ hin
   exact a3 y hy hv2
  obtain⟨g1,g2,g3⟩:=XC h.tru hin
  cases hvd:vd m.On with
  |true=>
   have e:seS 40000000 (T,S) m=some (.inl (T,S)):=by simp[seS,g1,Ao,hv,hvd]
   obtain⟨T',S',e2,h2,h3,a1,a2,a3⟩:=Sr hs hl ms T S hm' h;refine⟨T',S',by rw[J2,e];exact e2,h2,h3,a1,a2,fun y hy hv2=>?_⟩
   rcases List.mem_cons.1 hy with rfl|hy
   ·rw[hvd]at hv2;cases hv2
   exact a3 y hy hv2
  | false=>
   have ha:I1 T [m.To]=some (T++[m.To]):=by unfold I1;rw[A1 (by simp;omega)]
   have e:seS 40000000 (T,S) m=some (.inl (T++[m.To],S++[(m.To,true)])):=by simp[seS,g1,g2,Ao,hv,hvd,ha]
   obtain⟨T',S',e2,h2,h3,a1,a2,a3⟩:=Sr hs hl ms (T++[m.To]) (S++[(m.To,true)]) hm' ⟨g3,fun k hk=>by
    rcases List.mem_append.1 hk with hk|hk
    ·exact h.ok k hk
    simp only[M6,AJ,J6]at hk
    subst hk
    exact⟨m.To.toNat,l+1,by omega,by omega,i,hl,m,hmm,hmf,by omega,hvd⟩,
    fun k hk=>by
     rcases List.mem_append.1 hk with hk|hk
     ·exact R6 _ (h.sub k hk)
     simp only[M6]at hk
     exact ET _ (by rw[hk];simp),
    by simp;omega⟩
   refine⟨m.To::T',S',?_,?_,?_,fun k hk=>a1 k (R6 _ hk),fun k hk=>?_,fun y hy hv2=>?_⟩
   ·rw[J2,e,show T++m.To::T'=T++[m.To]++T' by simp];exact e2
   ·rw[show T++m.To::T'=T++[m.To]++T' by simp];exact h2
   ·simp only[N3,I8,V6]at h3 ⊢;omega
   ·rcases a2 k hk with hk|hk
    ·rcases List.mem_append.1 hk with hk|hk
     ·exact .inl hk
     simp only[M6,AJ,J6]at hk
     exact .inr (by rw[hk];simp)
    exact .inr (Y5 _ hk)
   rcases List.mem_cons.1 hy with rfl|hy
   ·exact a1 _ (by simp)
   exact a3 y hy hv2
def Cls (s:A0)(T:List Int)(S:List (Int×Bool)):Prop:=∀k,(k,true)∈S→k∈T∨∀m∈s.cU,m.cW=k→vd m.On=false→(m.To,true)∈S
def Av8 {s:A0} (hs:Jc s):∀(μ N:Nat) (T:List Int) (S:List (Int×Bool)),T.length+(s.cT.length-S.length)≤μ→μ<N→NB s T S→Cls s T S→
 ∃S',loopN (reS 40000000 s) N (T,S)=some ([],S')∧NB s [] S'∧Cls s [] S'∧∀k,(k,true)∈S→(k,true)∈S':=by
 intro μ
 induction μ with
 |zero=>
  intro N T S hm hN h hc;obtain⟨N,rfl⟩:∃K,N=K+1:=⟨N-1,by omega⟩;have e1:T=[]:=Iu (by omega);subst e1;exact⟨S,rfl,h,hc,fun k h=>h⟩
 | succ μ ih=>
  intro N T S hm hN h hc;obtain⟨N,rfl⟩:∃K,N=K+1:=⟨N-1,by omega⟩
  cases T with
  |nil=>exact⟨S,rfl,h,hc,fun k h=>h⟩
  | cons x T=>
   obtain⟨i,l,rfl,hi,hl⟩:=h.ok x (h.sub x (by simp))
   obtain⟨T',S',e,h1,h2,a1,a2,a3⟩:=Sr hs hl (s.cU.filter fun m=>decide (m.cW=(i:Int))) ((i:Int)::T) S (fun m hm=>by
    obtain⟨a,b⟩:=List.mem_filter.1 hm
    exact⟨a,by simpa using b⟩) h
   have hlen:=h1.len;have hfi:=hs.fi;have hle:=h1.le
   have hsl:S8 ((i:Int)::T++T') (some 1) none none=some (T++T'):=by
    unfold S8;rw[A1 (by simp;omega)];simp only[Bu,Cm];rw[show(((i:Int)::T++T').drop (1:Int).toNat)=T++T' from rfl];rw[P2 (by simp;omega)]
   have est:reS 40000000 s ((i:Int)::T,S)=some (.inl (T++T',S')):=by
    unfold reS;rw[A1 (by simp only[U5,C9,N3,B2];omega)];rw[show C6 ((i:Int)::T) 0=some (i:Int) by simp[C6]];simp only[A5,OR (show 3000<40000000 by omega) hs.mv,e,hsl]
   rw[loopN,est]
   simp only[N3,I8]at hm hle
   obtain⟨S2,r1,r2,r3,r4⟩:=ih N (T++T') S' (by simp only[I8];omega) (by omega) ⟨h1.tru,h1.ok,fun k hk=>h1.sub k (Y5 _ hk),by simp only[I8];omega⟩ (fun k hk=>by
    by_cases hki:k=(i:Int)
    ·subst hki;exact .inr fun m hm hmf hv=>a3 m (List.mem_filter.2 ⟨hm,by simpa using hmf⟩) hv
    rcases a2 k hk with hk|hk
    ·rcases hc k hk with hk|hk
     ·rcases List.mem_cons.1 hk with hk|hk
      ·exact absurd hk hki
      exact .inl (R6 _ hk)
     exact .inr fun m hm hmf hv=>a1 _ (hk m hm hmf hv)
    exact .inl (ET _ hk))
   exact⟨S2,r1,r2,r3,fun k hk=>r4 k (a1 k hk)⟩
def Aa9 {s:A0} (hs:Jc s):∃S,W0 40000000 s=some S∧NB s [] S∧Cls s [] S∧((0:Int),true)∈S:=by
 have hfi:=hs.fi
 obtain⟨S,e,h,hc,h0⟩:=Av8 hs 600 40000000 [0] [(0,true)] (by simp;omega) (by omega) ⟨⟨by simp,fun p hp=>by simp only[M6]at hp;rw[hp]⟩,fun k hk=>by
  simp only[M6,AJ,J6]at hk
  exact⟨0,0,by omega,by omega,rfl⟩,fun k hk=>by simp only[M6]at hk;rw[hk];simp,by simp⟩ (fun k hk=>.inl (by simp only[M6,AJ,J6]at hk;rw[hk];simp))
 refine⟨S,?_,h,hc,h0 0 (by simp)⟩;rw[Yt,show BC ([]:List (Int×Bool)) 0 true=some [(0,true)]from rfl];simp only[A5,e]
noncomputable def trA (N:Nat) (s:A0) (s3:(List (Int×Int))×(List (Int×Bool))) (s373:Int×A0×(List (Int×Int))):Option ((Int×A0×(List (Int×Int)))⊕((A0×(List (Int×Int))))):=
 if cmp .lss s373.1 (Ar.len s.cT)=true then
  (C6 s.cT s373.1).bind fun x377=>
  if cmp .eql s373.1 0=true then
   (BC s373.2.2 s373.1 (Ar.len s373.2.1.cT)).bind fun l379=>
   (I1 s373.2.1.cT ([x377])).bind fun l381=>
   some (.inl (ar .add .i64 s373.1 1,{s373.2.1 with cT:=l381,cU:=[]},l379))
  else
   (P8 N s373.1 s3.1 s3.2).bind fun r382=>
   if r382=true then
    (BC s373.2.2 s373.1 (Ar.len s373.2.1.cT)).bind fun l384=>
    (I1 s373.2.1.cT ([x377])).bind fun l386=>
    some (.inl (ar .add .i64 s373.1 1,{s373.2.1 with cT:=l386,cU:=[]},l384))
   else
    some (.inl (ar .add .i64 s373.1 1,{s373.2.1 with cU:=[]},s373.2.2))
 else
  some (.inr ({s373.2.1 with cU:=[]},s373.2.2))
noncomputable def trB (N:Nat) (s:A0) (s3:(List (Int×Int))×(List (Int×Bool))) (s376:A0×(List (Int×Int))) (s389:Int×A0):Option ((Int×A0)⊕(A0)):=
 if cmp .lss s389.1 (Ar.len s.cU)=true then
  (C6 s.cU s389.1).bind fun x392=>
  (P8 N x392.cW s3.1 s3.2).bind fun r393=>
  if r393=true then
   (P8 N x392.To s3.1 s3.2).bind fun r394=>
   if r394=true then
    (O5 N x392.On).bind fun r395=>
    if nt r395=true then
     (Ay s376.2 x392.cW (0:Int)).bind fun r396=>
     (Ay s376.2 x392.To (0:Int)).bind fun r397=>
     (K4 N x392.On).bind fun r398=>
     (I1 s389.2.cU ([(⟨r396.1,r397.1,r398⟩:B5)])).bind fun l400=>
     some (.inl (ar .add .i64 s389.1 1,{s389.2 with cT:=s376.1.cT,cU:=l400}))
    else
     some (.inl (ar .add .i64 s389.1 1,{s389.2 with cT:=s376.1.cT}))
   else
    some (.inl (ar .add .i64 s389.1 1,{s389.2 with cT:=s376.1.cT}))
  else
   some (.inl (ar .add .i64 s389.1 1,{s389.2 with cT:=s376.1.cT}))
 else
  some (.inr ({s389.2 with cT:=s376.1.cT}))
def ZL (N:Nat) (s:A0):AO N s=(P3 N s).bind fun r2=>
 if cmp .neq r2 0=true then
  some ((⟨0,[],[]⟩:A0),r2)
 else
  ((
   (W0 N s).bind fun l44=>
   (R9 N s).bind fun l124=>
   some (l124,l44)
  ):Option (((List (Int×Int))×(List (Int×Bool))))).bind fun s3=>
  (loopN (trA N s s3) N (0,(⟨s.cV,[],[]⟩:A0),([]:List (Int×Int)))).bind fun s376=>
  (loopN (trB N s s3 s376) N (0,{s376.1 with cU:=[]})).bind fun s391=>
  some ({s391 with cT:=s376.1.cT},0):=rfl
section
variable {s:A0}{M:List (Int×Int)}{S:List (Int×Bool)}
end
def Lt:List A2→Prop
 |[]=>True
 |x::l=>(-1099511627776≤x.Low∧x.Low≤x.cZ∧x.cZ≤1099511627776)∧(∀y∈l,x.cZ+2≤y.Low)∧Lt l
def S5 {x:A2} {l:List A2} {n:Int}:Dg (x::l) n↔(x.Low≤n∧n≤x.cZ)∨Dg l n:=by
 constructor
 ·rintro⟨y,hy,h⟩
  rcases List.mem_cons.1 hy with rfl|hy
  ·exact .inl h
  exact .inr ⟨y,hy,h⟩
 rintro(h|⟨y,hy,h⟩)
 ·exact⟨x,by simp,h⟩
 exact⟨y,by simp[hy],h⟩
def Fx {n:Int}:¬Dg [] n:=fun⟨_,h,_⟩=>by cases h
def MB {l m:List A2}{n:Int}:Dg (l++m) n↔Dg l n∨Dg m n:=by
 induction l with
 |nil=>simp[Fx]
 |cons x l ih=>rw[DT,S5,S5,ih,or_assoc]
def Zp.ord:∀{l:List A2},Zp l→Lt l:=by
 intro l
 induction l with
 |nil=>exact fun _=>trivial
 |cons x l ih=>
  intro hs;refine⟨hs.2.1 x (by simp),fun y hy=>?_,ih ⟨by have:=hs.1;simp at this;omega,fun z hz=>hs.2.1 z (by simp[hz]),fun i a b ha hb=>hs.2.2 (i+1) a b (by simpa using ha) (by simpa using hb)⟩⟩;obtain⟨k,hk⟩:=L8 hy;exact Pi hs k 0 x y rfl (by simpa[Jh]using hk)
def Lt.srt':∀{l:List A2},Lt l→∀x∈l, -1099511627776≤x.Low∧x.Low≤x.cZ∧x.cZ≤1099511627776
 |_::_,h,x,hx=>by
  rcases List.mem_cons.1 hx with rfl|hx
  ·exact h.1
  exact Lt.srt' h.2.2 x hx
def Lt.srt:∀{l:List A2},Lt l→l.length≤256→Zp l:=by
 intro l
 induction l with
 |nil=>exact fun _ _=>⟨by simp,fun x hx=>(by cases hx),fun i x y hx=>by simp at hx⟩
 | cons x l ih=>
  rintro⟨h1,h2,h3⟩ hl;obtain⟨k1,k2,k3⟩:=ih h3 (by simp at hl;omega);refine⟨hl,fun y hy=>?_,fun i a b ha hb=>?_⟩
  ·rcases List.mem_cons.1 hy with rfl|hy
   ·exact h1
   exact k2 y hy
  cases i with
  |zero=>simp at ha hb;subst ha;exact h2 b (G1 hb)
  |succ i=>exact k3 i a b (by simpa using ha) (by simpa using hb)
def Lt.lo {x:A2}{l:List A2}(h:Lt (x::l)){n:Int}(hn:Dg (x::l) n):x.Low≤n:=by
 rcases S5.1 hn with h'|⟨y,hy,h'⟩
 ·exact h'.1
 have:=h.2.1 y hy;have:=h.1;omega
def Lt.above {x:A2}{l:List A2}(h:Lt (x::l)){n:Int}(hn:Dg l n):x.cZ+2≤n:=by
 obtain⟨y,hy,h'⟩:=hn;have:=h.2.1 y hy;omega
def Xf:∀{l m:List A2},Lt l→Lt m→(∀n,Dg l n↔Dg m n)→l=m
 |[],[],_,_,_=>rfl
 |[],y::m,_,hm,h=>absurd ((h y.Low).2 (S5.2 (.inl ⟨by omega,hm.1.2.1⟩))) Fx
 |x::l,[],hl,_,h=>absurd ((h x.Low).1 (S5.2 (.inl ⟨by omega,hl.1.2.1⟩))) Fx
 | x::l,y::m,hl,hm,h=>by
  have a1:=hm.lo ((h x.Low).1 (S5.2 (.inl ⟨by omega,hl.1.2.1⟩)));have a2:=hl.lo ((h y.Low).2 (S5.2 (.inl ⟨by omega,hm.1.2.1⟩)));have hx:=hl.1;have hy:=hm.1
  have a3:¬x.cZ<y.cZ:=fun hlt=>by
   rcases S5.1 ((h (x.cZ+1)).2 (S5.2 (.inl ⟨by omega,by omega⟩)))with h'|h'
   ·omega
   have:=hl.above h';omega
  have a4:¬y.cZ<x.cZ:=fun hlt=>by
   rcases S5.1 ((h (y.cZ+1)).1 (S5.2 (.inl ⟨by omega,by omega⟩)))with h'|h'
   ·omega
   have:=hm.above h';omega
  have e:x=y:=by
   cases x;cases y
   simp only at a1 a2 a3 a4
   rw[show _=_ from Int.le_antisymm a2 a1];rw[show _=_ from Int.le_antisymm (Int.not_lt.1 a4) (Int.not_lt.1 a3)]
  subst e;rw[Xf hl.2.2 hm.2.2 fun n=>?_]
  constructor
  ·intro hn;have:=hl.above hn
   rcases S5.1 ((h n).1 (S5.2 (.inr hn)))with h'|h'
   ·omega
   exact h'
  intro hn;have:=hm.above hn
  rcases S5.1 ((h n).2 (S5.2 (.inr hn)))with h'|h'
  ·omega
  exact h'
def Y7 {S R α:Type} {l:List α} {step:S→Option (S⊕R)} {Q:R→Prop} (I:Nat→S→Prop)
 (hs:∀(i:Nat) x s,l[i]? =some x→i<l.length→I i s→∃s',step s=some (.inl s')∧I (i+1) s')
 (he:∀s,I l.length s→∃r,step s=some (.inr r)∧Q r) {s0:S} (h0:I 0 s0) {N:Nat} (hN:l.length<N):∃r,loopN step N s0=some r∧Q r:=by
 have key:∀(k i N:Nat) (s:S),i+k=l.length→k<N→I i s→∃r,loopN step N s=some r∧Q r:=by
  intro k
  induction k with
  |zero=>
   intro i N s hi hN hI;obtain⟨N,rfl⟩:∃M,N=M+1:=⟨N-1,by omega⟩
   rw[show i=l.length by omega]at hI
   obtain⟨r,h1,h2⟩:=he s hI;exact⟨r,by simp only[loopN,h1],h2⟩
  |succ k ih=>
   intro i N s hi hN hI;obtain⟨N,rfl⟩:∃M,N=M+1:=⟨N-1,by omega⟩
   have hlt:i<l.length:=by omega
   obtain⟨s',h1,h2⟩:=hs i _ s (D5 hlt) hlt hI;obtain⟨r,h3,h4⟩:=ih (i+1) N s' (by omega) (by omega) h2;exact⟨r,by simp only[loopN,h1];exact h3,h4⟩
 exact key l.length 0 N s0 (by omega) hN h0
def L1 {α:Type}{l m:List α}(h:l.length+m.length≤1073741824):I1 l m=some (l++m):=by unfold I1;rw[A1 h]
def Av7 {i:Nat}(h:i+1<1000000000000):ar .sub .i64 ((i+1:Nat):Int) 1=(i:Int):=by
 show IntKind.wrap .i64 (((i+1:Nat):Int)-1)=_
 rw[GO (by omega) (by omega)];omega
def Ab8 {out:List A2} {x:A2} {g:Option A2} (hg:g=some x):∀(k N:Nat),k≤out.length→k<N→out.length≤1000000→
 ∃ p :Nat,p≤k∧(∀j y,p≤j→j<k→out[j]? =some y→x.Low<y.Low)∧(∀y,0<p→out[p-1]? =some y→y.Low≤x.Low)∧
  loopN (fun(s3:Int)=>
   (
    if cmp .gtr s3 0=true then
     (C6 out (ar .sub .i64 s3 1)).bind fun x5=>
     g.bind fun x6=>
     if cmp .gtr x5.Low x6.Low=true then
      some (.inl (ar .sub .i64 s3 1))
     else
      some (.inr s3)
    else
     some (.inr s3)
    :Option ((Int)⊕(Int)))) N (k:Int)=some (p:Int):=by
 subst hg;intro k
 induction k with
 |zero=>
  intro N _ hN _;obtain⟨N,rfl⟩:∃M,N=M+1:=⟨N-1,by omega⟩;exact⟨0,D3 _,fun j y h1 h2=>by omega,fun y h=>by omega,by simp[loopN,U5]⟩
 | succ k ih=>
  intro N hk hN hl;obtain⟨N,rfl⟩:∃M,N=M+1:=⟨N-1,by omega⟩;have hx:=D5 (show k<out.length by omega)
  by_cases hc:x.Low<out[k].Low
  ·obtain⟨p,h1,h2,h3,h4⟩:=ih N (by omega) (by omega) hl;refine⟨p,by omega,fun j y e1 e2 e3=>?_,h3,?_⟩
   ·by_cases e:j=k
    ·subst e;rw[hx]at e3;cases e3;exact hc
    exact h2 j y e1 (by omega) e3
   rw[←h4]
   conv=>lhs;unfold loopN
   simp only[U5,B2,Av7 (show k+1<1000000000000 by omega),E7,hx,A5];rw[A1 (by omega),A1 hc]
  refine⟨k+1,D3 _,fun j y e1 e2=>by omega,fun y _ e=>?_,?_⟩
  ·rw[show k+1-1=k by omega,hx]at e;cases e;omega
  unfold loopN;simp only[U5,B2,Av7 (show k+1<1000000000000 by omega),E7,hx,A5];rw[A1 (by omega),A3 hc]
def ZR {α:Type}{l:List α}{p:Nat}(h:p≤l.length):S8 l none (some (p:Int)) none=some (l.take p):=by
 unfold S8;rw[A1 (by simp;omega)];simp
def ZS {α:Type}{l:List α}{p:Nat}(h:p≤l.length):S8 l (some (p:Int)) none none=some (l.drop p):=by
 unfold S8;rw[A1 (by simp;omega)];simp only[Bu,Cm,K0];rw[P2 (by simp)]
def XZ {N:Nat} {l:List A2} (hl:l.length≤100000) (hN:l.length<N):∃r,El N l=some r∧r.Perm l∧r.Pairwise (fun a b=>a.Low≤b.Low):=by
 unfold El
 obtain ⟨r,h1,h2⟩:=Y7 (N:=N) (l:=l) (Q:=fun(r:List A2)=>r.Perm l∧r.Pairwise (fun a b=>a.Low≤b.Low))
  (I:=fun i (s:List A2×Int)=>s.2=(i:Int)∧s.1.Perm (l.take i)∧s.1.Pairwise (fun a b=>a.Low≤b.Low))
  (s0:=(([]:List A2),(0:Int)))
  (step :=fun(s1:(List A2)×Int)=>
   (
    if cmp .lss s1.2 (Ar.len l)=true then
     (loopN
      (fun(s3:Int)=>
       (
        if cmp .gtr s3 0=true then
         (C6 s1.1 (ar .sub .i64 s3 1)).bind fun x5=>
         (C6 l s1.2).bind fun x6=>
         if cmp .gtr x5.Low x6.Low=true then
          some (.inl (ar .sub .i64 s3 1))
         else
          some (.inr s3)
        else
         some (.inr s3)
        :Option ((Int)⊕(Int))))
      N (Ar.len s1.1)).bind fun s4=>
     (S8 s1.1 none (some s4) none).bind fun l7=>
     (I1 ([]) l7).bind fun l10=>
     (C6 l s1.2).bind fun x11=>
     (I1 l10 ([x11])).bind fun l13=>
     (S8 s1.1 (some s4) none none).bind fun l14=>
     (I1 l13 l14).bind fun l17=>
     some (.inl (l17,ar .add .i64 s1.2 1))
    else
     some (.inr s1.1)
    :Option (((List A2)×Int)⊕(((List A2))))))
  (fun i x s hx hi ⟨e1,e2,e3⟩=>by
   obtain⟨out,j⟩:=s
   simp only at e1 e2 e3
   subst e1
   have hol:out.length=i:=by rw[e2.length_eq,Y4];omega
   obtain⟨p,p1,p2,p3,p4⟩:=Ab8 (out:=out) (g:=C6 l (i:Int)) (x:=x) (by rw[E7,hx]) out.length N (D3 _) (by omega) (by omega)
   simp only[C8,C9,B2]at p4 ⊢
   rw[A1 (by omega),p4];simp only[A5,ZR p1,ZS p1,E7,hx];rw[L1 (by simp;omega)];simp only[A5,N1];rw[L1 (by simp;omega)];simp only[A5];rw[L1 (by simp;omega),I6 hi (by omega)];simp only[A5]
   have htake:l.take (i+1)=l.take i++[x]:=by
    rw[Cn,hx];rfl
   refine⟨_,rfl,rfl,?_,?_⟩
   ·rw[htake]
    have q1:(out.take p++[x]++out.drop p).Perm (x::(out.take p++out.drop p)):=by
     rw[F6];exact Jv
    rw[Bz]at q1
    exact q1.trans ((e2.cons x).trans (by
     have:=NH (l₁:=[x]) (l₂:=l.take i)
     simpa using this))
   have hs:=e3
   rw[←Bz p out]at hs
   obtain⟨a1,a2,a3⟩:=List.pairwise_append.1 hs;rw[F6];refine List.pairwise_append.2 ⟨a1,List.pairwise_cons.2 ⟨fun y hy=>?_,a2⟩,fun y hy z hz=>?_⟩
   ·have hy:y∈out.drop p:=hy;obtain⟨k,hk⟩:=L8 hy
    rw[FL]at hk
    have:=p2 (p+k) y (by omega) (List.getElem?_eq_some_iff.1 hk).1 hk;omega
   rcases List.mem_cons.1 hz with rfl|hz
   ·obtain⟨k,hk⟩:=L8 hy
    have hkp:k<p:=by
     have:=(List.getElem?_eq_some_iff.1 hk).1
     simp at this;omega
    rw[Co,A1 hkp]at hk
    have hlast:=D5 (show p-1<out.length by omega);have h4:=p3 _ (by omega) hlast
    by_cases e:k=p-1
    ·subst e;rw[hlast]at hk;cases hk;exact h4
    have:=(List.pairwise_iff_getElem.1 e3) k (p-1) (by omega) (by omega) (by omega);have e5:=D5 (show k<out.length by omega)
    rw[e5]at hk;cases hk
    omega
   have hz:z∈out.drop p:=hz
   exact a3 y hy z hz)
  (fun s ⟨e1,e2,e3⟩=>by
   obtain⟨out,j⟩:=s
   simp only at e1 e2 e3
   subst e1
   rw[Cl]at e2
   simp only[C8,C9,B2];rw[A3 (by omega)]
   exact⟨_,rfl,e2,e3⟩) ⟨rfl,by simp,.nil⟩ hN
 exact⟨r,by rw[h1];rfl,h2⟩
def Aw8 (a b:Int):mn a b=if b<a then b else a:=rfl
def Tm (x:A2):Prop:= -1099511627776≤x.Low∧x.Low≤x.cZ∧x.cZ≤1099511627776
def Un {l:List A2} {x:A2} (h:Lt l) (hx:Tm x) (hl:∀y∈l,y.cZ+2≤x.Low):Lt (l++[x]):=by
 induction l with
 |nil=>exact⟨hx,fun y hy=>(by cases hy),trivial⟩
 |cons a l ih=>
  refine⟨h.1,fun y hy=>?_,ih h.2.2 fun y hy=>hl y (by simp[hy])⟩
  rcases List.mem_append.1 hy with hy|hy
  ·exact h.2.1 y hy
  simp at hy;subst hy;exact hl a (by simp)
def PG {l:List A2} {x:A2} (h:Lt (l++[x])):Lt l∧Tm x∧∀y∈l,y.cZ+2≤x.Low:=by
 induction l with
 |nil=>exact⟨trivial,h.1,fun y hy=>by cases hy⟩
 |cons a l ih=>
  obtain⟨i1,i2,i3⟩:=ih h.2.2;refine⟨⟨h.1,fun y hy=>h.2.1 y (by simp[hy]),i1⟩,i2,fun y hy=>?_⟩
  rcases List.mem_cons.1 hy with rfl|hy
  ·exact h.2.1 x (by simp)
  exact i3 y hy
structure Jnd (acc:List A2) (x:A2) (out:List A2):Prop where
 ord:Lt out
 len:out.length≤acc.length+1
 low:∀y∈out,y.Low≤x.Low
 inl:∀n,Dg out n↔Dg acc n∨(x.Low≤n∧n≤x.cZ)
def OP {acc:List A2} {x:A2} (ho:Lt acc) (hb:Tm x) (h:∀y∈acc,y.cZ+1<x.Low):Jnd acc x (acc++[x]):=by
 refine⟨Un ho hb fun y hy=>by have:=h y hy;omega,by simp,fun y hy=>?_,fun n=>?_⟩
 ·rcases List.mem_append.1 hy with hy|hy
  ·have:=h y hy;have:=ho.srt' y hy;omega
  simp at hy;subst hy;exact O9 _
 rw[MB,S5];simp[Fx]
def PU {init:List A2} {x y:A2} {hi:Int} (ho:Lt (init++[y])) (hb:Tm x) (hl:y.Low≤x.Low) (h:x.Low≤y.cZ+1)
 (hh:hi=if y.cZ<x.cZ then x.cZ else y.cZ):Jnd (init++[y]) x (init++[⟨y.Low,hi⟩]):=by
 obtain⟨i1,i2,i3⟩:=PG ho
 unfold Tm at i2 hb
 have e:y.cZ≤hi∧x.cZ≤hi∧(hi=x.cZ∨hi=y.cZ):=by
  subst hh
  split<;>omega
 refine⟨Un i1 ⟨by simp only;omega,by simp only;omega,by simp only;omega⟩ i3,by simp,fun z hz=>?_,fun n=>?_⟩
 ·rcases List.mem_append.1 hz with hz|hz
  ·have:=i3 z hz;have:=i1.srt' z hz;omega
  simp at hz;subst hz;exact hl
 rw[MB,S5,MB,S5,or_assoc];simp only[Fx,or_false];refine or_congr Iff.rfl ?_;omega
def UG {α:Type}{l:List α}{x:α}:Z9 (l++[x]) (l.length:Int)=true:=by
 unfold Z9;simp only[I8,GJ,B2];omega
def Te {α:Type}{l:List α}{x:α}:(l++[x])[l.length]? =some x:=by simp
def Tw {α:Type}{l:List α}{x:α}{u:α→α}:Y6 (l++[x]) (l.length:Int) u=some (l++[u x]):=by
 unfold Y6;rw[E7,Te];simp
def Af1 {α:Type}{l:List α}{x:α}(h:l.length≤1000000):ar .sub .i64 (((l++[x]).length:Nat):Int) 1=(l.length:Int):=by
 rw[I8];exact Av7 (by omega)
def Yy {N:Nat}{acc:List A2}{x:A2}(ho:Lt acc)(hb:Tm x)(hl:∀y∈acc,y.Low≤x.Low)(hn:acc.length≤1000000):
 ∃out,BT N acc x=some out∧Jnd acc x out:=by
 unfold BT
 rcases NG acc with rfl|⟨init,y,rfl⟩
 ·refine⟨[x],?_,OP (acc:=[]) ho hb fun y hy=>by cases hy⟩;rw[L1 (by simp)];rfl
 rw[NF]at *
 have hn':init.length≤1000000:=by simp at hn;omega
 obtain⟨i1,i2,i3⟩:=PG ho;have hy:=hl y (by simp)
 unfold Tm at i2
 simp only[U5,GB,C9,Af1 hn',UG,X1,D1,A5,E7,Te,Tw,B2];rw[A1 (by simp),M8 (by omega) (by omega)]
 by_cases h:x.Low≤y.cZ+1
 ·rw[A1 h];exact⟨_,rfl,PU ho hb hy h (Ae1 _ _)⟩
 rw[A3 h,L1 (by simp;omega)];refine⟨_,rfl,OP ho hb fun z hz=>?_⟩
 rcases List.mem_append.1 hz with hz|hz
 ·have:=i3 z hz;have:=i1.srt' z hz;omega
 simp at hz;subst hz;omega
def Ah9 {l m:List A2}(h:m.Perm l)(hb:∀x∈l,Tm x):∀x∈m,Tm x:=fun x hx=>hb x (h.mem_iff.1 hx)
def Af8 {l m:List A2}(h:m.Perm l)(n:Int):Dg m n↔Dg l n:=by
 unfold Dg
 constructor
 ·rintro⟨x,hx,k⟩;exact⟨x,h.mem_iff.1 hx,k⟩
 rintro⟨x,hx,k⟩;exact⟨x,h.mem_iff.2 hx,k⟩
def MA {l:List A2}{i:Nat}{x:A2}(h:l[i]? =some x)(n:Int):Dg (l.take (i+1)) n↔Dg (l.take i) n∨(x.Low≤n∧n≤x.cZ):=by
 have e:l.take (i+1)=l.take i++[x]:=by rw[Cn,h];rfl
 rw[e,MB,S5];simp[Fx]
def YE {N:Nat} {l:List A2} (hb:∀x∈l,Tm x) (hl:l.length≤100000) (hN:l.length<N):
 ∃r,Er N l=some r∧Lt r∧r.length≤l.length∧∀n,Dg r n↔Dg l n:=by
 unfold Er;obtain⟨s,hs,hp,hw⟩:=XZ hl hN;have hsl:s.length=l.length:=hp.length_eq;have hsb:=Ah9 hp hb;rw[hs];simp only[A5]
 obtain ⟨r,h1,h2⟩:=Y7 (N:=N) (l:=s) (Q:=fun(r:List A2)=>Lt r∧r.length≤s.length∧∀n,Dg r n↔Dg s n)
  (I:=fun i (t:Int×List A2)=>t.1=(i:Int)∧Lt t.2∧t.2.length≤i∧(∀y∈t.2,∀(j:Nat) x,i≤j→s[j]? =some x→y.Low≤x.Low)∧∀n,Dg t.2 n↔Dg (s.take i) n)
  (s0:=((0:Int),([]:List A2)))
  (step :=fun(s3:Int×(List A2))=>
   (
    if cmp .lss s3.1 (Ar.len s)=true then
     if cmp .lss (ar .sub .i64 (Ar.len s3.2) 1) 0=true then
      (C6 s s3.1).bind fun x6=>
      (I1 s3.2 ([x6])).bind fun l8=>
      some (.inl (ar .add .i64 s3.1 1,l8))
     else
      (C6 s s3.1).bind fun x9=>
      (X1 (Z9 s3.2 (ar .sub .i64 (Ar.len s3.2) 1))).bind fun _=>
      (C6 s3.2 (ar .sub .i64 (Ar.len s3.2) 1)).bind fun x10=>
      if cmp .gtr x9.Low (ar .add .i64 x10.cZ 1)=true then
       (C6 s s3.1).bind fun x11=>
       (I1 s3.2 ([x11])).bind fun l13=>
       some (.inl (ar .add .i64 s3.1 1,l13))
      else
       (C6 s s3.1).bind fun x14=>
       (X1 (Z9 s3.2 (ar .sub .i64 (Ar.len s3.2) 1))).bind fun _=>
       (C6 s3.2 (ar .sub .i64 (Ar.len s3.2) 1)).bind fun x15=>
       if cmp .gtr x14.cZ x15.cZ=true then
        (C6 s s3.1).bind fun x16=>
        (X1 (Z9 s3.2 (ar .sub .i64 (Ar.len s3.2) 1))).bind fun _=>
        (Y6 s3.2 (ar .sub .i64 (Ar.len s3.2) 1) (fun x17:A2=>{x17 with cZ:=x16.cZ})).bind fun l18=>
        some (.inl (ar .add .i64 s3.1 1,l18))
       else
        some (.inl (ar .add .i64 s3.1 1,s3.2))
    else
     some (.inr s3.2)
    :Option ((Int×(List A2))⊕(((List A2))))))
  (fun i x t hx hi ⟨e1,e2,e3,e4,e5⟩=>by
   obtain⟨j,acc⟩:=t
   simp only at e1 e2 e3 e4 e5
   subst e1;have hxb:=hsb x (G1 hx)
   have done:∀out,Jnd acc x out→((i+1:Nat):Int)=((i+1:Nat):Int)∧Lt out∧out.length≤i+1∧(∀y∈out,∀(j:Nat) x,i+1≤j→s[j]? =some x→y.Low≤x.Low)∧∀n,Dg out n↔Dg (s.take (i+1)) n:=by
    intro out hj;refine⟨rfl,hj.ord,by have:=hj.len;omega,fun y hy k z hk hz=>?_,fun n=>?_⟩
    ·have q1:=hj.low y hy;have hkl:=(List.getElem?_eq_some_iff.1 hz).1;have q2:=(List.pairwise_iff_getElem.1 hw) i k (by omega) (by omega) (by omega);have e6:=D5 (show i<s.length by omega)
     rw[e6]at hx;cases hx
     have e7:=D5 hkl
     rw[e7]at hz;cases hz
     omega
    rw[hj.inl,e5,MA hx]
   simp only[C8,U5,C9,E7,hx,A5,B2];rw[A1 (by omega),I6 hi (by omega)]
   rcases NG acc with rfl|⟨init,y,rfl⟩
   ·rw[A1 (by decide),L1 (by simp)];simp only[A5];exact⟨_,rfl,done _ (OP (acc:=[]) e2 hxb fun y hy=>by cases hy)⟩
   rw[NF]at *
   have hn':init.length≤1000000:=by simp at e3;omega
   obtain⟨i1,i2,i3⟩:=PG e2;have hy:=e4 y (by simp) i x (D3 _) hx
   unfold Tm at i2
   simp only[Af1 hn',UG,X1,D1,A5,E7,Te,Tw];rw[A3 (by omega),M8 (by omega) (by omega)]
   by_cases h:y.cZ+1<x.Low
   ·rw[A1 h,L1 (by simp;omega)];simp only[A5];refine⟨_,rfl,done _ (OP e2 hxb fun z hz=>?_)⟩
    rcases List.mem_append.1 hz with hz|hz
    ·have:=i3 z hz;have:=i1.srt' z hz;omega
    simp at hz;subst hz;omega
   rw[A3 h]
   by_cases hh:y.cZ<x.cZ
   ·rw[A1 hh];exact⟨_,rfl,done _ (PU e2 hxb hy (by omega) (by rw[A1 hh]))⟩
   rw[A3 hh];refine⟨_,rfl,done _ ?_⟩;have:=PU (hi:=y.cZ) e2 hxb hy (by omega) (by rw[A3 hh])
   exact this)
  (fun t ⟨e1,e2,e3,e4,e5⟩=>by
   obtain⟨j,acc⟩:=t
   simp only at e1 e2 e3 e4 e5
   subst e1;simp only[C8,C9,B2];rw[A3 (by omega)]
   rw[Cl]at e5
   exact⟨_,rfl,e2,e3,e5⟩) ⟨rfl,trivial,by simp,fun y hy=>by simp at hy,fun n=>by simp⟩ (by omega)
 rw[h1];exact⟨r,rfl,h2.1,by omega,fun n=>(h2.2.2 n).trans (Af8 hp n)⟩
def Ar3 {N:Nat} {a b:List A2} (ha:Lt a) (hb:Lt b) (hab:a.length*b.length≤100000) (hal:a.length≤100000) (hbl:b.length≤100000) (hN:100000<N):
 ∃r,Fa N a b=some r∧Lt r∧r.length≤a.length*b.length∧∀n,Dg r n↔Dg a n∧Dg b n:=by
 unfold Fa
 obtain ⟨r, h1,h2⟩:=Y7 (N:=N) (l:=a) (Q:=fun(r:List A2)=>(∀x∈r,Tm x)∧r.length≤a.length*b.length∧∀n,Dg r n↔Dg a n∧Dg b n)
  (I:=fun i (t:List A2×Int)=>t.2=(i:Int)∧(∀x∈t.1,Tm x)∧t.1.length≤i*b.length∧∀n,Dg t.1 n↔Dg (a.take i) n∧Dg b n)
  (s0:=(([]:List A2),(0:Int)))
  (step :=fun(s1:(List A2)×Int)=>
   (
    if cmp .lss s1.2 (Ar.len a)=true then
     (loopN
      (fun(s4:(List A2)×Int)=>
       (
        if cmp .lss s4.2 (Ar.len b)=true then
         (C6 a s1.2).bind fun x7=>
         (C6 b s4.2).bind fun x8=>
         (C6 a s1.2).bind fun x9=>
         (C6 b s4.2).bind fun x10=>
         if cmp .leq (mx x7.Low x8.Low) (mn x9.cZ x10.cZ)=true then
          (I1 s4.1 ([(⟨mx x7.Low x8.Low,mn x9.cZ x10.cZ⟩:A2)])).bind fun l12=>
          some (.inl (l12,ar .add .i64 s4.2 1))
         else
          some (.inl (s4.1,ar .add .i64 s4.2 1))
        else
         some (.inr s4.1)
        :Option (((List A2)×Int)⊕(((List A2))))))
      N (s1.1,0)).bind fun s6=>
     some (.inl (s6,ar .add .i64 s1.2 1))
    else
     some (.inr s1.1)
    :Option (((List A2)×Int)⊕(((List A2))))))
  (fun i x t hx hi ⟨e1,e2,e3,e4⟩=>by
   obtain⟨acc,j⟩:=t
   simp only at e1 e2 e3 e4
   subst e1;have hxb:=ha.srt' x (G1 hx);have hmul:(i+1)*b.length≤a.length*b.length:=J7 _ hi;have hmul2:(i+1)*b.length=i*b.length+b.length:=Nat.succ_mul _ _
   obtain ⟨r,k1,k2⟩:=Y7 (N:=N) (l:=b) (Q:=fun(r:List A2)=>(∀x∈r,Tm x)∧r.length≤(i+1)*b.length∧∀n,Dg r n↔Dg (a.take (i+1)) n∧Dg b n)
    (I:=fun k (t:List A2×Int)=>t.2=(k:Int)∧(∀x∈t.1,Tm x)∧t.1.length≤i*b.length+k∧∀n,Dg t.1 n↔Dg acc n∨(x.Low≤n∧n≤x.cZ)∧Dg (b.take k) n)
    (s0:=(acc,(0:Int)))
    (step := fun(s4:(List A2)×Int)=>
          (
           if cmp .lss s4.2 (Ar.len b)=true then
            (C6 a (i:Int)).bind fun x7=>
            (C6 b s4.2).bind fun x8=>
            (C6 a (i:Int)).bind fun x9=>
            (C6 b s4.2).bind fun x10=>
            if cmp .leq (mx x7.Low x8.Low) (mn x9.cZ x10.cZ)=true then
             (I1 s4.1 ([(⟨mx x7.Low x8.Low,mn x9.cZ x10.cZ⟩:A2)])).bind fun l12=>
             some (.inl (l12,ar .add .i64 s4.2 1))
            else
             some (.inl (s4.1,ar .add .i64 s4.2 1))
           else
            some (.inr s4.1)
           :Option (((List A2)×Int)⊕(((List A2))))))
    (fun k y u hy hk ⟨f1,f2,f3,f4⟩=>by
     obtain⟨ac,m⟩:=u
     simp only at f1 f2 f3 f4
     subst f1;have hyb:=hb.srt' y (G1 hy);simp only[C8,GB,C9,E7,hx,hy,A5,B2,Ae1,Aw8];rw[A1 (by omega),I6 hk (by omega)];generalize hlo:(if x.Low<y.Low then y.Low else x.Low)=lo;generalize hhi:(if y.cZ<x.cZ then y.cZ else x.cZ)=hi'
     have q1:(lo=x.Low∧y.Low≤x.Low)∨(lo=y.Low∧x.Low≤y.Low):=by subst hlo;split<;>omega
     have q2:(hi'=x.cZ∧x.cZ≤y.cZ)∨(hi'=y.cZ∧y.cZ≤x.cZ):=by subst hhi;split<;>omega
     by_cases h:lo≤hi'
     ·rw[A1 h,L1 (by simp;omega)];refine⟨_,rfl,rfl,fun z hz=>?_,by simp;omega,fun n=>?_⟩
      ·rcases List.mem_append.1 hz with hz|hz
       ·exact f2 z hz
       simp at hz;subst hz;exact⟨by simp only;omega,by simp only;omega,by simp only;omega⟩
      rw[MB,f4,MA hy,S5];simp only[Fx,or_false];rw[or_assoc];refine or_congr Iff.rfl ?_
      by_cases hc:Dg (b.take k) n
      ·simp only[hc,J6,true_or];omega
      simp only[hc,and_false,false_or];omega
     rw[A3 h];refine⟨_,rfl,rfl,f2,by simp only;omega,fun n=>?_⟩;rw[f4,MA hy];refine or_congr Iff.rfl ?_
     by_cases hc:Dg (b.take k) n
     ·simp only[hc,J6,true_or]
     simp only[hc,and_false,false_or,false_iff];omega)
    (fun u ⟨f1,f2,f3,f4⟩=>by
     obtain⟨ac,m⟩:=u
     simp only at f1 f2 f3 f4
     subst f1;simp only[C8,C9,B2];rw[A3 (by omega)]
     rw[Cl]at f4
     refine⟨_,rfl,f2,by omega,fun n=>?_⟩;rw[f4,e4,MA hx]
     by_cases hc:Dg b n
     ·simp only[hc,J6]
     simp only[hc,and_false,or_false])
    ⟨rfl,e2,by simp only;omega,fun n=>by simp[Fx]⟩ (by omega)
   simp only[C8,C9,B2]at k1 ⊢
   rw[A1 (by omega),I6 hi (by omega),k1]
   exact⟨_,rfl,rfl,k2⟩)
  (fun t ⟨e1,e2,e3,e4⟩=>by
   obtain⟨acc,j⟩:=t
   simp only at e1 e2 e3 e4
   subst e1;simp only[C8,C9,B2];rw[A3 (by omega)]
   rw[Cl]at e4
   exact⟨_,rfl,e2,e3,e4⟩) ⟨rfl,fun x hx=>by simp at hx,by simp,fun n=>by simp[Fx]⟩ (by omega)
 rw[h1];obtain⟨h2,h3,h4⟩:=h2;obtain⟨m,m1,m2,m3,m4⟩:=YE (N:=N) h2 (by omega) (by omega);simp only[A5,m1];exact⟨m,rfl,m2,by omega,fun n=>(m4 n).trans (h4 n)⟩
end Go.Ab
namespace Go.Ab
open Go.Lib
def Ve {zs:List Int} (h:zs.Pairwise (· ≤ ·)):(Lib.compact zs).Pairwise (· < ·):=by
 have at_:∀i,(hi:i<zs.length)→zs.toArray[i]! =zs[i]:=fun i hi=>by simp[hi]
 have key:∀m,m≤zs.length→(compactUpTo zs.toArray m).Pairwise (· < ·)∧∀x∈compactUpTo zs.toArray m,0<m∧x≤zs.toArray[m-1]! :=by
  intro m
  induction m with
  |zero=>intro _;exact⟨by simp[compactUpTo],fun x hx=>by simp[compactUpTo]at hx⟩
  | succ m ih=>
   intro hm;obtain⟨h1,h2⟩:=ih (by omega)
   have hle:0<m→zs.toArray[m-1]! ≤zs.toArray[m]! :=fun h0=>by
    rw[at_ (m-1) (by omega),at_ m (by omega)];exact(List.pairwise_iff_getElem.1 h) (m-1) m (by omega) (by omega) (by omega)
   rw[compactUpTo_succ]
   by_cases hk:keeps zs.toArray m=true
   ·rw[A1 hk]
    have hlt:∀x∈compactUpTo zs.toArray m,x<zs.toArray[m]! :=fun x hx=>by
     obtain⟨h0,h3⟩:=h2 x hx;have h4:=hle h0
     have:zs.toArray[m]! ≠zs.toArray[m-1]! :=fun e=>by
      rw[keeps_neg h0 e]at hk;cases hk
     omega
    refine⟨List.pairwise_append.2 ⟨h1,by simp,fun x hx y hy=>?_⟩,fun x hx=>⟨by omega,?_⟩⟩
    ·simp only[M6]at hy;subst hy;exact hlt x hx
    rw[Nat.add_sub_cancel]
    rcases List.mem_append.1 hx with hx|hx
    ·have:=hlt x hx;omega
    simp only[M6]at hx;subst hx;exact O9 _
   rw[A3 hk,G9];refine⟨h1,fun x hx=>⟨by omega,?_⟩⟩;obtain⟨h0,h3⟩:=h2 x hx;have:=hle h0;rw[Nat.add_sub_cancel];omega
 exact(key zs.length (D3 _)).1
def Aq8 (zs:List Int):(Lib.compact zs).length≤zs.length:=by
 unfold Lib.compact Lib.compactUpTo;rw[N2];exact V2 (FN ..) (by simp)
def UA {zs:List Int} {x:Int}:x∈Lib.compact zs↔x∈zs:=by
 unfold Lib.compact Lib.compactUpTo;rw[FA]
 constructor
 ·rintro⟨j,hj,rfl⟩;have hj:=List.mem_range.1 (List.mem_filter.1 hj).1;simp[hj]
 intro hx;obtain⟨i,hi,rfl⟩:=List.mem_iff_getElem.1 hx
 have key:∀(n i:Nat) (hi:i<zs.length),i≤n→∃a,a∈(List.range zs.length).filter (keeps zs.toArray)∧zs.toArray[a]! =zs[i]:=fun n=>by
  induction n with
  |zero=>
   intro i hi h
   have:i=0:=by omega
   subst this;exact⟨0,List.mem_filter.2 ⟨List.mem_range.2 hi,keeps_lt_one _ 0 (by omega)⟩,by simp[hi]⟩
  |succ n ih=>
   intro i hi h
   by_cases hk:keeps zs.toArray i=true
   ·exact⟨i,List.mem_filter.2 ⟨List.mem_range.2 hi,hk⟩,by simp[hi]⟩
   by_cases h0:i=0
   ·subst h0;exact absurd (keeps_lt_one _ 0 (by omega)) hk
   obtain⟨a,ha,e⟩:=ih (i-1) (by omega) (by omega);refine⟨a,ha,e.trans ?_⟩;have h2:zs.toArray[i]! =zs.toArray[i-1]! :=Classical.not_not.1 fun hne=>hk (keeps_pos hne)
   have e1:zs.toArray[i]! =zs[i]:=by simp[hi]
   have e2:zs.toArray[i-1]! =zs[i-1]:=by simp[show i-1<zs.length by omega]
   rw[←e1,←e2,h2]
 exact key i i hi (D3 _)
def YI {l r:List Int}(h:NZ l=some r){x:Int}:x∈r↔x∈l:=by
 obtain⟨_,rfl⟩:=LB h;exact(List.mergeSort_perm l _).mem_iff
def Zg {l r:List Int}(h:NZ l=some r):r.Pairwise (· ≤ ·)∧r.length=l.length:=by
 obtain⟨_,rfl⟩:=LB h;have hs:=NP (le:=fun x y:Int=>decide (x≤y)) (fun a b c=>by simp;omega) (fun a b=>by simp;omega) l;exact⟨hs.imp fun h=>by simpa using h,NI ..⟩
def Nu (l:List A2):List Int:=l.flatMap fun x=>[x.Low,x.cZ+1]
def Kq {l:List A2}{n:Int}:n∈Nu l↔∃x∈l,n=x.Low∨n=x.cZ+1:=by
 unfold Nu;simp
def UU (l:List A2):(Nu l).length=2*l.length:=by
 induction l with
 |nil=>rfl
 |cons x l ih=>unfold Nu at *;simp at *;omega
def WB {N:Nat} {a b:List A2} (h:a.length+b.length≤100000) (hN:10<N):M1 N [a,b]=some (a++b):=by
 obtain⟨M,rfl⟩:∃M,N=M+3:=⟨N-3,by omega⟩;have e0:ar .add .i64 (0:Int) 1=1:=rfl;have e1:ar .add .i64 (1:Int) 1=2:=rfl
 have e2:ar .add .i64 (0:Int) (a.length:Int)=(a.length:Int):=by rw[M8 (by omega) (by omega)];omega
 have e3:ar .add .i64 (a.length:Int) (b.length:Int)=((a.length+b.length:Nat):Int):=by rw[M8 (by omega) (by omega)];omega
 have i0:C6 [a,b] 0=some a:=rfl;have i1:C6 [a,b] 1=some b:=rfl;have l2:Ar.len [a,b]=(2:Int):=rfl
 have g:N5 (M+3) [] ((a.length+b.length:Nat):Int)=some []:=by
  unfold N5 KB;rw[A1 (by omega)]
 unfold M1
 simp only[loopN,l2,C8,i0,i1,e0,e1,e2,e3,C9,A5,show decide ((0:Int)<2)=true from rfl,show decide ((1:Int)<2)=true from rfl,show decide ((2:Int)<2)=false from rfl,D1,E2,D7,
  show decide ((a.length:Int)<0)=false from Cw (by omega),show decide (((a.length+b.length:Nat):Int)<0)=false from Cw (by omega),g,L1 (l:=([]:List A2)) (m:=a) (by simp;omega),N1,L1 (l:=a) (m:=b) (by omega)]
def YY {N:Nat} {l:List A2} (hb:∀x∈l,Tm x) (hl:l.length≤100000) (hN:l.length<N):loopN
 (fun(s3:Int×(List Int))=>
  (
   if cmp .lss s3.1 (Ar.len l)=true then
    (C6 l s3.1).bind fun x6=>
    (I1 s3.2 ([x6.Low,ar .add .i64 x6.cZ 1])).bind fun l8=>
    some (.inl (ar .add .i64 s3.1 1,l8))
   else
    some (.inr s3.2)
   :Option ((Int×(List Int))⊕(((List Int))))))
 N (0,([]:List Int))=some (Nu l):=by
 obtain⟨r,h1,h2⟩:=Y7 (N:=N) (l:=l) (Q:=fun(r:List Int)=>r=Nu l)
  (I:=fun i (t:Int×List Int)=>t.1=(i:Int)∧t.2=Nu (l.take i))
  (s0:=((0:Int),([]:List Int)))
  (step:=fun(s3:Int×(List Int))=>
   (
    if cmp .lss s3.1 (Ar.len l)=true then
     (C6 l s3.1).bind fun x6=>
     (I1 s3.2 ([x6.Low,ar .add .i64 x6.cZ 1])).bind fun l8=>
     some (.inl (ar .add .i64 s3.1 1,l8))
    else
     some (.inr s3.2)
    :Option ((Int×(List Int))⊕(((List Int))))))
  (fun i x t hx hi ⟨e1,e2⟩=>by
   obtain⟨j,acc⟩:=t
   simp only at e1 e2
   subst e1;subst e2;have hxb:=hb x (G1 hx)
   unfold Tm at hxb
   have hln:(Nu (l.take i)).length≤200000:=by rw[UU,Y4];omega
   simp only[C8,C9,E7,hx,A5,B2];rw[A1 (by omega),I6 hi (by omega),L1 (by simp;omega),M8 (by omega) (by omega)];refine⟨_,rfl,rfl,?_⟩
   have e:l.take (i+1)=l.take i++[x]:=by rw[Cn,hx];rfl
   rw[e];simp[Nu])
  (fun t ⟨e1,e2⟩=>by
   obtain⟨j,acc⟩:=t
   simp only at e1 e2
   subst e1;subst e2;simp only[C8,C9,B2];rw[A3 (by omega),Cl]
   exact⟨_,rfl,rfl⟩) ⟨rfl,by simp[Nu]⟩ hN
 rw[h1,h2]
def UH {l:List A2} {E:List Int} {i:Nat} {p q n:Int} (hE:∀x∈l,x.Low∈E∧x.cZ+1∈E) (hasc:E.Pairwise (· < ·)) (hp:E[i]? =some p) (hq:E[i+1]? =some q) (h1:p≤n) (h2:n<q):Dg l n↔Dg l p:=by
 have gap:∀m∈E,m≤n↔m≤p:=fun m hm=>by
  obtain⟨k,hk⟩:=L8 hm;have hkl:=(List.getElem?_eq_some_iff.1 hk);have hpl:=(List.getElem?_eq_some_iff.1 hp);have hql:=(List.getElem?_eq_some_iff.1 hq);obtain⟨a1,a2⟩:=hkl;obtain⟨b1,b2⟩:=hpl;obtain⟨c1,c2⟩:=hql
  constructor
  ·intro h
   rcases G6 i k with h'|h'
   ·have:q≤m:=by
     by_cases e:k=i+1
     ·subst e;omega
     have:=(List.pairwise_iff_getElem.1 hasc) (i+1) k c1 a1 (by omega);omega
    omega
   by_cases e:k=i
   ·subst e;omega
   have:=(List.pairwise_iff_getElem.1 hasc) k i a1 b1 (by omega);omega
  intro h;omega
 unfold Dg
 constructor
 ·rintro⟨x,hx,k1,k2⟩;obtain⟨g1,g2⟩:=hE x hx;refine⟨x,hx,(gap _ g1).1 k1,?_⟩;have:=gap _ g2;omega
 rintro⟨x,hx,k1,k2⟩;obtain⟨g1,g2⟩:=hE x hx;refine⟨x,hx,(gap _ g1).2 k1,?_⟩;have:=gap _ g2;omega
def ZM {N:Nat} {a b:List A2} {bel:Bool→Bool→Option Bool} {f:Bool→Bool→Bool} (hf:∀x y,bel x y=some (f x y)) (hff:f false false=false)
 (ha:Zp a) (hb:Zp b) (hN:2000<N) {P:Int→Prop} (hP:∀n x y,(x=true↔Dg a n)→(y=true↔Dg b n)→(f x y=true↔P n)):
 ∃r,CJ N a b bel=some r∧Lt r∧r.length≤2*(a.length+b.length)∧∀n,Dg r n↔P n:=by
 have hal:=ha.1;have hbl:=hb.1
 have hbd:∀x∈a++b,Tm x:=fun x hx=>by
  rcases List.mem_append.1 hx with hx|hx
  ·exact ha.2.1 x hx
  exact hb.2.1 x hx
 unfold CJ;rw[WB (by omega) (by omega)];simp only[A5];rw[YY hbd (by simp;omega) (by simp;omega)];simp only[A5]
 have hel:(Nu (a++b)).length=2*(a.length+b.length):=by rw[UU,I8]
 obtain⟨S,hS⟩:∃S,NZ (Nu (a++b))=some S:=⟨_,by unfold NZ;rw[A1 (by omega)]⟩;obtain⟨hasc,hSl⟩:=Zg hS
 have hC:KH S=some (Lib.compact S):=by unfold KH;rw[A1 (by omega)]
 unfold CA Bb;rw[hS];simp only[A5,hC];have hEasc:=Ve hasc;have hEl:=Aq8 S;have hEm:∀m,m∈Lib.compact S↔m∈Nu (a++b):=fun m=>UA.trans (YI hS)
 generalize Lib.compact S=E at hEasc hEl hEm
 have hEa:∀x∈a,x.Low∈E∧x.cZ+1∈E:=fun x hx=>⟨(hEm _).2 (Kq.2 ⟨x,by simp[hx],.inl rfl⟩),(hEm _).2 (Kq.2 ⟨x,by simp[hx],.inr rfl⟩)⟩;have hEb:∀x∈b,x.Low∈E∧x.cZ+1∈E:=fun x hx=>⟨(hEm _).2 (Kq.2 ⟨x,by simp[hx],.inl rfl⟩),(hEm _).2 (Kq.2 ⟨x,by simp[hx],.inr rfl⟩)⟩
 have hEbd:∀m∈E, -1099511627776≤m∧m≤1099511627777:=fun m hm=>by
  obtain⟨x,hx,e⟩:=Kq.1 ((hEm m).1 hm);have:=hbd x hx
  unfold Tm at this
  omega
 have noB:∀n,¬Dg a n→¬Dg b n→¬P n:=fun n h1 h2 h=>by
  have:=(hP n false false (by simp[h1]) (by simp[h2])).2 h
  rw[hff]at this;cases this
 obtain⟨r,h1,h2⟩:=Y7 (N:=N) (l:=List.range (E.length-1)) (Q:=fun(r:List A2)=>Lt r∧r.length≤E.length∧∀n,Dg r n↔P n)
  (I:=fun i (t:Int×List A2)=>t.1=(i:Int)∧Lt t.2∧t.2.length≤i∧(∀y∈t.2,∀p,E[i]? =some p→y.Low≤p)∧∀n,Dg t.2 n↔(P n∧∃p,E[i]? =some p∧n<p))
  (s0:=((0:Int),([]:List A2)))
  (step:=fun(s14:Int×(List A2))=>
   (
    if cmp .lss (ar .add .i64 s14.1 1) (Ar.len E)=true then
     (X1 (Z9 E s14.1)).bind fun _=>
     (C6 E s14.1).bind fun x17=>
     (Z7 N a x17).bind fun r18=>
     (X1 (Z9 E s14.1)).bind fun _=>
     (C6 E s14.1).bind fun x19=>
     (Z7 N b x19).bind fun r20=>
     (bel r18 r20).bind fun r21=>
     if r21=true then
      (X1 (Z9 E s14.1)).bind fun _=>
      (C6 E s14.1).bind fun x22=>
      (X1 (Z9 E (ar .add .i64 s14.1 1))).bind fun _=>
      (C6 E (ar .add .i64 s14.1 1)).bind fun x23=>
      (BT N s14.2 (⟨x22,ar .sub .i64 x23 1⟩:A2)).bind fun l24=>
      some (.inl (ar .add .i64 s14.1 1,l24))
     else
      some (.inl (ar .add .i64 s14.1 1,s14.2))
    else
     some (.inr s14.2)
    :Option ((Int×(List A2))⊕(((List A2))))))
  (fun i x t hx hi ⟨e1,e2,e3,e4,e5⟩=>by
   obtain⟨j,acc⟩:=t
   simp only at e1 e2 e3 e4 e5
   subst e1
   rw[Ah]at hi
   have hp:=D5 (show i<E.length by omega);have hq:=D5 (show i+1<E.length by omega);have hpq:=(List.pairwise_iff_getElem.1 hEasc) i (i+1) (by omega) (by omega) (by omega);have bp:=hEbd _ (Bt (show i<E.length by omega));have bq:=hEbd _ (Bt (show i+1<E.length by omega))
   generalize E[i]=p at hp hpq bp
   generalize E[i+1]=q at hq hpq bq
   have in1:Z9 E (i:Int)=true:=by unfold Z9;simp only[B2];omega
   have in2:Z9 E ((i+1:Nat):Int)=true:=by unfold Z9;simp only[B2];omega
   obtain⟨va,k1,k2⟩:=Ag1 (N:=N) (n:=p) ha (by omega);obtain⟨vb,k3,k4⟩:=Ag1 (N:=N) (n:=p) hb (by omega)
   have hstep:∀n,p≤n→n<q→(P n↔P p):=fun n g1 g2=>by
    have:=hP n va vb (k2.trans (UH hEa hEasc hp hq g1 g2).symm) (k4.trans (UH hEb hEasc hp hq g1 g2).symm);exact this.symm.trans (hP p va vb k2 k4)
   simp only[C8,C9,B2];rw[I6 hi (by omega),A1 (by omega)];simp only[in1,in2,X1,D1,A5,E7,hp,hq,k1,k3,hf]
   by_cases hc:f va vb=true
   ·have hPp:=(hP p va vb k2 k4).1 hc;rw[A1 hc];have hsub:ar .sub .i64 q 1=q-1:=GO (by omega) (by omega);rw[hsub];obtain⟨out,o1,o2⟩:=Yy (N:=N) (acc:=acc) (x:=⟨p,q-1⟩) e2 ⟨by simp only;omega,by simp only;omega,by simp only;omega⟩ (fun y hy=>e4 y hy p hp) (by omega);rw[o1];refine⟨_,rfl,rfl,o2.ord,by have:=o2.len;simp only;omega,fun y hy z hz=>?_,fun n=>?_⟩
    ·cases hz;have:=o2.low y hy
     simp only at this;omega
    rw[o2.inl,e5];simp only[hp,hq,E8,exists_eq_left']
    constructor
    ·rintro(⟨g1,g2⟩|⟨g1,g2⟩)
     ·exact⟨g1,by omega⟩
     exact⟨(hstep n g1 (by omega)).2 hPp,by omega⟩
    rintro⟨g1,g2⟩
    by_cases h:n<p
    ·exact .inl ⟨g1,h⟩
    exact .inr ⟨by omega,by omega⟩
   rw[A3 hc];have hPp:¬P p:=fun h=>hc ((hP p va vb k2 k4).2 h);refine⟨_,rfl,rfl,e2,by simp only;omega,fun y hy z hz=>?_,fun n=>?_⟩
   ·cases hz;have:=e4 y hy p hp;omega
   rw[e5];simp only[hp,hq,E8,exists_eq_left']
   constructor
   ·rintro⟨g1,g2⟩;exact⟨g1,by omega⟩
   rintro⟨g1,g2⟩;refine⟨g1,?_⟩
   rcases Int.lt_or_le n p with h|h
   ·exact h
   exact absurd ((hstep n h g2).1 g1) hPp)
  (fun t ⟨e1,e2,e3,e4,e5⟩=>by
   obtain⟨j,acc⟩:=t
   simp only at e1 e2 e3 e4 e5
   rw[Ah]at e1 e3 e4 e5
   subst e1;have hinc:ar .add .i64 ((E.length-1:Nat):Int) 1=((E.length-1+1:Nat):Int):=I6 (n:=E.length+1) (by omega) (by omega);simp only[C8,C9,hinc,B2];rw[A3 (by omega)];refine⟨_,rfl,e2,by omega,fun n=>(e5 n).trans ⟨fun h=>h.1,fun h=>⟨h,?_⟩⟩⟩
   have above:∀x,x∈a∨x∈b→x.Low≤n→n≤x.cZ→∃p,E[E.length-1]? =some p∧n<p:=fun x hx g1 g2=>by
    have hm:x.cZ+1∈E:=by rcases hx with hx|hx;exact(hEa x hx).2;exact(hEb x hx).2
    obtain⟨k,hk⟩:=L8 hm;obtain⟨a1,a2⟩:=List.getElem?_eq_some_iff.1 hk;refine⟨_,D5 (show E.length-1<E.length by omega),?_⟩
    by_cases e:k=E.length-1
    ·subst e;omega
    have:=(List.pairwise_iff_getElem.1 hEasc) k (E.length-1) a1 (by omega) (by omega);omega
   by_cases g:Dg a n
   ·obtain⟨x,hx,g1,g2⟩:=g;exact above x (.inl hx) g1 g2
   by_cases g':Dg b n
   ·obtain⟨x,hx,g1,g2⟩:=g';exact above x (.inr hx) g1 g2
   exact absurd h (noB n g g'))
  ⟨rfl,trivial,by simp,fun y hy=>by simp at hy,fun n=>by
   simp only[Fx,false_iff,not_and];rintro h ⟨p,hp,hn⟩
   have first:∀m∈E,p≤m:=fun m hm=>by
    obtain⟨k,hk⟩:=L8 hm;obtain⟨a1,a2⟩:=List.getElem?_eq_some_iff.1 hk;obtain⟨b1,b2⟩:=List.getElem?_eq_some_iff.1 hp
    by_cases e:k=0
    ·subst e;omega
    have:=(List.pairwise_iff_getElem.1 hEasc) 0 k b1 a1 (by omega);omega
   refine noB n ?_ ?_ h
   ·rintro⟨x,hx,g1,g2⟩;have:=first _ (hEa x hx).1;omega
   rintro⟨x,hx,g1,g2⟩;have:=first _ (hEb x hx).1;omega⟩ (by rw[Ah];omega)
 rw[h1];obtain⟨h2,h3,h4⟩:=h2;exact⟨r,rfl,h2,by omega,h4⟩
end Go.Ab
namespace Go.Ab
def Ft {S R α β:Type} {l:List α} {step:S→Option (S⊕R)} (rep:Nat→List β→S) (g:α→List β) (fin:List β→R) (hg:∀x∈l,(g x).length≤1) (b0:List β)
 (hs:∀(i:Nat) x acc,l[i]? =some x→i<l.length→acc.length≤b0.length+i→step (rep i acc)=some (.inl (rep (i+1) (acc++g x))))
 (he:∀acc,acc.length≤b0.length+l.length→step (rep l.length acc)=some (.inr (fin acc))) {N:Nat} (hN:l.length<N) {s0:S} (e0:s0=rep 0 b0):loopN step N s0=some (fin (b0++l.flatMap g)):=by
 subst e0
 have key:∀(d i N:Nat) (acc:List β),i+d=l.length→d<N→acc.length≤b0.length+i→loopN step N (rep i acc)=some (fin (acc++(l.drop i).flatMap g)):=by
  intro d
  induction d with
  |zero=>
   intro i N acc hi hN ha;obtain⟨N,rfl⟩:∃m,N=m+1:=⟨N-1,by omega⟩
   have e:i=l.length:=by omega
   subst e;rw[loopN,he acc ha,Hq];simp
  |succ d ih=>
   intro i N acc hi hN ha;obtain⟨N,rfl⟩:∃m,N=m+1:=⟨N-1,by omega⟩
   have hil:i<l.length:=by omega
   have hgx:=hg l[i] (Bt hil);rw[loopN,hs i l[i] acc (D5 hil) hil ha];simp only[A5];rw[ih (i+1) N (acc++g l[i]) (by omega) (by omega) (by rw[I8];omega),Aj hil,Dx,F6]
 have:=key l.length 0 N b0 (by omega) hN (by omega)
 rwa[Jq]at this
def Lf {N:Nat} {t:Int} {p:B3} (hN:300<N) (hp:Jf t p=0):K4 N p=some p:=by
 obtain⟨_,h0⟩:=Gy hp;obtain⟨hlen,hsrt⟩:=DZ h0;unfold K4;simp only[C9,PO];rw[A1 (by omega)];simp only[A5,K0]
 obtain⟨r,h1,h2⟩:=Y7 (N:=N) (l:=p.cX) (Q:=fun(t:List (List A2))=>t=p.cX)
  (I:=fun i (t:Int×List (List A2))=>t.1=(i:Int)∧t.2=p.cX.take i++List.replicate (p.cX.length-i) [])
  (s0:=((0:Int),List.replicate p.cX.length ([]:List A2)))
  (step:=fun(s4:Int×(List (List A2)))=>
   (
    if cmp .lss s4.1 (p.cX.length:Int)=true then
     (C6 p.cX s4.1).bind fun x7=>
     (K5 N x7).bind fun l8=>
     (X1 (Z9 s4.2 s4.1)).bind fun _=>
     (Y6 s4.2 s4.1 (fun x10:List A2=>l8)).bind fun l11=>
     some (.inl (ar .add .i64 s4.1 1,l11))
    else
     some (.inr s4.2)
    :Option ((Int×(List (List A2)))⊕(((List (List A2)))))))
  (fun i x t hx hi ⟨e1,e2⟩=>by
   obtain⟨j,T⟩:=t
   simp only at e1 e2
   subst e1;subst e2;have hxl:=(hsrt x (G1 hx)).1
   have ht:(p.cX.take i).length=i:=by rw[Y4];omega
   obtain⟨k,hk⟩:∃k,p.cX.length-i=k+1:=⟨p.cX.length-i-1,by omega⟩
   have e4:K5 N x=some x:=by unfold K5;rw[L1 (by simp;omega)];rfl
   simp only[C8,B2];rw[A1 (by omega),E7,hx];simp only[A5];rw[e4,hk,Dy];simp only[A5]
   have e5:X1 (Z9 (p.cX.take i++[]::List.replicate k ([]:List A2)) (i:Int))=some ():=by
    unfold X1 Z9;rw[A1];simp;omega
   have e6:Y6 (p.cX.take i++[]::List.replicate k ([]:List A2)) (i:Int) (fun x10:List A2=>x)=some (p.cX.take i++x::List.replicate k []):=by
    unfold Y6;rw[E7,GL (by omega),ht,Ji,K0]
    show some ((p.cX.take i++[]::List.replicate k []).set i x)=_
    rw[List.set_append_right _ _ (by omega),ht,Ji];rfl
   rw[e5];simp only[A5];rw[e6];simp only[A5];rw[I6 hi (by omega)];refine⟨_,rfl,rfl,?_⟩
   simp only
   rw[Cn,hx,show p.cX.length-(i+1)=k by omega]
   simp)
  (fun t ⟨e1,e2⟩=>by
   obtain⟨j,T⟩:=t
   simp only at e1 e2
   subst e1;subst e2;simp only[C8,B2];rw[A3 (by omega)]
   exact⟨_,rfl,by simp⟩) ⟨rfl,by simp⟩ (by omega)
 rw[h1,h2];rfl
def Wc {s:A0}(h:Jc s):DV s=0:=by
 unfold DV;rw[A3 (by have:=h.ty;omega),A3 (by have:=h.fi;have:=h.mv;omega)];refine EG.2 fun i m hm=>?_;have:=h.each m (G1 hm);unfold ZQ;rw[A1 this.1];exact this.2
def OA (s:A0):List Bool:=(s.cT[0]?).getD false::true::List.replicate (s.cT.length-1) false
def Aa7 (s:A0):List B5:=(s.cU.flatMap fun m=>if s.cT[m.To.toNat]? =some true then[(⟨0,m.cW+1,m.On⟩:B5)]else[])++s.cU.flatMap fun m=>[(⟨m.To+1,m.cW+1,m.On⟩:B5)]
def Aa8 (s:A0):A0:=⟨s.cV,OA s,Aa7 s⟩
def PP {N:Nat}{s:A0}(h1:s.cT.length≤256)(h2:s.cU.length≤2048):S1 N s=some (s,0):=by
 unfold S1;rw[A3 (by simp[U5,C9,GT];omega)]
def Dk {α β:Type} {l:List α} {g:α→List β} (hg:∀x∈l,(g x).length≤1):(l.flatMap g).length≤l.length:=by
 induction l with
 |nil=>simp
 |cons x l ih=>
  have:=ih fun y hy=>hg y (Y5 _ hy);have:=hg x (by simp);rw[Dx,I8,N3];omega
def VU {s:A0} (h0:DV s=0) (hf:s.cT.length≤100) (hm:s.cU.length≤100):S3 40000000 s=some (Aa8 s,0):=by
 have hs:=Cy h0;have hfi:=hs.fi;unfold S3;rw[DX (by omega),h0];simp only[A5,N8,U9,M5,E2,D7,C9];rw[M8 (by omega) (by omega)]
 have e1:PO ((s.cT.length:Int)+1) ((s.cT.length:Int)+1) (false:Bool)=some (List.replicate (s.cT.length+1) false):=by
  unfold PO;rw[A1 (by omega),show((s.cT.length:Int)+1).toNat=s.cT.length+1 by omega]
 obtain⟨k,hk⟩:∃k,s.cT.length=k+1:=⟨s.cT.length-1,by omega⟩
 have e2:C6 s.cT 0=some ((s.cT[0]?).getD false):=by
  have:C6 s.cT ((0:Nat):Int)=s.cT[0]? :=E7
  rw[show((0:Nat):Int)=0 from rfl]at this
  rw[this,D5 (by omega)];rfl
 rw[e1,e2,hk,Dy,Dy];simp only[A5]
 have e3:∀(z:Bool) (l:List Bool),X1 (Z9 (z::l) 0)=some ():=fun z l=>by unfold X1 Z9;rw[A1];simp
 have e4:∀(y z:Bool) (l:List Bool),X1 (Z9 (y::z::l) 1)=some ():=fun y z l=>by unfold X1 Z9;rw[A1];simp;omega
 have e5:∀(u z:Bool) (l:List Bool),Y6 (z::l) 0 (fun _=>u)=some (u::l):=fun u z l=>rfl;have e6:∀(u y z:Bool) (l:List Bool),Y6 (y::z::l) 1 (fun _=>u)=some (y::u::l):=fun u y z l=>rfl;rw[e3];simp only[A5];rw[e5];simp only[A5];rw[e4];simp only[A5];rw[e6];simp only[A5];have hcp:∀{i:Nat} {m:B5},s.cU[i]? =some m→m∈s.cU∧K4 40000000 m.On=some m.On:=fun h=>⟨G1 h,Lf (by omega) (hs.each _ (G1 h)).2⟩
 rw [Ft (l:=s.cU) (rep:=fun i (acc:List B5)=>((i:Int),(⟨s.cV,[],acc⟩:A0))) (g:=fun m=>if s.cT[m.To.toNat]? =some true then[(⟨0,m.cW+1,m.On⟩:B5)]else[]) (fin:=fun acc=>(⟨s.cV,[],acc⟩:A0)) (fun m _=>by split<;>simp) []
  (fun i m acc hx hi ha=>by
   obtain⟨hm1,hc⟩:=hcp hx;have hr:=(hs.each m hm1).1
   rw[V6]at ha
   simp only[C8,B2];rw[A1 (by omega),E7,hx];simp only[A5];obtain⟨t,ht⟩:∃t:Nat,m.To=t:=⟨m.To.toNat,by omega⟩
   have htl:t<s.cT.length:=by omega
   rw[ht,E7,K0,D5 htl];simp only[A5];rw[I6 hi (by omega)]
   cases s.cT[t]with
   |true=>
    simp only[D1,hc,A5];rw[M8 (by omega) (by omega),L1 (by simp;omega)];rfl
   |false=>simp) (fun acc _=>by simp only[C8,B2];rw[A3 (by omega)]) (by omega) (by rfl)]
 simp only[A5,N1];have hl1:=Dk (l:=s.cU) (g:=fun m=>if s.cT[m.To.toNat]? =some true then[(⟨0,m.cW+1,m.On⟩:B5)]else[]) (fun m _=>by split<;>simp);have hl2:=Dk (l:=s.cU) (g:=fun m=>[(⟨m.To+1,m.cW+1,m.On⟩:B5)]) (fun m _=>by simp)
 rw[Ft (l:=s.cU) (rep:=fun i (acc:List B5)=>((i:Int),(⟨s.cV,[],acc⟩:A0))) (g:=fun m=>[(⟨m.To+1,m.cW+1,m.On⟩:B5)]) (fin:=fun acc=>(⟨s.cV,[],acc⟩:A0)) (fun m _=>by simp) (s.cU.flatMap fun m=>if s.cT[m.To.toNat]? =some true then[(⟨0,m.cW+1,m.On⟩:B5)]else[])
  (fun i m acc hx hi ha=>by
   obtain⟨hm1,hc⟩:=hcp hx;have hr:=(hs.each m hm1).1;simp only[C8,B2];rw[A1 (by omega),E7,hx];simp only[A5,hc];rw[I6 hi (by omega),M8 (by omega) (by omega),M8 (by omega) (by omega),L1 (by simp;omega)]
   rfl) (fun acc _=>by simp only[C8,B2];rw[A3 (by omega)]) (by omega) (by rfl)]
 simp only[A5]
 have ef:OA s=(s.cT[0]?).getD false::true::List.replicate k false:=by unfold OA;rw[hk];rfl
 rw[←ef];rw[PP (by show(OA s).length≤256;rw[ef];simp;omega) (by rw[I8];omega)];rfl
def Am1 {s:A0} {n:B5}:n∈Aa7 s↔(∃m∈s.cU,s.cT[m.To.toNat]? =some true∧n=⟨0,m.cW+1,m.On⟩)∨∃m∈s.cU,n=⟨m.To+1,m.cW+1,m.On⟩:=by
 unfold Aa7;rw[AK,DQ,DQ]
 constructor
 ·rintro(⟨m,hm,h⟩|⟨m,hm,h⟩)
  ·split at h
   ·next hf=>exact .inl ⟨m,hm,hf,List.mem_singleton.1 h⟩
   cases h
  exact .inr ⟨m,hm,List.mem_singleton.1 h⟩
 rintro(⟨m,hm,hf,h⟩|⟨m,hm,h⟩)
 ·exact .inl ⟨m,hm,by rw[A1 hf,h];simp⟩
 exact .inr ⟨m,hm,by rw[h];simp⟩
def Am2 {s:A0}(hs:Jc s):(OA s).length=s.cT.length+1:=by
 have:=hs.fi;unfold OA;simp;omega
def Aa5 {s:A0}(hs:Jc s)(hf:s.cT.length≤100)(hm:s.cU.length≤100):Jc (Aa8 s):=by
 have hl:=Am2 hs;have hl1:=Dk (l:=s.cU) (g:=fun m=>if s.cT[m.To.toNat]? =some true then[(⟨0,m.cW+1,m.On⟩:B5)]else[]) (fun m _=>by split<;>simp);have hl2:=Dk (l:=s.cU) (g:=fun m=>[(⟨m.To+1,m.cW+1,m.On⟩:B5)]) (fun m _=>by simp);refine⟨hs.ty,by show 1≤(OA s).length∧(OA s).length≤256;omega,by show(Aa7 s).length≤2048;unfold Aa7;rw[I8];omega,fun n hn=>?_⟩
 show((0≤n.cW∧n.cW<((OA s).length:Int))∧0≤n.To∧n.To<((OA s).length:Int))∧Jf s.cV n.On=0
 rcases Am1.1 hn with⟨m,hm,_,rfl⟩|⟨m,hm,rfl⟩<;>(have:=hs.each m hm;exact⟨⟨by dsimp only;omega,by dsimp only;omega⟩,this.2⟩)
def MM {α:Type} {N:Nat} (hN:4≤N) (x y z:List α) (h:x.length+y.length+z.length≤100000) (grow:List α→Int→Option (List α)) (hg:∀n,0≤n→n≤1073741824→grow [] n=some []):
 ((loopN (fun(s1:Int×Int)=>(if cmp .lss s1.2 (Ar.len [x,y,z])=true then(C6 [x,y,z] s1.2).bind fun x3=>if cmp .lss (ar .add .i64 s1.1 (Ar.len x3)) 0=true then none else some (.inl (ar .add .i64 s1.1 (Ar.len x3),ar .add .i64 s1.2 1))else some (.inr s1.1):Option ((Int×Int)⊕Int))) N (0,0)).bind fun s2=>
  (grow [] s2).bind fun l4=>(loopN (fun(s6:Int×List α)=>(if cmp .lss s6.1 (Ar.len [x,y,z])=true then(C6 [x,y,z] s6.1).bind fun x9=>(I1 s6.2 x9).bind fun l11=>some (.inl (ar .add .i64 s6.1 1,l11))else some (.inr s6.2):Option ((Int×List α)⊕List α))) N (0,l4)).bind fun s8=>some s8)=some (x++y++z):=by
 have e1:ar .add .i64 0 (x.length:Int)=x.length:=by rw[M8 (by omega) (by omega)];omega
 have e2:ar .add .i64 (x.length:Int) (y.length:Int)=x.length+y.length:=by rw[M8 (by omega) (by omega)]
 have e2':ar .add .i64 ((x.length:Int)+y.length) (z.length:Int)=x.length+y.length+z.length:=by rw[M8 (by omega) (by omega)]
 have e3:ar .add .i64 0 1=1:=by rw[M8 (by omega) (by omega)];rfl
 have e4:ar .add .i64 1 1=2:=by rw[M8 (by omega) (by omega)];rfl
 have e5:ar .add .i64 2 1=3:=by rw[M8 (by omega) (by omega)];rfl
 obtain⟨N,rfl⟩:∃M,N=M+4:=⟨N-4,by omega⟩;have i0:C6 [x,y,z] 0=some x:=rfl;have i1:C6 [x,y,z] 1=some y:=rfl;have i2:C6 [x,y,z] 2=some z:=rfl;have c0:cmp .lss 0 (Ar.len [x,y,z])=true:=rfl;have c1:cmp .lss 1 (Ar.len [x,y,z])=true:=rfl;have c2:cmp .lss 2 (Ar.len [x,y,z])=true:=rfl;have c3:cmp .lss 3 (Ar.len [x,y,z])=false:=rfl
 have n1:cmp .lss (x.length:Int) 0=false:=by rw[C8];exact Cw (by omega)
 have n2:cmp .lss ((x.length:Int)+y.length) 0=false:=by rw[C8];exact Cw (by omega)
 have n3:cmp .lss ((x.length:Int)+y.length+z.length) 0=false:=by rw[C8];exact Cw (by omega)
 have hl:∀x:List α,Ar.len x=(x.length:Int):=fun x=>rfl;simp only[loopN,c0,D1,i0,A5,hl x,e1,n1,E2,D7,e3,c1,i1,hl y,e2,n2,e4,c2,i2,hl z,e2',n3,e5,c3];rw[hg _ (by omega) (by omega)];simp only[A5];rw[L1 (by simp;omega)];simp only[A5,e3,c1,D1,i1,N1];rw[L1 (by omega)];simp only[A5,e4,c2,D1,i2];rw[L1 (by rw[I8];omega)];simp only[A5,e5,c3,E2,D7]
def Ar0 {N:Nat}(hN:4≤N)(x y z:List Bool)(h:x.length+y.length+z.length≤100000):O6 N [x,y,z]=some (x++y++z):=MM hN x y z h _ fun n a b=>by unfold Z3 KB;rw[A1 ⟨a,b⟩]
def Aq9 {N:Nat}(hN:4≤N)(x y z:List B5)(h:x.length+y.length+z.length≤100000):O7 N [x,y,z]=some (x++y++z):=MM hN x y z h _ fun n a b=>by unfold Z4 KB;rw[A1 ⟨a,b⟩]
def OJ (s:A0)(k:Int):List B5:=s.cU.flatMap fun m=>[(⟨m.cW+k,m.To+k,m.On⟩:B5)]
def KP (s:A0)(k:Int):(OJ s k).length≤s.cU.length:=Dk fun m _=>by simp
def KO {s:A0}{k:Int}{n:B5}:n∈OJ s k↔∃m∈s.cU,n=⟨m.cW+k,m.To+k,m.On⟩:=by
 unfold OJ;rw[DQ];exact⟨fun⟨m,hm,h⟩=>⟨m,hm,List.mem_singleton.1 h⟩,fun⟨m,hm,h⟩=>⟨m,hm,by rw[h];simp⟩⟩
def Pq {s:A0} (h0:DV s=0) (hm:s.cU.length≤100) {k:Nat} (hk:k≤1000):N4 40000000 s (k:Int)=some (OJ s k):=by
 have hs:=Cy h0;unfold N4;simp only[C9]
 rw[Ft (l:=s.cU) (rep:=fun i (acc:List B5)=>(acc,(i:Int))) (g:=fun m=>[(⟨m.cW+(k:Int),m.To+(k:Int),m.On⟩:B5)]) (fin:=fun acc=>acc) (fun m _=>by simp) []
  (fun i m acc hx hi ha=>by
   have hm1:=G1 hx;have hr:=(hs.each m hm1).1;have hfi:=hs.fi
   rw[V6]at ha
   simp only[C8,B2];rw[A1 (by omega),E7,hx];simp only[A5];rw[Lf (by omega) (hs.each m hm1).2];simp only[A5];rw[I6 hi (by omega),M8 (by omega) (by omega),M8 (by omega) (by omega),L1 (by simp;omega)]
   rfl) (fun acc _=>by simp only[C8,B2];rw[A3 (by omega)]) (by omega) (by rfl)]
 rfl
def Qb (l:List B5)(k:Int):List B5:=l.flatMap fun m=>if m.cW=k then[(⟨0,m.To,m.On⟩:B5)]else[]
def MD (l:List B5)(k:Int):(Qb l k).length≤l.length:=Dk fun m _=>by split<;>simp
def Ag4 {l:List B5} {k:Int} {n:B5}:n∈Qb l k↔∃m∈l,m.cW=k∧n=⟨0,m.To,m.On⟩:=by
 unfold Qb;rw[DQ]
 constructor
 ·rintro⟨m,hm,h⟩
  split at h
  ·next hf=>exact⟨m,hm,hf,List.mem_singleton.1 h⟩
  cases h
 rintro⟨m,hm,hf,h⟩;exact⟨m,hm,by rw[A1 hf,h];simp⟩
def Ty (a b:A0):List B5:=(Qb (OJ a 1) 1++Qb (OJ b ((1+a.cT.length:Nat):Int)) ((1+a.cT.length:Nat):Int))++OJ a 1++OJ b ((1+a.cT.length:Nat):Int)
def Sd (a b:A0)(c:Bool):A0:=⟨a.cV,[c]++a.cT++b.cT,Ty a b⟩
def UO {T:Int} {F:List Bool} {l:List B5} (hl:l.length≤1000) (hp:∀m∈l,∃t,Jf t m.On=0) {k:Int} {K:Int} (hK:K=k) {b0:List B5} (hb:b0.length≤1000):loopN
 (fun(s12:Int×A0)=>
  (
   if cmp .lss s12.1 (Ar.len l)=true then
    (C6 l s12.1).bind fun x15=>
    if cmp .eql x15.cW K=true then
     (K4 40000000 x15.On).bind fun r16=>
     (I1 s12.2.cU ([(⟨0,x15.To,r16⟩:B5)])).bind fun l18=>
     some (.inl (ar .add .i64 s12.1 1,{s12.2 with cT:=F,cU:=l18}))
    else
     some (.inl (ar .add .i64 s12.1 1,{s12.2 with cT:=F}))
   else
    some (.inr ({s12.2 with cT:=F}))
   :Option ((Int×A0)⊕(A0))))
 40000000 (0,(⟨T,F,b0⟩:A0))=some ⟨T,F,b0++Qb l k⟩:=by
 subst hK
 rw[Ft (l:=l) (rep:=fun i (acc:List B5)=>((i:Int),(⟨T,F,acc⟩:A0))) (g:=fun m=>if m.cW=K then[(⟨0,m.To,m.On⟩:B5)]else[]) (fin:=fun acc=>(⟨T,F,acc⟩:A0)) (fun m _=>by split<;>simp) b0
  (fun i m acc hx hi ha=>by
   have hm1:=G1 hx;obtain⟨t,ht⟩:=hp m hm1;simp only[C8,Z8,C9,B2];rw[A1 (by omega),E7,hx];simp only[A5];rw[I6 hi (by omega)]
   by_cases h:m.cW=K
   ·rw[A1 h,A1 h,Lf (by omega) ht];simp only[A5];rw[L1 (by simp;omega)];rfl
   rw[A3 h,A3 h];simp) (fun acc _=>by simp only[C8,C9,B2];rw[A3 (by omega)]) (by omega) (by rfl)]
 rfl
def Pa {a b:A0} (ha:DV a=0) (hb:DV b=0) (ht:a.cV=b.cV) (hfa:a.cT.length≤100) (hma:a.cU.length≤100) (hfb:b.cT.length≤100) (hmb:b.cU.length≤100) (c:Bool):
 ((O6 40000000 ([[c],a.cT,b.cT])).bind fun r24=>
  (N4 40000000 a 1).bind fun r26=>
  (N4 40000000 b (ar .add .i64 1 (Ar.len a.cT))).bind fun r27=>
  (loopN
   (fun (s28:Int×A0)=>
    (
     if cmp .lss s28.1 2=true then
      (C6 ([r26,r27]) s28.1).bind fun x31=>
      (loopN
       (fun(s32:Int×A0)=>
        (
         if cmp .lss s32.1 (Ar.len x31)=true then
          (C6 x31 s32.1).bind fun x35=>
          if cmp .eql x35.cW (ar .add .i64 1 (ar .mul .i64 s28.1 (Ar.len a.cT)))=true then
           (K4 40000000 x35.On).bind fun r36=>
           (I1 s32.2.cU ([(⟨0,x35.To,r36⟩:B5)])).bind fun l38=>
           some (.inl (ar .add .i64 s32.1 1,{s32.2 with cT:=s28.2.cT,cU:=l38}))
          else
           some (.inl (ar .add .i64 s32.1 1,{s32.2 with cT:=s28.2.cT}))
         else
          some (.inr ({s32.2 with cT:=s28.2.cT}))
         :Option ((Int×A0)⊕(A0))))
       40000000 (0,s28.2)).bind fun s34=>
      some (.inl (ar .add .i64 s28.1 1,s34))
     else
      some (.inr s28.2)
     :Option ((Int×A0)⊕(A0))))
   40000000 (0,(⟨a.cV,r24,[]⟩:A0))).bind fun s30=>
  (O7 40000000 ([s30.cU,r26,r27])).bind fun r41=>
  (S1 40000000 ({s30 with cU:=r41})).bind fun r42=>
  some (r42.1,r42.2))=some (Sd a b c,0):=by
 have hsa:=Cy ha;have hsb:=Cy hb;have l1:=KP a 1;have l2:=KP b ((1+a.cT.length:Nat):Int);have l3:=MD (OJ a 1) 1;have l4:=MD (OJ b ((1+a.cT.length:Nat):Int)) ((1+a.cT.length:Nat):Int)
 have p1:∀m∈OJ a 1,∃t,Jf t m.On=0:=fun m hm=>by
  obtain⟨n,hn,rfl⟩:=KO.1 hm;exact⟨_,(hsa.each n hn).2⟩
 have p2:∀m∈OJ b ((1+a.cT.length:Nat):Int),∃t,Jf t m.On=0:=fun m hm=>by
  obtain⟨n,hn,rfl⟩:=KO.1 hm;exact⟨_,(hsb.each n hn).2⟩
 have e1:N4 40000000 a 1=some (OJ a 1):=Pq (k:=1) ha hma (by omega)
 have en:ar .add .i64 1 (Ar.len a.cT)=((1+a.cT.length:Nat):Int):=by rw[C9,M8 (by omega) (by omega)];omega
 have e2:=Pq (k:=1+a.cT.length) hb hmb (by omega);rw[Ar0 (by omega) _ _ _ (by simp;omega),e1,en,e2];simp only[A5]
 generalize hA:OJ a 1=A at *
 generalize hB:OJ b ((1+a.cT.length:Nat):Int)=B at *
 have k0:ar .add .i64 1 (ar .mul .i64 0 (Ar.len a.cT))=1:=by
  have:ar .mul .i64 0 (Ar.len a.cT)=0:=by
   have e:ar .mul .i64 0 (Ar.len a.cT)=IntKind.wrap .i64 (0*(Ar.len a.cT)):=rfl;rw[e,Int.zero_mul];rfl
  rw[this];rfl
 have k1:ar .add .i64 1 (ar .mul .i64 1 (Ar.len a.cT))=((1+a.cT.length:Nat):Int):=by
  have:ar .mul .i64 1 (Ar.len a.cT)=Ar.len a.cT:=by
   have e:ar .mul .i64 1 (Ar.len a.cT)=IntKind.wrap .i64 (1*(Ar.len a.cT)):=rfl;rw[e,Int.one_mul,C9];exact GO (by omega) (by omega)
  rw[this,en]
 have hloop:loopN
  (fun (s28:Int×A0)=>
   (
    if cmp .lss s28.1 2=true then
     (C6 ([A,B]) s28.1).bind fun x31=>
     (loopN
      (fun(s32:Int×A0)=>
       (
        if cmp .lss s32.1 (Ar.len x31)=true then
         (C6 x31 s32.1).bind fun x35=>
         if cmp .eql x35.cW (ar .add .i64 1 (ar .mul .i64 s28.1 (Ar.len a.cT)))=true then
          (K4 40000000 x35.On).bind fun r36=>
          (I1 s32.2.cU ([(⟨0,x35.To,r36⟩:B5)])).bind fun l38=>
          some (.inl (ar .add .i64 s32.1 1,{s32.2 with cT:=s28.2.cT,cU:=l38}))
         else
          some (.inl (ar .add .i64 s32.1 1,{s32.2 with cT:=s28.2.cT}))
        else
         some (.inr ({s32.2 with cT:=s28.2.cT}))
        :Option ((Int×A0)⊕(A0))))
      40000000 (0,s28.2)).bind fun s34=>
     some (.inl (ar .add .i64 s28.1 1,s34))
    else
     some (.inr s28.2)
    :Option ((Int×A0)⊕(A0))))
  (39999997+1+1+1) (0,(⟨a.cV,[c]++a.cT++b.cT,[]⟩:A0))=some ⟨a.cV,[c]++a.cT++b.cT,Qb A 1++Qb B ((1+a.cT.length:Nat):Int)⟩:=by
  rw[loopN]
  dsimp only
  rw[A1 (show cmp .lss (0:Int) 2=true from rfl),show C6 [A,B] 0=some A from rfl];simp only[A5];rw[UO (by omega) p1 k0 (by simp)];simp only[A5,N1];rw[show ar .add .i64 (0:Int) 1=1 from rfl,loopN]
  dsimp only
  rw[A1 (show cmp .lss (1:Int) 2=true from rfl),show C6 [A,B] 1=some B from rfl];simp only[A5];rw[UO (by omega) p2 k1 (by omega)];simp only[A5];rw[show ar .add .i64 (1:Int) 1=2 from rfl,loopN]
  dsimp only
  rw[A3 (show¬cmp .lss (2:Int) 2=true by decide)]
 rw[show(40000000:Nat)=39999997+1+1+1 from rfl]at hloop ⊢
 rw[hloop];simp only[A5];rw[Aq9 (by omega) _ _ _ (by rw[I8];omega)];simp only[A5];rw[PP (by simp;omega) (by simp only[I8];omega)];unfold Sd Ty;rw[hA,hB];rfl
def ZI {a b:A0} (ha:DV a=0) (hb:DV b=0) (ht:a.cV=b.cV) (hfa:a.cT.length≤100) (hma:a.cU.length≤100) (hfb:b.cT.length≤100) (hmb:b.cU.length≤100):
 ∃c,Al 40000000 a b=some (Sd a b c,0)∧(c=true↔a.cT[0]? =some true∨b.cT[0]? =some true):=by
 have hsa:=Cy ha;have hsb:=Cy hb
 have hp:W7 40000000 a b=some 0:=by
  unfold W7;rw[DX (by omega),DX (by omega),ha,hb];simp[N8,ht]
 have ea:C6 a.cT 0=a.cT[0]? :=E7 (i:=0);have eb:C6 b.cT 0=b.cT[0]? :=E7 (i:=0);have ga:a.cT[0]? =some (a.cT[0]'(by have:=hsa.fi;omega)):=D5 _;have gb:b.cT[0]? =some (b.cT[0]'(by have:=hsb.fi;omega)):=D5 _;unfold Al;rw[hp];simp only[A5];rw[A3 (show¬cmp .neq (0:Int) 0=true by decide),ea,ga];simp only[A5]
 cases h:a.cT[0]'(by have:=hsa.fi;omega)with
 |true=>
  rw[A1 rfl,Pa ha hb ht hfa hma hfb hmb true];exact⟨true,rfl,by simp⟩
 |false=>
  rw[A3 (by simp),eb,gb];simp only[A5];rw[Pa ha hb ht hfa hma hfb hmb];exact⟨_,rfl,by simp⟩
end Go.Ab
