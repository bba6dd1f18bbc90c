/- . -/
import Derived.Test.YtnfefddbggfopaaGreatDoorA18
import Derived.KernelRfl
import Derived.Test.YtnfefddbggfopaaGreatDoorRows
import Derived.WalkKit
import Derived.ProofKit
import Derived.OpenShut
import Derived.Deep.DeepHandedRow
import Derived.Carry
import Derived.Test.YtnfefddbggfopaaGreatDoorTie
set_option linter.all false
open Go.Ab.Ar (an cmp mn mx nt sat slen wr)
namespace Go.Ab
open Classical
noncomputable section
def Tx {N:Nat}{p:A0}(h:Oh N p=0):M0 N p=0:=by
 grind[Oh]
def AW2 {N:Nat}(hN:Bgn N){x:A0}(hb:x.bulk≤1048576)(h9:x.pre.length≤9)(hc:Oh N x=0):Jl N x:=by
 refine⟨by omega,Tx hc,?_⟩;have h1:=Bg1 x.dep x (D5 _);have h2:2 ^ x.pre.length≤2 ^ 9:=Nat.pow_le_pow_right (by decide) h9
 have h3:2 ^ 9=512:=by decide
 omega
def Ao8 {N:Nat} (hN:Bgn N) {x:A0} (hb:x.bulk≤16777216) (hc:Oh N x=0):∃r,IP N x=some r:=by
 have hpb:=HL x;have hg:=NX hN hb (Tx hc);unfold IP;rw[PU hN hb,hc];simp only[A4];rw[A1 (Q1 rfl),OO hN N x (by omega) hb];simp only[A4]
 have :=NT (N:=N) (Q:=fun _:Int×Int×Int=>True) (k:=fun s4:Int×Int=>some (s4.1,s4.2,(0:Int))) (step:=(fun(s3:Int×Int×Int)=>
  (
   if cmp .lss s3.2.2 (Ar.len x.pre)=true then
    (B8 x.pre s3.2.2).bind fun x5=>
    (Y4 N x5).bind fun r6=>
    ((
     if r6=true then
      some (Ar.ar .add .i64 s3.1 1)
     else
      some s3.1
    ):Option (Int)).bind fun s7=>
    (B8 x.pre s3.2.2).bind fun x8=>
    (T5 N x8).bind fun r9=>
    if r9=true then
     some (.inl (s7,Ar.ar .add .i64 s3.2.1 1,Ar.ar .add .i64 s3.2.2 1))
    else
     (B8 x.pre s3.2.2).bind fun x10=>
     (Y5 N x10).bind fun r11=>
     if r11=true then
      some (.inl (s7,Ar.ar .add .i64 s3.2.1 1,Ar.ar .add .i64 s3.2.2 1))
     else
      some (.inl (s7,s3.2.1,Ar.ar .add .i64 s3.2.2 1))
   else
    some (.inr (s3.1,s3.2.1))
   :Option ((Int×Int×Int)⊕((Int×Int)))))) (s:=(0,0,0)) (fun(j:Nat) (s:Int×Int×Int)=>s.2.2=(j:Int)) x.pre.length (by omega) rfl (fun j s hj e=>by
  obtain⟨a,b,i⟩:=s
  dsimp only at e
  subst e;have hm:=G7 hj;obtain⟨sh,ng,hs⟩:=hg _ hm;have e1:=P4 (i:=j) (by omega)
  dsimp only
  rw[A2 (KC (by omega)),G4,E3 hj];simp only[A4,hs.var,hs.neg,hs.tim]
  cases sh.typed<;>cases ng<;>cases sh.span<;>exact⟨_,rfl,e1⟩) (fun s e=>by
  simp_all[KD])
 simp_all
def AF9 {N:Nat}(hN:Bgn N){x:A0}(hb:x.bulk≤16777216)(hc:Oh N x=0):∃a b,FX N x=some (a,b,0):=by
 unfold FX;rw[MS hN hb,hc];simp only[A4];obtain⟨v,s,h⟩:=UG hN hb (Tx hc);rw[A1 (Q1 rfl),h]
 simp_all
def Wz {N:Nat} (hN:Bgn N) {x:A0} (hb:x.bulk≤1048576) (h9:x.pre.length≤9):∃(a a':E2) (e:Int),DM N x=some (a,e)∧FU N x=some (a',e)∧a.cZ.length=a'.cZ.length∧a.dC=a'.dC∧(e=0→a.cZ.length≤256∧a.dC.length≤2048∧∀d∈a.dC,d.cU.bulk≤16777216):=by
 unfold DM FU FF NJ
 by_cases hc:Oh N x=0
 ·have hr:=AW2 hN hb h9 hc;obtain⟨r,r1,r2,_,_⟩:=Sp hN hr hc;obtain⟨r',k1,k2⟩:=PS hN hr hc
  rw[r1]at k1
  have e:=Bl k1;subst e;rw[r1,r2];simp only[A4]
  rcases k2 with k2|⟨k2,k3⟩
  ·rw[A2 (X7 (by omega)),A2 (X7 (by omega))];exact⟨_,_,_,rfl,rfl,rfl,rfl,fun h=>by rw[k2]at h;cases h⟩
  ·rw[A1 (Q1 k2),A1 (Q1 k2)];obtain⟨ca,cb,c1⟩:=AF9 hN (x:=x) (by omega) hc;obtain⟨cr,c2⟩:=Ao8 hN (x:=x) (by omega) hc;have hcl:ClD N r.1:=⟨k3.len,k3.ok,k3.good⟩;rw[c1,c2];simp only[A4];rw[A1 (Q1 rfl),show(Da N r.1)=some ((List.range r.1.length).map fun(i:Nat)=>((i:Int),eds N r.1 i (r.1.getD i Ap9)))from Am4 hN hcl];simp only[A4];obtain⟨s,s1,s2,s3⟩:=At2 hN hcl ca cb;rw[s1];simp only[A4];have hlen:=k3.len;have hal:=MK hN hcl r.1.length (D5 _)
   have hbk:∀d∈s.dC,d.cU.bulk≤16777216:=fun d hd=>by
    rw[s3]at hd
    obtain⟨i,hi,hd⟩:=List.mem_flatMap.1 hd;have hi:=List.mem_range.1 hi
    rw[Wm hi]at hd
    obtain⟨e,he,rfl⟩:=List.mem_map.1 hd;have ho:=hcl.ok _ (G7 hi);exact((Nv (Di ho.2.1).2.1 ho.1 ho.2.2).2.1 e he).2.1
   obtain⟨t,t1,t2⟩:=At6 hN hcl cr.1 cr.2.1 (k:=fun s8=>
  if cmp .gtr (Ar.len s8.dC) 2048=true then
   some ((⟨0,0,[],[]⟩:E2),([]:List A0),(17:Int))
  else
   some (s8,r.1,0)) (Q:=fun t=>(if cmp .gtr (Ar.len s.dC) 2048=true then t.1=⟨0,0,[],[]⟩∧t.2.2=17 else t.1.cZ.length=s.cZ.length∧t.1.dC=s.dC∧t.2.2=0)) (fun u u1 u2=>by
    rw[u2,←s3]
    by_cases h:cmp .gtr (Ar.len s.dC) 2048=true
    ·rw[A2 h]
     simp_all
    simp_all)
   rw[t1];simp only[A4]
   by_cases h:cmp .gtr (Ar.len s.dC) 2048=true
   ·rw[A2 h]at t2 ⊢
    obtain⟨q1,q2⟩:=t2;rw[q1,q2]
    grind
   rw[A1 h]at t2 ⊢
   grind[N6,B2]
 obtain⟨f1,f2⟩:=So hN (x:=x) (by omega) hc;rw[f1,f2];simp only[A4];rw[A2 (X7 hc),A2 (X7 hc)];exact⟨_,_,_,rfl,rfl,rfl,rfl,fun h=>absurd h hc⟩
end
end Go.Ab
namespace Go.Ab
def fb {α:Type}(f:Nat→α→Int):Nat→List α→Int
 |_,[]=>0
 |i,x::r=>if f i x=0 then fb f (i+1) r else f i x
theorem KJ {α:Type} {f:Nat→α→Int}:∀{l:List α} {i:Nat},fb f i l=0↔∀(k:Nat) x,l[k]? =some x→f (i+k) x=0
 |[],i=>by simp[fb]
 | y::r,i=>by
  unfold fb
  split
  ·rename_i h;rw[KJ];refine⟨fun H k x hk=>?_,fun H k x hk=>?_⟩
   ·grind
   have:=H (k+1) x (by grind)
   rwa[show i+(k+1)=i+1+k by omega]at this
  rename_i h;exact⟨fun e=>absurd e h,fun H=>absurd (H 0 y (by simp)) h⟩
theorem P2 {i:Nat}{n:Nat}(hi:i<n)(hn:n<1000000000000):Ar.ar .add .i64 (i:Int) 1=((i+1:Nat):Int):=by
 rw[J1 (by omega) (by omega)];omega
def DA {α R:Type} {l:List α} {step:Int→Option (Int⊕R)} {f:Nat→α→Int} {e:R} {b:Int→R}
 (hs:∀(i:Nat) x,l[i]? =some x→i<l.length→step (i:Int)=if f i x=0 then some (.inl ((i+1:Nat):Int))else some (.inr (b (f i x))))
 (he:step (l.length:Int)=some (.inr e)):∀{N:Nat},l.length<N→loopN step N 0=some (if fb f 0 l=0 then e else b (fb f 0 l)):=by
 have key:∀(k i N:Nat),i+k=l.length→k<N→loopN step N (i:Int)=some (if fb f i (l.drop i)=0 then e else b (fb f i (l.drop i))):=by
  intro k
  induction k with
  |zero=>
   intro i N hi hN;obtain⟨N,rfl⟩:∃M,N=M+1:=⟨N-1,by omega⟩;rw[show i=l.length by omega,Gm]
   grind[loopN,fb]
  |succ k ih=>
   intro i N hi hN;obtain⟨N,rfl⟩:∃M,N=M+1:=⟨N-1,by omega⟩
   have hlt:i<l.length:=by omega
   rw[S3 hlt]
   grind[loopN,fb]
 grind
def fm (x:A3):Int:=
 if x.Low< -1099511627776∨1099511627776<x.Low∨x.cV< -1099511627776∨1099511627776<x.cV then 2 else if x.cV<x.Low then 3 else 0
def AP0 {x:A3}(h:fm x=0): -1099511627776≤x.Low∧x.Low≤x.cV∧x.cV≤1099511627776:=by
 grind[fm]
def As1 (N:Nat)(x:A3):DJ N x=some (fm x):=by
 unfold DJ fm;simp only[C5,N6,K9,P0,C8,or_assoc]
 grind
noncomputable def fiq (l:List A3)(i:Nat)(x:A3):Int:=
 if fm x=0 then(if 0<i then match l[i-1]? with|some y=>if x.Low<Ar.ar .add .i64 y.cV 2 then 14 else 0|none=>0 else 0)else fm x
noncomputable def ck (l:List A3):Int:=if 256<l.length then 5 else fb (fiq l) 0 l
def AY7 {α:Type} {l:List α} {i:Nat} (hi:0<i) (hl:i<l.length) (hn:l.length<1000000000000):B8 l (Ar.ar .sub .i64 (i:Int) 1)=l[i-1]? :=by
 have e:Ar.ar .sub .i64 (i:Int) 1=((i-1:Nat):Int):=by
  show IntKind.wrap .i64 ((i:Int)-1)=_
  rw[Ey (by omega) (by omega)];omega
 rw[e,G4]
def UU {N:Nat} {l:List A3} (hN:256<N):Y9 N l=some (ck l):=by
 unfold Y9 ck;simp only[N6,B2,C8]
 by_cases hl:256<l.length
 ·rw[A2 (by omega),A2 hl]
 rw[A1 (by omega),A1 hl];rw[DA (l:=l) (f:=fiq l) (e:=.inl ()) (b:=.inr) (N:=N) ?_ ?_ (by omega)]
 ·grind
 ·intro i x hx hi;simp only[C5,G2,As1,G4,hx,A4,C8];rw[A2 (by omega),P2 hi (by omega)];unfold fiq
  by_cases h0:fm x=0
  ·simp only[h0,K3,R3,D6,C7,B4]
   by_cases hp:0<i
   ·rw[A2 (by omega),AY7 hp hi (by omega)]
    grind
   simp_all
  simp[h0]
 simp[C5]
def TO (l:List A3):Prop:=l.length≤256∧(∀x∈l, -1099511627776≤x.Low∧x.Low≤x.cV∧x.cV≤1099511627776)∧∀(i:Nat) x y,l[i]? =some x→l[i+1]? =some y→x.cV+2≤y.Low
def Jh {l:List A3} (h:ck l=0):TO l:=by
 unfold ck at h
 split at h
 ·cases h
 rename_i hl;have h:=KJ.1 h
 have hm:∀(k:Nat) x,l[k]? =some x→fm x=0:=fun k x hx=>by
  have:=h k x hx
  grind[fiq]
 refine⟨by omega,fun x hx=>?_,fun i x y hx hy=>?_⟩
 ·grind[List.getElem?_of_mem,fm]
 have h1:=AP0 (hm _ _ hx);have:=h (i+1) y hy
 simp only[L8]at this
 unfold fiq at this
 rw[A2 (hm _ _ hy),A2 (by omega),show i+1-1=i by omega,hx]at this
 grind[J1]
def Av8 {n:Int} (h0:0≤n) (h1:n<18446744073709551616):IntKind.wrap .u64 n=n:=by
 have e:IntKind.wrap .u64 n=n % 18446744073709551616:=by
  unfold IntKind.wrap;simp[IntKind.bits,IntKind.signed]
 rw[e];omega
def AX2 {i j:Nat} (h:i+j<1000000000000):wr .i64 (Ar.sh .shr .u64 (wr .u64 (Ar.ar .add .i64 (i:Int) (j:Int))) 1)=(((i+j) / 2:Nat):Int):=by
 rw[J1 (by omega) (by omega)]
 show IntKind.wrap .i64 (shI .shr .u64 (IntKind.wrap .u64 ((i:Int)+j)) 1)=_
 rw[Av8 (by omega) (by omega)]
 have e:shI .shr .u64 ((i:Int)+j) 1=((i:Int)+j) / 2:=by
  show((i:Int)+j).fdiv (2 ^ (min (1:Int).toNat 64))=_
  rw[show(2:Int) ^ (min (1:Int).toNat 64)=2 from rfl,Int.fdiv_eq_ediv_of_nonneg _ (by decide)]
 rw[e,Ey (by omega) (by omega)];omega
def Av9 (x:A3)(n:Int):Int:=if x.cV<n then -1 else if n<x.Low then 1 else 0
def Wl (N:Nat)(x:A3)(n:Int):BH N x n=some (Av9 x n):=by
 unfold BH Av9;simp only[C5,N6,C8]
 grind
def W5 (l:List A3)(n:Int):Prop:=∃x∈l,x.Low≤n∧n≤x.cV
def RX {l:List A3} (hs:TO l):∀(d i:Nat) x y,l[i]? =some x→l[i+d+1]? =some y→x.cV+2≤y.Low
 |0,i,x,y,hx,hy=>hs.2.2 i x y hx hy
 | d+1,i,x,y,hx,hy=>by
  have hlt:i+d+1<l.length:=by
   grind
  have h1:=RX hs d i x _ hx (E3 hlt);have h2:=hs.2.2 (i+d+1) _ y (E3 hlt) hy;have h3:=hs.2.1 _ (G7 hlt);omega
def AQ4 {N0:Nat} {l:List A3} {n:Int} (hs:TO l):∀(k i j N:Nat),j-i≤k→i≤j→j≤l.length→k<N→
 (∀m x,m<i→l[m]? =some x→x.cV<n)→(∀m x,j≤m→l[m]? =some x→n≤x.cV)→
 ∃ r :Nat,r≤l.length∧(∀m x,m<r→l[m]? =some x→x.cV<n)∧(∀m x,r≤m→l[m]? =some x→n≤x.cV)∧
  loopN (fun(s1:Int×Int)=>(
   if cmp .lss s1.1 s1.2=true then
    (B8 l (wr .i64 (Ar.sh .shr .u64 (wr .u64 (Ar.ar .add .i64 s1.1 s1.2)) 1))).bind fun x3=>
    (BH N0 x3 n).bind fun r4=>
    if cmp .lss r4 0=true then
     some (.inl (Ar.ar .add .i64 (wr .i64 (Ar.sh .shr .u64 (wr .u64 (Ar.ar .add .i64 s1.1 s1.2)) 1)) 1,s1.2))
    else
     some (.inl (s1.1,wr .i64 (Ar.sh .shr .u64 (wr .u64 (Ar.ar .add .i64 s1.1 s1.2)) 1)))
   else
    some (.inr s1.1):Option ((Int×Int)⊕(Int)))) N ((i:Int),(j:Int))=some (r:Int):=by
 intro k;have hl:=hs.1
 induction k with
 |zero=>
  intro i j N hk hij hj hN h1 h2;obtain⟨N,rfl⟩:∃M,N=M+1:=⟨N-1,by omega⟩;refine⟨i,by omega,h1,fun m x hm hx=>h2 m x (by omega) hx,?_⟩;unfold loopN;simp only[C5,C8];rw[A1 (by omega)]
 | succ k ih=>
  intro i j N hk hij hj hN h1 h2;obtain⟨N,rfl⟩:∃M,N=M+1:=⟨N-1,by omega⟩
  by_cases hlt:i<j
  ·have hm:(i+j) / 2<l.length:=by omega
   have hx:=E3 hm;have step:=AX2 (i:=i) (j:=j) (by omega)
   by_cases hc:l[(i+j) / 2].cV<n
   ·obtain⟨r,r1,r2,r3,r4⟩:=ih ((i+j) / 2+1) j N (by omega) (by omega) hj (by omega) (fun m x hm' hx'=>by
     by_cases e:m=(i+j) / 2
     ·simp_all
     have:=RX hs ((i+j) / 2-m-1) m x l[(i+j) / 2] hx' (by rw[←hx];congr 1;omega);have:=hs.2.1 _ (G7 hm)
     omega) h2
    refine⟨r,r1,r2,r3,?_⟩;rw[←r4]
    conv=>lhs;unfold loopN
    simp only[C5,C8,step,G4,hx,A4,Wl];rw[A2 (by omega),A2 (by simp_all[Av9])]
    grind[P2]
   obtain⟨r,r1,r2,r3,r4⟩:=ih i ((i+j) / 2) N (by omega) (by omega) (by omega) (by omega) h1 (fun m x hm' hx'=>by
    by_cases e:m=(i+j) / 2
    ·simp_all
    have:=RX hs (m-(i+j) / 2-1) ((i+j) / 2) l[(i+j) / 2] x hx (by rw[←hx'];congr 1;omega);have:=hs.2.1 x (M7 hx')
    omega)
   refine⟨r,r1,r2,r3,?_⟩;rw[←r4]
   conv=>lhs;unfold loopN
   simp only[C5,C8,step,G4,hx,A4,Wl];rw[A2 (by omega),A1 (by grind[Av9])]
  refine⟨i,by omega,h1,fun m x hm hx=>h2 m x (by omega) hx,?_⟩
  simp_all[loopN,C5,A1]
def AE5 {N:Nat} {l:List A3} {n:Int} (hs:TO l) (hN:300<N):∃b,Bb N l n=some b∧(b=true↔W5 l n):=by
 have hl:=hs.1;obtain⟨r,r1,r2,r3,r4⟩:=AQ4 (N0:=N) (n:=n) hs l.length 0 l.length N (by omega) (by omega) (by omega) (by omega) (fun m x h=>by omega) (fun m x h hx=>by rw[List.getElem?_eq_none h]at hx;cases hx);unfold Bb O4;simp only[B2];rw[show((0:Int),((l.length:Nat):Int))=(((0:Nat):Int),((l.length:Nat):Int))from rfl,r4];simp only[A4,C5,C8]
 by_cases hr:r<l.length
 ·have hx:=E3 hr;rw[A2 (by omega),G4,hx];simp only[A4,Wl];refine⟨_,rfl,?_⟩;simp only[D9,C8];have h3:=r3 r _ (by omega) hx;unfold Av9;rw[A1 (by omega)]
  constructor
  ·grind[W5]
  rintro⟨x,hx',h1,h2⟩;obtain⟨m,hm⟩:=Bn hx'
  have hmr:¬m<r:=fun h=>by have:=r2 m x h hm;omega
  by_cases e:m=r
  ·simp_all
  have:=RX hs (m-r-1) r l[r] x hx (by rw[←hm];grind);omega
 rw[A1 (by omega)];refine⟨_,rfl,?_⟩;simp only[D6,false_iff];rintro⟨x,hx',h1,h2⟩
 grind[List.getElem?_of_mem]
noncomputable def pck (types:Int)(p:D4):Int:=if types<1∨16<types then 2 else if(p.cX.length:Int)≠types then 15 else fb (fun _ x=>ck x) 0 p.cX
noncomputable abbrev AL5 (p:D4):Int:=pck (p.cX.length:Int) p
def fnd {α:Type}(p:α→Bool):Nat→List α→Option (Nat×α)
 |_,[]=>none
 |i,x::r=>if p x then some (i,x)else fnd p (i+1) r
def Nb {α R:Type} {l:List α} {step:Int→Option (Int⊕R)} {p:α→Bool} {e:R} {b:Nat→α→R}
 (hs:∀(i:Nat) x,l[i]? =some x→i<l.length→step (i:Int)=if p x then some (.inr (b i x))else some (.inl ((i+1:Nat):Int)))
 (he:step (l.length:Int)=some (.inr e)):∀{N:Nat},l.length<N→loopN step N 0=some (match fnd p 0 l with|some q=>b q.1 q.2|none=>e):=by
 have key:∀(k i N:Nat),i+k=l.length→k<N→loopN step N (i:Int)=some (match fnd p i (l.drop i)with|some q=>b q.1 q.2|none=>e):=by
  intro k
  induction k with
  |zero=>
   intro i N hi hN;obtain⟨N,rfl⟩:∃M,N=M+1:=⟨N-1,by omega⟩;rw[show i=l.length by omega,Gm]
   grind[loopN,fnd]
  |succ k ih=>
   intro i N hi hN;obtain⟨N,rfl⟩:∃M,N=M+1:=⟨N-1,by omega⟩
   have hlt:i<l.length:=by omega
   rw[S3 hlt];simp only[loopN,hs i _ (E3 hlt) hlt,fnd]
   grind
 grind
def fl:Nat→List (List A3)→List (Int×List A3)
 |_,[]=>[]
 |i,x::r=>if 0<x.length then((i:Int),x)::fl (i+1) r else fl (i+1) r
def Yy {α:Type} {p:α→Bool}:∀{l:List α} {i k:Nat} {x:α},fnd p i l=some (k,x)→i≤k∧l[k-i]? =some x∧p x=true∧∀(j:Nat) y,j<k-i→l[j]? =some y→p y=false
 |[],_,_,_,h=>by cases h
 |y::r,i,k,x,h=>by
  unfold fnd at h
  split at h
  ·simp_all
  rename_i hp;obtain⟨h1,h2,h3,h4⟩:=Yy h
  grind
def Yz {α:Type} {p:α→Bool}:∀{l:List α} {i:Nat},fnd p i l=none→∀x∈l,p x=false
 |[],_,_=>fun x hx=>by cases hx
 |y::r,i,h=>by
  unfold fnd at h
  split at h
  ·cases h
  rename_i hp;intro x hx
  rcases List.mem_cons.1 hx with rfl|hx
  ·grind
  exact Yz h x hx
end Go.Ab
namespace Go.Ab
set_option maxRecDepth 100000
end Go.Ab
namespace Go.Ab
def O7 {α β:Type}{m:Option α}{x:α}{F:α→Option β}{r:Option β}(h:m=some x)(k:F x=r):m.bind F=r:=by rw[h];exact k
def AC5 {R:Type} {step:Int→Option (Int⊕R)} {n:Nat} (hs:∀i:Nat,i<n→∃o,step (i:Int)=some o∧(o= .inl ((i+1:Nat):Int)∨∃r,o= .inr r)) (he:∃r,step (n:Int)=some (.inr r)) {N:Nat} (hN:n<N):∃r,loopN step N 0=some r:=by
 have key:∀(k i N:Nat),i+k=n→k<N→∃r,loopN step N (i:Int)=some r:=by
  intro k
  induction k with
  |zero=>
   intro i N hi hN;obtain⟨N,rfl⟩:∃M,N=M+1:=⟨N-1,by omega⟩;obtain⟨r,hr⟩:=he;rw[show i=n by omega]
   simp_all[loopN]
  | succ k ih=>
   intro i N hi hN;obtain⟨N,rfl⟩:∃M,N=M+1:=⟨N-1,by omega⟩;obtain⟨o,h1,h2⟩:=hs i (by omega)
   rcases h2 with rfl|⟨r,rfl⟩
   ·obtain⟨r,hr⟩:=ih (i+1) N (by omega) (by omega)
    simp_all[loopN]
   simp_all[loopN]
 exact key n 0 N (by omega) hN
def Vj {α S R:Type} {l:List α} {step:Int×S→Option ((Int×S)⊕R)} {f:Nat→α→Int} (st:Nat→S) {e:S→R} {b:Int→S→R}
 (hs:∀(i:Nat) x,l[i]? =some x→i<l.length→step ((i:Int),st i)=if f i x=0 then some (.inl (((i+1:Nat):Int),st (i+1)))else some (.inr (b (f i x) (st i))))
 (he:step ((l.length:Int),st l.length)=some (.inr (e (st l.length)))) {N:Nat} (hN:l.length<N):∃s,loopN step N (0,st 0)=some (if fb f 0 l=0 then e s else b (fb f 0 l) s):=by
 have key:∀(k i N:Nat),i+k=l.length→k<N→∃s,loopN step N ((i:Int),st i)=some (if fb f i (l.drop i)=0 then e s else b (fb f i (l.drop i)) s):=by
  intro k
  induction k with
  |zero=>
   intro i N hi hN;obtain⟨N,rfl⟩:∃M,N=M+1:=⟨N-1,by omega⟩;rw[show i=l.length by omega,Gm]
   grind[loopN,fb]
  | succ k ih=>
   intro i N hi hN;obtain⟨N,rfl⟩:∃M,N=M+1:=⟨N-1,by omega⟩
   have hlt:i<l.length:=by omega
   have h1:=hs i _ (E3 hlt) hlt;rw[S3 hlt]
   by_cases h:f i l[i]=0
   ·rw[A2 h]at h1
    obtain⟨s,h2⟩:=ih (i+1) N (by omega) (by omega)
    grind[loopN,fb]
   grind[loopN,fb]
 exact key l.length 0 N (by omega) hN
def Ac7 (c:Int):Bool:=decide (48≤c)&&decide (c≤57)
def Yj (c:Int):Bool:=decide (c=95)||(decide (97≤c)&&decide (c≤122))||(decide (65≤c)&&decide (c≤90))
def YN (N:Nat)(c:Int):EC N c=some (Ac7 c):=rfl
def Aq7 (N:Nat)(c:Int):FP N c=some (Yj c):=rfl
def Si (N:Nat)(c:Int):EH N c=some (Yj c):=by
 unfold Yj;rw[Bool.or_assoc,Bool.or_comm];rfl
def Yi {c:Int}(h:Yj c=true):Ac7 c=false:=by
 grind[Ac7,Yj]
noncomputable def Kw (x:ByteArray)(s:Int):Option (Int⊕(Unit⊕Unit)):=
 if s<(x.size:Int)then(if 0≤s then(if Yj (sat x s)||Ac7 (sat x s)then some (.inl (Ar.ar .add .i64 s 1))else some (.inr (.inr ())))else none)else some (.inr (.inl ()))
def nm1 (N:Nat) (x:ByteArray):(fun(s2:Int)=>
 (
  if cmp .lss s2 (slen x)=true then
   (Du (an (cmp .geq s2 0) (cmp .lss s2 (slen x)))).bind fun _=>
   (FP N (sat x s2)).bind fun r4=>
   if nt r4=true then
    (Du (an (cmp .geq s2 0) (cmp .lss s2 (slen x)))).bind fun _=>
    (EC N (sat x s2)).bind fun r5=>
    if nt r5=true then
     some (.inr (.inr ()))
    else
     some (.inl (Ar.ar .add .i64 s2 1))
   else
    some (.inl (Ar.ar .add .i64 s2 1))
  else
   some (.inr (.inl ()))
  :Option ((Int)⊕(Unit⊕Unit))))=Kw x:=by
 funext s
 unfold Kw;simp only[C5,U8,P5,LZ,Aq7,YN,N7,C8]
 grind[Du]
def nm2 (N:Nat) (x:ByteArray):(fun(s2:Int)=>
 (
  if cmp .lss s2 (slen x)=true then
   (Du (an (cmp .geq s2 0) (cmp .lss s2 (slen x)))).bind fun _=>
   (EH N (sat x s2)).bind fun r4=>
   if nt r4=true then
    (Du (an (cmp .geq s2 0) (cmp .lss s2 (slen x)))).bind fun _=>
    if cmp .lss (sat x s2) 48=true then
     some (.inr (.inr ()))
    else
     (Du (an (cmp .geq s2 0) (cmp .lss s2 (slen x)))).bind fun _=>
     if cmp .gtr (sat x s2) 57=true then
      some (.inr (.inr ()))
     else
      some (.inl (Ar.ar .add .i64 s2 1))
   else
    some (.inl (Ar.ar .add .i64 s2 1))
  else
   some (.inr (.inl ()))
  :Option ((Int)⊕(Unit⊕Unit))))=Kw x:=by
 funext s
 unfold Kw;simp only[C5,U8,N6,P5,LZ,Si,N7,C8]
 grind[Du,Ac7]
def XT {N:Nat} (hN:30<N) (x:ByteArray):∃b,CN N x=some b∧Fy N x=some b:=by
 unfold CN Fy;rw[nm1,nm2];simp only[YN,Si,A4,D9,N6,U8,C5,K9,P5,LZ,N7,P0,C8]
 by_cases h:((x.size:Int)=0∨24<(x.size:Int))
 ·rw[A2 h,A2 h];simp_all
 rw[A1 h,A1 h]
 have hr:Du (decide ((0:Int)≤0)&&decide ((0:Int)<(x.size:Int)))=some ():=by
  simp_all[Du]
 rw[hr];simp only[A4]
 obtain⟨r,hL⟩:=AC5 (N:=N) (step:=Kw x) (n:=x.size) (fun i hi=>by
  unfold Kw;rw[A2 (by omega),A2 (by omega),P2 hi (by omega)]
  grind) ⟨_,by unfold Kw;rw[A1 (by omega)]⟩ (by omega)
 by_cases hl:Yj (sat x 0)=true
 ·rw[Yi hl,hl,hL];simp only[D6,C7,R3,A4];cases r<;>exact⟨_,rfl,rfl⟩
 have hl':Yj (sat x 0)=false:=by grind
 rw[hl'];simp only[Bj,B4]
 by_cases hd:Ac7 (sat x 0)=true
 ·rw[A2 hd];simp_all
 rw[A1 hd]
 have hd':Ac7 (sat x 0)=false:=by grind
 obtain⟨M,rfl⟩:∃M,N=M+1:=⟨N-1,by omega⟩
 have:Kw x 0=some (.inr (.inr ())):=by
  simp_all[Kw]
 grind[loopN]
noncomputable def nmB (N:Nat)(x:ByteArray):Bool:=(CN N x).getD false
theorem Ah9 {N:Nat}(hN:30<N)(x:ByteArray):CN N x=some (nmB N x):=by
 obtain⟨b,h,_⟩:=XT hN x
 grind[nmB]
def Xu {N:Nat}(hN:30<N)(x:ByteArray):Fy N x=some (nmB N x):=by
 obtain⟨b,h,h'⟩:=XT hN x
 simp_all[nmB]
open Classical in
def Ak1 (L:List ByteArray) (k:ByteArray):Lh (L.map fun y=>(y,true)) k false=some (decide (k∈L),decide (k∈L)):=by
 unfold Lh
 congr 1
 induction L with
 |nil=>simp
 |cons y L ih=>
  grind
def Ah0 {L:List ByteArray}{k:ByteArray}(h:k∉L):Lg (L.map fun y=>(y,true)) k true=some ((L++[k]).map fun y=>(y,true)):=by
 simp_all[Lg]
def Wo {α:Type}(p:α→Bool)(l:List α):Int:=match fnd p 0 l with|some q=>(q.1:Int)|none=> -1
def YA {α:Type} {l:List α} {p:α→Bool} {i:Nat} {x:α} (hx:l[i]? =some x) (hp:p x=true):Wo p l<(i:Int)↔∃y∈l.take i,p y=true:=by
 unfold Wo
 cases hq:fnd p 0 l with
 |none=>have:=Yz hq x (M7 hx);rw[hp]at this;cases this
 |some q=>
  obtain⟨k,y⟩:=q;obtain⟨_,h2,h3,h4⟩:=Yy hq
  rw[Nat.sub_zero]at h2 h4
  simp only
  constructor
  ·intro h;refine⟨y,?_,h3⟩;rw[List.mem_iff_getElem?];exact⟨k,by rw[Hy,A2 (by omega)];exact h2⟩
  grind[List.getElem?_of_mem]
end Go.Ab
namespace Go.Ab
open Classical
set_option maxRecDepth 100000
abbrev Ag7:ByteArray:=⟨#[116,105,109,101]⟩
noncomputable def fdF (N:Nat)(s:F6)(i:Nat)(x:V7):Int:=
 if nmB N x.Name=false∨x.Name=Ag7 then 8 else if x.Name∈(s.Fields.take i).map V7.Name then 7 else if x.Kind<0∨3≤x.Kind then 1 else 0
noncomputable def VK (N:Nat)(s:F6):Int:=if nmB N s.Name=false then 8 else if 8<s.Fields.length then 5 else fb (fdF N s) 0 s.Fields
def AF2 {N:Nat}(hN:30<N)(x:ByteArray):BB N x=some (nmB N x&& !decide (x=Ag7)):=by
 grind[BB,Ah9,P5,Sg]
def No {α β:Type}{l:List α}{f:α→β}{i:Nat}{x:α}(h:l[i]? =some x):(l.take (i+1)).map f=(l.take i).map f++[f x]:=by
 rw[CI,h];simp
def Ao3 {N:Nat} (hN:30<N) (s:F6):ED N s=some (VK N s):=by
 unfold ED VK;rw[Ah9 hN];simp only[A4,N7]
 by_cases h0:nmB N s.Name=false
 ·rw[A2 (by rw[h0];rfl),A2 h0]
 rw[A1 (by grind),A1 h0];simp only[N6,B2,C8]
 by_cases h1:8<s.Fields.length
 ·rw[A2 (by omega),A2 h1]
 rw[A1 (by omega),A1 h1]
 obtain ⟨m,hm⟩:=Vj (l:=s.Fields) (f:=fdF N s) (N:=N) (fun i=>((s.Fields.take i).map V7.Name).map fun y=>(y,true)) (e:=fun m=>.inl m) (b:=fun r m=>.inr (r,m))
  (step :=fun(s4:Int×(List (ByteArray×Bool)))=>
   (
    if cmp .lss s4.1 (Ar.len s.Fields)=true then
     (B8 s.Fields s4.1).bind fun x7=>
     (BB N x7.Name).bind fun r8=>
     if nt r8=true then
      some (.inr (.inr (8,s4.2)))
     else
      (Lh s4.2 x7.Name (false:Bool)).bind fun r9=>
      if r9.1=true then
       some (.inr (.inr (7,s4.2)))
      else
       if Ar.or (cmp .lss x7.Kind 0) (cmp .geq x7.Kind 3)=true then
        some (.inr (.inr (1,s4.2)))
       else
        (Lg s4.2 x7.Name true).bind fun l11=>
        some (.inl (Ar.ar .add .i64 s4.1 1,l11))
    else
     some (.inr (.inl s4.2))
    :Option ((Int×(List (ByteArray×Bool)))⊕(((List (ByteArray×Bool)))⊕(Int×(List (ByteArray×Bool)))))))
  (fun i x hx hi=>by
   simp only[C5,U8,B2,G4,hx,A4,AF2 hN,N7,Ak1,K9,P0,C8];rw[A2 (by omega),P2 hi (by omega)];unfold fdF
   by_cases a:nmB N x.Name=false∨x.Name=Ag7
   ·rw[A2 a,A2 (by rcases a with a|a<;>simp[a]),A1 (by decide)]
   rw[A1 a,A1 (by simp_all)]
   by_cases b:x.Name∈(s.Fields.take i).map V7.Name
   ·rw[A2 b,A2 b,A1 (by decide)]
   rw[A1 b,A1 b]
   by_cases c:x.Kind<0∨3≤x.Kind
   ·rw[A2 c,A2 c,A1 (by decide)]
   rw[A1 c,A1 c,A2 rfl,Ah0 b,No hx]
   rfl)
  (by simp_all[C5,B2]) (by omega)
 refine O7 hm ?_
 grind
def AW7 {N:Nat}{s:F6}(k:ByteArray)(hl:s.Fields.length≤1000)(hN:1000<N):EI N s k=some (Wo (fun x:V7=>decide (x.Name=k)) s.Fields):=by
 unfold EI Wo;rw[Nb (l:=s.Fields) (p:=fun x:V7=>decide (x.Name=k)) (e:=.inl ()) (b:=fun i _=>.inr (i:Int)) (N:=N) ?_ ?_ (by omega)]
 ·grind
 ·intro i x hx hi;simp only[C5,B2,G4,hx,A4,Mc,C8];rw[A2 (by omega),P2 hi (by omega)]
 simp_all[C5,B2]
def Aw1 {N:Nat}{l:List F6}(k:ByteArray)(hl:l.length≤1000)(hN:1000<N):IR N l k=some (Wo (fun x:F6=>decide (x.Name=k)) l):=by
 unfold IR Wo;rw[Nb (l:=l) (p:=fun x:F6=>decide (x.Name=k)) (e:=.inl ()) (b:=fun i _=>.inr (i:Int)) (N:=N) ?_ ?_ (by omega)]
 ·grind
 ·intro i x hx hi;simp only[C5,B2,G4,hx,A4,Mc,C8];rw[A2 (by omega),P2 hi (by omega)]
 simp_all[C5,B2]
def ZO {N:Nat} (hN:1000<N) (s:F6):IS N s=some (VK N s):=by
 unfold IS VK;rw[Xu (by omega)];simp only[A4,N7]
 by_cases h0:nmB N s.Name=false
 ·rw[A2 (by rw[h0];rfl),A2 h0]
 rw[A1 (by grind),A1 h0];simp only[N6,B2,C8]
 by_cases h1:8<s.Fields.length
 ·rw[A2 (by omega),A2 h1]
 rw[A1 (by omega),A1 h1];refine O7 (DA (l:=s.Fields) (f:=fdF N s) (N:=N) (e:=.inl ()) (b:=fun r=>.inr r) (fun i x hx hi=>?_) ?_ (by omega)) ?_
 ·simp only[C5,G2,G4,hx,A4,Xu (show 30<N by omega),K9,P5,Mc,AW7 x.Name (show s.Fields.length≤1000 by omega) hN,P0,M6,P1,C8,S1];rw[A2 (by omega),P2 hi (by omega)];unfold fdF
  by_cases a:nmB N x.Name=false∨x.Name=Ag7
  ·rw[A2 a,A2 a,A1 (by decide)]
  rw[A1 a,A1 a];have hlt:=YA (p:=fun y:V7=>decide (y.Name=x.Name)) hx (by simp)
  have hb:(∃y∈s.Fields.take i,decide (y.Name=x.Name)=true)↔x.Name∈(s.Fields.take i).map V7.Name:=by grind
  rw[hb]at hlt
  grind
 ·simp_all[C5]
 grind
noncomputable def scF (N:Nat)(l:List F6)(i:Nat)(x:F6):Int:=
 if VK N x≠0 then VK N x else if x.Name∈(l.take i).map F6.Name then 7 else 0
noncomputable def TZ (N:Nat)(l:List F6):Int:=if 16<l.length then 5 else fb (scF N l) 0 l
def Ae6 {N:Nat} (hN:1000<N) (l:List F6):AQ N l=some (TZ N l):=by
 unfold AQ TZ;simp only[N6,B2,C8]
 by_cases h1:16<l.length
 ·rw[A2 (by omega),A2 h1]
 rw[A1 (by omega),A1 h1]
 obtain⟨m,hm⟩:=Vj (l:=l) (f:=scF N l) (N:=N) (fun i=>((l.take i).map F6.Name).map fun y=>(y,true)) (e:=fun m=>.inl m) (b:=fun r m=>.inr (r,m))
  (step:=fun(s3:Int×(List (ByteArray×Bool)))=>
   (
    if cmp .lss s3.1 (Ar.len l)=true then
     (B8 l s3.1).bind fun x6=>
     (ED N x6).bind fun r7=>
     if cmp .neq r7 0=true then
      some (.inr (.inr (r7,s3.2)))
     else
      (Lh s3.2 x6.Name (false:Bool)).bind fun r8=>
      if r8.1=true then
       some (.inr (.inr (7,s3.2)))
      else
       (Lg s3.2 x6.Name true).bind fun l10=>
       some (.inl (Ar.ar .add .i64 s3.1 1,l10))
    else
     some (.inr (.inl s3.2))
    :Option ((Int×(List (ByteArray×Bool)))⊕(((List (ByteArray×Bool)))⊕(Int×(List (ByteArray×Bool)))))))
  (fun i x hx hi=>by
   simp only[C5,G2,B2,G4,hx,A4,Ao3 (show 30<N by omega),Ak1,P1,C8,S1];rw[A2 (by omega),P2 hi (by omega)];unfold scF
   by_cases a:VK N x=0
   ·simp only[a,ne_eq,Ca,C7]
    by_cases b:x.Name∈(l.take i).map F6.Name
    ·rw[A2 b,A2 b,A1 (by decide)]
    rw[A1 b,A1 b,A2 rfl,Ah0 b,No hx];rfl
   simp_all)
  (by simp_all[C5,B2]) (by omega)
 refine O7 hm ?_
 grind
def VP {N:Nat} (hN:1000<N) (l:List F6):BD N l=some (TZ N l):=by
 unfold BD TZ;simp only[N6,B2,C8]
 by_cases h1:16<l.length
 ·rw[A2 (by omega),A2 h1]
 rw[A1 (by omega),A1 h1];refine O7 (DA (l:=l) (f:=scF N l) (N:=N) (e:=.inl ()) (b:=fun r=>.inr r) (fun i x hx hi=>?_) ?_ (by omega)) ?_
 ·simp only[C5,G2,G4,hx,A4,ZO hN,Aw1 x.Name (show l.length≤1000 by omega) hN,P1,C8,S1];rw[A2 (by omega),P2 hi (by omega)];unfold scF
  by_cases a:VK N x=0
  ·simp only[a,ne_eq,Ca,C7];have hlt:=YA (p:=fun y:F6=>decide (y.Name=x.Name)) hx (by simp)
   have hb:(∃y∈l.take i,decide (y.Name=x.Name)=true)↔x.Name∈(l.take i).map F6.Name:=by grind
   rw[hb]at hlt
   simp_all
  simp_all
 ·simp_all[C5]
 grind
def Ay8 {N:Nat}{l:List F6}(h:TZ N l=0):l.length≤16∧∀s∈l,s.Fields.length≤8∧∀x∈s.Fields,x.Kind=0∨x.Kind=1∨x.Kind=2:=by
 unfold TZ at h
 split at h
 ·cases h
 grind[List.getElem?_of_mem,KJ,scF,VK,fdF]
def Pd {α:Type}{l:List α}{i:Int}(h:0≤i∧i<(l.length:Int)):∃x,B8 l i=some x∧l[i.toNat]? =some x:=by
 simp_all[B8]
def AB0 (s:F6):Int:=Wo (fun f:V7=>decide (f.Kind=0)) s.Fields
theorem SF {N:Nat}{s:F6}(hl:s.Fields.length≤1000)(hN:1000<N):Cx N s=some (AB0 s):=by
 unfold Cx Y3 AB0 Wo;rw[Nb (l:=s.Fields) (p:=fun f:V7=>decide (f.Kind=0)) (e:=.inl ()) (b:=fun i _=>.inr (i:Int)) (N:=N) ?_ ?_ (by omega)]
 ·grind
 ·intro i x hx hi;simp only[C5,B2,G4,hx,A4,Bv,D9,C8];rw[A2 (by omega),P2 hi (by omega)]
 simp_all[C5,B2]
def QL {N:Nat}{s:F6}(hl:s.Fields.length≤1000)(hN:1000<N):FT N s=some (AB0 s):=by
 unfold FT AB0 Wo;rw[Nb (l:=s.Fields) (p:=fun f:V7=>decide (f.Kind=0)) (e:=.inl ()) (b:=fun i _=>.inr (i:Int)) (N:=N) ?_ ?_ (by omega)]
 ·grind
 ·intro i x hx hi;simp only[C5,B2,G4,hx,A4,D9,C8];rw[A2 (by omega),P2 hi (by omega)]
 simp_all[C5,B2]
structure Al6 (x:B1):Prop where
 op:0≤x.Op∧x.Op≤12
 ar:(x.cT.length:Int)=(if x.Op<5 then 0 else if x.Op=12 then 1 else 2)
 var:(x.Op=1∨x.Op=2∨x.Op=3∨x.Op=4)→0≤x.Var∧x.Var<16
 fld:(x.Op=1∨x.Op=4)→0≤x.Field∧x.Field<8
 knd:x.Op=4→x.Kind≠0
 val:(x.Op=4∨x.Op=0)→Ak x.Value=0
def VW {x:B1}(h:Bw x=0):Al6 x:=by
 unfold Bw at h
 by_cases h0:x.Op<0∨12<x.Op
 ·rw[A2 h0]at h;cases h
 rw[A1 h0]at h
 by_cases h1:(x.cT.length:Int)≠(if x.Op<5 then 0 else if x.Op=12 then 1 else 2)
 ·rw[A2 h1]at h;cases h
 rw[A1 h1]at h
 by_cases h2:XM x=true
 ·rw[A2 h2]at h;cases h
 rw[A1 h2]at h
 by_cases h3:OX x=true
 ·rw[A2 h3]at h;cases h
 rw[A1 h3]at h
 by_cases h4:(x.Op=4∨x.Op=0)∧Ak x.Value≠0
 ·rw[A2 h4]at h;omega
 simp only[XM,Aw5,Aw6,OX,P5,K9,C5,U8,N6,D9,P0,M6,C8,not_or,not_and]at h2 h3 h4
 refine⟨by omega,Classical.not_not.1 h1,fun hu=>?_,fun hu=>?_,fun hu=>?_,fun hu=>?_⟩
 ·have:=h2.1 hu;omega
 ·have:=h2.2 hu;omega
 ·have:=h3 hu;omega
 omega
noncomputable def opF (op k0:Int)(_:Nat)(x:Int):Int:=
 if((op=5∨op=6∨op=7∨op=8)∧x≠0)∨((op=10∨op=11∨op=12)∧x≠1)∨(op=9∧x≠k0)then 1 else 0
def dec4 (op:Int):(if cmp .eql op 5=true then some true else if cmp .eql op 6=true then some true else if cmp .eql op 7=true then some true else some (cmp .eql op 8):Option Bool)=some (decide (op=5∨op=6∨op=7∨op=8)):=by
 by_cases a:op=5<;>by_cases b:op=6<;>by_cases c:op=7<;>by_cases d:op=8<;>simp[D9,a,b,c,d]
def dec3 (op:Int):(if cmp .eql op 10=true then some true else if cmp .eql op 11=true then some true else some (cmp .eql op 12):Option Bool)=some (decide (op=10∨op=11∨op=12)):=by
 by_cases a:op=10<;>by_cases b:op=11<;>by_cases c:op=12<;>simp[D9,a,b,c]
def YO (N:Nat)(op:Int):EG N op=some (if op=5∨op=6∨op=7∨op=8 then 0 else if op=10∨op=11∨op=12 then 1 else -1):=by
 unfold EG;rw[dec4];simp only[A4,C8,D9]
 grind
def Mo {N:Nat} {op:Int} {ks:List Int} (hl:ks.length≤1000000) (hN:1000000<N):Gb N op ks=some (if fb (opF op (ks.headD 0)) 0 ks=0 then 0 else 9):=by
 unfold Gb;refine O7 (DA (l:=ks) (f:=opF op (ks.headD 0)) (N:=N) (e:=.inl ()) (b:=fun _=>.inr ()) (fun i x hx hi=>?_) ?_ (by omega)) ?_
 ·have i0:B8 ks 0=some (ks.headD 0):=by
   cases ks with
   |nil=>simp at hi
   |cons y r=>rfl
  simp only[dec4,dec3];simp only[C5,D9,B2,G4,hx,i0,A4,N7,C8,P1,S1];rw[A2 (by omega),P2 hi (by omega)]
  grind[opF]
 ·simp_all[C5,B2]
 grind
def Kl {N:Nat} {op:Int} {ks:List Int} (hl:ks.length≤1000000) (hN:1000000<N):EF N op ks=some (if fb (opF op (ks.headD 0)) 0 ks=0 then 0 else 9):=by
 unfold EF;refine O7 (DA (l:=ks) (f:=opF op (ks.headD 0)) (N:=N) (e:=.inl ()) (b:=fun _=>.inr ()) (fun i x hx hi=>?_) ?_ (by omega)) ?_
 ·have i0:B8 ks 0=some (ks.headD 0):=by
   cases ks with
   |nil=>simp at hi
   |cons y r=>rfl
  simp only[C5,D9,G2,U8,B2,G4,hx,i0,A4,YO,C8,P1,S1];rw[A2 (by omega),P2 hi (by omega)]
  grind[opF]
 ·simp_all[C5,B2]
 grind
def AN4 {N:Nat} {types:List F6} {vars:List B3} {x:B1} (hx:Al6 x) (hv:∀v∈vars,0≤v.Typ∧v.Typ<(types.length:Int)) (h5:x.Op<5):
 ∃r,DK N ⟨types,vars⟩ x=some r∧Kp N types vars x=some r:=by
 unfold DK Kp;simp only[D9,U8,G2,K9,B2,P0,C8,P1,S1];have ho:=hx.op
 by_cases h0:x.Op=0
 ·rw[A2 h0,A2 h0];simp_all
 rw[A1 h0,A1 h0];have hvar:=hx.var (by omega)
 by_cases h1:(vars.length:Int)≤x.Var
 ·rw[A2 h1,A2 h1];simp_all
 rw[A1 h1,A1 h1]
 by_cases h2:x.Op=2∨x.Op=3
 ·rw[A2 h2,A2 h2];simp_all
 rw[A1 h2,A1 h2];have hfld:=hx.fld (by omega);obtain⟨v,v1,v2⟩:=Pd (l:=vars) (i:=x.Var) (by omega);obtain⟨s,s1,s2⟩:=Pd (l:=types) (i:=v.Typ) (hv v (M7 v2));rw[v1];simp only[A4,s1]
 by_cases h3:(s.Fields.length:Int)≤x.Field
 ·rw[A2 h3,A2 h3];simp_all
 rw[A1 h3,A1 h3];obtain⟨f,f1,f2⟩:=Pd (l:=s.Fields) (i:=x.Field) (by omega);simp only[f1,A4]
 by_cases h4:x.Op=4
 ·rw[A2 h4,A2 h4,WY,Uu N _ _ (hx.knd h4)];simp only[A4]
  split
  ·simp_all
  split<;>exact⟨_,rfl,rfl⟩
 simp_all
def Ab1 {N:Nat} {l:List B1} {F G:B1→Option (Int×Int)} (h:∀a∈l,∃r,F a=some r∧G a=some r) (hl:l.length≤1000000) (hN:1000000<N):
 ∃ r :List Int⊕Int,(∀ks,r= .inl ks→ks.length=l.length)∧∀K:B1→Option (Int×Int),K=F∨K=G→
  loopN (fun(s2:(List Int)×Int)=>
   (
    if cmp .lss s2.2 (Ar.len l)=true then
     (B8 l s2.2).bind fun x5=>
     (K x5).bind fun r6=>
     if cmp .neq r6.2 0=true then
      some (.inr (.inr r6.2))
     else
      (G6 s2.1 ([r6.1])).bind fun l8=>
      some (.inl (l8,Ar.ar .add .i64 s2.2 1))
    else
     some (.inr (.inl s2.1))
    :Option (((List Int)×Int)⊕(((List Int))⊕Int)))) N ([],0)=some r:=by
 let kd:B1→Int×Int:=fun a=>if ha:a∈l then Classical.choose (h a ha)else(0,0)
 have hk:∀a∈l,F a=some (kd a)∧G a=some (kd a):=fun a ha=>by
  have:=Classical.choose_spec (h a ha)
  grind
 let body:List Int→B1→Option (List Int⊕(List Int⊕Int)):=fun s a=>if(kd a).2≠0 then some (.inr (.inr (kd a).2))else(G6 s [(kd a).1]).bind fun l8=>some (.inl l8)
 have tot:∀(m:List B1) (s:List Int),s.length+m.length≤1000000→∃o,G3 body m s=some o∧(∀s',o= .inl s'→s'.length=s.length+m.length)∧∀ks,o= .inr (.inl ks)→False:=by
  intro m
  induction m with
  |nil=>simp[G3]
  | cons a m ih=>
   intro s hs
   simp only[U0]at hs
   unfold G3
   by_cases z:(kd a).2=0
   ·obtain⟨o,h1,h2,h3⟩:=ih (s++[(kd a).1]) (by simp;omega);refine⟨o,?_,fun s' e=>by have:=h2 s' e;grind,h3⟩
    have:body s a=some (.inl (s++[(kd a).1])):=by
     simp only[body,z,ne_eq,Ca,C7];rw[J0 (by simp;omega)];rfl
    simp_all
   grind
 obtain⟨o,h1,h2,h3⟩:=tot l [] (by grind)
 obtain⟨v,hv1,hv2⟩:∃v:List Int⊕Int,(∀ks,v= .inl ks→ks.length=l.length)∧(∀s,o= .inl s→v= .inl s)∧∀r,o= .inr r→v=r:=by
  cases o with
  |inl s=>simp_all
  |inr r=>simp_all
 refine⟨v,hv1,fun K hK=>?_⟩;rw[X4 l (by omega) (mk:=fun(s:List Int) i=>(s,i)) (body:=body) (fin:=fun s=>.inl s) (s:=[]) (by omega) ?_ ?_]
 ·rw[h1]
  grind
 ·intro s i a ha hi;have hm:=M7 ha
  have e:K a=some (kd a):=by grind
  have ei:Ar.ar .add .i64 (i:Int) 1=i+1:=J1 (by omega) (by omega);simp only[C5,G2,B2,hi,K3,B4,G4,ha,A4,e,ei,body,P1,S1]
  grind
 simp_all[C5,B2]
def AN7 {N:Nat} {types:List F6} {vars:List B3} (hN:Bgn N) (hv:∀v∈vars,0≤v.Typ∧v.Typ<(types.length:Int)):∀(n:Nat) (x:B1),x.bulk≤n→x.bulk≤16777216→(∀y∈x.pre,Bw y=0)→
 ∃r,Ag N n ⟨types,vars⟩ x=some r∧DU N n types vars x=some r:=by
 intro n
 induction n with
 |zero=>grind[Cl]
 | succ n ih=>
  intro x hx hb hbad;have nx:=VW (hbad x (by rw[B1.pre_eq];simp));have ho:=nx.op;have har:=nx.ar;unfold Ag DU
  by_cases h0:(x.cT.length:Int)=0
  ·rw[A2 (show cmp .eql (Ar.len x.cT) 0=true by grind[D9,B2]),A2 (show cmp .eql (Ar.len x.cT) 0=true by grind[D9,B2])]
   have h5:x.Op<5:=by
    rw[h0]at har
    omega
   obtain⟨r,h1,h2⟩:=AN4 (N:=N) nx hv h5;rw[h1,h2]
   simp_all
  rw[A1 (show¬cmp .eql (Ar.len x.cT) 0=true by simp_all[D9,B2]),A1 (show¬cmp .eql (Ar.len x.cT) 0=true by simp_all[D9,B2])]
  have hlen:x.cT.length≤2:=by
   omega
  obtain⟨r,k1,k2⟩:=Ab1 (N:=N) (l:=x.cT) (F:=fun a=>Ag N n ⟨types,vars⟩ a) (G:=fun a=>DU N n types vars a) (fun a ha=>ih a (by have:=S4 ha;omega) (by have:=S4 ha;omega) fun y hy=>hbad y (by rw[B1.pre_eq];grind[OC])) (by omega) (by omega);have e1:=k2 _ (.inl rfl);have e2:=k2 _ (.inr rfl)
  cases r with
  | inl ks=>
   have hks:=k1 ks rfl
   by_cases z:fb (opF x.Op (ks.headD 0)) 0 ks=0
   ·by_cases w:x.Op=5∨x.Op=6
    ·refine⟨(0,0),O7 e1 ?_,O7 e2 ?_⟩
     ·simp only[Mo (N:=N) (op:=x.Op) (ks:=ks) (by omega) (by omega),z,B4,A4];rw[A1 (by decide),A2 (by grind[K9,D9])]
     simp only[Kl (N:=N) (op:=x.Op) (ks:=ks) (by omega) (by omega),z,B4,A4,Hf];rw[A1 (by decide),A2 (by grind[K9,D9])];rfl
    refine⟨(1,0),O7 e1 ?_,O7 e2 ?_⟩
    ·simp only[Mo (N:=N) (op:=x.Op) (ks:=ks) (by omega) (by omega),z,B4,A4];rw[A1 (by decide),A1 (by grind[K9,D9])]
    simp only[Kl (N:=N) (op:=x.Op) (ks:=ks) (by omega) (by omega),z,B4,A4,Hf];rw[A1 (by decide),A1 (by grind[K9,D9])];rfl
   refine⟨(0,9),O7 e1 ?_,O7 e2 ?_⟩
   ·simp only[Mo (N:=N) (op:=x.Op) (ks:=ks) (by omega) (by omega),A1 z,A4];rw[A2 (by decide)]
   simp only[Kl (N:=N) (op:=x.Op) (ks:=ks) (by omega) (by omega),A1 z,A4];rw[A2 (by decide)]
  |inr e=>simp_all
noncomputable def vrF (types:List F6)(_:Nat)(v:B3):Int:=if v.Typ<0∨(types.length:Int)≤v.Typ then 1 else 0
def AR5 {N:Nat} {types:List F6} {vars:List B3} {x:B1} (hN:Bgn N) (hb:x.bulk≤16777216):
 ∃r,Nd N types vars x=some r∧Kq N types vars x=some r∧(r.2=0→TZ N types=0∧T1 x=0):=by
 unfold Nd Kq Fx;rw[Ae6 (by omega),VP (by omega)];simp only[A4,G2,P1,S1]
 by_cases h0:TZ N types=0
 ·simp only[h0,Ca,C7]
  by_cases h1:(16:Int)<vars.length
  ·simp_all[N6,B2]
  simp only[N6,B2,C8,A1 h1]
  have L1:=DA (l:=vars) (f:=vrF types) (N:=N) (R:=Unit⊕Unit) (e:=.inl ()) (b:=fun _=>.inr ()) (step:=fun(s2:Int)=>
   (
    if cmp .lss s2 (Ar.len vars)=true then
     (B8 vars s2).bind fun x4=>
     if Ar.or (cmp .lss x4.Typ 0) (cmp .geq x4.Typ (Ar.len types))=true then
      some (.inr (.inr ()))
     else
      some (.inl (Ar.ar .add .i64 s2 1))
    else
     some (.inr (.inl ()))
    :Option ((Int)⊕(Unit⊕Unit)))) (fun i v hv hi=>by
   simp only[C5,U8,K9,B2,G4,hv,A4,P0,C8];rw[A2 (by omega),P2 hi (by omega)]
   grind[vrF]) (by simp_all[C5,B2]) (by omega)
  have L2:=DA (l:=vars) (f:=vrF types) (N:=N) (R:=Unit⊕Unit) (e:=.inl ()) (b:=fun _=>.inr ()) (step:=fun(s1:Int)=>
   (
    if cmp .lss s1 (Ar.len vars)=true then
     (B8 vars s1).bind fun x3=>
     if cmp .lss x3.Typ 0=true then
      some (.inr (.inr ()))
     else
      (B8 vars s1).bind fun x4=>
      if cmp .geq x4.Typ (Ar.len types)=true then
       some (.inr (.inr ()))
      else
       some (.inl (Ar.ar .add .i64 s1 1))
    else
     some (.inr (.inl ()))
    :Option ((Int)⊕(Unit⊕Unit)))) (fun i v hv hi=>by
   simp only[C5,U8,B2,G4,hv,A4,C8];rw[A2 (by omega),P2 hi (by omega)]
   grind[vrF]) (by simp_all[C5,B2]) (by omega)
  by_cases z:fb (vrF types) 0 vars=0
  ·rw[A2 z]at L1 L2
   have hv:∀v∈vars,0≤v.Typ∧v.Typ<(types.length:Int):=fun v hv=>by
    grind[List.getElem?_of_mem,KJ,vrF]
   by_cases h2:T1 x=0
   ·have hpre:∀y∈x.pre,Bw y=0:=by
     have:=h2
     grind[T1,Hu]
    obtain⟨r,k1,k2⟩:=AN7 hN hv N x (by omega) hb hpre;refine⟨r,O7 L1 ?_,O7 (O7 L2 rfl) ?_,fun _=>⟨by simp_all,h2⟩⟩
    ·grind[Qi]
    grind[Oi]
   refine⟨(0,T1 x),O7 L1 ?_,O7 (O7 L2 rfl) ?_,fun e=>absurd e h2⟩
   ·simp_all[Qi]
   simp_all[Oi]
  rw[A1 z]at L1 L2
  exact⟨(0,6),O7 L1 rfl,O7 (O7 L2 rfl) (by rw[A2 (by decide)]),fun e=>by cases e⟩
 simp_all
end Go.Ab
namespace Go.Ab
def Dd:List A3→Prop
 |[]=>True
 |x::l=>(-1099511627776≤x.Low∧x.Low≤x.cV∧x.cV≤1099511627776)∧(∀y∈l,x.cV+2≤y.Low)∧Dd l
theorem R9 {x:A3}{l:List A3}{n:Int}:W5 (x::l) n↔(x.Low≤n∧n≤x.cV)∨W5 l n:=by
 simp[W5]
def Hj {n:Int}:¬W5 [] n:=fun⟨_,h,_⟩=>by cases h
def KF {l m:List A3}{n:Int}:W5 (l++m) n↔W5 l n∨W5 m n:=by
 grind[W5]
def TO.ord:∀{l:List A3},TO l→Dd l:=by
 intro l
 induction l with
 |nil=>simp[Dd]
 |cons x l ih=>
  intro hs;refine⟨hs.2.1 x (by simp),fun y hy=>?_,ih ⟨by have:=hs.1;grind,fun z hz=>hs.2.1 z (by simp[hz]),fun i a b ha hb=>hs.2.2 (i+1) a b (by grind) (by grind)⟩⟩;obtain⟨k,hk⟩:=Bn hy;exact RX hs k 0 x y rfl (by simp_all)
def Dd.srt':∀{l:List A3},Dd l→∀x∈l, -1099511627776≤x.Low∧x.Low≤x.cV∧x.cV≤1099511627776
 |_::_,h,x,hx=>by
  rcases List.mem_cons.1 hx with rfl|hx
  ·exact h.1
  exact Dd.srt' h.2.2 x hx
def Dd.srt:∀{l:List A3},Dd l→l.length≤256→TO l:=by
 intro l
 induction l with
 |nil=>simp[TO]
 |cons x l ih=>
  grind[Dd,TO]
def Dd.lo {x:A3}{l:List A3}(h:Dd (x::l)){n:Int}(hn:W5 (x::l) n):x.Low≤n:=by
 grind[Dd,W5]
def Dd.above {x:A3}{l:List A3}(h:Dd (x::l)){n:Int}(hn:W5 l n):x.cV+2≤n:=by
 grind[Dd,W5]
def OM:∀{l m:List A3},Dd l→Dd m→(∀n,W5 l n↔W5 m n)→l=m
 |[],[],_,_,_=>rfl
 |[],y::m,_,hm,h=>absurd ((h y.Low).2 (R9.2 (.inl ⟨by omega,hm.1.2.1⟩))) Hj
 |x::l,[],hl,_,h=>absurd ((h x.Low).1 (R9.2 (.inl ⟨by omega,hl.1.2.1⟩))) Hj
 | x::l,y::m,hl,hm,h=>by
  have a1:=hm.lo ((h x.Low).1 (R9.2 (.inl ⟨by omega,hl.1.2.1⟩)));have a2:=hl.lo ((h y.Low).2 (R9.2 (.inl ⟨by omega,hm.1.2.1⟩)));have hx:=hl.1;have hy:=hm.1
  have a3:¬x.cV<y.cV:=fun hlt=>by
   rcases R9.1 ((h (x.cV+1)).2 (R9.2 (.inl ⟨by omega,by omega⟩)))with h'|h'
   ·omega
   grind[Dd,W5]
  have a4:¬y.cV<x.cV:=fun hlt=>by
   rcases R9.1 ((h (y.cV+1)).1 (R9.2 (.inl ⟨by omega,by omega⟩)))with h'|h'
   ·omega
   grind[Dd,W5]
  have e:x=y:=by
   cases x;cases y
   grind
  subst e;rw[OM hl.2.2 hm.2.2 fun n=>?_]
  constructor
  ·intro hn;have:=hl.above hn
   rcases R9.1 ((h n).1 (R9.2 (.inr hn)))with h'|h'
   ·omega
   exact h'
  intro hn;have:=hm.above hn
  rcases R9.1 ((h n).2 (R9.2 (.inr hn)))with h'|h'
  ·omega
  exact h'
def Fe (lo:Int):List A3→List A3
 |[]=>if lo≤1099511627776 then[⟨lo,1099511627776⟩]else[]
 |x::l=>if lo<x.Low then⟨lo,x.Low-1⟩::Fe (x.cV+1) l else Fe (x.cV+1) l
def Ak2:∀{l:List A3} {lo n:Int},Dd l→(∀y∈l,lo≤y.Low)→(W5 (Fe lo l) n↔lo≤n∧n≤1099511627776∧¬W5 l n)
 |[],lo,n,_,_=>by
  grind[Fe,R9,W5]
 | x::l,lo,n,h,hlo=>by
  have hx:=h.1;have h0:=hlo x (by simp)
  have ih:=Ak2 (n:=n) h.2.2 (lo:=x.cV+1) fun y hy=>by have:=h.2.1 y hy;omega
  unfold Fe
  by_cases hn:W5 l n
  ·have:=h.above hn;have e:¬W5 (Fe (x.cV+1) l) n:=fun h'=>(ih.1 h').2.2 hn
   grind[W5]
  grind[R9]
def Yv:∀{l:List A3} {lo:Int},Dd l→(∀y∈l,lo≤y.Low)→ -1099511627776≤lo→Dd (Fe lo l)∧∀y∈Fe lo l,lo≤y.Low
 |[],lo,_,_,hb=>by
  grind[Dd,Fe]
 |x::l,lo,h,hlo,hb=>by
  have hx:=h.1;have h0:=hlo x (by simp);obtain⟨i1,i2⟩:=Yv h.2.2 (lo:=x.cV+1) (fun y hy=>by have:=h.2.1 y hy;omega) (by omega)
  grind[Dd,Fe]
def Td:∀(l:List A3) (lo:Int),(Fe lo l).length≤l.length+1
 |[],lo=>by grind[Fe]
 |x::l,lo=>by
  have:=Td l (x.cV+1)
  grind[Fe]
def FD {S R α:Type} {l:List α} {step:S→Option (S⊕R)} {Q:R→Prop} (I:Nat→S→Prop)
 (hs:∀(i:Nat) x s,l[i]? =some x→i<l.length→I i s→∃s',step s=some (.inl s')∧I (i+1) s')
 (he:∀s,I l.length s→∃r,step s=some (.inr r)∧Q r) {s0:S} (h0:I 0 s0) {N:Nat} (hN:l.length<N):∃r,loopN step N s0=some r∧Q r:=by
 have key:∀(k i N:Nat) (s:S),i+k=l.length→k<N→I i s→∃r,loopN step N s=some r∧Q r:=by
  intro k
  induction k with
  |zero=>
   intro i N s hi hN hI;obtain⟨N,rfl⟩:∃M,N=M+1:=⟨N-1,by omega⟩
   rw[show i=l.length by omega]at hI
   grind[loopN]
  |succ k ih=>
   intro i N s hi hN hI;obtain⟨N,rfl⟩:∃M,N=M+1:=⟨N-1,by omega⟩
   have hlt:i<l.length:=by omega
   obtain⟨s',h1,h2⟩:=hs i _ s (E3 hlt) hlt hI
   grind[loopN]
 grind
def GO {α:Type}{l m:List α}(h:l.length+m.length≤1073741824):G6 l m=some (l++m):=by simp_all[G6]
def Xx {N:Nat} {l:List A3} (ho:Dd l) (hl:l.length≤1000000) (hN:l.length<N):Bp N l=some (Fe (-1099511627776) l):=by
 unfold Bp;generalize hG:Fe (-1099511627776) l=G
 obtain⟨r,h1,h2⟩:=FD (N:=N) (l:=l) (Q:=fun(r:List A3×Int)=>r.1++Fe r.2 []=G∧r.1.length≤l.length)
  (I:=fun i (s:List A3×Int×Int)=>s.2.2=(i:Int)∧s.1++Fe s.2.1 (l.drop i)=G∧s.1.length≤i)
  (s0:=(([]:List A3),(-1099511627776:Int),(0:Int)))
  (step:=fun(s1:(List A3)×Int×Int)=>
   (
    if cmp .lss s1.2.2 (Ar.len l)=true then
     (B8 l s1.2.2).bind fun x4=>
     ((
      if cmp .gtr x4.Low s1.2.1=true then
       (B8 l s1.2.2).bind fun x6=>
       (G6 s1.1 ([(⟨s1.2.1,Ar.ar .sub .i64 x6.Low 1⟩:A3)])).bind fun l8=>
       some l8
      else
       some s1.1
     ):Option (((List A3)))).bind fun s5=>
     (B8 l s1.2.2).bind fun x10=>
     some (.inl (s5,Ar.ar .add .i64 x10.cV 1,Ar.ar .add .i64 s1.2.2 1))
    else
     some (.inr (s1.1,s1.2.1))
    :Option (((List A3)×Int×Int)⊕(((List A3)×Int)))))
  (fun i x s hx hi ⟨e1,e2,e3⟩=>by
   obtain⟨acc,lo,j⟩:=s
   simp only at e1 e2 e3
   subst e1
   have hb: -1099511627776≤x.Low∧x.Low≤x.cV∧x.cV≤1099511627776:=by
    have:=(ho.srt' x (M7 hx));exact this
   have hd:l.drop i=x::l.drop (i+1):=by
    rw[S3 hi];have:=E3 hi
    rw[hx]at this;grind
   rw[hd]at e2
   simp only[C5,N6,B2,G4,hx,A4,C8];rw[A2 (by omega),P2 hi (by omega),J1 (by omega) (by omega)];have hsub:Ar.ar .sub .i64 x.Low 1=x.Low-1:=Ey (by omega) (by omega)
   unfold Fe at e2
   by_cases hlt:lo<x.Low
   ·rw[A2 hlt]at e2
    rw[A2 hlt,GO (by simp;omega)]
    simp_all
   rw[A1 hlt]at e2
   rw[A1 hlt];simp only[A4]
   grind)
  (fun s ⟨e1,e2,e3⟩=>by
   simp_all[C5,B2]) ⟨rfl,hG,by simp⟩ hN
 rw[h1];simp only[A4,Jg,C8]
 grind[Fe,G6]
def AE7 {N:Nat} {l:List A3} (ho:Dd l) (hl:l.length≤1000000) (hN:l.length<N):FY N l=some (Fe (-1099511627776) l):=by
 unfold FY GL
 have key:∀(k i N:Nat) (lo:Int),i+k=l.length→k<N→∃w s,Z5
  (fun(s1:Int×Int)=>
   (
    if cmp .lss s1.2 (Ar.len l)=true then
     (B8 l s1.2).bind fun x7=>
     if cmp .lss s1.1 x7.Low=true then
      L6 (some ([(⟨s1.1,Ar.ar .sub .i64 x7.Low 1⟩:A3)],())) fun _=>
      some ([],.inl (Ar.ar .add .i64 x7.cV 1,Ar.ar .add .i64 s1.2 1))
     else
      some ([],.inl (Ar.ar .add .i64 x7.cV 1,Ar.ar .add .i64 s1.2 1))
    else
     some ([],.inr s1.1)
    :Option (List A3×((Int×Int)⊕(Int))))) N (lo,(i:Int))=some (w,s)∧w++Fe s []=Fe lo (l.drop i):=by
  intro k
  induction k with
  |zero=>
   intro i N lo hi hN;obtain⟨N,rfl⟩:∃M,N=M+1:=⟨N-1,by omega⟩;rw[show i=l.length by omega,Gm];refine⟨[],lo,?_,by simp⟩
   grind[Z5,C5,B2]
  | succ k ih=>
   intro i N lo hi hN;obtain⟨N,rfl⟩:∃M,N=M+1:=⟨N-1,by omega⟩
   have hlt:i<l.length:=by omega
   have hx:=E3 hlt;have hb:=ho.srt' _ (G7 hlt);obtain⟨w,s,h1,h2⟩:=ih (i+1) N (l[i].cV+1) (by omega) (by omega);rw[S3 hlt];unfold Z5;have hsub:Ar.ar .sub .i64 l[i].Low 1=l[i].Low-1:=Ey (by omega) (by omega)
   simp only[C5,B2,G4,hx,A4,C8,L6,L4,hsub]at h1 ⊢
   rw[A2 (by omega),P2 hlt (by omega),J1 (by omega) (by omega)]
   by_cases h:lo<l[i].Low
   ·rw[A2 h]
    grind[Fe]
   rw[A1 h]
   grind[Fe]
 obtain⟨w,s,h1,h2⟩:=key l.length 0 N (-1099511627776) (by omega) hN
 rw[show((0:Nat):Int)=0 from rfl]at h1
 rw[h1];simp only[L6,A4,Jg,C8]
 rw[Ip]at h2
 rw[←h2]
 grind[Fe]
def AA0 {l:List A3} (hl:l.length≤1000000):∀{acc:List A3},acc.length≤1000000→G3 (fun(s6:(List A3)) (y5:A3)=>
 ((G6 s6 ([y5])).bind fun l12=>some (.inl l12):Option (((List A3))⊕(Unit)))) l acc=some (.inl (acc++l)):=by
 have key:∀(l acc:List A3),l.length+acc.length≤3000000→G3 (fun(s6:(List A3)) (y5:A3)=>
  ((G6 s6 ([y5])).bind fun l12=>some (.inl l12):Option (((List A3))⊕(Unit)))) l acc=some (.inl (acc++l)):=by
  intro l
  induction l with
  |nil=>simp[G3]
  |cons x l ih=>
   grind[G3,G6]
 grind
def Ug {N:Nat}{l:List A3}(h0:ck l=0)(hN:300<N):S5 N l=some (if 256<(Fe (-1099511627776) l).length then([],5)else(Fe (-1099511627776) l,0)):=by
 have hs:=Jh h0;have hl:=hs.1;have hg:=Td l (-1099511627776);unfold S5 BG;rw[UU (by omega)];simp only[A4,h0,G2,K3,R3,D6,C7];rw[AE7 hs.ord (by omega) (by omega)];simp only[A4];rw[AA0 (by omega) (by simp)];simp only[A4,L9,N6,B2,C8]
 grind
theorem AW0 {i:Nat}(h:i+1<1000000000000):Ar.ar .sub .i64 ((i+1:Nat):Int) 1=(i:Int):=by
 show IntKind.wrap .i64 (((i+1:Nat):Int)-1)=_
 rw[Ey (by omega) (by omega)];omega
def AA3 {out:List A3} {x:A3} {g:Option A3} (hg:g=some x):∀(k N:Nat),k≤out.length→k<N→out.length≤1000000→
 ∃ p :Nat,p≤k∧(∀j y,p≤j→j<k→out[j]? =some y→x.Low<y.Low)∧(∀y,0<p→out[p-1]? =some y→y.Low≤x.Low)∧
  loopN (fun(s3:Int)=>
   (
    if cmp .gtr s3 0=true then
     (B8 out (Ar.ar .sub .i64 s3 1)).bind fun x5=>
     g.bind fun x6=>
     if cmp .gtr x5.Low x6.Low=true then
      some (.inl (Ar.ar .sub .i64 s3 1))
     else
      some (.inr s3)
    else
     some (.inr s3)
    :Option ((Int)⊕(Int)))) N (k:Int)=some (p:Int):=by
 subst hg;intro k
 induction k with
 |zero=>
  intro N _ hN _;obtain⟨N,rfl⟩:∃M,N=M+1:=⟨N-1,by omega⟩
  simp_all[loopN,N6]
 | succ k ih=>
  intro N hk hN hl;obtain⟨N,rfl⟩:∃M,N=M+1:=⟨N-1,by omega⟩;have hx:=E3 (show k<out.length by omega)
  by_cases hc:x.Low<out[k].Low
  ·obtain⟨p,h1,h2,h3,h4⟩:=ih N (by omega) (by omega) hl;refine⟨p,by omega,fun j y e1 e2 e3=>?_,h3,?_⟩
   ·grind
   rw[←h4]
   conv=>lhs;unfold loopN
   simp only[N6,C8,AW0 (show k+1<1000000000000 by omega),G4,hx,A4];rw[A2 (by omega),A2 hc]
  refine⟨k+1,D5 _,fun j y e1 e2=>by omega,fun y _ e=>?_,?_⟩
  ·rw[show k+1-1=k by omega,hx]at e;grind
  unfold loopN;simp only[N6,C8,AW0 (show k+1<1000000000000 by omega),G4,hx,A4];rw[A2 (by omega),A1 hc]
def Ax6 {α:Type}{l:List α}{p:Nat}(h:p≤l.length):T4 l none (some (p:Int)) none=some (l.take p):=by
 simp_all[T4]
def Ax7 {α:Type}{l:List α}{p:Nat}(h:p≤l.length):T4 l (some (p:Int)) none none=some (l.drop p):=by
 simp_all[T4,S2]
def Am5 {N:Nat} {l:List A3} (hl:l.length≤100000) (hN:l.length<N):∃r,Hg N l=some r∧r.Perm l∧r.Pairwise (fun a b=>a.Low≤b.Low):=by
 unfold Hg
 obtain ⟨r,h1,h2⟩:=FD (N:=N) (l:=l) (Q:=fun(r:List A3)=>r.Perm l∧r.Pairwise (fun a b=>a.Low≤b.Low))
  (I:=fun i (s:List A3×Int)=>s.2=(i:Int)∧s.1.Perm (l.take i)∧s.1.Pairwise (fun a b=>a.Low≤b.Low))
  (s0:=(([]:List A3),(0:Int)))
  (step :=fun(s1:(List A3)×Int)=>
   (
    if cmp .lss s1.2 (Ar.len l)=true then
     (loopN
      (fun(s3:Int)=>
       (
        if cmp .gtr s3 0=true then
         (B8 s1.1 (Ar.ar .sub .i64 s3 1)).bind fun x5=>
         (B8 l s1.2).bind fun x6=>
         if cmp .gtr x5.Low x6.Low=true then
          some (.inl (Ar.ar .sub .i64 s3 1))
         else
          some (.inr s3)
        else
         some (.inr s3)
        :Option ((Int)⊕(Int))))
      N (Ar.len s1.1)).bind fun s4=>
     (T4 s1.1 none (some s4) none).bind fun l7=>
     (G6 ([]) l7).bind fun l10=>
     (B8 l s1.2).bind fun x11=>
     (G6 l10 ([x11])).bind fun l13=>
     (T4 s1.1 (some s4) none none).bind fun l14=>
     (G6 l13 l14).bind fun l17=>
     some (.inl (l17,Ar.ar .add .i64 s1.2 1))
    else
     some (.inr s1.1)
    :Option (((List A3)×Int)⊕(((List A3))))))
  (fun i x s hx hi ⟨e1,e2,e3⟩=>by
   obtain⟨out,j⟩:=s
   simp only at e1 e2 e3
   subst e1
   have hol:out.length=i:=by rw[e2.length_eq,BZ];omega
   obtain⟨p,p1,p2,p3,p4⟩:=AA3 (out:=out) (g:=B8 l (i:Int)) (x:=x) (by rw[G4,hx]) out.length N (D5 _) (by omega) (by omega)
   simp only[C5,B2,C8]at p4 ⊢
   rw[A2 (by omega),p4];simp only[A4,Ax6 p1,Ax7 p1,G4,hx];rw[GO (by simp;omega)];simp only[A4,L9];rw[GO (by simp;omega)];simp only[A4];rw[GO (by simp;omega),P2 hi (by omega)];simp only[A4]
   have htake:l.take (i+1)=l.take i++[x]:=by
    rw[CI,hx];rfl
   refine⟨_,rfl,rfl,?_,?_⟩
   ·rw[htake]
    have q1:(out.take p++[x]++out.drop p).Perm (x::(out.take p++out.drop p)):=by
     rw[G1];grind[List.perm_middle]
    rw[Ad]at q1
    exact q1.trans ((e2.cons x).trans (by
     have:=Qs (l₁:=[x]) (l₂:=l.take i)
     simp_all))
   have hs:=e3
   rw[←Ad p out]at hs
   obtain⟨a1,a2,a3⟩:=List.pairwise_append.1 hs;rw[G1];refine List.pairwise_append.2 ⟨a1,List.pairwise_cons.2 ⟨fun y hy=>?_,a2⟩,fun y hy z hz=>?_⟩
   ·have hy:y∈out.drop p:=hy;obtain⟨k,hk⟩:=Bn hy
    rw[Hx]at hk
    have:=p2 (p+k) y (by omega) (List.getElem?_eq_some_iff.1 hk).1 hk;omega
   rcases List.mem_cons.1 hz with rfl|hz
   ·obtain⟨k,hk⟩:=Bn hy
    have hkp:k<p:=by
     have:=(List.getElem?_eq_some_iff.1 hk).1
     simp_all
    rw[Hy,A2 hkp]at hk
    have hlast:=E3 (show p-1<out.length by omega);have h4:=p3 _ (by omega) hlast
    grind[List.pairwise_iff_getElem]
   simp_all)
  (fun s ⟨e1,e2,e3⟩=>by
   simp_all[C5,B2]) ⟨rfl,by simp,.nil⟩ hN
 simp_all
theorem Aa5 (a b:Int):mn a b=if b<a then b else a:=rfl
def Oo (x:A3):Prop:= -1099511627776≤x.Low∧x.Low≤x.cV∧x.cV≤1099511627776
def XN {l:List A3} {x:A3} (h:Dd l) (hx:Oo x) (hl:∀y∈l,y.cV+2≤x.Low):Dd (l++[x]):=by
 induction l with
 |nil=>grind[Dd,Oo]
 |cons a l ih=>
  grind[Dd]
def SD {l:List A3} {x:A3} (h:Dd (l++[x])):Dd l∧Oo x∧∀y∈l,y.cV+2≤x.Low:=by
 induction l with
 |nil=>grind[Dd,Oo]
 |cons a l ih=>
  simp_all[Dd]
structure Jnd (acc:List A3) (x:A3) (out:List A3):Prop where
 ord:Dd out
 len:out.length≤acc.length+1
 low:∀y∈out,y.Low≤x.Low
 inl:∀n,W5 out n↔W5 acc n∨(x.Low≤n∧n≤x.cV)
theorem Rz {acc:List A3} {x:A3} (ho:Dd acc) (hb:Oo x) (h:∀y∈acc,y.cV+1<x.Low):Jnd acc x (acc++[x]):=by
 refine⟨XN ho hb fun y hy=>by have:=h y hy;omega,by simp,fun y hy=>?_,fun n=>?_⟩
 ·rcases List.mem_append.1 hy with hy|hy
  ·have:=h y hy;have:=ho.srt' y hy;omega
  simp_all
 simp[W5]
theorem SV {init:List A3} {x y:A3} {hi:Int} (ho:Dd (init++[y])) (hb:Oo x) (hl:y.Low≤x.Low) (h:x.Low≤y.cV+1)
 (hh:hi=if y.cV<x.cV then x.cV else y.cV):Jnd (init++[y]) x (init++[⟨y.Low,hi⟩]):=by
 obtain⟨i1,i2,i3⟩:=SD ho
 unfold Oo at i2 hb
 have e:y.cV≤hi∧x.cV≤hi∧(hi=x.cV∨hi=y.cV):=by
  omega
 refine⟨XN i1 ⟨by simp_all,by grind,by grind⟩ i3,by simp,fun z hz=>?_,fun n=>?_⟩
 ·rcases List.mem_append.1 hz with hz|hz
  ·have:=i3 z hz;have:=i1.srt' z hz;omega
  simp_all
 rw[KF,R9,KF,R9,or_assoc]
 grind
def Yn {α:Type}{l:List α}{x:α}:Ii (l++[x]) (l.length:Int)=true:=by
 grind[Ii]
def Al3 {α:Type}{l:List α}{x:α}:(l++[x])[l.length]? =some x:=by simp
def WT {α:Type}{l:List α}{x:α}{u:α→α}:DS (l++[x]) (l.length:Int) u=some (l++[u x]):=by
 grind[DS,G4]
def AD6 {α:Type}{l:List α}{x:α}(h:l.length≤1000000):Ar.ar .sub .i64 (((l++[x]).length:Nat):Int) 1=(l.length:Int):=by
 rw[Ac]
 grind[AW0]
def Ap2 {N:Nat} {acc:List A3} {x:A3} (ho:Dd acc) (hb:Oo x) (hl:∀y∈acc,y.Low≤x.Low) (hn:acc.length≤1000000):
 ∃out,Dz N acc x=some out∧Jnd acc x out:=by
 unfold Dz
 rcases Qr acc with rfl|⟨init,y,rfl⟩
 ·refine⟨[x],?_,Rz (acc:=[]) ho hb fun y hy=>by cases hy⟩;rw[GO (by simp)];rfl
 rw[Qq]at *
 have hn':init.length≤1000000:=by grind
 obtain⟨i1,i2,i3⟩:=SD ho;have hy:=hl y (by simp)
 unfold Oo at i2
 simp only[N6,Jg,B2,AD6 hn',Yn,Du,B4,A4,G4,Al3,WT,C8];rw[A2 (by simp),J1 (by omega) (by omega)]
 by_cases h:x.Low≤y.cV+1
 ·rw[A2 h]
  grind[SV,Jr]
 rw[A1 h,GO (by simp;omega)];refine⟨_,rfl,Rz ho hb fun z hz=>?_⟩
 grind
def AG3 {l m:List A3}(h:m.Perm l)(hb:∀x∈l,Oo x):∀x∈m,Oo x:=fun x hx=>hb x (h.mem_iff.1 hx)
theorem Pc {l:List A3}{i:Nat}{x:A3}(h:l[i]? =some x)(n:Int):W5 (l.take (i+1)) n↔W5 (l.take i) n∨(x.Low≤n∧n≤x.cV):=by
 have e:l.take (i+1)=l.take i++[x]:=by rw[CI,h];rfl
 rw[e,KF,R9];simp[Hj]
def PZ {N:Nat} {l:List A3} (hb:∀x∈l,Oo x) (hl:l.length≤100000) (hN:l.length<N):
 ∃r,Am N l=some r∧Dd r∧r.length≤l.length∧∀n,W5 r n↔W5 l n:=by
 unfold Am;obtain⟨s,hs,hp,hw⟩:=Am5 hl hN;have hsl:s.length=l.length:=hp.length_eq;have hsb:=AG3 hp hb;rw[hs];simp only[A4]
 obtain ⟨r,h1,h2⟩:=FD (N:=N) (l:=s) (Q:=fun(r:List A3)=>Dd r∧r.length≤s.length∧∀n,W5 r n↔W5 s n)
  (I:=fun i (t:Int×List A3)=>t.1=(i:Int)∧Dd t.2∧t.2.length≤i∧(∀y∈t.2,∀(j:Nat) x,i≤j→s[j]? =some x→y.Low≤x.Low)∧∀n,W5 t.2 n↔W5 (s.take i) n)
  (s0:=((0:Int),([]:List A3)))
  (step :=fun(s3:Int×(List A3))=>
   (
    if cmp .lss s3.1 (Ar.len s)=true then
     if cmp .lss (Ar.ar .sub .i64 (Ar.len s3.2) 1) 0=true then
      (B8 s s3.1).bind fun x6=>
      (G6 s3.2 ([x6])).bind fun l8=>
      some (.inl (Ar.ar .add .i64 s3.1 1,l8))
     else
      (B8 s s3.1).bind fun x9=>
      (Du (Ii s3.2 (Ar.ar .sub .i64 (Ar.len s3.2) 1))).bind fun _=>
      (B8 s3.2 (Ar.ar .sub .i64 (Ar.len s3.2) 1)).bind fun x10=>
      if cmp .gtr x9.Low (Ar.ar .add .i64 x10.cV 1)=true then
       (B8 s s3.1).bind fun x11=>
       (G6 s3.2 ([x11])).bind fun l13=>
       some (.inl (Ar.ar .add .i64 s3.1 1,l13))
      else
       (B8 s s3.1).bind fun x14=>
       (Du (Ii s3.2 (Ar.ar .sub .i64 (Ar.len s3.2) 1))).bind fun _=>
       (B8 s3.2 (Ar.ar .sub .i64 (Ar.len s3.2) 1)).bind fun x15=>
       if cmp .gtr x14.cV x15.cV=true then
        (B8 s s3.1).bind fun x16=>
        (Du (Ii s3.2 (Ar.ar .sub .i64 (Ar.len s3.2) 1))).bind fun _=>
        (DS s3.2 (Ar.ar .sub .i64 (Ar.len s3.2) 1) (fun x17:A3=>{x17 with cV:=x16.cV})).bind fun l18=>
        some (.inl (Ar.ar .add .i64 s3.1 1,l18))
       else
        some (.inl (Ar.ar .add .i64 s3.1 1,s3.2))
    else
     some (.inr s3.2)
    :Option ((Int×(List A3))⊕(((List A3))))))
  (fun i x t hx hi ⟨e1,e2,e3,e4,e5⟩=>by
   obtain⟨j,acc⟩:=t
   simp only at e1 e2 e3 e4 e5
   subst e1;have hxb:=hsb x (M7 hx)
   have done:∀out,Jnd acc x out→((i+1:Nat):Int)=((i+1:Nat):Int)∧Dd out∧out.length≤i+1∧(∀y∈out,∀(j:Nat) x,i+1≤j→s[j]? =some x→y.Low≤x.Low)∧∀n,W5 out n↔W5 (s.take (i+1)) n:=by
    intro out hj;refine⟨rfl,hj.ord,by have:=hj.len;omega,fun y hy k z hk hz=>?_,fun n=>?_⟩
    ·have q1:=hj.low y hy;have hkl:=(List.getElem?_eq_some_iff.1 hz).1;have q2:=(List.pairwise_iff_getElem.1 hw) i k (by omega) (by omega) (by omega);have e6:=E3 (show i<s.length by omega)
     rw[e6]at hx;grind
    rw[hj.inl,e5,Pc hx]
   simp only[C5,N6,B2,G4,hx,A4,C8];rw[A2 (by omega),P2 hi (by omega)]
   rcases Qr acc with rfl|⟨init,y,rfl⟩
   ·rw[A2 (by decide),GO (by simp)];simp only[A4]
    grind[Rz]
   rw[Qq]at *
   have hn':init.length≤1000000:=by grind
   obtain⟨i1,i2,i3⟩:=SD e2;have hy:=e4 y (by simp) i x (D5 _) hx
   unfold Oo at i2
   simp only[AD6 hn',Yn,Du,B4,A4,G4,Al3,WT];rw[A1 (by omega),J1 (by omega) (by omega)]
   by_cases h:y.cV+1<x.Low
   ·rw[A2 h,GO (by simp;omega)];simp only[A4];refine⟨_,rfl,done _ (Rz e2 hxb fun z hz=>?_)⟩
    grind
   rw[A1 h]
   by_cases hh:y.cV<x.cV
   ·rw[A2 hh];exact⟨_,rfl,done _ (SV e2 hxb hy (by omega) (by rw[A2 hh]))⟩
   rw[A1 hh];refine⟨_,rfl,done _ ?_⟩;have:=SV (hi:=y.cV) e2 hxb hy (by omega) (by rw[A1 hh])
   exact this)
  (fun t ⟨e1,e2,e3,e4,e5⟩=>by
   obtain⟨j,acc⟩:=t
   simp only at e1 e2 e3 e4 e5
   subst e1;simp only[C5,B2,C8];rw[A1 (by omega)]
   rw[Gn]at e5
   simp_all) ⟨rfl,trivial,by simp,fun y hy=>by simp at hy,fun n=>by simp⟩ (by omega)
 rw[h1]
 grind[W5]
def AQ5 {N:Nat} {a b:List A3} (ha:Dd a) (hb:Dd b) (hab:a.length*b.length≤100000) (hal:a.length≤100000) (hbl:b.length≤100000) (hN:100000<N):
 ∃r,Cg N a b=some r∧Dd r∧r.length≤a.length*b.length∧∀n,W5 r n↔W5 a n∧W5 b n:=by
 unfold Cg
 obtain ⟨r, h1,h2⟩:=FD (N:=N) (l:=a) (Q:=fun(r:List A3)=>(∀x∈r,Oo x)∧r.length≤a.length*b.length∧∀n,W5 r n↔W5 a n∧W5 b n)
  (I:=fun i (t:List A3×Int)=>t.2=(i:Int)∧(∀x∈t.1,Oo x)∧t.1.length≤i*b.length∧∀n,W5 t.1 n↔W5 (a.take i) n∧W5 b n)
  (s0:=(([]:List A3),(0:Int)))
  (step :=fun(s1:(List A3)×Int)=>
   (
    if cmp .lss s1.2 (Ar.len a)=true then
     (loopN
      (fun(s4:(List A3)×Int)=>
       (
        if cmp .lss s4.2 (Ar.len b)=true then
         (B8 a s1.2).bind fun x7=>
         (B8 b s4.2).bind fun x8=>
         (B8 a s1.2).bind fun x9=>
         (B8 b s4.2).bind fun x10=>
         if cmp .leq (mx x7.Low x8.Low) (mn x9.cV x10.cV)=true then
          (G6 s4.1 ([(⟨mx x7.Low x8.Low,mn x9.cV x10.cV⟩:A3)])).bind fun l12=>
          some (.inl (l12,Ar.ar .add .i64 s4.2 1))
         else
          some (.inl (s4.1,Ar.ar .add .i64 s4.2 1))
        else
         some (.inr s4.1)
        :Option (((List A3)×Int)⊕(((List A3))))))
      N (s1.1,0)).bind fun s6=>
     some (.inl (s6,Ar.ar .add .i64 s1.2 1))
    else
     some (.inr s1.1)
    :Option (((List A3)×Int)⊕(((List A3))))))
  (fun i x t hx hi ⟨e1,e2,e3,e4⟩=>by
   obtain⟨acc,j⟩:=t
   simp only at e1 e2 e3 e4
   subst e1;have hxb:=ha.srt' x (M7 hx);have hmul:(i+1)*b.length≤a.length*b.length:=K5 _ hi;have hmul2:(i+1)*b.length=i*b.length+b.length:=Nat.succ_mul _ _
   obtain ⟨r,k1,k2⟩:=FD (N:=N) (l:=b) (Q:=fun(r:List A3)=>(∀x∈r,Oo x)∧r.length≤(i+1)*b.length∧∀n,W5 r n↔W5 (a.take (i+1)) n∧W5 b n)
    (I:=fun k (t:List A3×Int)=>t.2=(k:Int)∧(∀x∈t.1,Oo x)∧t.1.length≤i*b.length+k∧∀n,W5 t.1 n↔W5 acc n∨(x.Low≤n∧n≤x.cV)∧W5 (b.take k) n)
    (s0:=(acc,(0:Int)))
    (step := fun(s4:(List A3)×Int)=>
          (
           if cmp .lss s4.2 (Ar.len b)=true then
            (B8 a (i:Int)).bind fun x7=>
            (B8 b s4.2).bind fun x8=>
            (B8 a (i:Int)).bind fun x9=>
            (B8 b s4.2).bind fun x10=>
            if cmp .leq (mx x7.Low x8.Low) (mn x9.cV x10.cV)=true then
             (G6 s4.1 ([(⟨mx x7.Low x8.Low,mn x9.cV x10.cV⟩:A3)])).bind fun l12=>
             some (.inl (l12,Ar.ar .add .i64 s4.2 1))
            else
             some (.inl (s4.1,Ar.ar .add .i64 s4.2 1))
           else
            some (.inr s4.1)
           :Option (((List A3)×Int)⊕(((List A3))))))
    (fun k y u hy hk ⟨f1,f2,f3,f4⟩=>by
     obtain⟨ac,m⟩:=u
     simp only at f1 f2 f3 f4
     subst f1;have hyb:=hb.srt' y (M7 hy);simp only[C5,Jg,B2,G4,hx,hy,A4,C8,Jr,Aa5];rw[A2 (by omega),P2 hk (by omega)];generalize hlo:(if x.Low<y.Low then y.Low else x.Low)=lo;generalize hhi:(if y.cV<x.cV then y.cV else x.cV)=hi'
     have q1:(lo=x.Low∧y.Low≤x.Low)∨(lo=y.Low∧x.Low≤y.Low):=by omega
     have q2:(hi'=x.cV∧x.cV≤y.cV)∨(hi'=y.cV∧y.cV≤x.cV):=by omega
     by_cases h:lo≤hi'
     ·rw[A2 h,GO (by simp;omega)];refine⟨_,rfl,rfl,fun z hz=>?_,by simp;omega,fun n=>?_⟩
      ·grind[Oo]
      rw[KF,f4,Pc hy,R9]
      grind[W5]
     rw[A1 h];refine⟨_,rfl,rfl,f2,by grind,fun n=>?_⟩;rw[f4,Pc hy]
     grind)
    (fun u ⟨f1,f2,f3,f4⟩=>by
     obtain⟨ac,m⟩:=u
     simp only at f1 f2 f3 f4
     subst f1;simp only[C5,B2,C8];rw[A1 (by omega)]
     rw[Gn]at f4
     grind[Pc])
    ⟨rfl,e2,by omega,fun n=>by simp[Hj]⟩ (by omega)
   simp only[C5,B2,C8]at k1 ⊢
   rw[A2 (by omega),P2 hi (by omega),k1]
   simp_all)
  (fun t ⟨e1,e2,e3,e4⟩=>by
   simp_all[C5,B2]) ⟨rfl,fun x hx=>by simp at hx,by simp,fun n=>by simp[Hj]⟩ (by omega)
 rw[h1];obtain⟨h2,h3,h4⟩:=h2;obtain⟨m,m1,m2,m3,m4⟩:=PZ (N:=N) h2 (by omega) (by omega)
 grind
end Go.Ab
namespace Go.Ab
open Go.Lib
def YX {zs:List Int} (h:zs.Pairwise (· ≤ ·)):(Lib.compact zs).Pairwise (· < ·):=by
 have at_:∀i,(hi:i<zs.length)→zs.toArray[i]! =zs[i]:=fun i hi=>by simp[hi]
 have key:∀m,m≤zs.length→(compactUpTo zs.toArray m).Pairwise (· < ·)∧∀x∈compactUpTo zs.toArray m,0<m∧x≤zs.toArray[m-1]! :=by
  intro m
  induction m with
  |zero=>intro _;exact⟨by simp[compactUpTo],fun x hx=>by simp[compactUpTo]at hx⟩
  | succ m ih=>
   intro hm;obtain⟨h1,h2⟩:=ih (by omega)
   have hle:0<m→zs.toArray[m-1]! ≤zs.toArray[m]! :=fun h0=>by
    rw[at_ (m-1) (by omega),at_ m (by omega)]
    grind[List.pairwise_iff_getElem]
   rw[compactUpTo_succ]
   by_cases hk:keeps zs.toArray m=true
   ·rw[A2 hk]
    have hlt:∀x∈compactUpTo zs.toArray m,x<zs.toArray[m]! :=fun x hx=>by
     grind[keeps_neg]
    grind
   grind
 exact(key zs.length (D5 _)).1
def AP8 (zs:List Int):(Lib.compact zs).length≤zs.length:=by
 unfold Lib.compact Lib.compactUpTo;rw[Q7]
 grind
def Yd {zs:List Int} {x:Int}:x∈Lib.compact zs↔x∈zs:=by
 unfold Lib.compact Lib.compactUpTo;rw[Ee]
 constructor
 ·grind
 intro hx;obtain⟨i,hi,rfl⟩:=List.mem_iff_getElem.1 hx
 have key:∀(n i:Nat) (hi:i<zs.length),i≤n→∃a,a∈(List.range zs.length).filter (keeps zs.toArray)∧zs.toArray[a]! =zs[i]:=fun n=>by
  induction n with
  |zero=>
   intro i hi h
   have:i=0:=by omega
   subst this;exact⟨0,List.mem_filter.2 ⟨List.mem_range.2 hi,keeps_lt_one _ 0 (by omega)⟩,by simp[hi]⟩
  |succ n ih=>
   intro i hi h
   by_cases hk:keeps zs.toArray i=true
   ·exact⟨i,List.mem_filter.2 ⟨List.mem_range.2 hi,hk⟩,by simp[hi]⟩
   by_cases h0:i=0
   ·simp_all
   obtain⟨a,ha,e⟩:=ih (i-1) (by omega) (by omega);refine⟨a,ha,e.trans ?_⟩;have h2:zs.toArray[i]! =zs.toArray[i-1]! :=Classical.not_not.1 fun hne=>hk (keeps_pos hne)
   have e1:zs.toArray[i]! =zs[i]:=by simp[hi]
   have e2:zs.toArray[i-1]! =zs[i-1]:=by grind
   rw[←e1,←e2,h2]
 exact key i i hi (D5 _)
def Aq5 {l r:List Int}(h:QH l=some r){x:Int}:x∈r↔x∈l:=by
 obtain⟨_,rfl⟩:=NE h
 simp_all
def At7 {l r:List Int}(h:QH l=some r):r.Pairwise (· ≤ ·)∧r.length=l.length:=by
 obtain⟨_,rfl⟩:=NE h;have hs:=Qy (le:=fun x y:Int=>decide (x≤y)) (fun a b c=>by simp;omega) (fun a b=>by simp;omega) l
 simp_all
def HZ (l:List A3):List Int:=l.flatMap fun x=>[x.Low,x.cV+1]
theorem JQ {l:List A3}{n:Int}:n∈HZ l↔∃x∈l,n=x.Low∨n=x.cV+1:=by
 simp[HZ]
def Tl (l:List A3):(HZ l).length=2*l.length:=by
 induction l with
 |nil=>rfl
 |cons x l ih=>grind[HZ]
def Ad6 {N:Nat} {a b:List A3} (h:a.length+b.length≤100000) (hN:10<N):Q8 N [a,b]=some (a++b):=by
 obtain⟨M,rfl⟩:∃M,N=M+3:=⟨N-3,by omega⟩;have e0:Ar.ar .add .i64 (0:Int) 1=1:=rfl;have e1:Ar.ar .add .i64 (1:Int) 1=2:=rfl
 have e2:Ar.ar .add .i64 (0:Int) (a.length:Int)=(a.length:Int):=by rw[J1 (by omega) (by omega)];omega
 have e3:Ar.ar .add .i64 (a.length:Int) (b.length:Int)=((a.length+b.length:Nat):Int):=by rw[J1 (by omega) (by omega)];omega
 have i0:B8 [a,b] 0=some a:=rfl;have i1:B8 [a,b] 1=some b:=rfl;have l2:Ar.len [a,b]=(2:Int):=rfl
 have g:R7 (M+3) [] ((a.length+b.length:Nat):Int)=some []:=by
  unfold R7 Pg;rw[A2 (by omega)]
 unfold Q8
 simp only[loopN,l2,C5,i0,i1,e0,e1,e2,e3,B2,A4,show decide ((0:Int)<2)=true from rfl,show decide ((1:Int)<2)=true from rfl,show decide ((2:Int)<2)=false from rfl,B4,D6,C7,
  show decide ((a.length:Int)<0)=false from V2 (by omega),show decide (((a.length+b.length:Nat):Int)<0)=false from V2 (by omega),g,GO (l:=([]:List A3)) (m:=a) (by simp;omega),L9,GO (l:=a) (m:=b) (by omega)]
def As3 {N:Nat} {l:List A3} (hb:∀x∈l,Oo x) (hl:l.length≤100000) (hN:l.length<N):loopN
 (fun(s3:Int×(List Int))=>
  (
   if cmp .lss s3.1 (Ar.len l)=true then
    (B8 l s3.1).bind fun x6=>
    (G6 s3.2 ([x6.Low,Ar.ar .add .i64 x6.cV 1])).bind fun l8=>
    some (.inl (Ar.ar .add .i64 s3.1 1,l8))
   else
    some (.inr s3.2)
   :Option ((Int×(List Int))⊕(((List Int))))))
 N (0,([]:List Int))=some (HZ l):=by
 obtain⟨r,h1,h2⟩:=FD (N:=N) (l:=l) (Q:=fun(r:List Int)=>r=HZ l)
  (I:=fun i (t:Int×List Int)=>t.1=(i:Int)∧t.2=HZ (l.take i))
  (s0:=((0:Int),([]:List Int)))
  (step:=fun(s3:Int×(List Int))=>
   (
    if cmp .lss s3.1 (Ar.len l)=true then
     (B8 l s3.1).bind fun x6=>
     (G6 s3.2 ([x6.Low,Ar.ar .add .i64 x6.cV 1])).bind fun l8=>
     some (.inl (Ar.ar .add .i64 s3.1 1,l8))
    else
     some (.inr s3.2)
    :Option ((Int×(List Int))⊕(((List Int))))))
  (fun i x t hx hi ⟨e1,e2⟩=>by
   obtain⟨j,acc⟩:=t
   simp only at e1 e2
   subst e1;subst e2;have hxb:=hb x (M7 hx)
   unfold Oo at hxb
   have hln:(HZ (l.take i)).length≤200000:=by rw[Tl,BZ];omega
   simp only[C5,B2,G4,hx,A4,C8];rw[A2 (by omega),P2 hi (by omega),GO (by simp;omega),J1 (by omega) (by omega)]
   simp_all[CI,HZ])
  (fun t ⟨e1,e2⟩=>by
   simp_all[C5,B2]) ⟨rfl,by simp[HZ]⟩ hN
 rw[h1,h2]
def Yo {l:List A3} {E:List Int} {i:Nat} {p q n:Int} (hE:∀x∈l,x.Low∈E∧x.cV+1∈E) (hasc:E.Pairwise (· < ·)) (hp:E[i]? =some p) (hq:E[i+1]? =some q) (h1:p≤n) (h2:n<q):W5 l n↔W5 l p:=by
 have gap:∀m∈E,m≤n↔m≤p:=fun m hm=>by
  grind[List.getElem?_of_mem,List.pairwise_iff_getElem]
 grind[W5]
def Ax0 {N:Nat} {a b:List A3} {bel:Bool→Bool→Option Bool} {f:Bool→Bool→Bool} (hf:∀x y,bel x y=some (f x y)) (hff:f false false=false)
 (ha:TO a) (hb:TO b) (hN:2000<N) {P:Int→Prop} (hP:∀n x y,(x=true↔W5 a n)→(y=true↔W5 b n)→(f x y=true↔P n)):
 ∃r,EO N a b bel=some r∧Dd r∧r.length≤2*(a.length+b.length)∧∀n,W5 r n↔P n:=by
 have hal:=ha.1;have hbl:=hb.1
 have hbd:∀x∈a++b,Oo x:=fun x hx=>by
  grind[Oo,TO]
 unfold EO;rw[Ad6 (by omega) (by omega)];simp only[A4];rw[As3 hbd (by simp;omega) (by simp;omega)];simp only[A4]
 have hel:(HZ (a++b)).length=2*(a.length+b.length):=by rw[Tl,Ac]
 obtain⟨S,hS⟩:∃S,QH (HZ (a++b))=some S:=⟨_,by unfold QH;rw[A2 (by omega)]⟩;obtain⟨hasc,hSl⟩:=At7 hS
 have hC:MG S=some (Lib.compact S):=by grind[MG]
 unfold CL BA;rw[hS];simp only[A4,hC];have hEasc:=YX hasc;have hEl:=AP8 S;have hEm:∀m,m∈Lib.compact S↔m∈HZ (a++b):=fun m=>Yd.trans (Aq5 hS)
 generalize Lib.compact S=E at hEasc hEl hEm
 have hEa:∀x∈a,x.Low∈E∧x.cV+1∈E:=fun x hx=>⟨(hEm _).2 (JQ.2 ⟨x,by simp[hx],.inl rfl⟩),(hEm _).2 (JQ.2 ⟨x,by simp[hx],.inr rfl⟩)⟩;have hEb:∀x∈b,x.Low∈E∧x.cV+1∈E:=fun x hx=>⟨(hEm _).2 (JQ.2 ⟨x,by simp[hx],.inl rfl⟩),(hEm _).2 (JQ.2 ⟨x,by simp[hx],.inr rfl⟩)⟩
 have hEbd:∀m∈E, -1099511627776≤m∧m≤1099511627777:=fun m hm=>by
  grind[JQ,Oo]
 have noB:∀n,¬W5 a n→¬W5 b n→¬P n:=fun n h1 h2 h=>by
  have:=(hP n false false (by simp[h1]) (by simp[h2])).2 h
  rw[hff]at this;cases this
 obtain⟨r,h1,h2⟩:=FD (N:=N) (l:=List.range (E.length-1)) (Q:=fun(r:List A3)=>Dd r∧r.length≤E.length∧∀n,W5 r n↔P n)
  (I:=fun i (t:Int×List A3)=>t.1=(i:Int)∧Dd t.2∧t.2.length≤i∧(∀y∈t.2,∀p,E[i]? =some p→y.Low≤p)∧∀n,W5 t.2 n↔(P n∧∃p,E[i]? =some p∧n<p))
  (s0:=((0:Int),([]:List A3)))
  (step:=fun(s14:Int×(List A3))=>
   (
    if cmp .lss (Ar.ar .add .i64 s14.1 1) (Ar.len E)=true then
     (Du (Ii E s14.1)).bind fun _=>
     (B8 E s14.1).bind fun x17=>
     (Bb N a x17).bind fun r18=>
     (Du (Ii E s14.1)).bind fun _=>
     (B8 E s14.1).bind fun x19=>
     (Bb N b x19).bind fun r20=>
     (bel r18 r20).bind fun r21=>
     if r21=true then
      (Du (Ii E s14.1)).bind fun _=>
      (B8 E s14.1).bind fun x22=>
      (Du (Ii E (Ar.ar .add .i64 s14.1 1))).bind fun _=>
      (B8 E (Ar.ar .add .i64 s14.1 1)).bind fun x23=>
      (Dz N s14.2 (⟨x22,Ar.ar .sub .i64 x23 1⟩:A3)).bind fun l24=>
      some (.inl (Ar.ar .add .i64 s14.1 1,l24))
     else
      some (.inl (Ar.ar .add .i64 s14.1 1,s14.2))
    else
     some (.inr s14.2)
    :Option ((Int×(List A3))⊕(((List A3))))))
  (fun i x t hx hi ⟨e1,e2,e3,e4,e5⟩=>by
   obtain⟨j,acc⟩:=t
   simp only at e1 e2 e3 e4 e5
   subst e1
   rw[CG]at hi
   have hp:=E3 (show i<E.length by omega);have hq:=E3 (show i+1<E.length by omega);have hpq:=(List.pairwise_iff_getElem.1 hEasc) i (i+1) (by omega) (by omega) (by omega);have bp:=hEbd _ (G7 (show i<E.length by omega));have bq:=hEbd _ (G7 (show i+1<E.length by omega))
   generalize E[i]=p at hp hpq bp
   generalize E[i+1]=q at hq hpq bq
   have in1:Ii E (i:Int)=true:=by grind[Ii]
   have in2:Ii E ((i+1:Nat):Int)=true:=by grind[Ii]
   obtain⟨va,k1,k2⟩:=AE5 (N:=N) (n:=p) ha (by omega);obtain⟨vb,k3,k4⟩:=AE5 (N:=N) (n:=p) hb (by omega)
   have hstep:∀n,p≤n→n<q→(P n↔P p):=fun n g1 g2=>by
    have:=hP n va vb (k2.trans (Yo hEa hEasc hp hq g1 g2).symm) (k4.trans (Yo hEb hEasc hp hq g1 g2).symm)
    grind
   simp only[C5,B2,C8];rw[P2 hi (by omega),A2 (by omega)];simp only[in1,in2,Du,B4,A4,G4,hp,hq,k1,k3,hf]
   by_cases hc:f va vb=true
   ·have hPp:=(hP p va vb k2 k4).1 hc;rw[A2 hc];have hsub:Ar.ar .sub .i64 q 1=q-1:=Ey (by omega) (by omega);rw[hsub];obtain⟨out,o1,o2⟩:=Ap2 (N:=N) (acc:=acc) (x:=⟨p,q-1⟩) e2 ⟨by simp_all,by grind,by grind⟩ (fun y hy=>e4 y hy p hp) (by omega);rw[o1];refine⟨_,rfl,rfl,o2.ord,by have:=o2.len;grind,fun y hy z hz=>?_,fun n=>?_⟩
    ·cases hz;have:=o2.low y hy
     grind
    rw[o2.inl,e5]
    grind
   rw[A1 hc];have hPp:¬P p:=fun h=>hc ((hP p va vb k2 k4).2 h)
   grind)
  (fun t ⟨e1,e2,e3,e4,e5⟩=>by
   obtain⟨j,acc⟩:=t
   simp only at e1 e2 e3 e4 e5
   rw[CG]at e1 e3 e4 e5
   subst e1;have hinc:Ar.ar .add .i64 ((E.length-1:Nat):Int) 1=((E.length-1+1:Nat):Int):=P2 (n:=E.length+1) (by omega) (by omega);simp only[C5,B2,hinc,C8];rw[A1 (by omega)];refine⟨_,rfl,e2,by omega,fun n=>(e5 n).trans ⟨fun h=>h.1,fun h=>⟨h,?_⟩⟩⟩
   have above:∀x,x∈a∨x∈b→x.Low≤n→n≤x.cV→∃p,E[E.length-1]? =some p∧n<p:=fun x hx g1 g2=>by
    have hm:x.cV+1∈E:=by grind
    obtain⟨k,hk⟩:=Bn hm;obtain⟨a1,a2⟩:=List.getElem?_eq_some_iff.1 hk
    grind[List.pairwise_iff_getElem]
   grind[W5])
  ⟨rfl,trivial,by simp,fun y hy=>by simp at hy,fun n=>by
   simp only[Hj,false_iff,not_and];rintro h ⟨p,hp,hn⟩
   have first:∀m∈E,p≤m:=fun m hm=>by
    grind[List.getElem?_of_mem,List.pairwise_iff_getElem]
   grind[W5]⟩ (by rw[CG];omega)
 rw[h1]
 grind
end Go.Ab
namespace Go.Ab
def Cn (P:Int→Prop)(l:List A3):Prop:=Dd l∧l.length≤256∧∀n,W5 l n↔P n
def Cn.ext {P Q:Int→Prop}{l m:List A3}(h:Cn P l)(k:Cn Q m)(e:∀n,P n↔Q n):l=m:=OM h.1 k.1 fun n=>(h.2.2 n).trans ((e n).trans (k.2.2 n).symm)
def Al1 {a b:List A3}(ha:TO a)(hb:TO b):∀x∈a++b,Oo x:=fun x hx=>by
 grind[Oo,TO]
def Mz {N:Nat}{a b:List A3}{bel:Bool→Bool→Option Bool}{f:Bool→Bool→Bool}(hf:∀x y,bel x y=some (f x y))(hff:f false false=false)
 (ha:ck a=0) (hb:ck b=0) (hl:a.length+b.length≤100) (hN:2000<N) {P:Int→Prop} (hP:∀n x y,(x=true↔W5 a n)→(y=true↔W5 b n)→(f x y=true↔P n)):
 ∃r,AB N a b bel=some (r,0)∧Cn P r∧r.length≤2*(a.length+b.length):=by
 obtain⟨r,h1,h2,h3,h4⟩:=Ax0 hf hff (Jh ha) (Jh hb) hN hP;refine⟨r,?_,⟨h2,by omega,h4⟩,h3⟩;unfold AB Ju BG;simp only[UU (show 256<N by omega),A4,ha,hb,G2,K3,R3,D6,C7,h1,N6,B2,C8];rw[A1 (by omega)];rfl
def Pa {N:Nat} {a b:List A3} (ha:ck a=0) (hb:ck b=0) (hl:a.length+b.length≤100) (hN:100000<N):
 ∃r,X5 N a b=some (r,0)∧Cg N a b=some r∧Cn (fun n=>W5 a n∧W5 b n) r∧r.length≤2*(a.length+b.length):=by
 obtain⟨r,h1,h2,h3⟩:=Mz (N:=N) (bel:=fun y1 y2=>Bc N y1 y2) (f:=fun x y=>x&&y) (fun x y=>rfl) rfl ha hb hl (by omega) (P:=fun n=>W5 a n∧W5 b n) (fun n x y h k=>by
  rw[←h,←k,M6])
 have hal:a.length≤100:=by omega
 have hbl:b.length≤100:=by omega
 have hm:a.length*b.length≤100*100:=Z8 hal hbl;obtain⟨s,k1,k2,k3,k4⟩:=AQ5 (N:=N) (Jh ha).ord (Jh hb).ord (by omega) (by omega) (by omega) (by omega);have e:r=s:=OM h2.1 k2 fun n=>(h2.2.2 n).trans (k4 n).symm
 grind[X5]
def WV {N:Nat} {a b:List A3} (ha:ck a=0) (hb:ck b=0) (hl:a.length+b.length≤100) (hN:100000<N):
 ∃r,BI N a b=some (r,0)∧Am N (a++b)=some r∧Cn (fun n=>W5 a n∨W5 b n) r∧r.length≤2*(a.length+b.length):=by
 obtain⟨r,h1,h2,h3⟩:=Mz (N:=N) (bel:=fun y1 y2=>Dm N y1 y2) (f:=fun x y=>x||y) (fun x y=>rfl) rfl ha hb hl (by omega) (P:=fun n=>W5 a n∨W5 b n) (fun n x y h k=>by
  rw[←h,←k,P0])
 obtain⟨s,k1,k2,k3,k4⟩:=PZ (N:=N) (Al1 (Jh ha) (Jh hb)) (by simp;omega) (by simp;omega);have e:r=s:=OM h2.1 k2 fun n=>(h2.2.2 n).trans ((k4 n).trans KF).symm
 grind[BI]
def AG1 {N:Nat}{a:List A3}(ha:ck a=0)(hl:a.length≤100)(hN:100000<N):
 ∃r,S5 N a=some (r,0)∧Bp N a=some r∧Cn (fun n=> -1099511627776≤n∧n≤1099511627776∧¬W5 a n) r∧r.length≤a.length+1:=by
 have hs:=Jh ha;have h0:∀y∈a,(-1099511627776:Int)≤y.Low:=fun y hy=>(hs.2.1 y hy).1;have hg:=Td a (-1099511627776);refine⟨Fe (-1099511627776) a,?_,Xx hs.ord (by omega) (by omega),⟨(Yv hs.ord h0 (by omega)).1,by omega,fun n=>Ak2 hs.ord h0⟩,hg⟩;rw[Ug ha (by omega),A1 (by omega)]
def Ti {α:Type}(l:List α):fb (fun _ (_:α)=>(0:Int)) 0 l=0:=KJ.2 fun _ _ _=>rfl
def Aa9 {N:Nat}{R:List (List A3)}(h:∀x∈R,x.length≤256)(hn:R.length≤100000)(hN:R.length<N):FQ N ⟨R⟩=some (⟨R⟩,0):=by
 unfold FQ;rw[DA (l:=R) (f:=fun _ _=>0) (e:=.inl ()) (b:=fun _=>.inr ()) (N:=N) ?_ ?_ hN]
 ·simp_all[Ti]
 ·intro i x hx hi;have:=h x (M7 hx);simp only[C5,N6,B2,G4,hx,A4,C8];rw[A2 (by omega),A1 (by omega),P2 hi (by omega)];rfl
 grind[C5,B2]
def Sm (k:Nat)(p:D4):Prop:=∀x∈p.cX,x.length≤k
def Bi (P:(Int→Prop)→(Int→Prop)→Int→Prop)(k:Nat)(p q r:D4):Prop:=
 r.cX.length=p.cX.length∧∀(i:Nat) a b c,p.cX[i]? =some a→q.cX[i]? =some b→r.cX[i]? =some c→Cn (P (W5 a) (W5 b)) c∧c.length≤k
def Un (k:Nat)(p r:D4):Prop:=
 r.cX.length=p.cX.length∧∀(i:Nat) a c,p.cX[i]? =some a→r.cX[i]? =some c→Cn (fun n=> -1099511627776≤n∧n≤1099511627776∧¬W5 a n) c∧c.length≤k
def Ab4 {N:Nat}{a:List A3}(hl:a.length≤100000)(hN:a.length<N):Kr N a a=some true:=by
 unfold Kr;rw[A1 (by simp[G2]),DA (l:=a) (f:=fun _ _=>0) (e:=.inl ()) (b:=fun _=>.inr ()) (N:=N) ?_ ?_ hN]
 ·simp_all[Ti]
 ·intro i x hx hi;simp only[C5,D9,P5,N7,B2,G4,hx,A4,K3,Bool.and_self,R3,D6,C7,C8];rw[A2 (by omega),P2 hi (by omega)];rfl
 grind[C5,B2]
def ZJ {N:Nat}{p:D4}(hs:Sm 256 p)(hl:p.cX.length≤100000)(hN:100000<N):Kn N p p=some true:=by
 unfold Kn;rw[A1 (by simp[G2]),DA (l:=p.cX) (f:=fun _ _=>0) (e:=.inl ()) (b:=fun _=>.inr ()) (N:=N) ?_ ?_ (by omega)]
 ·simp_all[Ti]
 ·intro i x hx hi;have:=hs x (M7 hx);simp only[C5,N7,B2,G4,hx,A4,C8,Ab4 (N:=N) (a:=x) (by omega) (by omega),R3,D6,C7];rw[A2 (by omega),P2 hi (by omega)];rfl
 grind[C5,B2]
end Go.Ab
namespace Go.Ab
set_option maxRecDepth 100000
def AI7 {x:A3}(h: -1099511627776≤x.Low∧x.Low≤x.cV∧x.cV≤1099511627776):fm x=0:=by
 grind[fm]
theorem Af6 {l:List A3} (h:TO l):ck l=0:=by
 unfold ck;rw[A1 (by have:=h.1;omega)];refine KJ.2 fun k x hx=>?_;unfold fiq;have hxb:=h.2.1 x (M7 hx);rw[A2 (AI7 hxb)]
 split
 ·rename_i hk
  split
  ·rename_i y hy;have:=h.2.2 (k-1) y x (by grind) (by rw[←hx];grind);have hyb:=h.2.1 y (M7 hy);rw[J1 (by omega) (by omega),A1 (by omega)]
  rfl
 rfl
def WJ {p:D4}(h0:1≤p.cX.length∧p.cX.length≤16)(h:∀x∈p.cX,TO x):AL5 p=0:=by
 unfold AL5 pck;rw[A1 (by omega),A1 (by simp)]
 grind[KJ,Af6]
def Cn.srt {P:Int→Prop}{l:List A3}(h:Cn P l):TO l:=h.1.srt h.2.1
theorem Bi.own {P:(Int→Prop)→(Int→Prop)→Int→Prop} {k:Nat} {p q r:D4} (h:Bi P k p q r) (hl:p.cX.length=q.cX.length) (h0:1≤p.cX.length∧p.cX.length≤16):AL5 r=0∧Sm k r:=by
 have at_:∀x∈r.cX,TO x∧x.length≤k:=fun x hx=>by
  obtain⟨i,hi⟩:=Bn hx;have hil:=(List.getElem?_eq_some_iff.1 hi).1;have hr:=h.1;have:=h.2 i _ _ x (E3 (show i<p.cX.length by omega)) (E3 (show i<q.cX.length by omega)) hi;exact⟨this.1.srt,this.2⟩
 exact⟨WJ (by rw[h.1];exact h0) fun x hx=>(at_ x hx).1,fun x hx=>(at_ x hx).2⟩
theorem Un.own {k:Nat} {p r:D4} (h:Un k p r) (h0:1≤p.cX.length∧p.cX.length≤16):AL5 r=0∧Sm k r:=by
 have at_:∀x∈r.cX,TO x∧x.length≤k:=fun x hx=>by
  obtain⟨i,hi⟩:=Bn hx;have hil:=(List.getElem?_eq_some_iff.1 hi).1;have hr:=h.1;have:=h.2 i _ x (E3 (show i<p.cX.length by omega)) hi;exact⟨this.1.srt,this.2⟩
 exact⟨WJ (by rw[h.1];exact h0) fun x hx=>(at_ x hx).1,fun x hx=>(at_ x hx).2⟩
end Go.Ab
open Go.Ab.Ar (an ar cmp lst lst_eq mn mx neg nt)
namespace Go.Ab
open Classical
structure Gd (types k:Nat) (l:List D4):Prop where
 len:∀p∈l,p.cX.length=types
 srt:∀p∈l,∀x∈p.cX,TO x
 sm:∀p∈l,Sm k p
theorem Gd.at {types k:Nat} {l:List D4} (h:Gd types k l) {p:D4} (hp:p∈l) {i:Nat} (hi:i<types):p.cX[i]? =some (p.cX.getD i [])∧TO (p.cX.getD i [])∧(p.cX.getD i []).length≤k:=by
 have hl:=h.len p hp
 have e:p.cX[i]? =some (p.cX.getD i []):=by
  rw[Cd,E3 (by omega)];rfl
 exact⟨e,h.srt p hp _ (M7 e),h.sm p hp _ (M7 e)⟩
noncomputable def sg (l:List D4)(i:Nat)(n:Int):List Int:=l.map fun p=>if W5 (p.cX.getD i []) n then 1 else 0
def Dn (i:Nat)(b:Int)(j:Nat)(n:Int):Prop:=(-1099511627776≤n∧n≤1099511627776)∧(j<i∨(j=i∧n<b))
def Lx (j:Nat)(n:Int)(j':Nat)(n':Int):Prop:=j<j'∨(j=j'∧n<n')
def Asc (a:List A3):Prop:=(∀x∈a,Oo x)∧a.Pairwise fun x y=>x.cV<y.Low
structure Zo (types:Nat) (l:List D4) (B i k:Nat) (b:Int) (out:List D4) (W:List (List Int)):Prop where
 len:out.length=W.length
 nodup:W.Nodup
 bits:∀w∈W,∃j n,w=sg l j n
 sets:∀p∈out,p.cX.length=types
 cls:∀(c:Nat) p w (j:Nat) a,out[c]? =some p→W[c]? =some w→p.cX[j]? =some a→Asc a∧∀n,W5 a n↔Dn i b j n∧sg l j n=w
 cnt:∀(c:Nat) p (j:Nat) a,out[c]? =some p→p.cX[j]? =some a→(j≠i→a.length≤B)∧(j=i→a.length≤k)
structure Cls (types:Nat) (l:List D4) (B i k:Nat) (b:Int) (out:List D4) (W:List (List Int)):Prop extends Zo types l B i k b out W where
 occ:∀w∈W,∃j n,j<types∧Dn i b j n∧sg l j n=w
 cov:∀j n,j<types→Dn i b j n→sg l j n∈W
 ord:∀(c c':Nat) w w',c<c'→W[c]? =some w→W[c']? =some w'→∃j n,j<types∧Dn i b j n∧sg l j n=w∧∀j' n',j'<types→Dn i b j' n'→sg l j' n'=w'→Lx j n j' n'
def Asc.nil:Asc []:=⟨fun x h=>(by cases h),.nil⟩
def Asc.empty {a:List A3}(h:Asc a)(hn:∀n,¬W5 a n):a=[]:=by
 cases a with
 |nil=>rfl
 |cons x a=>exact absurd (R9.2 (.inl ⟨S0 _,(h.1 x (by simp)).2.1⟩)) (hn x.Low)
def Asc.snoc {a:List A3}{x:A3}(h:Asc a)(hx:Oo x)(hl:∀n,W5 a n→n<x.Low):Asc (a++[x]):=⟨fun y hy=>(List.mem_append.1 hy).elim (h.1 y) fun hy=>by rw[List.mem_singleton.1 hy];exact hx,List.pairwise_append.2 ⟨h.2,by simp,fun y hy z hz=>by rw[List.mem_singleton.1 hz];exact hl _ ⟨y,hy,(h.1 y hy).2.1,Int.le_refl _⟩⟩⟩
section
variable {types B i k:Nat}{l:List D4}{a b:Int}{out:List D4}{W:List (List Int)}
def Dn.mono {j:Nat}{n:Int}(h:Dn i a j n)(hab:a≤b):Dn i b j n:=by grind[Dn]
theorem Dn.new {j:Nat}{n:Int}(h:Dn i b j n):Dn i a j n∨(j=i∧a≤n∧n<b):=by grind[Dn]
def Dn.lx {j j':Nat}{n n':Int}(h:Dn i a j n)(hj:j'=i)(hn:a≤n'):Lx j n j' n':=by grind[Lx,Dn]
def Zo.fresh (h:Zo types l B i k a out W) (hw:sg l i a∉W) (hcov:∀j n,j<types→Dn i a j n→sg l j n∈W):Zo types l B i k a (out++[⟨List.replicate types []⟩]) (W++[sg l i a]):=by
 have at_:∀(c:Nat) p,(out++[(⟨List.replicate types []⟩:D4)])[c]? =some p→(out[c]? =some p∧c<out.length)∨(c=out.length∧p=⟨List.replicate types []⟩):=fun c p hp=>by
  grind
 have PC:∀(j:Nat) s,(List.replicate types ([]:List A3))[j]? =some s→s=[]∧j<types:=fun j s hs=>by
  grind
 refine⟨by simp[h.len],?_,fun w hx=>?_,fun p hp=>?_,fun c p w j s hp hwc hs=>?_,fun c p j s hp hs=>?_⟩
 ·exact List.nodup_append.2 ⟨h.nodup,by simp,fun x hx y hy e=>by simp_all⟩
 ·rcases List.mem_append.1 hx with hx|hx
  ·exact h.bits w hx
  grind
 ·rcases List.mem_append.1 hp with hp|hp
  ·exact h.sets p hp
  simp_all
 ·rcases at_ c p hp with⟨hp,hc⟩|⟨rfl,rfl⟩
  ·rw[Ka (by rw[←h.len];exact hc)]at hwc
   exact h.cls c p w j s hp hwc hs
  rw[h.len,Kd (D5 _)]at hwc
  simp at hwc
  subst hwc;obtain⟨rfl,hj⟩:=PC j s hs;exact⟨.nil,fun n=>⟨fun h=>absurd h Hj,fun⟨h1,h2⟩=>absurd (h2▸hcov j n hj h1) hw⟩⟩
 rcases at_ c p hp with⟨hp,hc⟩|⟨rfl,rfl⟩
 ·exact h.cnt c p j s hp hs
 grind
theorem Zo.put (h:Zo types l B i k a out W) (hb:∀n,a≤n→n<b→sg l i n=sg l i a) (ha: -1099511627776≤a) (hab:a<b) (hbb:b≤1099511627777) (hkB:True)
 {c:Nat} {p:D4} {s:List A3} (hc:out[c]? =some p) (hw:W[c]? =some (sg l i a)) (hs:p.cX[i]? =some s):
 Zo types l B i (k+1) b (out.set c ⟨p.cX.set i (s++[⟨a,b-1⟩])⟩) W:=by
 have hcl:c<out.length:=(List.getElem?_eq_some_iff.1 hc).1;have hil:i<p.cX.length:=(List.getElem?_eq_some_iff.1 hs).1
 have at_:∀(c':Nat) q,(out.set c ⟨p.cX.set i (s++[⟨a,b-1⟩])⟩)[c']? =some q→(c'≠c∧out[c']? =some q)∨(c'=c∧q=⟨p.cX.set i (s++[⟨a,b-1⟩])⟩):=fun c' q hq=>by
  rw[W9]at hq
  grind
 have at2:∀(j:Nat) u,(p.cX.set i (s++[⟨a,b-1⟩]))[j]? =some u→(j≠i∧p.cX[j]? =some u)∨(j=i∧u=s++[⟨a,b-1⟩]):=fun j u hu=>by
  rw[W9]at hu
  split at hu
  ·simp_all
  grind
 have keep:∀(j:Nat) (w:List Int),(w≠sg l i a∨j≠i)→∀n,(Dn i a j n∧sg l j n=w)↔(Dn i b j n∧sg l j n=w):=fun j w hne n=>by
  constructor
  ·grind[Dn]
  grind[Dn]
 refine⟨by rw[Iq];exact h.len,h.nodup,h.bits,fun q hq=>?_,fun c' q w j u hq hwc hu=>?_,fun c' q j u hq hu=>?_⟩
 ·obtain⟨c',hq⟩:=Bn hq
  rcases at_ c' q hq with⟨_,hq⟩|⟨_,rfl⟩
  ·exact h.sets q (M7 hq)
  simp only[Iq];exact h.sets p (M7 hc)
 ·rcases at_ c' q hq with⟨hne,hq⟩|⟨rfl,rfl⟩
  ·obtain⟨h1,h2⟩:=h.cls c' q w j u hq hwc hu
   have hww:w≠sg l i a:=fun e=>by
    subst e;obtain⟨e1,e2⟩:=List.getElem?_eq_some_iff.1 hwc;obtain⟨e3,e4⟩:=List.getElem?_eq_some_iff.1 hw;exact hne ((List.getElem_inj h.nodup).1 (e2.trans e4.symm))
   exact⟨h1,fun n=>(h2 n).trans (keep j w (.inl hww) n)⟩
  rw[hw]at hwc;cases hwc
  rcases at2 j u hu with⟨hne,hu⟩|⟨rfl,rfl⟩
  ·obtain⟨h1,h2⟩:=h.cls c' p _ j u hc hw hu
   simp_all
  obtain⟨h1,h2⟩:=h.cls c' p _ j s hc hw hs;refine⟨h1.snoc ⟨ha,by grind,by grind⟩ fun n hn=>?_,fun n=>?_⟩
  ·have:=((h2 n).1 hn).1
   simp_all[Dn]
  rw[KF,h2,R9];simp only[Hj,or_false]
  constructor
  ·rintro(⟨h3,h4⟩|⟨h3,h4⟩)
   ·exact⟨h3.mono (by omega),h4⟩
   exact⟨by unfold Dn;omega,hb n h3 (by omega)⟩
  rintro⟨h3,h4⟩
  rcases h3.new (a:=a)with h5|⟨_,h5,h6⟩
  ·simp_all
  omega
 rcases at_ c' q hq with⟨hne,hq⟩|⟨rfl,rfl⟩
 ·obtain⟨h1,h2⟩:=h.cnt c' q j u hq hu;omega
 rcases at2 j u hu with⟨hne,hu⟩|⟨rfl,rfl⟩
 ·obtain⟨h1,h2⟩:=h.cnt c' p j u hc hu;omega
 obtain⟨h1,h2⟩:=h.cnt c' p j s hc hs
 simp_all
def Cls.step (h:Cls types l B i k a out W) (hi:i<types) (hb:∀n,a≤n→n<b→sg l i n=sg l i a) (ha: -1099511627776≤a) (hab:a<b) (hbb:b≤1099511627777) {out':List D4} {W':List (List Int)}
 (h0:Zo types l B i (k+1) b out' W') (hW:(W'=W∧sg l i a∈W)∨(W'=W++[sg l i a]∧sg l i a∉W)):Cls types l B i (k+1) b out' W':=by
 have hda:Dn i b i a:=by grind[Dn]
 refine⟨h0,fun w hw=>?_,fun j n hj hn=>?_,fun c c' w w' hcc hw hw'=>?_⟩
 ·rcases hW with⟨rfl,_⟩|⟨rfl,_⟩
  ·obtain⟨j,n,h1,h2,h3⟩:=h.occ w hw
   grind[Dn]
  rcases List.mem_append.1 hw with hw|hw
  ·obtain⟨j,n,h1,h2,h3⟩:=h.occ w hw
   grind[Dn]
  grind
 ·rcases hn.new (a:=a)with h1|⟨rfl,h1,h2⟩
  ·have:=h.cov j n hj h1
   grind
  grind
 have old:W[c]? =some w→W[c']? =some w'→∃j n,j<types∧Dn i b j n∧sg l j n=w∧∀j' n',j'<types→Dn i b j' n'→sg l j' n'=w'→Lx j n j' n':=fun hw hw'=>by
  obtain⟨j,n,h1,h2,h3,h4⟩:=h.ord c c' w w' hcc hw hw'
  grind[Dn,Lx]
 rcases hW with⟨rfl,_⟩|⟨rfl,hnew⟩
 ·simp_all
 have hcl':=(List.getElem?_eq_some_iff.1 hw').1
 simp only[Ac,IB]at hcl'
 have hcl:c<W.length:=by omega
 rw[Ka hcl]at hw
 rcases Q6 c' W.length with hlt|hge
 ·rw[Ka hlt]at hw'
  simp_all
 rw[Kd hge,show c'-W.length=0 by omega]at hw'
 simp at hw'
 subst hw';obtain⟨j,n,h1,h2,h3⟩:=h.occ w (M7 hw);refine⟨j,n,h1,h2.mono (by omega),h3,fun j' n' g1 g2 g3=>?_⟩
 rcases g2.new (a:=a)with g4|⟨rfl,g4,_⟩
 ·exact absurd (g3▸h.cov j' n' g1 g4) hnew
 exact h2.lx rfl g4
def Cls.next (h:Cls types l B i k 1099511627777 out W) (hk:k≤B):Cls types l B (i+1) 0 (-1099511627776) out W:=by
 have e:∀j n,Dn i 1099511627777 j n↔Dn (i+1) (-1099511627776) j n:=fun j n=>by grind[Dn]
 refine⟨⟨h.len,h.nodup,h.bits,h.sets,fun c p w j s hp hw hs=>?_,fun c p j s hp hs=>?_⟩,fun w hw=>?_,fun j n hj hn=>h.cov j n hj ((e j n).2 hn),fun c c' w w' hcc hw hw'=>?_⟩
 ·obtain⟨h1,h2⟩:=h.cls c p w j s hp hw hs
  simp_all
 ·obtain⟨h1,h2⟩:=h.cnt c p j s hp hs;refine⟨fun _=>?_,fun hj=>?_⟩
  ·omega
  have hcl:c<W.length:=by rw[←h.len];grind
  obtain⟨h3,h4⟩:=h.cls c p _ j s hp (E3 hcl) hs
  have:s=[]:=h3.empty fun n hn=>by
   have:=((h4 n).1 hn).1
   grind[Dn]
  rw[this];simp_all
 ·obtain⟨j,n,h1,h2,h3⟩:=h.occ w hw
  grind
 obtain⟨j,n,h1,h2,h3,h4⟩:=h.ord c c' w w' hcc hw hw'
 grind
def Cls.start:Cls types l B 0 0 (-1099511627776) [] []:=by
 have e:∀j n,¬Dn 0 (-1099511627776) j n:=fun j n=>by grind[Dn]
 exact⟨⟨rfl,.nil,fun w h=>(by cases h),fun p h=>(by cases h),fun c p w j s h=>(by simp at h),fun c p j s h=>(by simp at h)⟩,fun w h=>(by cases h),fun j n _ h=>absurd h (e j n),fun c c' w w' _ h=>by simp at h⟩
end
def bits:Nat→List (List Int)
 |0=>[[]]
 |n+1=>(bits n).map (0:: ·)++(bits n).map (1:: ·)
def UI {α:Type}:∀{l m:List α},l.Nodup→(∀x∈l,x∈m)→l.length≤m.length
 |[],m,_,_=>BW _
 |x::l,m,hn,h=>by
  classical
  have hx:=h x (by simp);obtain⟨h1,h2⟩:=List.nodup_cons.1 hn;have:=UI (l:=l) (m:=m.erase x) h2 fun y hy=>(List.mem_erase_of_ne (fun e=>by simp_all)).2 (h y (by simp[hy]))
  rw[List.length_erase_of_mem hx]at this
  have:0<m.length:=List.length_pos_of_mem hx
  grind
structure Mint (types B:Nat) (l:List D4) (out:List D4) (W:List (List Int)):Prop where
 len:out.length=W.length
 nodup:W.Nodup
 bits:∀w∈W,∃j n,w=sg l j n
 sets:∀p∈out,p.cX.length=types
 cls:∀(c:Nat) p w (j:Nat) a,out[c]? =some p→W[c]? =some w→p.cX[j]? =some a→Dd a∧a.length≤B∧∀n,W5 a n↔(-1099511627776≤n∧n≤1099511627776)∧sg l j n=w
 occ:∀w∈W,∃j n,j<types∧(-1099511627776≤n∧n≤1099511627776)∧sg l j n=w
 cov:∀j n,j<types→(-1099511627776≤n∧n≤1099511627776)→sg l j n∈W
 ord:∀(c c':Nat) w w',c<c'→W[c]? =some w→W[c']? =some w'→∃j n,j<types∧(-1099511627776≤n∧n≤1099511627776)∧sg l j n=w∧∀j' n',j'<types→(-1099511627776≤n'∧n'≤1099511627776)→sg l j' n'=w'→Lx j n j' n'
def YE:∀{a:List A3},Dd a→(HZ a).Pairwise (· < ·)
 |[],_=>by simp[HZ]
 | x::a,h=>by
  have ih:=YE h.2.2;have hx:=h.1;have e:HZ (x::a)=x.Low::(x.cV+1)::HZ a:=rfl
  have hi:∀m∈HZ a,x.cV+2≤m:=fun m hm=>by
   grind[Dd,HZ]
  rw[e]
  grind[HZ]
def Ac3 {a:List A3} (h:Dd a) {m:Int} (hm:m∈HZ a):¬(W5 a m↔W5 a (m-1)):=by
 obtain⟨x,hx,h'⟩:=JQ.1 hm;have hxb:=h.srt' x hx
 have apart:∀y∈a,y=x∨y.cV+2≤x.Low∨x.cV+2≤y.Low:=fun y hy=>by
  clear h' hm hxb
  induction a with
  |nil=>cases hx
  |cons z a ih=>
   grind[Dd]
 grind[W5]
def Wg {a:List A3} {P:Int→Prop} {E:List Int} (h:Dd a) (hP:∀n,W5 a n↔P n) (hE:∀n,n∉E→(P n↔P (n-1))):2*a.length≤E.length:=by
 have hn:(HZ a).Nodup:=(YE h).imp fun h=>by omega
 have:=UI (l:=HZ a) (m:=E) hn fun m hm=>by
  refine Classical.byContradiction fun hc=>Ac3 h hm ?_;rw[hP,hP];grind
 rwa[Tl]at this
end Go.Ab
namespace Go.Ab
open Classical
set_option maxRecDepth 100000
def Ky {a:Int}(h: -1000000000000000000≤a∧a≤1000000000000000000):neg .i64 a= -a:=(Ey (n:=0-a) (by omega) (by omega)).trans (by omega)
def Vz {a b:Int}(h: -1000000000000000000≤a-b∧a-b≤1000000000000000000):ar .sub .i64 a b=a-b:=Ey (n:=a-b) (by omega) (by omega)
def AM5 {v:I9}(h:Ak v=0): -1099511627776≤v.Num∧v.Num≤1099511627776:=by
 grind[Ak]
def AU2 {x:B1}(h:x.cT.length=2):∃a b,x.cT=[a,b]∧B8 x.cT 0=some a∧B8 x.cT 1=some b∧a∈x.cT∧b∈x.cT∧x.pre.length=1+a.pre.length+b.pre.length:=by
 rcases hx:x.cT with _|⟨a,_|⟨b,_|⟨c,l⟩⟩⟩
 ·rw[hx]at h;cases h
 ·rw[hx]at h;cases h
 ·refine⟨a,b,rfl,rfl,rfl,by simp,by simp,?_⟩;rw[B1.pre_eq,hx];grind[B1.pres]
 simp_all
def Bg0 {x:B1}(h:x.cT.length=1):∃a,x.cT=[a]∧B8 x.cT 0=some a∧a∈x.cT∧x.pre.length=1+a.pre.length:=by
 rcases hx:x.cT with _|⟨a,_|⟨b,l⟩⟩
 ·rw[hx]at h;cases h
 ·refine⟨a,rfl,rfl,by simp,?_⟩;rw[B1.pre_eq,hx];grind[B1.pres]
 simp_all
def Ks {x a:B1}(h:a∈x.cT){P:B1→Prop}(hP:∀y∈x.pre,P y):∀y∈a.pre,P y:=fun y hy=>hP y (by rw[B1.pre_eq];grind[OC])
def UN {N:Nat} {field own:Int}:∀(n:Nat) (x:B1),x.bulk≤n→(∀y∈x.pre,Bw y=0)→x.pre.length≤64→
 ∃t p ok,Q4 N n x field own=some (⟨t,p⟩,ok)∧AT N n x own field=some (t,p,ok)∧(-(x.pre.length:Int)≤t∧t≤x.pre.length)∧ -(1099511627776*(x.pre.length:Int))≤p∧p≤1099511627776*(x.pre.length:Int):=by
 intro n
 induction n with
 |zero=>grind[Cl]
 | succ n ih=>
  intro x hx hbad hl;have nx:=VW (hbad x (by rw[B1.pre_eq];simp));have ho:=nx.op
  have h1:1≤x.pre.length:=by rw[B1.pre_eq];simp
  unfold Q4 AT
  by_cases h0:x.Op=0
  ·simp only[show cmp .eql x.Op 0=true from by simp[D9,h0],B4];have:=AM5 (nx.val (.inr h0))
   grind
  simp only[show cmp .eql x.Op 0=false from by simp[D9,h0],D6,C7]
  by_cases h1':x.Op=1
  ·simp only[show cmp .eql x.Op 1=true from by grind[D9],B4]
   grind
  simp only[show cmp .eql x.Op 1=false from by grind[D9],D6,C7]
  have d2:(if cmp .eql x.Op 5=true then some true else some (cmp .eql x.Op 6):Option Bool)=some (decide (x.Op=5∨x.Op=6)):=by
   by_cases a:x.Op=5<;>by_cases b:x.Op=6<;>simp[D9,a,b]
  rw[d2];simp only[A4,C8]
  by_cases h5:x.Op=5∨x.Op=6
  ·have e5:an (cmp .neq x.Op 5) (cmp .neq x.Op 6)=false:=by rcases h5 with h|h<;>simp[P5,G2,h]
   simp only[A2 h5,e5,D6,C7];have har:=nx.ar
   rw[A1 (by omega),A1 (by omega)]at har
   obtain⟨a,b,hab,i0,i1,ma,mb,hpre⟩:=AU2 (x:=x) (by omega);obtain⟨t,p,ok,k1,k2,k3,k4,k5⟩:=ih a (by have:=S4 ma;omega) (Ks ma hbad) (by omega);obtain⟨t',p',ok',j1,j2,j3,j4,j5⟩:=ih b (by have:=S4 mb;omega) (Ks mb hbad) (by omega);rw[i0,i1];simp only[A4,k1,k2,j1,j2]
   by_cases h6:x.Op=6
   ·simp only[show cmp .eql x.Op 6=true from by simp[D9,h6],B4,A4];rw[Ky (a:=t') (by omega),Ky (a:=p') (by omega),J1 (by omega) (by omega),J1 (by omega) (by omega)]
    grind
   simp only[show cmp .eql x.Op 6=false from by simp[D9,h6],D6,C7,A4];rw[J1 (by omega) (by omega),J1 (by omega) (by omega)]
   grind
  have e5:an (cmp .neq x.Op 5) (cmp .neq x.Op 6)=true:=by simp_all[P5,G2]
  simp only[A1 h5,e5,B4]
  grind
def Au3 (l:List A3):Prop:=l=[]∨∃x:A3,Oo x∧l=[x]
noncomputable def dnI (a b:Int):Int:=if ar .rem .i64 a b<0 then ar .sub .i64 (ar .quo .i64 a b) 1 else ar .quo .i64 a b
noncomputable def btw (lo hi:Int):List A3:=if mn hi 1099511627776<mx lo (-1099511627776)then[]else[⟨mx lo (-1099511627776),mn hi 1099511627776⟩]
def Ak9 (lo hi:Int):Au3 (btw lo hi):=by
 unfold btw
 by_cases h:mn hi 1099511627776<mx lo (-1099511627776)
 ·rw[A2 h];exact .inl rfl
 rw[A1 h];refine .inr ⟨_,?_,rfl⟩
 rw[Aa5,Jr]at h
 grind[Oo,Aa5,Jr]
noncomputable def QQ (t b:Int):List A3:=
 if 0<t then btw (-1099511627776) (dnI b t)else if t<0 then btw (neg .i64 (dnI b (neg .i64 t))) 1099511627776 else if 0≤b then[⟨-1099511627776,1099511627776⟩]else[]
def OT (t b:Int):Au3 (QQ t b):=by
 unfold QQ
 split
 ·exact Ak9 _ _
 split
 ·exact Ak9 _ _
 split
 ·exact .inr ⟨_,⟨by decide,by decide,by decide⟩,rfl⟩
 simp[Au3]
def RC {N:Nat}{a b:Int}(h:b≠0):CX N a b=some (dnI a b)∧Gx N a b=some (dnI a b):=by
 unfold CX Gx dnI
 have:Du (cmp .neq b 0)=some ():=by simp_all[Du,G2]
 rw[this];simp only[A4,C5,C8]
 grind
theorem KP {N:Nat}{a b:Int}:AY N a b=some (btw a b)∧HF N a b=some (btw a b):=by
 unfold AY HF btw;simp only[N6,C8]
 grind
def Sk {N:Nat}(hN:10<N):Bp N []=some [⟨-1099511627776,1099511627776⟩]:=by
 rw[Xx (l:=[]) trivial (by simp) (by simp;omega)];rfl
def Ry {N:Nat} {t p:Int} (ht: -1000000≤t∧t≤1000000) (hp: -1000000000000000≤p∧p≤1000000000000000):AF N ⟨t,p⟩=some (QQ t (-p)):=by
 unfold AF QQ;simp only[N6,C5,Jg,C8];rw[Ky (a:=p) (by omega)]
 by_cases h1:0<t
 ·rw[A2 h1,A2 h1,(RC (N:=N) (show t≠0 by omega)).1]
  grind[KP]
 rw[A1 h1,A1 h1]
 by_cases h2:t<0
 ·rw[A2 h2,A2 h2,(RC (N:=N) (show neg .i64 t≠0 by rw[Ky (by omega)];omega)).1]
  grind[KP]
 rw[A1 h2,A1 h2]
 grind[Cm]
def OH {N:Nat} {t b:Int} (ht: -1000000≤t∧t≤1000000) (hN:10<N):DT N t b=some (QQ t b):=by
 unfold DT QQ;simp only[N6,C5,U8,C8]
 by_cases h1:0<t
 ·rw[A2 h1,A2 h1,(RC (N:=N) (show t≠0 by omega)).2]
  simp_all[KP]
 rw[A1 h1,A1 h1]
 by_cases h2:t<0
 ·rw[A2 h2,A2 h2,(RC (N:=N) (show neg .i64 t≠0 by rw[Ky (by omega)];omega)).2]
  simp_all[KP]
 rw[A1 h2,A1 h2]
 by_cases h3:0≤b
 ·rw[A2 h3,A2 h3,Sk hN];rfl
 grind
def GQ (L:List Int)(a:List A3):Prop:=∀m,m≠ -1099511627776→m≠1099511627777→m∉L→(W5 a m↔W5 a (m-1))
def GQ.len {L:List Int} {a:List A3} (h:GQ L a) (ho:Dd a):2*a.length≤L.length+2:=by
 have:=Wg (E:= -1099511627776::1099511627777::L) ho (fun n=>Iff.rfl) fun n hn=>by
  simp_all[GQ]
 omega
def GQ.comb {La Lb:List Int}{a b c:List A3}(ha:GQ La a)(hb:GQ Lb b)(f:Prop→Prop→Prop→Prop)(hc:∀m,W5 c m↔f (W5 a m) (W5 b m) (-1099511627776≤m∧m≤1099511627776)):GQ (La++Lb) c:=fun m h1 h2 h3=>by
 simp only[List.mem_append,not_or]at h3
 rw[hc,hc,propext (ha m h1 h2 h3.1),propext (hb m h1 h2 h3.2),propext (show(-1099511627776≤m∧m≤1099511627776)↔(-1099511627776≤m-1∧m-1≤1099511627776) by omega)]
def Kj:GQ [] []:=fun m _ _ _=>by simp[Hj]
def Au3.ord {a:List A3}(h:Au3 a):Dd a∧a.length≤1∧∃L,L.length≤2∧GQ L a:=by
 rcases h with rfl|⟨x,hx,rfl⟩
 ·exact⟨trivial,by simp,[],by simp,Kj⟩
 refine⟨⟨hx,(fun _ h=>by cases h),trivial⟩,by simp,[x.Low,x.cV+1],by simp,fun m _ _ h=>?_⟩
 grind[W5]
def Ur:Au3 [⟨-1099511627776,1099511627776⟩]:=.inr ⟨_,⟨by decide,by decide,by decide⟩,rfl⟩
def Uv:GQ [] [⟨-1099511627776,1099511627776⟩]:=fun m h1 h2 _=>by
 rw[R9,R9];grind[W5]
def Ib {a:List A3}(h:Dd a)(hl:a.length≤256):ck a=0:=Af6 (h.srt hl)
def AC2 {N:Nat} {a b:List A3} (ha:ck a=0) (hb:ck b=0) (hl:a.length+b.length≤100) (hN:100000<N):
 ∃r,BJ N a b=some (r,0)∧Cn (fun n=>W5 a n∧¬W5 b n) r:=by
 obtain⟨r,h1,h2,h3⟩:=Mz (N:=N) (bel:=fun y1 y2=>Dp N y1 y2) (f:=fun x y=>x&& !y) (fun x y=>rfl) rfl ha hb hl (by omega) (P:=fun n=>W5 a n∧¬W5 b n) (fun n x y h k=>by
  rw[←h,←k,M6,P1,Bool.not_eq_true])
 grind[BJ]
section
variable {N:Nat}(hN:Bgn N){La Lb:List Int}{a b:List A3}(oa:Dd a)(ob:Dd b)(sa:GQ La a)(sb:GQ Lb b)(hl:La.length+Lb.length≤90)
include hN oa ob sa sb hl
theorem Aa2:∃r,X5 N a b=some (r,0)∧Cg N a b=some r∧Dd r∧GQ (La++Lb) r:=by
 have l1:=sa.len oa;have l2:=sb.len ob;obtain⟨r,h1,h2,h3,_⟩:=Pa (N:=N) (Ib oa (by omega)) (Ib ob (by omega)) (by omega) (by omega);exact⟨r,h1,h2,h3.1,sa.comb sb (fun A B _=>A∧B) h3.2.2⟩
theorem AT4:∃r,BI N a b=some (r,0)∧Am N (a++b)=some r∧Dd r∧GQ (La++Lb) r∧∀n,W5 r n↔W5 a n∨W5 b n:=by
 have l1:=sa.len oa;have l2:=sb.len ob;obtain⟨r,h1,h2,h3,_⟩:=WV (N:=N) (Ib oa (by omega)) (Ib ob (by omega)) (by omega) (by omega);exact⟨r,h1,h2,h3.1,sa.comb sb (fun A B _=>A∨B) h3.2.2,h3.2.2⟩
theorem XR:∃r,BJ N a b=some (r,0)∧Dd r∧GQ (La++Lb) r∧∀n,W5 r n↔W5 a n∧¬W5 b n:=by
 have l1:=sa.len oa;have l2:=sb.len ob;obtain⟨r,h1,h2⟩:=AC2 (N:=N) (Ib oa (by omega)) (Ib ob (by omega)) (by omega) (by omega);exact⟨r,h1,h2.1,sa.comb sb (fun A B _=>A∧¬B) h2.2.2,h2.2.2⟩
end
def Aa1 {N:Nat}(hN:Bgn N){La:List Int}{a:List A3}(oa:Dd a)(sa:GQ La a)(hl:La.length≤180):∃r,S5 N a=some (r,0)∧Bp N a=some r∧Dd r∧GQ La r∧∀n,W5 r n↔ -1099511627776≤n∧n≤1099511627776∧¬W5 a n:=by
 have l1:=sa.len oa;obtain⟨r,h1,h2,h3,_⟩:=AG1 (N:=N) (Ib oa (by omega)) (by omega) (by omega)
 have:=sa.comb Kj (fun A _ R=>R∧¬A) (c:=r) fun m=>by rw[h3.2.2 m,and_assoc]
 rw[L4]at this
 exact⟨r,h1,h2,h3.1,this,h3.2.2⟩
def AM3 {N:Nat} (hN:Bgn N) {La Lb:List Int} {a b:List A3} (oa:Dd a) (ob:Dd b) (sa:GQ La a) (sb:GQ Lb b) (hl:La.length+Lb.length≤90):
 ∃r,EK N a b=some (r,0)∧Cr N 9 a b=some r∧Dd r∧GQ (La++Lb) r:=by
 have l1:=sa.len oa;have l2:=sb.len ob
 have lc:∀{c:List A3},Dd c→GQ (La++Lb) c→2*c.length≤92:=fun ho hs=>by
  have:=hs.len ho
  grind
 obtain⟨x,x1,x2,x3,x4⟩:=XR hN oa ob sa sb hl;obtain⟨y,y1,y2,y3',y4⟩:=XR hN ob oa sb sa (by omega);have y3:GQ (La++Lb) y:=sa.comb sb (fun A B _=>B∧¬A) y4;have lx:=lc x2 x3;have ly:=lc y2 y3;obtain⟨d,d1,_,d3,_⟩:=WV (N:=N) (Ib x2 (by omega)) (Ib y2 (by omega)) (by omega) (by omega)
 have d4:GQ (La++Lb) d:=sa.comb sb (fun A B _=>(A∧¬B)∨(B∧¬A)) fun m=>by rw[d3.2.2 m];simp_all
 have ld:=lc d3.1 d4;obtain⟨r,r1,_,r3,r4,r5⟩:=Aa1 hN d3.1 d4 (by simp;omega);obtain⟨u,_,u2,u3,u4,u5⟩:=AT4 hN oa ob sa sb hl;have lu:=lc u3 u4;obtain⟨l7,_,v2,v3,v4⟩:=Aa2 hN oa ob sa sb hl;have hv:=(Pa (N:=N) (Ib oa (by omega)) (Ib ob (by omega)) (by omega) (by omega));obtain⟨l7',_,v2',v3',_⟩:=hv
 have e7:l7'=l7:=by rw[v2]at v2';grind
 subst e7;have l7l:=lc v3 v4;obtain⟨q,_,q2,q3,q4,q5⟩:=Aa1 hN u3 u4 (by simp;omega);have lq:=lc q3 q4;obtain⟨z,z1,z2,_,z4⟩:=PZ (N:=N) (Al1 (v3.srt (by omega)) (q3.srt (by omega))) (by simp;omega) (by simp;omega)
 have ez:z=r:=OM z2 r3 fun n=>by
  rw[z4,KF,v3'.2.2,q5,u5,r5,d3.2.2]
  dsimp only
  rw[x4,y4]
  by_cases A:W5 a n<;>by_cases B:W5 b n<;>simp[A,B]
  obtain⟨w,w1,w2,w3⟩:=A;have:=oa.srt' w w1;omega
 subst ez;refine⟨z,?_,?_,r3,r4⟩
 ·unfold EK;simp only[x1,y1,d1,r1,A4];rfl
 unfold Cr;simp only[show cmp .eql (9:Int) 10=false from rfl,show cmp .eql (9:Int) 11=false from rfl,D6,C7,J0 (l:=([]:List A3)) (m:=a) (by simp;omega),L9,A4,J0 (l:=a) (m:=b) (by omega),u2,v2,q2,J0 (l:=l7') (m:=q) (by omega),z1]
def YW {N:Nat} {field own:Int} (hN:Bgn N) {x a b:B1} (i0:B8 x.cT 0=some a) (i1:B8 x.cT 1=some b) (ba:a.bulk≤16777216) (bb:b.bulk≤16777216)
 (pa:∀y∈a.pre,Bw y=0) (pb:∀y∈b.pre,Bw y=0) (hl:a.pre.length+b.pre.length≤64) (ho:x.Op=7∨x.Op=8∨x.Op=9):
 ∃(r:List A3) (ok:Bool) (L:List Int) (l1:I0) (o1:Bool) (l2:I0) (o2:Bool),CP N x own field=some (r,ok)∧Q4 N N a field own=some (l1,o1)∧Q4 N N b field own=some (l2,o2)∧
  an o1 o2=ok∧(ok=true→X3 N x.Op l1 l2=some (r,0))∧Dd r∧L.length≤4∧GQ L r:=by
 obtain⟨t,p,o1,k1,k2,k3,k4,k5⟩:=UN (N:=N) (field:=field) (own:=own) N a (by omega) pa (by omega);obtain⟨t',p',o2,j1,j2,j3,j4,j5⟩:=UN (N:=N) (field:=field) (own:=own) N b (by omega) pb (by omega);unfold CP;simp only[i0,i1,A4,k2,j2]
 by_cases hok:an o1 o2=true
 ·have h1:o1=true:=by cases o1<;>simp_all[P5]
  have h2:o2=true:=by cases o2<;>simp_all[P5]
  subst h1 h2;simp only[show Ar.or (nt true) (nt true)=false from rfl,D6,C7];have e1:ar .sub .i64 t t'=t-t':=Vz (by omega);have e2:ar .sub .i64 p p'=p-p':=Vz (by omega);have e3:neg .i64 (p-p')= -(p-p'):=Ky (by omega);have e4:neg .i64 (t-t')= -(t-t'):=Ky (by omega);rw[e1,e2,e3,e4]
  rcases ho with h|h|h
  ·simp only[h,show cmp .eql (7:Int) 7=true from rfl,B4];have e5:ar .sub .i64 (-(p-p')) 1= -(p-p'+1):=(Vz (by omega)).trans (by omega);have e6:ar .add .i64 (p-p') 1=p-p'+1:=J1 (by omega) (by omega);obtain⟨q1,q2,L,q3,q4⟩:=(OT (t-t') (-(p-p'+1))).ord;refine⟨QQ (t-t') (-(p-p'+1)),true,L,_,_,_,_,?_,k1,j1,rfl,fun _=>?_,q1,by omega,q4⟩
   ·rw[e5,OH (by omega) (by omega)];rfl
   unfold X3;simp only[show cmp .eql (7:Int) 7=true from rfl,B4,e1,e2,e6];rw[Ry (by omega) (by omega)];rfl
  ·simp only[h,show cmp .eql (8:Int) 7=false from rfl,show cmp .eql (8:Int) 8=true from rfl,D6,C7,B4];obtain⟨q1,q2,L,q3,q4⟩:=(OT (t-t') (-(p-p'))).ord;refine⟨QQ (t-t') (-(p-p')),true,L,_,_,_,_,?_,k1,j1,rfl,fun _=>?_,q1,by omega,q4⟩
   ·rw[OH (by omega) (by omega)];rfl
   unfold X3;simp only[show cmp .eql (8:Int) 7=false from rfl,show cmp .eql (8:Int) 8=true from rfl,D6,C7,B4,e1,e2];rw[Ry (by omega) (by omega)];rfl
  simp only[h,show cmp .eql (9:Int) 7=false from rfl,show cmp .eql (9:Int) 8=false from rfl,D6,C7];obtain⟨q1,q2,L,q3,q4⟩:=(OT (t-t') (-(p-p'))).ord;obtain⟨w1,w2,L',w3,w4⟩:=(OT (-(t-t')) (p-p')).ord;obtain⟨r,r1,r2,r3,r4⟩:=Aa2 hN q1 w1 q4 w4 (by omega);refine⟨r,true,L++L',_,_,_,_,?_,k1,j1,rfl,fun _=>?_,r3,by simp;omega,r4⟩
  ·rw[OH (by omega) (by omega),OH (by omega) (by omega)]
   simp_all
  unfold X3;simp only[show cmp .eql (9:Int) 7=false from rfl,show cmp .eql (9:Int) 8=false from rfl,D6,C7,e1,e2,e3,e4];rw[Ry (by omega) (by omega),Ry (by omega) (by omega),Int.neg_neg]
  simp_all
 have hf:an o1 o2=false:=by grind
 have hor:Ar.or (nt o1) (nt o2)=true:=by cases o1<;>cases o2<;>first|rfl|(exact absurd rfl hok)
 rw[A2 hor];exact⟨[],false,[],_,_,_,_,rfl,k1,j1,hf,fun e=>(by cases e),trivial,by simp,Kj⟩
def ZI {N:Nat} {l:List B1} {K:B1→Option (List A3×Int)} {f:B1→List A3} {g:B1→Bool} (h:∀a∈l,K a=some (if g a=true then(f a,0)else([],3))) (hl:l.length≤1000) (hN:1000<N):
 loopN (fun(s10:(List (List A3))×Int)=>
       (
        if cmp .lss s10.2 (Ar.len l)=true then
         (B8 l s10.2).bind fun x13=>
         (K x13).bind fun r14=>
         if cmp .neq r14.2 0=true then
          some (.inr (.inr r14.2))
         else
          (G6 s10.1 ([r14.1])).bind fun l16=>
          some (.inl (l16,ar .add .i64 s10.2 1))
        else
         some (.inr (.inl s10.1))
        :Option (((List (List A3))×Int)⊕(((List (List A3)))⊕Int)))) N ([],0)=some (if l.all g=true then .inl (l.map f)else .inr 3):=by
 rw[X4 l (by omega) (mk:=fun(s:List (List A3)) i=>(s,i)) (body:=fun s a=>if g a=true then(G6 s [f a]).bind fun l16=>some (.inl l16)else some (.inr (.inr 3))) (fin:=fun s=>.inl s) (s:=[]) (by omega) ?_ ?_]
 ·have key:∀(m:List B1) (s:List (List A3)),s.length+m.length≤1000→G3 (fun s a=>if g a=true then(G6 s [f a]).bind fun l16=>some (.inl l16)else some (.inr (.inr 3:List (List A3)⊕Int))) m s=some (if m.all g=true then .inl (s++m.map f)else .inr (.inr 3)):=by
   intro m
   induction m with
   |nil=>simp[G3]
   |cons a m ih=>
    grind[G3,G6]
  rw[key l [] (by grind)]
  grind
 ·intro s i a ha hi;have hm:=M7 ha;have ei:ar .add .i64 (i:Int) 1=i+1:=J1 (by omega) (by omega);simp only[C5,B2,hi,K3,B4,G4,ha,A4,h a hm,ei]
  by_cases hg:g a=true
  ·simp only[A2 hg,show cmp .neq (0:Int) 0=false from rfl,D6,C7];cases G6 s [f a]<;>rfl
  simp only[A1 hg,show cmp .neq (3:Int) 0=true from rfl,B4];rfl
 simp_all[C5,B2]
def Slv (N:Nat)(field own:Int)(x:B1)(P:Option (List A3×Int))(R:Option (List A3×Bool)):Prop:=
 ∃(a:List A3) (ok:Bool) (L:List Int),P=some (if ok=true then(a,0)else([],3))∧R=some (a,ok)∧Dd a∧3*L.length≤4*x.pre.length∧GQ L a
def AY8 (op:Int):(if cmp .eql op 7=true then some true else if cmp .eql op 8=true then some true else some (cmp .eql op 9):Option Bool)=some (decide (op=7∨op=8∨op=9)):=by
 by_cases a:op=7<;>by_cases b:op=8<;>by_cases c:op=9<;>simp[D9,a,b,c]
def Ax5 {N:Nat} {field own:Int} (hN:Bgn N):∀(n:Nat) (x:B1),x.bulk≤n→x.bulk≤16777216→(∀y∈x.pre,Bw y=0)→x.pre.length≤64→
 Slv N field own x (R6 N n x field own) (BR N n x own field):=by
 intro n
 induction n with
 |zero=>grind[Cl]
 | succ n ih=>
  intro x hx hb hbad hl;have nx:=VW (hbad x (by rw[B1.pre_eq];simp));have ho:=nx.op;have har:=nx.ar;unfold R6 BR
  by_cases h0:x.Op=0
  ·simp only[show cmp .eql x.Op 0=true from by simp[D9,h0],B4]
   by_cases hk:x.Value.Kind=1
   ·simp only[show cmp .neq x.Value.Kind 1=false from by simp[G2,hk],show cmp .eql x.Value.Kind 1=true from by simp[D9,hk],D6,C7]
    by_cases hn:x.Value.Num=1
    ·simp only[show cmp .eql x.Value.Num 1=true from by simp[D9,hn],B4,Sk (N:=N) (by omega),A4];exact⟨_,true,[],rfl,rfl,Ur.ord.1,by simp,Uv⟩
    simp only[show cmp .eql x.Value.Num 1=false from by simp[D9,hn],D6,C7,A4];exact⟨[],true,[],rfl,rfl,trivial,by simp,Kj⟩
   simp only[show cmp .neq x.Value.Kind 1=true from by simp[G2,hk],show cmp .eql x.Value.Kind 1=false from by simp[D9,hk],B4,A4]
   by_cases hn:x.Value.Num=1
   ·simp only[show cmp .eql x.Value.Num 1=true from by simp[D9,hn],B4,Sk (N:=N) (by omega),A4];exact⟨_,false,[],rfl,rfl,Ur.ord.1,by simp,Uv⟩
   simp only[show cmp .eql x.Value.Num 1=false from by simp[D9,hn],D6,C7];exact⟨[],false,[],rfl,rfl,trivial,by simp,Kj⟩
  simp only[show cmp .eql x.Op 0=false from by simp[D9,h0],D6,C7];rw[AY8];simp only[A4,C8]
  by_cases h12:x.Op=12
  ·
   rw[A1 (by omega),A2 h12]at har
   obtain⟨a,hab,i0,ma,hpre⟩:=Bg0 (x:=x) (by omega);obtain⟨s,ok,L,s1,s2,s3,s4,s5⟩:=ih a (by have:=S4 ma;omega) (by have:=S4 ma;omega) (Ks ma hbad) (by omega);obtain⟨r,r1,r2,r3,r4,_⟩:=Aa1 hN s3 s5 (by omega);refine⟨r,ok,L,?_,?_,r3,by omega,r4⟩
   ·simp only[h12,show¬((12:Int)=7∨(12:Int)=8∨(12:Int)=9)from by decide,C7,show cmp .eql (12:Int) 10=false from rfl,show cmp .eql (12:Int) 11=false from rfl,show cmp .eql (12:Int) 12=true from rfl,D6,B4,A4];refine O7 (ZI (N:=N) (l:=x.cT) (K:=fun y=>R6 N n y field own) (f:=fun _=>s) (g:=fun _=>ok) (fun y hy=>?_) (by omega) (by omega)) ?_
    ·rw[hab]at hy;simp_all
    grind[B8]
   simp only[h12,show cmp .eql (12:Int) 12=true from rfl,B4,i0,s2,A4,r2]
  rw[show(if x.Op=12 then(1:Int)else 2)=2 from A1 h12]at har
  have e12:cmp .eql x.Op 12=false:=by grind[D9]
  by_cases h5:x.Op<5
  ·
   have n1:¬(x.Op=7∨x.Op=8∨x.Op=9):=by omega
   have n2:Ar.or (cmp .eql x.Op 7) (cmp .eql x.Op 8)=false:=by grind[K9,D9]
   have n3:cmp .eql x.Op 9=false:=by grind[D9]
   have n4:cmp .eql x.Op 10=false:=by grind[D9]
   have n5:cmp .eql x.Op 11=false:=by grind[D9]
   have n6:an (an (cmp .neq x.Op 10) (cmp .neq x.Op 11)) (cmp .neq x.Op 9)=true:=by simp only[P5,G2,M6,P1,S1];omega
   simp only[A1 n1,e12,n2,n3,n4,n5,n6,D6,C7,B4,A4];exact⟨[],false,[],rfl,rfl,trivial,by simp,Kj⟩
  rw[A1 h5]at har
  obtain⟨a,b,hab,i0,i1,ma,mb,hpre⟩:=AU2 (x:=x) (by omega);have hba:=S4 ma;have hbb:=S4 mb;obtain⟨s,os,Ls,s1,s2,s3,s4,s5⟩:=ih a (by omega) (by omega) (Ks ma hbad) (by omega);obtain⟨u,ou,Lu,u1,u2,u3,u4,u5⟩:=ih b (by omega) (by omega) (Ks mb hbad) (by omega)
  have loop:∃fs:List (List A3)⊕Int,fs=(if(os&&ou)=true then .inl [s,u]else .inr 3)∧∀F:(List (List A3)⊕Int)→Option (List A3×Int),∀r,F fs=r→(loopN (fun(s10:(List (List A3))×Int)=>
   (
    if cmp .lss s10.2 (Ar.len x.cT)=true then
     (B8 x.cT s10.2).bind fun x13=>
     (R6 N n x13 field own).bind fun r14=>
     if cmp .neq r14.2 0=true then
      some (.inr (.inr r14.2))
     else
      (G6 s10.1 ([r14.1])).bind fun l16=>
      some (.inl (l16,ar .add .i64 s10.2 1))
    else
     some (.inr (.inl s10.1))
    :Option (((List (List A3))×Int)⊕(((List (List A3)))⊕Int)))) N ([],0)).bind F=r:=by
   refine⟨_,rfl,fun F r hF=>?_⟩;rw[X4 x.cT (by omega) (mk:=fun(s:List (List A3)) i=>(s,i)) (body:=fun q y=>(R6 N n y field own).bind fun r14=>if cmp .neq r14.2 0=true then some (.inr (.inr r14.2))else(G6 q ([r14.1])).bind fun l16=>some (.inl l16)) (fin:=fun s=>.inl s) (s:=[]) (by omega) ?_ ?_]
   ·rw[hab];rw[←hF];have a1:G6 ([]:List (List A3)) [s]=some [s]:=J0 (by simp);have a2:G6 [s] [u]=some [s,u]:=J0 (by simp)
    cases os with
    | true=>
     simp only[B4]at s1
     cases ou with
     |true=>
      simp only[B4]at u1
      simp only[G3,s1,u1,A4,show cmp .neq (0:Int) 0=false from rfl,D6,C7,a1,a2];rfl
     |false=>
      simp only[D6,C7]at u1
      simp only[G3,s1,u1,A4,show cmp .neq (0:Int) 0=false from rfl,show cmp .neq (3:Int) 0=true from rfl,D6,C7,B4,a1];rfl
    |false=>
     simp only[D6,C7]at s1
     simp only[G3,s1,A4,show cmp .neq (3:Int) 0=true from rfl,B4];rfl
   ·intro q i y hy hi;have ei:ar .add .i64 (i:Int) 1=i+1:=J1 (by omega) (by omega);simp only[C5,B2,hi,K3,B4,G4,hy,A4,ei]
    cases R6 N n y field own with
    |none=>rfl
    |some r14=>
     simp only[A4]
     grind
   simp_all[C5,B2]
  obtain⟨fs,hfs,loop⟩:=loop;have e0:B8 [s,u] 0=some s:=rfl;have e1:B8 [s,u] 1=some u:=rfl
  by_cases h9:x.Op=7∨x.Op=8∨x.Op=9
  ·obtain⟨r,ok,L,l1,o1,l2,o2,c1,c2,c3,c4,c5,c6,c7,c8⟩:=YW hN i0 i1 (by omega) (by omega) (Ks ma hbad) (Ks mb hbad) (by omega) h9 (field:=field) (own:=own)
   have hp1:1≤a.pre.length:=by rw[B1.pre_eq];simp
   have hp2:1≤b.pre.length:=by rw[B1.pre_eq];simp
   simp only[A2 h9,i0,i1,c2,c3,A4,c4,e12,D6,C7]
   by_cases h78:x.Op=7∨x.Op=8
   ·have n2:Ar.or (cmp .eql x.Op 7) (cmp .eql x.Op 8)=true:=by simp_all[K9,D9]
    have n9:cmp .neq x.Op 9=true:=by grind[G2]
    simp only[n2,B4,c1,A4]
    cases ok with
    |true=>
     simp only[B4,c5 rfl,A4]
     grind[Slv]
    |false=>
     simp only[D6,C7,n9,B4,A4]
     grind[Slv]
   have h9':x.Op=9:=by omega
   have n2:Ar.or (cmp .eql x.Op 7) (cmp .eql x.Op 8)=false:=by grind[K9,D9]
   have n9:cmp .neq x.Op 9=false:=by grind[G2]
   have n9':cmp .eql x.Op 9=true:=by grind[D9]
   have n10:cmp .eql x.Op 10=false:=by grind[D9]
   have n11:cmp .eql x.Op 11=false:=by grind[D9]
   have n6:an (an (cmp .neq x.Op 10) (cmp .neq x.Op 11)) (cmp .neq x.Op 9)=false:=by rw[n9];simp[P5]
   simp only[n2,n9',D6,C7,B4,c1,A4]
   cases ok with
   |true=>
    simp only[B4,c5 rfl,A4]
    grind[Slv]
   |false=>
    obtain⟨w,w1,w2,w3,w4⟩:=AM3 hN s3 u3 s5 u5 (by omega);simp only[D6,C7,n9,A4,s2,u2];refine⟨w,os&&ou,Ls++Lu,?_,?_,w3,by simp;omega,w4⟩
    ·grind
    rw[h9',w2];rfl
  simp only[A1 h9]
  have n2:Ar.or (cmp .eql x.Op 7) (cmp .eql x.Op 8)=false:=by grind[K9,D9]
  have n9:cmp .eql x.Op 9=false:=by grind[D9]
  by_cases h10:x.Op=10
  ·obtain⟨w,w1,w2,w3,w4⟩:=Aa2 hN s3 u3 s5 u5 (by omega)
   have n6:an (an (cmp .neq x.Op 10) (cmp .neq x.Op 11)) (cmp .neq x.Op 9)=false:=by grind[P5,G2]
   have n10:cmp .eql x.Op 10=true:=by grind[D9]
   simp only[e12,n2,n9,n6,n10,D6,C7,B4,A4,i0,i1,s2,u2];refine⟨w,os&&ou,Ls++Lu,?_,?_,w3,by simp;omega,w4⟩
   ·grind
   unfold Cr;simp only[n10,B4,w2,A4];rfl
  by_cases h11:x.Op=11
  ·obtain⟨w,w1,w2,w3,w4,_⟩:=AT4 hN s3 u3 s5 u5 (by omega);have l1:=s5.len s3;have l2:=u5.len u3
   have n6:an (an (cmp .neq x.Op 10) (cmp .neq x.Op 11)) (cmp .neq x.Op 9)=false:=by grind[P5,G2]
   have n10:cmp .eql x.Op 10=false:=by grind[D9]
   have n11:cmp .eql x.Op 11=true:=by grind[D9]
   simp only[e12,n2,n9,n6,n10,n11,D6,C7,B4,A4,i0,i1,s2,u2];refine⟨w,os&&ou,Ls++Lu,?_,?_,w3,by simp;omega,w4⟩
   ·grind
   unfold Cr;simp only[n10,n11,D6,C7,B4,J0 (l:=([]:List A3)) (m:=s) (by simp;omega),L9,A4,J0 (l:=s) (m:=u) (by omega),w2];rfl
  have n6:an (an (cmp .neq x.Op 10) (cmp .neq x.Op 11)) (cmp .neq x.Op 9)=true:=by simp_all[P5,G2]
  have n10:cmp .eql x.Op 10=false:=by grind[D9]
  have n11:cmp .eql x.Op 11=false:=by grind[D9]
  simp only[e12,n2,n9,n6,n10,n11,D6,C7,B4,A4];exact⟨[],false,[],rfl,rfl,trivial,by simp,Kj⟩
def rep1 (v:B3):D3 40000000 [v] 1=some (List.replicate 1 v):=by kernel_rfl
def rep2 (v:B3):D3 40000000 [v] 2=some (List.replicate 2 v):=by kernel_rfl
def rep3 (v:B3):D3 40000000 [v] 3=some (List.replicate 3 v):=by kernel_rfl
def rep4 (v:B3):D3 40000000 [v] 4=some (List.replicate 4 v):=by kernel_rfl
def rep5 (v:B3):D3 40000000 [v] 5=some (List.replicate 5 v):=by kernel_rfl
def rep6 (v:B3):D3 40000000 [v] 6=some (List.replicate 6 v):=by kernel_rfl
def rep7 (v:B3):D3 40000000 [v] 7=some (List.replicate 7 v):=by kernel_rfl
def rep8 (v:B3):D3 40000000 [v] 8=some (List.replicate 8 v):=by kernel_rfl
def rep9 (v:B3):D3 40000000 [v] 9=some (List.replicate 9 v):=by kernel_rfl
def Bd8 (v:B3):D3 40000000 [v] 10=some (List.replicate 10 v):=by kernel_rfl
def Bd7 (v:B3):D3 40000000 [v] 11=some (List.replicate 11 v):=by kernel_rfl
def Bd6 (v:B3):D3 40000000 [v] 12=some (List.replicate 12 v):=by kernel_rfl
def Bd5 (v:B3):D3 40000000 [v] 13=some (List.replicate 13 v):=by kernel_rfl
def Bd4 (v:B3):D3 40000000 [v] 14=some (List.replicate 14 v):=by kernel_rfl
def Bd3 (v:B3):D3 40000000 [v] 15=some (List.replicate 15 v):=by kernel_rfl
def Bd2 (v:B3):D3 40000000 [v] 16=some (List.replicate 16 v):=by kernel_rfl
def Bc7 (v:B3):loopN (fun(s3:(List B3)×Int)=>
 (
  if cmp .leq s3.2 0=true then
   (G6 s3.1 ([v])).bind fun l7=>
   some (.inl (l7,ar .add .i64 s3.2 1))
  else
   some (.inr s3.1)
  :Option (((List B3)×Int)⊕(((List B3)))))) 40000000 ([],0)=some (List.replicate 1 v):=by kernel_rfl
def Bc6 (v:B3):loopN (fun(s3:(List B3)×Int)=>
 (
  if cmp .leq s3.2 1=true then
   (G6 s3.1 ([v])).bind fun l7=>
   some (.inl (l7,ar .add .i64 s3.2 1))
  else
   some (.inr s3.1)
  :Option (((List B3)×Int)⊕(((List B3)))))) 40000000 ([],0)=some (List.replicate 2 v):=by kernel_rfl
def Bc5 (v:B3):loopN (fun(s3:(List B3)×Int)=>
 (
  if cmp .leq s3.2 2=true then
   (G6 s3.1 ([v])).bind fun l7=>
   some (.inl (l7,ar .add .i64 s3.2 1))
  else
   some (.inr s3.1)
  :Option (((List B3)×Int)⊕(((List B3)))))) 40000000 ([],0)=some (List.replicate 3 v):=by kernel_rfl
def Bc4 (v:B3):loopN (fun(s3:(List B3)×Int)=>
 (
  if cmp .leq s3.2 3=true then
   (G6 s3.1 ([v])).bind fun l7=>
   some (.inl (l7,ar .add .i64 s3.2 1))
  else
   some (.inr s3.1)
  :Option (((List B3)×Int)⊕(((List B3)))))) 40000000 ([],0)=some (List.replicate 4 v):=by kernel_rfl
def Bc3 (v:B3):loopN (fun(s3:(List B3)×Int)=>
 (
  if cmp .leq s3.2 4=true then
   (G6 s3.1 ([v])).bind fun l7=>
   some (.inl (l7,ar .add .i64 s3.2 1))
  else
   some (.inr s3.1)
  :Option (((List B3)×Int)⊕(((List B3)))))) 40000000 ([],0)=some (List.replicate 5 v):=by kernel_rfl
def Bc2 (v:B3):loopN (fun(s3:(List B3)×Int)=>
 (
  if cmp .leq s3.2 5=true then
   (G6 s3.1 ([v])).bind fun l7=>
   some (.inl (l7,ar .add .i64 s3.2 1))
  else
   some (.inr s3.1)
  :Option (((List B3)×Int)⊕(((List B3)))))) 40000000 ([],0)=some (List.replicate 6 v):=by kernel_rfl
def Bc1 (v:B3):loopN (fun(s3:(List B3)×Int)=>
 (
  if cmp .leq s3.2 6=true then
   (G6 s3.1 ([v])).bind fun l7=>
   some (.inl (l7,ar .add .i64 s3.2 1))
  else
   some (.inr s3.1)
  :Option (((List B3)×Int)⊕(((List B3)))))) 40000000 ([],0)=some (List.replicate 7 v):=by kernel_rfl
def Bc0 (v:B3):loopN (fun(s3:(List B3)×Int)=>
 (
  if cmp .leq s3.2 7=true then
   (G6 s3.1 ([v])).bind fun l7=>
   some (.inl (l7,ar .add .i64 s3.2 1))
  else
   some (.inr s3.1)
  :Option (((List B3)×Int)⊕(((List B3)))))) 40000000 ([],0)=some (List.replicate 8 v):=by kernel_rfl
def Bb9 (v:B3):loopN (fun(s3:(List B3)×Int)=>
 (
  if cmp .leq s3.2 8=true then
   (G6 s3.1 ([v])).bind fun l7=>
   some (.inl (l7,ar .add .i64 s3.2 1))
  else
   some (.inr s3.1)
  :Option (((List B3)×Int)⊕(((List B3)))))) 40000000 ([],0)=some (List.replicate 9 v):=by kernel_rfl
def AV7 (v:B3):loopN (fun(s3:(List B3)×Int)=>
 (
  if cmp .leq s3.2 9=true then
   (G6 s3.1 ([v])).bind fun l7=>
   some (.inl (l7,ar .add .i64 s3.2 1))
  else
   some (.inr s3.1)
  :Option (((List B3)×Int)⊕(((List B3)))))) 40000000 ([],0)=some (List.replicate 10 v):=by kernel_rfl
def AV6 (v:B3):loopN (fun(s3:(List B3)×Int)=>
 (
  if cmp .leq s3.2 10=true then
   (G6 s3.1 ([v])).bind fun l7=>
   some (.inl (l7,ar .add .i64 s3.2 1))
  else
   some (.inr s3.1)
  :Option (((List B3)×Int)⊕(((List B3)))))) 40000000 ([],0)=some (List.replicate 11 v):=by kernel_rfl
def AV5 (v:B3):loopN (fun(s3:(List B3)×Int)=>
 (
  if cmp .leq s3.2 11=true then
   (G6 s3.1 ([v])).bind fun l7=>
   some (.inl (l7,ar .add .i64 s3.2 1))
  else
   some (.inr s3.1)
  :Option (((List B3)×Int)⊕(((List B3)))))) 40000000 ([],0)=some (List.replicate 12 v):=by kernel_rfl
def AV4 (v:B3):loopN (fun(s3:(List B3)×Int)=>
 (
  if cmp .leq s3.2 12=true then
   (G6 s3.1 ([v])).bind fun l7=>
   some (.inl (l7,ar .add .i64 s3.2 1))
  else
   some (.inr s3.1)
  :Option (((List B3)×Int)⊕(((List B3)))))) 40000000 ([],0)=some (List.replicate 13 v):=by kernel_rfl
def AV3 (v:B3):loopN (fun(s3:(List B3)×Int)=>
 (
  if cmp .leq s3.2 13=true then
   (G6 s3.1 ([v])).bind fun l7=>
   some (.inl (l7,ar .add .i64 s3.2 1))
  else
   some (.inr s3.1)
  :Option (((List B3)×Int)⊕(((List B3)))))) 40000000 ([],0)=some (List.replicate 14 v):=by kernel_rfl
def AV2 (v:B3):loopN (fun(s3:(List B3)×Int)=>
 (
  if cmp .leq s3.2 14=true then
   (G6 s3.1 ([v])).bind fun l7=>
   some (.inl (l7,ar .add .i64 s3.2 1))
  else
   some (.inr s3.1)
  :Option (((List B3)×Int)⊕(((List B3)))))) 40000000 ([],0)=some (List.replicate 15 v):=by kernel_rfl
def AV1 (v:B3):loopN (fun(s3:(List B3)×Int)=>
 (
  if cmp .leq s3.2 15=true then
   (G6 s3.1 ([v])).bind fun l7=>
   some (.inl (l7,ar .add .i64 s3.2 1))
  else
   some (.inr s3.1)
  :Option (((List B3)×Int)⊕(((List B3)))))) 40000000 ([],0)=some (List.replicate 16 v):=by kernel_rfl
def AK4 {own:Int} (h:0≤own∧own<16) (v:B3):∃l:List B3,D3 40000000 [v] (ar .add .i64 own 1)=some l∧loopN (fun(s3:(List B3)×Int)=>
 (
  if cmp .leq s3.2 own=true then
   (G6 s3.1 ([v])).bind fun l7=>
   some (.inl (l7,ar .add .i64 s3.2 1))
  else
   some (.inr s3.1)
  :Option (((List B3)×Int)⊕(((List B3)))))) 40000000 ([],0)=some l:=by
 have:own=0∨own=1∨own=2∨own=3∨own=4∨own=5∨own=6∨own=7∨own=8∨own=9∨own=10∨own=11∨own=12∨own=13∨own=14∨own=15:=by omega
 rw[J1 (by omega) (by omega)]
 rcases this with rfl|rfl|rfl|rfl|rfl|rfl|rfl|rfl|rfl|rfl|rfl|rfl|rfl|rfl|rfl|rfl
 ·simp_all[rep1,Bc7]
 ·simp_all[rep2,Bc6]
 ·simp_all[rep3,Bc5]
 ·simp_all[rep4,Bc4]
 ·simp_all[rep5,Bc3]
 ·simp_all[rep6,Bc2]
 ·simp_all[rep7,Bc1]
 ·simp_all[rep8,Bc0]
 ·simp_all[rep9,Bb9]
 ·simp_all[Bd8,AV7]
 ·simp_all[Bd7,AV6]
 ·simp_all[Bd6,AV5]
 ·simp_all[Bd5,AV4]
 ·simp_all[Bd4,AV3]
 ·simp_all[Bd3,AV2]
 simp_all[Bd2,AV1]
def AT5 {types:List F6} {index own:Int} {cond:B1} (hb:cond.bulk≤16777216):∃r,Dk 40000000 types index cond own=some r∧Mh 40000000 types index cond own=some r∧Sm 256 r.1∧r.1.cX.length≤16:=by
 have sm0:Sm 256 ⟨[]⟩:=fun x hx=>by cases hx
 unfold Dk Mh;rw[Ae6 (by decide),VP (by decide)];simp only[A4,G2,P1,S1]
 by_cases h0:TZ 40000000 types=0
 ·have hsc:=Ay8 h0;simp only[h0,Ca,C7]
  by_cases h1:index<0∨(types.length:Int)≤index
  ·have e1:Ar.or (cmp .lss index 0) (cmp .geq index (Ar.len types))=true:=by simp_all[K9,C5,U8,B2]
   simp_all
  have e1:Ar.or (cmp .lss index 0) (cmp .geq index (Ar.len types))=false:=by grind[K9,C5,U8,B2]
  simp only[e1,D6,C7]
  by_cases h2:own<0∨16≤own
  ·have e2:Ar.or (cmp .lss own 0) (cmp .geq own 16)=true:=by simp_all[K9,C5,U8]
   simp_all
  have e2:Ar.or (cmp .lss own 0) (cmp .geq own 16)=false:=by grind[K9,C5,U8]
  simp only[e2,D6,C7];obtain⟨l,r1,r2⟩:=AK4 (own:=own) (by omega) ⟨⟨#[]⟩,index⟩;obtain⟨⟨k,e⟩,k1,k2,k3⟩:=AR5 (N:=40000000) (types:=types) (vars:=l) (x:=cond) (by decide) hb
  simp only at k3
  simp only[r1,A4,k1]
  by_cases h3:e=0
  ·subst h3;have hx:=(k3 rfl).2
   by_cases h4:k=1
   ·subst h4;obtain⟨s,s1,s2⟩:=Pd (l:=types) (i:=index) (by omega);have h8:=(hsc.2 s (M7 s2)).1
    have hpre:cond.pre.length≤64∧∀y∈cond.pre,Bw y=0:=by
     grind[T1,Hu]
    obtain⟨a,ok,L,p1,p2,p3,p4,p5⟩:=Ax5 (N:=40000000) (field:=AB0 s) (own:=own) (by decide) 40000000 cond (by omega) hb hpre.2 hpre.1;have hlen:=p5.len p3
    cases ok with
    | true=>
     simp only[B4]at p1
     have hmk:mkL (Ar.len types) (Ar.len types) ([]:List A3)=some (List.replicate types.length []):=by
      unfold mkL;rw[A2 (by grind[B2])];simp[B2]
     have hin:Du (Ii (List.replicate types.length ([]:List A3)) index)=some ():=by
      grind[Du,Ii]
     have hup:DS (List.replicate types.length ([]:List A3)) index (fun _=>a)=some ((List.replicate types.length []).set index.toNat a):=by
      obtain⟨y,y1,_⟩:=Pd (l:=List.replicate types.length ([]:List A3)) (i:=index) (by simp;omega)
      simp_all[DS]
     have hsm:∀x∈(List.replicate types.length ([]:List A3)).set index.toNat a,x.length≤256:=fun x hx=>by
      grind
     have hlim:=Aa9 (N:=40000000) (R:=(List.replicate types.length ([]:List A3)).set index.toNat a) hsm (by simp;omega) (by simp;omega);refine⟨(⟨(List.replicate types.length []).set index.toNat a⟩,0),?_,?_,hsm,by simp;omega⟩
     ·rw[A1 (by decide),A1 (by decide),s1];simp only[A4,SF (N:=40000000) (show s.Fields.length≤1000 by omega) (by decide),p1];rw[A1 (by decide),hmk]
      simp_all
     refine O7 r2 ?_;simp only[k2,A4];rw[A1 (by decide),A1 (by decide),s1];simp only[A4,QL (N:=40000000) (show s.Fields.length≤1000 by omega) (by decide),p2,N7,R3,D6,C7,NI,hmk,hin,hup,hlim]
    | false=>
     simp only[D6,C7]at p1
     refine⟨(⟨[]⟩,3),?_,?_,sm0,by simp⟩
     ·rw[A1 (by decide),A1 (by decide),s1]
      grind[SF]
     refine O7 r2 ?_;simp only[k2,A4];rw[A1 (by decide),A1 (by decide),s1];simp only[A4,QL (N:=40000000) (show s.Fields.length≤1000 by omega) (by decide),p2];rfl
   simp_all
  simp_all
 simp_all
end Go.Ab
namespace Go.Ab
open Classical
noncomputable section
def hasP {N:Nat}(hN:Bgn N){s:List A0}(hl:s.length≤1000000){f:A0→Option Bool}{P:A0→Bool}(hf:∀x∈s,f x=some (P x)):O9 N s f=some (s.any P):=by
 unfold O9;rw[JS s (by omega) f P hf (by omega)];simp only[A4,U8]
 congr 1
 rw[Bk,C8,Lw]
 grind[JT]
theorem Ji (p:A0):(A0.pres p.cT).length+1=p.pre.length:=by rw[A0.pre_eq p];simp
def Sz (f:A0→Bool):∀r:List A0,(A0.pres r).all f=r.all fun x=>x.pre.all f
 |[]=>rfl
 |a::r=>by simp only[A0.pres,List.all_append,Im,Sz f r]
def OE (y:A0):Bool:=decide (0≤y.Op∧y.Op≤4)
def AA1 {N:Nat} (hN:Bgn N):∀(m:Nat) (p:A0),p.pre.length≤m→p.pre.length≤1000000→∀n,2*m≤n→Y1 N n p=some (p.pre.all OE):=by
 intro m
 induction m with
 |zero=>grind[Ji]
 | succ m ih=>
  intro p h hb n hn;obtain⟨n,rfl⟩:∃k,n=k+1:=⟨n-1,by omega⟩;have hp:=Ji p;have hal:=EZ p;unfold Y1;rw[A0.pre_eq p,Im,Sz]
  have e:((
   if cmp .eql p.Op 0=true then
    some true
   else
    if cmp .eql p.Op 1=true then
     some true
    else
     if cmp .eql p.Op 2=true then
      some true
     else
      if cmp .eql p.Op 3=true then
       some true
      else
       some (cmp .eql p.Op 4)
  ):Option (Bool))=some (OE p):=by
   unfold OE;simp only[D9,C8]
   by_cases h0:p.Op=0
   ·rw[A2 h0,h0];rfl
   by_cases h1:p.Op=1
   ·rw[A1 h0,A2 h1,h1];rfl
   by_cases h2:p.Op=2
   ·rw[A1 h0,A1 h1,A2 h2,h2];rfl
   by_cases h3:p.Op=3
   ·rw[A1 h0,A1 h1,A1 h2,A2 h3,h3];rfl
   rw[A1 h0,A1 h1,A1 h2,A1 h3]
   congr 1
   rw[decide_eq_decide];omega
  rw[e];simp only[A4]
  by_cases hs:OE p=true
  ·rw[A2 hs,hs,hasP hN (by omega) (P:=fun y=> !(y.pre.all OE)) fun y hy=>by
    have hyl:=Kt hy;obtain⟨k,rfl⟩:∃k,n=k+1:=⟨n-1,by omega⟩
    grind[Ay,N7]]
   simp_all[N7,List.all_eq_not_any_not]
  simp_all
def Am8 {N:Nat} (hN:Bgn N):∀(n:Nat) (p:A0),p.pre.length≤n→p.pre.length≤1000000→Dj N n p=some (p.pre.all OE):=by
 intro n
 induction n with
 |zero=>grind[Ji]
 | succ n ih=>
  intro p h hb;have hp:=Ji p;have hal:=EZ p;unfold Dj;rw[A0.pre_eq p,Im,Sz]
  have e:an (an (an (an (cmp .neq p.Op 0) (cmp .neq p.Op 1)) (cmp .neq p.Op 2)) (cmp .neq p.Op 3)) (cmp .neq p.Op 4)= !(OE p):=by
   simp only[P5,G2,OE];rw[Bk]
   grind
  rw[e]
  by_cases hs:OE p=true
  ·rw[A1 (by rw[hs];decide),hs,Gg];have ex:∀{o:Option Bool},(∃t,o=some t∧t=p.cT.all fun x=>x.pre.all OE)→o=some (p.cT.all fun x=>x.pre.all OE):=fun⟨t,t1,t2⟩=>t1.trans (P9 some t2);refine ex (NT (fun(j:Nat) (s:Int)=>s=(j:Int)∧∀y∈p.cT.take j,y.pre.all OE=true) p.cT.length (by omega) ⟨rfl,by simp⟩ (fun j s hj ⟨e,e1⟩=>?_) (fun s ⟨e,e1⟩=>?_))
   ·subst e;have hm:=G7 hj;have hyl:=Kt hm;rw[A2 (KC (by omega)),G4,E3 hj];simp only[A4,ih p.cT[j] (by omega) (by omega)]
    by_cases hc:p.cT[j].pre.all OE=true
    ·rw[A1 (by rw[hc];decide)]
     grind[P4,List.take_succ_eq_append_getElem]
    rw[A2 (by rw[N7];grind)]
    grind
   subst e;rw[A1 KD]
   grind
  simp_all
def Tf (types:List F6) (E:List C4) (n:Int):Int×D7→Option ((Int×D7)⊕(D7⊕(Int×D7))):=fun s10=>
 (
  if cmp .lss s10.1 (Ar.len E)=true then
   (B8 E s10.1).bind fun x13=>
   (Dk 40000000 types x13.Typ x13.cU x13.Var).bind fun r14=>
   if cmp .neq r14.2 0=true then
    some (.inr (.inr (r14.2,{s10.2 with dK:=[]})))
   else
    ((
     if cmp .lss x13.To 0=true then
      some n
     else
      some x13.To
    ):Option (Int)).bind fun s15=>
    (G6 s10.2.dA ([(⟨x13.dE,s15,r14.1⟩:K0)])).bind fun l17=>
    some (.inl (ar .add .i64 s10.1 1,{s10.2 with dK:=[],dA:=l17}))
  else
   some (.inr (.inl ({s10.2 with dK:=[]})))
  :Option ((Int×D7)⊕(D7⊕(Int×D7))))
def AY1 (types:List F6) {E:List C4} (hE:∀d∈E,d.cU.bulk≤16777216) (n:Int):(fun(s10:Int×D7)=>
 (
  if cmp .lss s10.1 (Ar.len E)=true then
   (B8 E s10.1).bind fun x13=>
   (Mh 40000000 types x13.Typ x13.cU x13.Var).bind fun r15=>
   if cmp .neq r15.2 0=true then
    some (.inr (.inr (r15.2,{s10.2 with dK:=[]})))
   else
    ((
     if cmp .lss x13.To 0=true then
      some ({x13 with To:=n})
     else
      some x13
    ):Option (C4)).bind fun s16=>
    (G6 s10.2.dA ([(⟨s16.dE,s16.To,r15.1⟩:K0)])).bind fun l18=>
    some (.inl (ar .add .i64 s10.1 1,{s10.2 with dK:=[],dA:=l18}))
  else
   some (.inr (.inl ({s10.2 with dK:=[]})))
  :Option ((Int×D7)⊕(D7⊕(Int×D7)))))=Tf types E n:=by
 funext s
 unfold Tf
 by_cases hc:cmp .lss s.1 (Ar.len E)=true
 ·rw[A2 hc,A2 hc]
  cases hx:B8 E s.1 with
  |none=>rfl
  | some x=>
   have hm:x∈E:=by
    grind[B8]
   obtain⟨r,r1,r2,_⟩:=AT5 (types:=types) (index:=x.Typ) (own:=x.Var) (hE x hm)
   grind
 simp_all
def SyS (s:D7):Prop:=s.dK.length≤1000∧s.dA.length≤2048∧∀m∈s.dA,Sm 256 m.On∧m.On.cX.length≤16
def AY0 (types:List F6) {E:List C4} (hE:∀d∈E,d.cU.bulk≤16777216) (hl:E.length≤2048) (n:Int) (l9:List Bool) (h9:l9.length≤1000):∃t:D7×Int,((loopN (Tf types E n) 40000000 (0,(⟨Ar.len types,[],[]⟩:D7))).bind fun s12=>
 match s12 with
 | .inl y18=>
  some ({y18 with dK:=l9},(0:Int))
 | .inr y20=>
  some ((⟨0,[],[]⟩:D7),y20.1))=some t∧SyS t.1:=by
 refine NT (fun(j:Nat) (s:Int×D7)=>s.1=(j:Int)∧s.2.dA.length=j∧∀m∈s.2.dA,Sm 256 m.On∧m.On.cX.length≤16) E.length (by omega) ⟨rfl,rfl,fun m h=>absurd h LA⟩ (fun j s hj ⟨e,e1,e2⟩=>?_) (fun s ⟨e,e1,e2⟩=>?_)
 ·obtain⟨i,s⟩:=s
  dsimp only at e e1 e2
  subst e;have hm:=G7 hj;obtain⟨r,r1,_,r3,r4⟩:=AT5 (types:=types) (index:=(E[j]).Typ) (own:=(E[j]).Var) (hE _ hm);unfold Tf;rw[A2 (KC (by omega)),G4,E3 hj];simp only[A4,r1]
  by_cases h0:cmp .neq r.2 0=true
  ·rw[A2 h0];simp[SyS]
  rw[A1 h0]
  have hs:(if cmp .lss (E[j]).To 0=true then some n else some (E[j]).To:Option Int)=some (if cmp .lss (E[j]).To 0=true then n else(E[j]).To):=by split<;>rfl
  rw[hs];simp only[A4];rw[J0 (by rw[e1];simp;omega)];refine⟨_,rfl,P4 (by omega),?_,fun m hm=>?_⟩
  ·simp_all
  grind
 simp_all[Tf,KD,SyS]
def As0 (types:List F6) {x:A0} (hb:x.bulk≤1048576) (h9:x.pre.length≤9):∃r:D7×Int,Y2 40000000 types x=some r∧Cw 40000000 types x=some r∧SyS r.1:=by
 have hN:40000000≤40000000:=D5 _;unfold Y2 Cw;rw[Ae6 (by decide),VP (by decide)];simp only[A4]
 by_cases h0:cmp .neq (TZ 40000000 types) 0=true
 ·rw[A2 h0,A2 h0];simp[SyS]
 rw[A1 h0,A1 h0];obtain⟨a,a',e,c1,c2,c3,c4,c5⟩:=Wz hN hb h9;rw[c1,c2];simp only[A4]
 by_cases h1:e=0
 ·obtain⟨d1,d2,d3⟩:=c5 h1;rw[A1 (Q1 h1),A1 (Q1 h1),AA1 hN 9 x h9 (by omega) 40000000 (by decide),Am8 hN 40000000 x (by omega) (by omega)];simp only[A4]
  by_cases h2:nt (x.pre.all OE)=true
  ·rw[A2 h2,A2 h2];simp[SyS]
  rw[A1 h2,A1 h2]
  have el:Ar.len a'.cZ=Ar.len a.cZ:=by rw[B2,B2,c3]
  rw[el,←c4,B2]
  by_cases h3:cmp .gtr (ar .add .i64 (a.cZ.length:Int) 1) 256=true
  ·rw[A2 h3,A2 h3];simp[SyS]
  rw[A1 h3,A1 h3];have ea:ar .add .i64 (a.cZ.length:Int) 1=((a.cZ.length+1:Nat):Int):=P4 (by omega)
  have em:mkL (ar .add .i64 (a.cZ.length:Int) 1) (ar .add .i64 (a.cZ.length:Int) 1) (false:Bool)=some (List.replicate (a.cZ.length+1) false):=by
   rw[ea]
   grind[mkL]
  rw[em];simp only[A4];rw[Az3 (by omega) (by simp;omega)]
  have eu:DS (List.replicate (a.cZ.length+1) false) (a.cZ.length:Int) (fun _:Bool=>true)=some ((List.replicate (a.cZ.length+1) false).set a.cZ.length true):=by
   grind[DS,G4]
  rw[eu];simp only[A4];rw[AY1 types d3 (a.cZ.length:Int)];obtain⟨t,t1,t2⟩:=AY0 types d3 d2 (a.cZ.length:Int) ((List.replicate (a.cZ.length+1) false).set a.cZ.length true) (by simp;omega);exact⟨t,t1,t1,t2⟩
 simp_all[X7,SyS]
def Aw9 {s:D7} (h:SyS s):Fu 40000000 s s=some true:=by
 obtain⟨h1,h2,h3⟩:=h;unfold Fu;rw[A1 (by grind[K9,G2])];have ex:∀{o:Option Bool},(∃t,o=some t∧t=true)→o=some true:=fun⟨t,t1,t2⟩=>t1.trans (P9 some t2);refine ex (NT (fun(j:Nat) (i:Int)=>i=(j:Int)) s.dK.length (by omega) rfl (fun j i hj e=>?_) (fun i e=>?_))
 ·subst e;rw[A2 (KC (by omega)),G4,E3 hj];simp only[A4];rw[A1 (by rw[Al2,N7];simp)]
  grind[P4]
 subst e;rw[A1 KD];refine⟨_,rfl,?_⟩;refine NT (fun(j:Nat) (i:Int)=>i=(j:Int)) s.dA.length (by omega) rfl (fun j i hj e=>?_) (fun i e=>?_)
 ·subst e;have hm:=G7 hj;rw[A2 (KC (by omega)),G4,E3 hj];simp only[A4];rw[A1 (by grind[K9,G2]),ZJ (h3 _ hm).1 (by have:=(h3 _ hm).2;omega) (by decide)];simp only[A4];rw[A1 (by decide)]
  grind[P4]
 simp_all[KD]
def Ri (awake:Es 40000000=some true) (types:List F6) {x:A0} (hb:x.bulk≤1048576):Br 40000000 types x=some true:=by
 unfold Br
 by_cases h4:cmp .gtr (Ar.len types) 4=true
 ·rw[A2 h4,awake];rfl
 rw[A1 h4];obtain⟨b,b1,b2⟩:=AW1 (N:=40000000) (D5 _) (x:=x) (by omega);rw[b1];simp only[A4]
 cases b with
 |false=>rw[A2 (by decide),awake];rfl
 |true=>
  rw[A1 (by decide)];obtain⟨r,r1,r2,r3⟩:=As0 types hb (b2 rfl);rw[r1,r2]
  simp_all[Aw9,P5,D9]
end
end Go.Ab
namespace Go.Ab
open Go.RowKit Go.ChangeShapes Go.WideShapes Go.ChangeAt Go.Proofs Go.Proofs.YtnfefddbggfopaaGreatDoor
set_option maxRecDepth 100000
mutual
def Qh:B1→V
 |⟨op,args,var,field,kind,val⟩=>.agg [.int .i64 op,.sl (YK args) .ro,.int .i64 var,.int .i64 field,.int .i64 kind,.int .i64 val.Kind,.int .i64 val.Num,.str val.Text]
def YK:List B1→List V
 |[]=>[]
 |a::r=>Qh a::YK r
end
def Vc:∀l:List B1,YK l=l.map Qh
 |[]=>by simp[YK]
 |a::r=>by simp[YK,Vc r]
mutual
def As4:A0→V
 |⟨op,args,typ,var,scope,span,c⟩=>.agg [.int .i64 op,.sl (YG args) .ro,.int .i64 typ,.int .i64 var,.int .i64 scope,.int .i64 span,.int .i64 c.Op,.sl (c.cT.map Qh) .ro,.int .i64 c.Var,.int .i64 c.Field,.int .i64 c.Kind,.int .i64 c.Value.Kind,.int .i64 c.Value.Num,.str c.Value.Text]
def YG:List A0→List V
 |[]=>[]
 |a::r=>As4 a::YG r
end
def UY:∀l:List A0,YG l=l.map As4
 |[]=>by simp[YG]
 |a::r=>by simp[YG,UY r]
noncomputable def Vb (x:V7):V:=.agg [.str x.Name,.int .i64 x.Kind]
noncomputable def Tq (x:F6):V:=.agg [.str x.Name,.sl (lst Vb x.Fields) .ro]
noncomputable def As6 (x:I9):V:=.agg [.int .i64 x.Kind,.int .i64 x.Num,.str x.Text]
noncomputable def Po (x:A3):V:=.agg [.int .i64 x.Low,.int .i64 x.cV]
noncomputable def Jw (x:List A3):V:=.sl (lst Po x) .ro
noncomputable def Ud (x:D4):V:=.agg [.sl (lst Jw x.cX) .ro]
noncomputable def YI (x:K0):V:=.agg [.int .i64 x.dE,.int .i64 x.To,.sl (lst Jw x.On.cX) .ro]
noncomputable def Wt (x:D7):V:=.agg [.int .i64 x.dJ,.sl (lst V.bool x.dK) .ro,.sl (lst YI x.dA) .ro]
noncomputable def Tn (x:K8):V:=.agg [.int .i64 x.Typ,.int .i64 x.Num]
noncomputable def Va (x:U4):V:=.agg [.int .i64 x.cY,.int .i64 x.Typ,.int .i64 x.Var,.int .i64 x.cU.Op,.sl (lst Qh x.cU.cT) .ro,.int .i64 x.cU.Var,.int .i64 x.cU.Field,.int .i64 x.cU.Kind,.int .i64 x.cU.Value.Kind,.int .i64 x.cU.Value.Num,.str x.cU.Value.Text]
noncomputable def UZ (x:FK):V:=.agg [.sl (lst Va x.dM) .ro]
noncomputable def Ng (x:V9):V:=.agg [.int .i64 x.cY,.int .i64 x.Span]
noncomputable def YJ (x:C4):V:=.agg [.int .i64 x.dE,.int .i64 x.To,.int .i64 x.Var,.int .i64 x.Typ,.int .i64 x.cU.Op,.sl (lst Qh x.cU.cT) .ro,.int .i64 x.cU.Var,.int .i64 x.cU.Field,.int .i64 x.cU.Kind,.int .i64 x.cU.Value.Kind,.int .i64 x.cU.Value.Num,.str x.cU.Value.Text,.sl (lst (V.int .i64) x.dG) .ro,.sl (lst (V.int .i64) x.dI) .ro,.sl (lst Qh x.dD) .ro,.sl (lst Ng x.dF) .ro,.sl (lst (V.int .i64) x.dH) .ro]
noncomputable def Ue (x:E2):V:=.agg [.int .i64 x.Vars,.int .i64 x.dL,.sl (lst UZ x.cZ) .ro,.sl (lst YJ x.dC) .ro]
noncomputable def Pn (x:B3):V:=.agg [.str x.Name,.int .i64 x.Typ]
noncomputable def Tm (x:De):V:=.agg [.sl (lst Tq x.types) .ro,.sl (lst Pn x.vars) .ro]
noncomputable def Oc (x:I0):V:=.agg [.int .i64 x.times,.int .i64 x.plus]
noncomputable def KM (x:B0):V:=.agg [.int .i64 x.Edge.dE,.int .i64 x.Edge.To,.int .i64 x.Edge.Var,.int .i64 x.Edge.Typ,.int .i64 x.Edge.cU.Op,.sl (lst Qh x.Edge.cU.cT) .ro,.int .i64 x.Edge.cU.Var,.int .i64 x.Edge.cU.Field,.int .i64 x.Edge.cU.Kind,.int .i64 x.Edge.cU.Value.Kind,.int .i64 x.Edge.cU.Value.Num,.str x.Edge.cU.Value.Text,.sl (lst (V.int .i64) x.Edge.dG) .ro,.sl (lst (V.int .i64) x.Edge.dI) .ro,.sl (lst Qh x.Edge.dD) .ro,.sl (lst Ng x.Edge.dF) .ro,.sl (lst (V.int .i64) x.Edge.dH) .ro,.bool x.Done,.int .i64 x.Rest.Op,.sl (lst As4 x.Rest.cT) .ro,.int .i64 x.Rest.Typ,.int .i64 x.Rest.Var,.int .i64 x.Rest.cY,.int .i64 x.Rest.Span,.int .i64 x.Rest.cU.Op,.sl (lst Qh x.Rest.cU.cT) .ro,.int .i64 x.Rest.cU.Var,.int .i64 x.Rest.cU.Field,.int .i64 x.Rest.cU.Kind,.int .i64 x.Rest.cU.Value.Kind,.int .i64 x.Rest.cU.Value.Num,.str x.Rest.cU.Value.Text]
noncomputable def Nm (x:A6):V:=.agg [.bool x.done,.int .i64 x.p.Op,.sl (lst As4 x.p.cT) .ro,.int .i64 x.p.Typ,.int .i64 x.p.Var,.int .i64 x.p.cY,.int .i64 x.p.Span,.int .i64 x.p.cU.Op,.sl (lst Qh x.p.cU.cT) .ro,.int .i64 x.p.cU.Var,.int .i64 x.p.cU.Field,.int .i64 x.p.cU.Kind,.int .i64 x.p.cU.Value.Kind,.int .i64 x.p.cU.Value.Num,.str x.p.cU.Value.Text]
noncomputable def Pm (x:Q2):V:=.agg [.int .i64 x.least,.int .i64 x.most,.bool x.typed,.bool x.cond,.bool x.scope,.bool x.span]
noncomputable def As5 (x:List B1):V:=.sl (lst Qh x) .ro
noncomputable def YH (x:List K8):V:=.sl (lst Tn x) .ro
noncomputable def Bf3 (x:List Int):V:=.sl (lst (V.int .i64) x) .ro
noncomputable def Ac5 (x:List V9):V:=.sl (lst Ng x) .ro
noncomputable instance encsInst :L7 where
 eBi8:=Vb
 eBi9:=fun _=>rfl
 eBh4:=Tq
 eBi7:=fun _=>rfl
 eBk4:=As6
 eBk7:=fun _=>rfl
 eBh2:=Qh
 eBi0:=fun⟨_,_,_,_,_,_⟩=>by simp only[Qh,Vc];rfl
 eBg8:=As4
 eBh0:=fun⟨_,_,_,_,_,_,_⟩=>by simp only[As4,UY];rfl
 eBg7:=Po
 eBh1:=fun _=>rfl
 eBk1:=Ud
 eBj7:=fun _=>rfl
 eBh7:=YI
 eBi2:=fun _=>rfl
 eBk8:=Wt
 eBl4:=fun _=>rfl
 eBh9:=Tn
 eBj5:=fun _=>rfl
 eBi5:=Va
 eBk2:=fun _=>rfl
 eBi3:=UZ
 eBk3:=fun _=>rfl
 eBi1:=Ng
 eBj6:=fun _=>rfl
 eBg9:=YJ
 eBi6:=fun _=>rfl
 eBk9:=Ue
 eBl5:=fun _=>rfl
 eBh6:=Pn
 eBj0:=fun _=>rfl
 eBl0:=Tm
 eBl6:=fun _=>rfl
 eBl1:=Oc
 eBl7:=fun _=>rfl
 eBh8:=KM
 eBi4:=fun _=>rfl
 eBl2:=Nm
 eBl8:=fun _=>rfl
 eBk5:=Pm
 eBl3:=fun _=>rfl
 eBj2:=As5
 eBj8:=fun _=>rfl
 eBk6:=YH
 eBj9:=fun _=>rfl
 eLI:=Bf3
 eBj1:=fun _=>rfl
 eBj4:=Ac5
 eBk0:=fun _=>rfl
 eBh3:=Jw
 eBh5:=fun _=>rfl
def Yc {α:Type}(f:α→Nat):List α→Nat
 |[]=>1
 |a::l=>f a+Yc f l
section
variable [N9]{H:Type}{enc:TypeId×Value→H}{W:World}{base:Nat}{spare:Nat→Bool}{held:Bool}
abbrev bk (d:DataW H):Nat:=Rows.uptoBulk d
noncomputable def Ub (P:Program)(t:TypeId):Array Field:=match P.underlying t with|some (.struct fs)=>fs|_=> #[]
def P7 {P:Program} {t ty off sz:Nat} {xs:List (DataW H×List MemPlace)} {cs:List Value} {n:Nat} (hl:xs.length=(Ub P t).size)
 (hf:∀(i:Nat) (f:Field),(Ub P t)[i]? =some f→DataW.trod enc P W base spare held n f.type ((cs.drop f.offset).take (P.cellsOf f.type))=xs[i]?) (i:Nat)
 (h:((Ub P t)[i]?.map fun f=>(f.type,f.offset,P.cellsOf f.type))=some (ty,off,sz)):∃y,xs[i]? =some y∧DataW.trod enc P W base spare held n ty ((cs.drop off).take sz)=some y:=by
 cases hi:(Ub P t)[i]? with
 |none=>rw[hi]at h;cases h
 |some f=>
  rw[hi]at h
  simp only[K4,E6,Lo]at h
  obtain⟨rfl,rfl,rfl⟩:=h;exact Ac1 hl hf i hi
def Opens.down {α:Type}{P:Program}{t:TypeId}{f:α→V}{R:α→DataW H→Prop}{n:Nat}(h:Opens enc P W base spare held t f R (n+1)):Opens enc P W base spare held t f R n:=fun cs x hx=>h cs x (DataW.trod_le (Nat.le_succ n) hx)
def Opens.imp {α:Type}{P:Program}{t:TypeId}{f:α→V}{R R':α→DataW H→Prop}{n:Nat}(h:Opens enc P W base spare held t f R n)(hi:∀a d,R a d→R' a d):Opens enc P W base spare held t f R' n:=fun cs x hx=>by
 obtain⟨a,r,q⟩:=h cs x hx;exact⟨a,r,hi _ _ q⟩
def Opens.congr {α:Type}{P:Program}{t:TypeId}{f g:α→V}{R:α→DataW H→Prop}{n:Nat}(h:Opens enc P W base spare held t f R n)(hg:∀x,f x=g x):Opens enc P W base spare held t g R n:=fun cs x hx=>by
 obtain⟨a,r,q⟩:=h cs x hx;exact⟨a,by rw[←hg];exact r,q⟩
def AT2 {α:Type} {f:α→Nat}:∀(l:List α) (ds:List (DataW H)),RL (fun a d=>f a≤bk d) l ds→Yc f l≤Rows.uptoBulkAll ds+1
 |[],ds,h=>by simp[Yc]
 |a::l,[],h=>by have:=h.1;simp at this
 |a::l,d::ds,h=>by
  have h1:f a≤bk d:=h.2 0 a d rfl rfl;have h2:=AT2 l ds ⟨by simpa using h.1,fun i a d hi hd=>h.2 (i+1) a d (by simpa using hi) (by simpa using hd)⟩;simp only[Yc,Rows.uptoBulkAll];have h3:bk d=Rows.uptoBulk d:=rfl;omega
def Ah3 {α:Type}{f:α→Nat}{l:List α}{d:DataW H}(h:RS (fun a d=>f a≤bk d) l d):Yc f l≤bk d:=by
 obtain⟨_,h⟩:=h
 rcases h with⟨rfl,rfl⟩|⟨es,sp,rfl,h⟩
 ·simp[bk,Rows.uptoBulk,Yc]
 have:=AT2 l es h;simp only[bk,Rows.uptoBulk];omega
def Zc:∀l:List B1,B1.bulks l=Yc B1.bulk l
 |[]=>by simp[B1.bulks,Yc]
 |a::l=>by simp[B1.bulks,Yc,Zc l]
def AG2 {l:List B1}{d:DataW H}(h:RS (fun a d=>B1.bulk a≤bk d) l d):B1.bulks l≤bk d:=by rw[Zc];exact Ah3 h
def Vm:∀l:List A0,A0.bulks l=Yc A0.bulk l
 |[]=>by simp[A0.bulks,Yc]
 |a::l=>by simp[A0.bulks,Yc,Vm l]
def Zd {l:List A0}{d:DataW H}(h:RS (fun a d=>A0.bulk a≤bk d) l d):A0.bulks l≤bk d:=by rw[Vm];exact Ah3 h
def AD1 {β:Type}{xs:List β}{a b:β}(hl:xs.length=2)(h0:xs[0]? =some a)(h1:xs[1]? =some b):xs=[a,b]:=by
 match xs,hl with
 |[x0,x1],_=>simp at h0 h1;rw[h0,h1]
def AX6 {β:Type}{xs:List β}{a b c:β}(hl:xs.length=3)(h0:xs[0]? =some a)(h1:xs[1]? =some b)(h2:xs[2]? =some c):xs=[a,b,c]:=by
 match xs,hl with
 |[x0,x1,x2],_=>simp at h0 h1 h2;rw[h0,h1,h2]
def AD0 {β:Type}{xs:List β}{a b c d e f:β}(hl:xs.length=6)(h0:xs[0]? =some a)(h1:xs[1]? =some b)(h2:xs[2]? =some c)(h3:xs[3]? =some d)(h4:xs[4]? =some e)(h5:xs[5]? =some f):xs=[a,b,c,d,e,f]:=by
 match xs,hl with
 |[x0,x1,x2,x3,x4,x5],_=>simp at h0 h1 h2 h3 h4 h5;rw[h0,h1,h2,h3,h4,h5]
def AX5 {β:Type}{xs:List β}{a b c d e f g:β}(hl:xs.length=7)(h0:xs[0]? =some a)(h1:xs[1]? =some b)(h2:xs[2]? =some c)(h3:xs[3]? =some d)(h4:xs[4]? =some e)(h5:xs[5]? =some f)(h6:xs[6]? =some g):xs=[a,b,c,d,e,f,g]:=by
 match xs,hl with
 |[x0,x1,x2,x3,x4,x5,x6],_=>simp at h0 h1 h2 h3 h4 h5 h6;rw[h0,h1,h2,h3,h4,h5,h6]
def u28:Tryz.prog.underlying 28=some (.struct (Ub Tryz.prog 28)):=by kernel_rfl
def u24:Tryz.prog.underlying 24=some (.slice 28):=by kernel_rfl
def u3:Tryz.prog.underlying 3=some (.int .i64):=by kernel_rfl
def GJ (n:Nat):Opens enc Tryz.prog W base spare held 3 (V.int .i64) (fun a d=>(fun _:Int=>1) a≤bk d) n:=(PX u3).imp fun a d h=>by subst h;simp[bk,Rows.uptoBulk]
def u26:Tryz.prog.underlying 26=some (.struct (Ub Tryz.prog 26)):=by kernel_rfl
def u9:Tryz.prog.underlying 9=some .string:=by kernel_rfl
def Aa0 (n:Nat):Opens enc Tryz.prog W base spare held 9 V.str (fun a d=>(fun s:ByteArray=>s.size+1) a≤bk d) n:=(Ap5 u9).imp fun a d h=>by obtain⟨rfl,_⟩:=h;simp[bk,Rows.uptoBulk]
def I9.mu (x:I9):Nat:=(fun _:Int=>1) x.Kind+(fun _:Int=>1) x.Num+(fun s:ByteArray=>s.size+1) x.Text+1
def AM1 (n:Nat):Opens enc Tryz.prog W base spare held 26 L7.eBk4 (fun(a:I9) d=>I9.mu a≤bk d) n:=by
 intro cs x h;obtain⟨xs,m,hm,rfl,hcl,hl,hf⟩:=Fj u26 h;subst hm;obtain⟨y0,k0,t0⟩:=P7 hl hf 0 (ty:=3) (off:=0) (sz:=1) (by kernel_rfl);obtain⟨y1,k1,t1⟩:=P7 hl hf 1 (ty:=3) (off:=1) (sz:=1) (by kernel_rfl);obtain⟨y2,k2,t2⟩:=P7 hl hf 2 (ty:=9) (off:=2) (sz:=1) (by kernel_rfl);have hxs:=AX6 (hl.trans (by kernel_rfl)) k0 k1 k2;obtain⟨a0,r0,q0⟩:=GJ _ _ _ t0;obtain⟨a1,r1,q1⟩:=GJ _ _ _ t1;obtain⟨a2,r2,q2⟩:=Aa0 _ _ _ t2;refine⟨⟨a0,a1,a2⟩,?_,?_⟩
 ·have hc3:cs.length=3:=hcl.trans (by kernel_rfl);have:=(r0.join r1).join r2;rw[L7.eBk7]
  simp only[lst_eq]at this ⊢
  simpa[S2,hc3,V.cells]using this
 simp only[bk]at q0 q1 q2
 rw[hxs];simp only[E9,J3,bk,Rows.uptoBulk,Rows.uptoBulkAll,I9.mu];omega
def AM0:∀n:Nat,Opens enc Tryz.prog W base spare held 28 L7.eBh2 (fun(a:B1) d=>B1.bulk a≤bk d) n:=by
 intro n
 induction n with
 |zero=>intro cs x h;simp[DataW.trod]at h
 |succ n ih=>
 intro cs x h;obtain⟨xs,m,hm,rfl,hcl,hl,hf⟩:=Fj u28 h;cases hm;obtain⟨y0,k0,t0⟩:=P7 hl hf 0 (ty:=3) (off:=0) (sz:=1) (by kernel_rfl);obtain⟨y1,k1,t1⟩:=P7 hl hf 1 (ty:=24) (off:=1) (sz:=1) (by kernel_rfl);obtain⟨y2,k2,t2⟩:=P7 hl hf 2 (ty:=3) (off:=2) (sz:=1) (by kernel_rfl);obtain⟨y3,k3,t3⟩:=P7 hl hf 3 (ty:=3) (off:=3) (sz:=1) (by kernel_rfl);obtain⟨y4,k4,t4⟩:=P7 hl hf 4 (ty:=3) (off:=4) (sz:=1) (by kernel_rfl);obtain⟨y5,k5,t5⟩:=P7 hl hf 5 (ty:=26) (off:=5) (sz:=3) (by kernel_rfl);have hxs:=AD0 (hl.trans (by kernel_rfl)) k0 k1 k2 k3 k4 k5;obtain⟨a0,r0,q0⟩:=GJ _ _ _ t0
 obtain⟨a1,r1,q1⟩:∃a:List B1,FI (g0 W) W ((cs.drop 1).take 1) (V.sl (a.map L7.eBh2) .ro).cells∧B1.bulks a≤bk y1.1:=by
  cases n with
  |zero=>simp[DataW.trod]at t1
  |succ n=>
   obtain⟨a,r,q⟩:=IW u24 (show 0<Tryz.prog.cellsOf 28 by rw[show Tryz.prog.cellsOf 28=8 by kernel_rfl];decide) ih.down _ _ t1;exact⟨a,r,AG2 q⟩
 obtain⟨a2,r2,q2⟩:=GJ _ _ _ t2;obtain⟨a3,r3,q3⟩:=GJ _ _ _ t3;obtain⟨a4,r4,q4⟩:=GJ _ _ _ t4;obtain⟨a5,r5,q5⟩:=AM1 _ _ _ t5;refine⟨⟨a0,a1,a2,a3,a4,a5⟩,?_,?_⟩
 ·have hc3:cs.length=8:=hcl.trans (by kernel_rfl)
  rw[L7.eBk7]at r5
  have:=((((r0.join r1).join r2).join r3).join r4).join r5;rw[L7.eBi0]
  simp only[lst_eq]at this ⊢
  simpa[S2,hc3,V.cells]using this
 simp only[bk]at q0 q1 q2 q3 q4 q5
 rw[hxs]
 simp only[E9,J3,bk,Rows.uptoBulk,Rows.uptoBulkAll,B1.bulk,I9.mu]at *
 omega
def u30:Tryz.prog.underlying 30=some (.struct (Ub Tryz.prog 30)):=by kernel_rfl
def u23:Tryz.prog.underlying 23=some (.slice 30):=by kernel_rfl
def AL9:∀n:Nat,Opens enc Tryz.prog W base spare held 30 L7.eBg8 (fun(a:A0) d=>A0.bulk a≤bk d) n:=by
 intro n
 induction n with
 |zero=>intro cs x h;simp[DataW.trod]at h
 |succ n ih=>
 intro cs x h;obtain⟨xs,m,hm,rfl,hcl,hl,hf⟩:=Fj u30 h;cases hm;obtain⟨y0,k0,t0⟩:=P7 hl hf 0 (ty:=3) (off:=0) (sz:=1) (by kernel_rfl);obtain⟨y1,k1,t1⟩:=P7 hl hf 1 (ty:=23) (off:=1) (sz:=1) (by kernel_rfl);obtain⟨y2,k2,t2⟩:=P7 hl hf 2 (ty:=3) (off:=2) (sz:=1) (by kernel_rfl);obtain⟨y3,k3,t3⟩:=P7 hl hf 3 (ty:=3) (off:=3) (sz:=1) (by kernel_rfl);obtain⟨y4,k4,t4⟩:=P7 hl hf 4 (ty:=3) (off:=4) (sz:=1) (by kernel_rfl);obtain⟨y5,k5,t5⟩:=P7 hl hf 5 (ty:=3) (off:=5) (sz:=1) (by kernel_rfl);obtain⟨y6,k6,t6⟩:=P7 hl hf 6 (ty:=28) (off:=6) (sz:=8) (by kernel_rfl);have hxs:=AX5 (hl.trans (by kernel_rfl)) k0 k1 k2 k3 k4 k5 k6;obtain⟨a0,r0,q0⟩:=GJ _ _ _ t0
 obtain⟨a1,r1,q1⟩:∃a:List A0,FI (g0 W) W ((cs.drop 1).take 1) (V.sl (a.map L7.eBg8) .ro).cells∧A0.bulks a≤bk y1.1:=by
  cases n with
  |zero=>simp[DataW.trod]at t1
  |succ n=>
   obtain⟨a,r,q⟩:=IW u23 (show 0<Tryz.prog.cellsOf 30 by rw[show Tryz.prog.cellsOf 30=14 by kernel_rfl];decide) ih.down _ _ t1;exact⟨a,r,Zd q⟩
 obtain⟨a2,r2,q2⟩:=GJ _ _ _ t2;obtain⟨a3,r3,q3⟩:=GJ _ _ _ t3;obtain⟨a4,r4,q4⟩:=GJ _ _ _ t4;obtain⟨a5,r5,q5⟩:=GJ _ _ _ t5;obtain⟨a6,r6,q6⟩:=AM0 _ _ _ t6;refine⟨⟨a0,a1,a2,a3,a4,a5,a6⟩,?_,?_⟩
 ·have hc3:cs.length=14:=hcl.trans (by kernel_rfl)
  rw[L7.eBi0]at r6
  have:=(((((r0.join r1).join r2).join r3).join r4).join r5).join r6;rw[L7.eBh0]
  simp only[lst_eq]at this ⊢
  simpa[S2,hc3,V.cells]using this
 simp only[bk]at q0 q1 q2 q3 q4 q5 q6
 rw[hxs]
 simp only[E9,J3,bk,Rows.uptoBulk,Rows.uptoBulkAll,A0.bulk,I9.mu]at *
 omega
def u22:Tryz.prog.underlying 22=some (.slice 65):=by kernel_rfl
def u65:Tryz.prog.underlying 65=some (.struct (Ub Tryz.prog 65)):=by kernel_rfl
def u63:Tryz.prog.underlying 63=some (.slice 145):=by kernel_rfl
def u145:Tryz.prog.underlying 145=some (.struct (Ub Tryz.prog 145)):=by kernel_rfl
def V7.mu (x:V7):Nat:=(fun s:ByteArray=>s.size+1) x.Name+(fun _:Int=>1) x.Kind+1
def AA6 (n:Nat):Opens enc Tryz.prog W base spare held 145 L7.eBi8 (fun(a:V7) d=>V7.mu a≤bk d) n:=by
 intro cs x h;obtain⟨xs,m,hm,rfl,hcl,hl,hf⟩:=Fj u145 h;subst hm;obtain⟨y0,k0,t0⟩:=P7 hl hf 0 (ty:=9) (off:=0) (sz:=1) (by kernel_rfl);obtain⟨y1,k1,t1⟩:=P7 hl hf 1 (ty:=3) (off:=1) (sz:=1) (by kernel_rfl);have hxs:=AD1 (hl.trans (by kernel_rfl)) k0 k1;obtain⟨a0,r0,q0⟩:=Aa0 _ _ _ t0;obtain⟨a1,r1,q1⟩:=GJ _ _ _ t1;refine⟨⟨a0,a1⟩,?_,?_⟩
 ·have hc3:cs.length=2:=hcl.trans (by kernel_rfl);have:=r0.join r1;rw[L7.eBi9]
  simp only[lst_eq]at this ⊢
  simpa[S2,hc3,V.cells]using this
 simp only[bk]at q0 q1
 rw[hxs];simp only[E9,J3,bk,Rows.uptoBulk,Rows.uptoBulkAll,V7.mu];omega
def AL8 (n:Nat):Opens enc Tryz.prog W base spare held 63 (fun l:List V7=>.sl (lst L7.eBi8 l) .ro) (fun a d=>(Yc V7.mu) a≤bk d) n:=
 Opens.down (((IW u63 (show 0<Tryz.prog.cellsOf 145 by rw[show Tryz.prog.cellsOf 145=2 by kernel_rfl];decide) (AA6 n)).imp fun a d h=>Ah3 h).congr fun x=>by rw[lst_eq])
def F6.mu (x:F6):Nat:=(fun s:ByteArray=>s.size+1) x.Name+(Yc V7.mu) x.Fields+1
def AL7 (n:Nat):Opens enc Tryz.prog W base spare held 65 L7.eBh4 (fun(a:F6) d=>F6.mu a≤bk d) n:=by
 intro cs x h;obtain⟨xs,m,hm,rfl,hcl,hl,hf⟩:=Fj u65 h;subst hm;obtain⟨y0,k0,t0⟩:=P7 hl hf 0 (ty:=9) (off:=0) (sz:=1) (by kernel_rfl);obtain⟨y1,k1,t1⟩:=P7 hl hf 1 (ty:=63) (off:=1) (sz:=1) (by kernel_rfl);have hxs:=AD1 (hl.trans (by kernel_rfl)) k0 k1;obtain⟨a0,r0,q0⟩:=Aa0 _ _ _ t0;obtain⟨a1,r1,q1⟩:=AL8 _ _ _ t1;refine⟨⟨a0,a1⟩,?_,?_⟩
 ·have hc3:cs.length=2:=hcl.trans (by kernel_rfl);have:=r0.join r1;rw[L7.eBi7]
  simp only[lst_eq]at this ⊢
  simpa[S2,hc3,V.cells]using this
 simp only[bk]at q0 q1
 rw[hxs];simp only[E9,J3,bk,Rows.uptoBulk,Rows.uptoBulkAll,F6.mu];omega
def AM2 (n:Nat):Opens enc Tryz.prog W base spare held 22 (fun l:List F6=>.sl (lst L7.eBh4 l) .ro) (fun a d=>(Yc F6.mu) a≤bk d) n:=
 Opens.down (((IW u22 (show 0<Tryz.prog.cellsOf 65 by rw[show Tryz.prog.cellsOf 65=2 by kernel_rfl];decide) (AL7 n)).imp fun a d h=>Ah3 h).congr fun x=>by rw[lst_eq])
def WF {v:Value}{d:DataW H}{p:List MemPlace}(hv:Value.okWide Tryz.prog W .any base 30 v)(h:DataW.Trod enc Tryz.prog W 0 (fun _=>true) true 30 v d p):∃x:A0,VR (g0 W) W v (L7.eBg8 x)∧A0.bulk x≤Rows.uptoBulk d:=by
 obtain⟨fuel,ht⟩:=h;obtain⟨cs,rfl,hcs⟩:=okWide_struct u30 hv;obtain⟨x,hr,hb⟩:=AL9 fuel _ _ ht;have hr':FI (g0 W) W cs.toList (L7.eBg8 x).cells:=hr;refine⟨x,?_,hb⟩;have:=hr'.agg
 rw[L7.eBh0]at this ⊢
 exact this
def WE {v:Value}{d:DataW H}{p:List MemPlace}(hv:Value.okWide Tryz.prog W .any base 22 v)(h:DataW.Trod enc Tryz.prog W 0 (fun _=>true) true 22 v d p):∃x:List F6,VR (g0 W) W v (.sl (lst L7.eBh4 x) .ro)∧(Yc F6.mu) x≤Rows.uptoBulk d:=by
 obtain⟨fuel,ht⟩:=h;obtain⟨a,len,cap,rfl⟩:=okWide_slice u22 hv;obtain⟨x,hr,hb⟩:=AM2 fuel _ _ ht;exact⟨x,(hr.2 0 (by simp[V.cells])).2,hb⟩
def u4:Tryz.prog.underlying 4=some .bool:=by kernel_rfl
def AN6 {f:FuncId}{vals:Array Value}{args:List V}(hg:∀n,VR (g0 W) W (.pointer (some ⟨n,0,none⟩)) (N9.gl n))(hcall:∀vals w,(callFunc f vals).run Tryz.prog w= .ok (.enter f vals) w)(law:C3 Tryz.prog f args (.bool true))(hA:Args (g0 W) W vals args):
 Calls Tryz.prog f vals W fun e W'=>e= .returned (.bool true)∧Below W.heap.size W W':=by
 have hc:=law (fun _=>none) (g0 W) W vals (rl0 hg) hA
 rw[hcall]at hc
 refine(callsIn_wide.1 hc).mono fun e W' ⟨v,he,g',y,H',hs,hR,hvy,hy,_⟩=>?_;subst hy;cases hvy;exact⟨he,hs.low⟩
def Bf9 {v0 v1:Value}{x0 x1:V}(h0:VR (g0 W) W v0 x0)(h1:VR (g0 W) W v1 x1):Args (g0 W) W #[v0,v1] [x0,x1]:=⟨rfl,fun i hi=>by
 match i,hi with
 |0,_=>exact h0
 |1,_=>exact h1⟩
end
end Go.Ab
namespace Go.Ab
open Go.RowKit Go.ChangeShapes Go.WideShapes Go.ChangeAt Go.Proofs Go.Proofs.YtnfefddbggfopaaGreatDoor
set_option maxRecDepth 100000
section
variable {H:Type}{enc:TypeId×Value→H}{W:World}{base:Nat}{spare:Nat→Bool}{held:Bool}
def u244:Tryz.prog.underlying 244=some (.array M8.length 243):=by kernel_rfl
def u243:Tryz.prog.underlying 243=some (.struct (Ub Tryz.prog 243)):=by kernel_rfl
def ZZ (n:Nat):Opens enc Tryz.prog W base spare held 243 L7.eBk5 (fun(a:Q2) d=>d= .agg [.lit (.int .i64 a.least),.lit (.int .i64 a.most),.lit (.bool a.typed),.lit (.bool a.cond),.lit (.bool a.scope),.lit (.bool a.span)]) n:=by
 intro cs x h;obtain⟨xs,m,rfl,rfl,hcl,hl,hf⟩:=Fj u243 h;obtain⟨y0,k0,t0⟩:=P7 hl hf 0 (ty:=3) (off:=0) (sz:=1) (by kernel_rfl);obtain⟨y1,k1,t1⟩:=P7 hl hf 1 (ty:=3) (off:=1) (sz:=1) (by kernel_rfl);obtain⟨y2,k2,t2⟩:=P7 hl hf 2 (ty:=4) (off:=2) (sz:=1) (by kernel_rfl);obtain⟨y3,k3,t3⟩:=P7 hl hf 3 (ty:=4) (off:=3) (sz:=1) (by kernel_rfl);obtain⟨y4,k4,t4⟩:=P7 hl hf 4 (ty:=4) (off:=4) (sz:=1) (by kernel_rfl);obtain⟨y5,k5,t5⟩:=P7 hl hf 5 (ty:=4) (off:=5) (sz:=1) (by kernel_rfl);have hxs:=AD0 (hl.trans (by kernel_rfl)) k0 k1 k2 k3 k4 k5;obtain⟨a0,r0,q0⟩:=PX u3 _ _ t0;obtain⟨a1,r1,q1⟩:=PX u3 _ _ t1;obtain⟨a2,r2,q2⟩:=Kv u4 _ _ t2;obtain⟨a3,r3,q3⟩:=Kv u4 _ _ t3;obtain⟨a4,r4,q4⟩:=Kv u4 _ _ t4;obtain⟨a5,r5,q5⟩:=Kv u4 _ _ t5;refine⟨⟨a0,a1,a2,a3,a4,a5⟩,?_,?_⟩
 ·have hc3:cs.length=6:=hcl.trans (by kernel_rfl);have:=((((r0.join r1).join r2).join r3).join r4).join r5;rw[L7.eBl3]
  simpa[S2,hc3,V.cells]using this
 rw[hxs];simp only[E9,J3,q0,q1,q2,q3,q4,q5]
def Ux:∀(l k:List Q2),(RL (H:=H) (fun(a:Q2) d=>d= .agg [.lit (.int .i64 a.least),.lit (.int .i64 a.most),.lit (.bool a.typed),.lit (.bool a.cond),.lit (.bool a.scope),.lit (.bool a.span)]) l
 (k.map fun a=>.agg [.lit (.int .i64 a.least),.lit (.int .i64 a.most),.lit (.bool a.typed),.lit (.bool a.cond),.lit (.bool a.scope),.lit (.bool a.span)]))→l=k
 |[],[],_=>rfl
 |[],_::_,h=>by have:=h.1;simp at this
 |_::_,[],h=>by have:=h.1;simp at this
 |a::l,b::k,h=>by
  have h0:=h.2 0 a _ rfl rfl;have h1:=Ux l k ⟨by simpa using h.1,fun i a d hi hd=>h.2 (i+1) a d (by simpa using hi) (by simpa using hd)⟩;subst h1;obtain⟨a0,a1,a2,a3,a4,a5⟩:=a;obtain⟨b0,b1,b2,b3,b4,b5⟩:=b
  simp at h0
  simp[h0]
def Ym (h:laidMetH Tryz.prog Rows.symbolicTranslatesRow.laid W):VR (g0 W) W (.pointer (some ⟨0,0,none⟩)) (N9.gl 0):=by
 have h':laidMet Tryz.prog Rows.symbolicTranslatesRow.laid W:=h;obtain⟨ps,⟨g',t',cs,fuel,p,q,hg',ht',hvar,hd,_,_⟩,_⟩:=h';obtain rfl:g'=0:=Bl (hg'.symm.trans (by kernel_rfl));obtain rfl:t'=244:=Bl (ht'.symm.trans (by kernel_rfl));obtain⟨l,hr,ds,hds,hl⟩:=XQ u244 (by kernel_rfl) (by decide) (fun n=>ZZ n) hd
 have e:ds=M8.map fun a=>.agg [.lit (.int .i64 a.least),.lit (.int .i64 a.most),.lit (.bool a.typed),.lit (.bool a.cond),.lit (.bool a.scope),.lit (.bool a.span)]:=by
  have e2:(Rows.laid_tidegate_pattern_shapes:DataW Unit)= .agg ds:=hds;have e3:(Rows.laid_tidegate_pattern_shapes:DataW Unit)= .agg (M8.map fun a=>.agg [.lit (.int .i64 a.least),.lit (.int .i64 a.most),.lit (.bool a.typed),.lit (.bool a.cond),.lit (.bool a.scope),.lit (.bool a.span)]):=rfl
  rw[e3]at e2
  exact(DataW.agg.inj e2).symm
 subst e;obtain rfl:=Ux _ _ hl;exact Yr hg' hvar hr
def AX9 (h:laidMetH Tryz.prog Rows.symbolicTranslatesRow.laid W):∀n,VR (g0 W) W (.pointer (some ⟨n,0,none⟩)) (N9.gl n)
 |0=>Ym h
 |_+1=>.bad _
end
end Go.Ab
