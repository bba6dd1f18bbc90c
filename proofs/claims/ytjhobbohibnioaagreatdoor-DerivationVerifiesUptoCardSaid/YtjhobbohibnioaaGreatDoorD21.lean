/- GVB4 GVB5 GVB6 GVB7 GVB8 GVB9 GVIn GVPr -/
import Derived.Test.YtjhobbohibnioaaGreatDoorD20
import Derived.KernelRfl
import Derived.Test.YtjhobbohibnioaaGreatDoorRows
import Derived.WalkKit
import Derived.ProofKit
import Derived.OpenShut
import Derived.Deep.DeepHandedRow
import Derived.Carry
import Derived.Test.YtjhobbohibnioaaGreatDoorTie
set_option linter.all false
open Bool (and_eq_true)
open Go.Ab.Ar (an ar cmp lst lst_eq)
namespace Go.Ab
open Classical
noncomputable section
theorem Af2 :(List.range 5000).all (fun n=>match Cl 0 1 (n:Int)with|some (a,b)=>(a==0)&&(b==(n:Int))|none=>false)=true:=by kernel_rfl
theorem mul_one {N n:Nat} (h:n<5000):Ie N 1 (n:Int)=some (0,(n:Int)):=by
 have h1:=List.all_eq_true.1 Af2 n (List.mem_range.2 h);have e:Cl 0 1 (n:Int)=Cl N 1 (n:Int):=rfl
 rw[e]at h1
 unfold Ie
 cases hm:Cl N 1 (n:Int)with
 |none=>rw[hm]at h1;cases h1
 |some p=>
  obtain⟨a,b⟩:=p
  rw[hm]at h1
  simp only[and_eq_true,beq_iff_eq]at h1
  obtain⟨rfl,rfl⟩:=h1;rfl
theorem Rk {n:Int} (h0:0≤n) (h1:n<1000000000000):Ar.wr .u64 n=n:=by
 show IntKind.wrap .u64 n=n
 have e:IntKind.wrap .u64 n=n % 18446744073709551616:=by
  unfold IntKind.wrap;simp[IntKind.bits,IntKind.signed]
 rw[e];omega
theorem SI {N:Nat} {q:A0} {n:Nat} (hn:n≤1000000) {step:Int×List A0→Option ((Int×List A0) ⊕ List A0)}
 (hs:∀(m:Nat) l,l.length=n→m<n→1≤m→step ((m:Int),l)=some (.inl (((m+min (n - m) m:Nat):Int),l.take m++(l.take m).take (n - m)++l.drop (m+(l.take m).length))))
 (he:∀l,l.length=n→step ((n:Int),l)=some (.inr l)):∀(d m:Nat) (l:List A0) (M:Nat),m+d=n→d<M→1≤m→l.length=n→l.take m=List.replicate m q→loopN step M ((m:Int),l)=some (List.replicate n q):=by
 intro d
 induction d using Nat.strongRecOn with
 | ind d ih=>
  intro m l M h1 h2 h3 h4 h5;obtain⟨M,rfl⟩:∃k,M=k+1:=⟨M - 1,by omega⟩
  by_cases hm:m<n
  ·unfold loopN;rw[hs m l h4 hm h3]
   have hl:(l.take m).length=m:=by rw[List.length_take];omega
   refine ih (n - (m+min (n - m) m)) (by omega) _ _ M (by omega) (by omega) (by omega) ?_ ?_
   ·simp only[List.length_append,List.length_take,List.length_drop];omega
   rw[h5,List.take_replicate];rw[List.take_append_of_le_length (by simp),List.replicate_append_replicate,List.take_replicate]
   congr 1;omega
  have:m=n:=by omega
  subst this;unfold loopN;rw[he l h4]
  rw[List.take_of_length_le (by omega)]at h5
  rw[h5]
theorem Ac2 {N:Nat} (hN:40000000≤N) (q:A0) {n:Nat} (h1:1≤n) (h2:n<5000):K2 N [q] (n:Int)=some (List.replicate n q):=by
 unfold K2;rw[if_neg (Q6 (by omega))];simp only[Option.bind_some,B5,List.length_singleton];rw[Rk (by omega) (by omega),Rk (by omega) (by omega),show((1:Nat):Int)=1 from rfl,mul_one h2];simp only[Option.bind_some];rw[if_neg (by simp only[G9,Z0];simp;omega)];simp only[Option.bind_some];have hw:Ar.wr .i64 (n:Int)=n:=Ba (by omega) (by omega);rw[hw,UB,if_pos (by omega)];simp only[Option.bind_some,Int.toNat_natCast];rw[NU,if_pos (by omega)];simp only[Option.bind_some,List.length_replicate,Int.toNat_zero,Nat.sub_zero,List.take_zero,List.nil_append,List.length_singleton]
 have e1:(if(n:Int) - 0<((1:Nat):Int)then(n:Int) - 0 else((1:Nat):Int))=((1:Nat):Int):=by rw[if_neg (by omega)]
 rw[e1];rw[SI (N:=N) (q:=q) (n:=n) (by omega) ?_ ?_ (n - 1) 1 _ N (by omega) (by omega) (Nat.le_refl _) ?_ ?_]
 ·rfl
 ·intro m l hl hm h0
  have hlt:(l.take m).length=m:=by rw[List.length_take];omega
  dsimp only
  rw[if_pos (W4 (by omega))]
  have s1:N6 l (some (m:Int)) none none=some (l.drop m):=by
   unfold N6;rw[if_pos (by simp;omega)];simp only[Option.getD_some,Option.getD_none,Int.toNat_natCast];rw[List.take_of_length_le (by rw[List.length_drop];omega)]
  rw[s1,TW (by omega)];simp only[Option.bind_some];rw[NU,if_pos (by omega)];simp only[Option.bind_some,Int.toNat_natCast,hl];refine congrArg (fun x=>some (Sum.inl (x,l.take m++(l.take m).take (n - m)++l.drop (m+(l.take m).length)))) ?_;rw[hlt]
  by_cases hc:(n:Int) - (m:Int)<(m:Int)
  ·rw[if_pos hc,D2 (by omega) (by omega)];omega
  rw[if_neg hc,D2 (by omega) (by omega)];omega
 ·intro l hl
  dsimp only
  rw[if_neg (Q6 (by omega))]
 ·simp;omega
 obtain⟨k,rfl⟩:∃k,n=k+1:=⟨n - 1,by omega⟩;simp
def AK (p:A0)(c:Int)(i:Nat):A0:=if p.Op=1∨p.Op=3 then(p.cK[i]?).getD p else if p.Op=2 then(p.cK[c.toNat]?).getD p else(p.cK[0]?).getD p
def Fd (p:A0)(n:Nat):Prop:=if p.Op=0 then n≠0 else if p.Op=1∨p.Op=3 then n≠p.cK.length else if p.Op=4 then n=0 else n≠1
mutual
def OK :A1→A0→Int
 |⟨r,c,ks⟩,p=>if(p.Op≠0∧¬(r.Time=0∧r.Source=0∧r.Seq=0))∨(p.Op≠2∧c≠0)then 3 else if p.Op=2∧(c<0∨(p.cK.length:Int)≤c)then 2 else if Fd p ks.length then 15 else On ks p c 0
def On :List A1→A0→Int→Nat→Int
 |[],_,_,_=>0
 |k::ks,p,c,i=>if OK k (AK p c i)=0 then On ks p c (i+1)else OK k (AK p c i)
end
theorem TY (d:A1)(p:A0):OK d p=if(p.Op≠0∧¬(d.Ref.Time=0∧d.Ref.Source=0∧d.Ref.Seq=0))∨(p.Op≠2∧d.Choice≠0)then 3 else if p.Op=2∧(d.Choice<0∨(p.cK.length:Int)≤d.Choice)then 2 else if Fd p d.Kids.length then 15 else On d.Kids p d.Choice 0:=by
 cases d;simp only[OK]
theorem VM {N:Nat} {ks:List A1} {p:A0} {c:Int} {step:Int→Option (Int ⊕ (Unit ⊕ Int))} {k:Unit ⊕ Int→Option Int} (hl:ks.length<N) (hN:ks.length<1000000000)
 (hs:∀(i:Nat) (h:i<ks.length),step (i:Int)=if cmp .neq (OK ks[i] (AK p c i)) 0=true then some (.inr (.inr (OK ks[i] (AK p c i))))else some (.inl (ar .add .i64 (i:Int) 1)))
 (he:step (ks.length:Int)=some (.inr (.inl ()))) (k0:k (.inl ())=some 0) (k1:∀e,k (.inr e)=some e):(loopN step N 0).bind k=some (On ks p c 0):=by
 have key:∀(d i N:Nat),i+d=ks.length→d<N→(loopN step N (i:Int)).bind k=some (On (ks.drop i) p c i):=by
  intro d
  induction d with
  |zero=>
   intro i N hi hN;obtain⟨N,rfl⟩:∃m,N=m+1:=⟨N - 1,by omega⟩
   have:i=ks.length:=by omega
   subst this;unfold loopN;rw[he,List.drop_eq_nil_of_le (Nat.le_refl _)];simp only[Option.bind_some,On];exact k0
  |succ d ih=>
   intro i N hi hN;obtain⟨N,rfl⟩:∃m,N=m+1:=⟨N - 1,by omega⟩
   have hik:i<ks.length:=by omega
   rw[List.drop_eq_getElem_cons hik,On];unfold loopN;rw[hs i hik,D2 (by omega) (by omega)]
   by_cases hz:OK ks[i] (AK p c i)=0
   ·rw[if_neg (J6 hz),if_pos hz];exact ih (i+1) N (by omega) (by omega)
   rw[if_pos (J5 hz),if_neg hz];exact k1 _
 simpa using key ks.length 0 N (by omega) hl
theorem U3 {p:A0} (hw:WfN p) {c:Int} {i n:Nat} (h:¬Fd p n) (hi:i<n) (hc:p.Op=2→0≤c∧c<p.cK.length):AK p c i∈p.cK∧(p.Op=1∨p.Op=3→p.cK[i]? =some (AK p c i))∧(p.Op=2→p.cK[c.toNat]? =some (AK p c i))∧(4≤p.Op→p.cK=[AK p c i]):=by
 have ho:=hw.op
 unfold Fd at h
 unfold AK
 by_cases h0:p.Op=0
 ·rw[if_pos h0]at h;omega
 rw[if_neg h0]at h
 by_cases h1:p.Op=1∨p.Op=3
 ·rw[if_pos h1]at h
  have hi':i<p.cK.length:=by omega
  rw[if_pos h1,List.getElem?_eq_getElem hi'];exact⟨List.getElem_mem _,fun _=>rfl,fun h=>by omega,fun h=>by omega⟩
 rw[if_neg h1]
 by_cases h2:p.Op=2
 ·have:=hc h2
  have hi':c.toNat<p.cK.length:=by omega
  rw[if_pos h2,List.getElem?_eq_getElem hi'];exact⟨List.getElem_mem _,fun h=>absurd h h1,fun _=>rfl,fun h=>by omega⟩
 rw[if_neg h2];obtain⟨q,hq⟩:=hw.a2 (by omega);rw[hq];exact⟨by simp,fun h=>absurd h h1,fun h=>absurd h h2,fun _=>rfl⟩
theorem We {a b:Int}(h:¬a=b):¬(cmp .eql a b=true):=by rw[Z7 h];simp
theorem KF (p:A0) (d:A1):Ar.or (an (cmp .neq p.Op 0) (Ar.nt (an (cmp .eql d.Ref.Time 0) (an (cmp .eql d.Ref.Source 0) (an (cmp .eql d.Ref.Seq 0) true))))) (an (cmp .neq p.Op 2) (cmp .neq d.Choice 0))=true↔
 (p.Op≠0∧¬(d.Ref.Time=0∧d.Ref.Source=0∧d.Ref.Seq=0))∨(p.Op≠2∧d.Choice≠0):=by
 simp only[G9,H6,K6,I9,C5];simp only[Bool.or_eq_true,and_eq_true,Bool.not_eq_true',decide_eq_false_iff_not,Bool.and_true,ne_eq,Bool.and_eq_false_iff]
 constructor
 ·rintro(⟨h1,h2⟩|h)
  ·exact .inl ⟨h1,fun h=>by omega⟩
  exact .inr h
 rintro(⟨h1,h2⟩|h)
 ·exact .inl ⟨h1,by omega⟩
 exact .inr h
theorem Pw {N:Nat} (hN:40000000≤N):∀(n:Nat) (p:A0) (d:A1),Ml d≤n→FN d≤4096→Mc p→p.pre.length≤64→R4 N n p d=some (OK d p)
 |0,p,d,h,_,_,_=>by rw[AJ]at h;omega
 | n + 1,p,d,h,hs,hw,hpp=>by
  have hal:=EY p;have hsz:=FE d;have hdp:=AJ d;have hl:=BR d.Kids;have ho:=hw.self.op;unfold R4;rw[TY]
  by_cases hf:(p.Op≠0∧¬(d.Ref.Time=0∧d.Ref.Source=0∧d.Ref.Seq=0))∨(p.Op≠2∧d.Choice≠0)
  ·rw[if_pos ((KF p d).2 hf),if_pos hf]
  rw[if_neg (fun e=>hf ((KF p d).1 e)),if_neg hf]
  have rest:∀y5:List A0,(Fd p d.Kids.length↔d.Kids.length≠y5.length)→(∀i,i<y5.length→¬Fd p d.Kids.length→y5[i]? =some (AK p d.Choice i))→(p.Op=2→0≤d.Choice∧d.Choice<p.cK.length)→
   (if cmp .neq (Ar.len d.Kids) (Ar.len y5)=true then
    some 15
   else
    (loopN
     (fun(s6:Int)=>
      (
       if cmp .lss s6 (Ar.len d.Kids)=true then
        (B9 d.Kids s6).bind fun x8=>
        (B9 y5 s6).bind fun x10=>
        (R4 N n x10 x8).bind fun r11=>
        if cmp .neq r11 0=true then
         some (.inr (.inr r11))
        else
         some (.inl (ar .add .i64 s6 1))
       else
        some (.inr (.inl ()))
       :Option ((Int) ⊕ (Unit ⊕ Int))))
     N 0).bind fun s7=>
    match s7 with
    | .inl y12=>
     some 0
    | .inr y13=>
     some y13)=some (if Fd p d.Kids.length then 15 else On d.Kids p d.Choice 0):=by
   intro y5 hb hy hc
   by_cases hbl:Fd p d.Kids.length
   ·rw[if_pos (J5 (by rw[B5,B5];have:=hb.1 hbl;omega)),if_pos hbl]
   have hlen:d.Kids.length=y5.length:=by
    rcases Nat.decEq d.Kids.length y5.length with h|h
    ·exact absurd (hb.2 h) hbl
    exact h
   rw[if_neg (J6 (by rw[B5,B5];omega)),if_neg hbl];refine VM (by omega) (by omega) (fun i hi=>?_) (by rw[if_neg Db]) rfl fun e=>rfl;have hm:=List.getElem_mem hi;rw[if_pos (Ch (by omega)),E2,E2,List.getElem?_eq_getElem hi,hy i (by omega) hbl];simp only[Option.bind_some];rw[Pw hN n _ _ (by have:=Ca hm;omega) (by have:=BQ hm;omega) (hw.arg (U3 hw.self hbl hi hc).1) (by have:=Cc (U3 hw.self hbl hi hc).1;omega)];rfl
  by_cases h2:p.Op=2
  ·rw[if_pos (K9 h2)]
   by_cases hc:d.Choice<0∨(p.cK.length:Int)≤d.Choice
   ·rw[if_pos (by simp only[G9,C4,L3,B5];simpa using hc),if_pos ⟨h2,hc⟩];rfl
   rw[if_neg (by simp only[G9,C4,L3,B5];simpa using hc),if_neg (fun h=>hc h.2)]
   have hc':0≤d.Choice∧d.Choice<p.cK.length:=by omega
   obtain⟨c,hcc⟩:=Int.eq_ofNat_of_zero_le hc'.1
   have hcl:c<p.cK.length:=by omega
   have hsl:N6 p.cK (some d.Choice) (some (ar .add .i64 d.Choice 1)) none=some [p.cK[c]]:=by
    have hb:=hw.self;rw[hcc,D2 (by omega) (by omega),show((c:Int)+1)=((c+1:Nat):Int) by omega];unfold N6;rw[if_pos (by simp;omega)];simp only[Option.getD_some,Option.getD_none,Int.toNat_natCast];rw[show c+1 - c=1 by omega,List.drop_eq_getElem_cons hcl];rfl
   rw[hsl];simp only[Option.bind_some];refine rest [p.cK[c]] ?_ ?_ fun _=>hc'
   ·unfold Fd;rw[if_neg (by omega),if_neg (by omega),if_neg (by omega)];simp
   intro i hi hbl;have hbl':=hbl
   unfold Fd at hbl'
   rw[if_neg (by omega),if_neg (by omega),if_neg (by omega)]at hbl'
   have hi0:i=0:=by simpa using hi
   subst hi0;have:=(U3 hw.self (i:=0) hbl (by omega) fun _=>hc').2.2.1 h2
   rw[hcc,Int.toNat_natCast,List.getElem?_eq_getElem hcl]at this
   simpa[hcc]using this
  rw[if_neg (We h2),if_neg (show¬(p.Op=2∧(d.Choice<0∨(p.cK.length:Int)≤d.Choice))from fun h=>h2 h.1)]
  by_cases h4:p.Op=4
  ·rw[if_pos (K9 h4)];obtain⟨q,hq⟩:=hw.self.a2 (by omega)
   by_cases hk:d.Kids.length=0
   ·rw[if_pos (K9 (by rw[B5];omega)),if_pos (by unfold Fd;rw[if_neg (by omega),if_neg (by omega),if_pos h4];exact hk)];rfl
   rw[if_neg (We (by rw[B5];omega)),hq,B5,Ac2 hN q (by omega) (by omega)];simp only[Option.bind_some];refine rest _ ?_ ?_ fun h=>absurd h h2
   ·unfold Fd;rw[if_neg (by omega),if_neg (by omega),if_pos h4];simp[hk]
   intro i hi hbl;have:=(U3 hw.self (c:=d.Choice) (i:=i) hbl (by simpa using hi) fun h=>absurd h h2).2.2.2 (by omega)
   rw[hq]at this
   rw[List.getElem?_replicate,if_pos (by simpa using hi)]
   simpa using(List.cons.inj this).1
  rw[if_neg (We h4)];simp only[Option.bind_some];refine rest p.cK ?_ ?_ fun h=>absurd h h2
  ·unfold Fd
   by_cases h0:p.Op=0
   ·rw[if_pos h0,hw.self.a0 h0];simp
   rw[if_neg h0]
   by_cases h1:p.Op=1∨p.Op=3
   ·rw[if_pos h1]
   obtain⟨q,hq⟩:=hw.self.a2 (by omega);rw[if_neg h1,if_neg h4,hq];simp
  intro i hi hbl
  have hik:i<d.Kids.length:=by
   unfold Fd at hbl
   by_cases h0:p.Op=0
   ·rw[hw.self.a0 h0]at hi;simp at hi
   rw[if_neg h0]at hbl
   by_cases h1:p.Op=1∨p.Op=3
   ·rw[if_pos h1]at hbl;omega
   obtain⟨q,hq⟩:=hw.self.a2 (by omega)
   rw[if_neg h1,if_neg h4]at hbl;rw[hq]at hi;simp at hi;omega
  have hm:=U3 hw.self (c:=d.Choice) (i:=i) hbl hik fun h=>absurd h h2
  by_cases h1:p.Op=1∨p.Op=3
  ·exact hm.2.1 h1
  by_cases h0:p.Op=0
  ·rw[hw.self.a0 h0]at hi;simp at hi
  have:=hm.2.2.2 (by omega)
  rw[this]at hi ⊢
  have hi0:i=0:=by simpa using hi
  rw[hi0];simp
end
end Go.Ab
namespace Go.Ab
open Classical
noncomputable section
theorem Ak0 :∀{ks:List A1} {p:A0} {c:Int} {j:Nat},On ks p c j=0→∀i (h:i<ks.length),OK ks[i] (AK p c (j+i))=0
 |[],_,_,_,_,i,h=>absurd h (by simp)
 | k::ks,p,c,j,hs,i,h=>by
  rw[On]at hs
  by_cases hz:OK k (AK p c j)=0
  ·rw[if_pos hz]at hs
   cases i with
   |zero=>exact hz
   |succ i=>
    have:=Ak0 hs i (by simpa using h)
    rw[show j+1+i=j+(i+1) by omega]at this
    exact this
  rw[if_neg hz]at hs;exact absurd hs hz
structure Su (d:A1) (p:A0):Prop where
 n:¬Fd p d.Kids.length
 c:p.Op=2→0≤d.Choice∧d.Choice<p.cK.length
 k:∀i (h:i<d.Kids.length),OK d.Kids[i] (AK p d.Choice i)=0
theorem Vw {d:A1} {p:A0} (h:OK d p=0):Su d p:=by
 rw[TY]at h
 split at h
 ·cases h
 split at h
 ·cases h
 split at h
 ·cases h
 next h1 h2 h3=>
 exact⟨h3,fun e=>by
  rcases Classical.em (d.Choice<0∨(p.cK.length:Int)≤d.Choice)with h|h
  ·exact absurd ⟨e,h⟩ h2
  omega,fun i hi=>by have:=Ak0 h i hi;rwa[Nat.zero_add]at this⟩
theorem Su.pos {d:A1} {p:A0} (h:Su d p) (hw:WfN p) (h0:p.Op≠0):1≤d.Kids.length:=by
 have hn:=h.n;have ho:=hw.op
 unfold Fd at hn
 rw[if_neg h0]at hn
 by_cases h1:p.Op=1∨p.Op=3
 ·rw[if_pos h1]at hn
  have:=List.length_pos_iff.2 (hw.a1 (by omega) (by omega));omega
 rw[if_neg h1]at hn
 by_cases h4:p.Op=4
 ·rw[if_pos h4]at hn;omega
 rw[if_neg h4]at hn;omega
theorem Su.one {d:A1}{p:A0}(h:Su d p)(h0:p.Op≠0)(h1:¬(p.Op=1∨p.Op=3))(h4:p.Op≠4):d.Kids.length=1:=by
 have hn:=h.n
 unfold Fd at hn
 rw[if_neg h0,if_neg h1,if_neg h4]at hn
 omega
theorem WS {a b:Int}(h0:0≤a)(h:a<b):ar .rem .i64 a b=a:=by
 have e:ar .rem .i64 a b=a.tmod b:=rfl;rw[e,Int.tmod_eq_of_lt h0 h]
theorem Ac3 (a:Int):ar .rem .i64 a 1=0:=by
 have e:ar .rem .i64 a 1=a.tmod 1:=rfl;rw[e,Int.tmod_one]
theorem Wp {p:A0} (hw:Mc p) (hpp:p.pre.length≤64) {d:A1} (hs:Su d p) (h0:p.Op≠0) (h2:p.Op≠2) {i:Nat} (hi:i<d.Kids.length):B9 p.cK (ar .rem .i64 (i:Int) (Ar.len p.cK))=some (AK p d.Choice i):=by
 have hm:=U3 hw.self hs.n hi hs.c;have hal:=EY p;have ho:=hw.self.op
 by_cases h1:p.Op=1∨p.Op=3
 ·have:=hm.2.1 h1
  have hlt:i<p.cK.length:=by
   rcases Nat.lt_or_ge i p.cK.length with h|h
   ·exact h
   rw[List.getElem?_eq_none h]at this;cases this
  rw[B5,WS (by omega) (by omega),E2];exact this
 have:=hm.2.2.2 (by omega);rw[this,B5,List.length_singleton,show((1:Nat):Int)=1 from rfl,Ac3];rfl
def DL (p:A0):Prop:=p.Op=1∨p.Op=4
def Hf (p:A0)(b s:List PR):List PR:=if DL p then mrg b s else b
def DR (p:A0)(f:Int)(s:List PR):Int:=if DL p∧s≠[]then Bn s+1 else f
mutual
def vlA (l:List A9):A1→A0→List PR→Int→Option (List PR)
 |⟨r,c,ks⟩,p,b,f=>if p.Op=0 then(match EG l r with|some i=>if f≤(i:Int)∧NM l p b i=true then some [⟨p.Var,(i:Int)⟩]else none|none=>none)
  else(Gv l ks p c 0 b f []).bind fun s=>if 5≤p.Op∧¬Dc l p b s=true then none else some s
def Gv (l:List A9):List A1→A0→Int→Nat→List PR→Int→List PR→Option (List PR)
 |[],_,_,_,_,_,s=>some s
 |k::ks,p,c,i,b,f,s=>(vlA l k (AK p c i) (Hf p b s) (DR p f s)).bind fun x=>if CI s x=true then none else Gv l ks p c (i+1) b f (mrg s x)
end
theorem PS (l:List A9)(d:A1)(p:A0)(b:List PR)(f:Int):vlA l d p b f=if p.Op=0 then(match EG l d.Ref with|some i=>if f≤(i:Int)∧NM l p b i=true then some [⟨p.Var,(i:Int)⟩]else none|none=>none)
 else(Gv l d.Kids p d.Choice 0 b f []).bind fun s=>if 5≤p.Op∧¬Dc l p b s=true then none else some s:=by
 cases d;simp only[vlA]
def nxA (l:List A9)(p:A0)(c:Int)(b:List PR)(f:Int)(k:A1)(i:Nat)(s:List PR):Option (List PR):=(vlA l k (AK p c i) (Hf p b s) (DR p f s)).bind fun x=>if CI s x=true then none else some (mrg s x)
theorem Ld (l:List A9) (k:A1) (ks:List A1) (p:A0) (c:Int) (i:Nat) (b:List PR) (f:Int) (s:List PR):Gv l (k::ks) p c i b f s=(nxA l p c b f k i s).bind fun t=>Gv l ks p c (i+1) b f t:=by
 rw[Gv,nxA]
 cases vlA l k (AK p c i) (Hf p b s) (DR p f s)with
 |none=>rfl
 |some x=>
  simp only[Option.bind_some]
  by_cases h:CI s x=true
  ·rw[if_pos h,if_pos h];rfl
  rw[if_neg h,if_neg h];rfl
theorem Xj {S T R:Type} {ks:List A1} {step:S→Option (S ⊕ (R ⊕ Unit))} {rep:Nat→T→S} {nx:A1→Nat→T→Option T} {G:List A1→Nat→T→Option T} {I:Nat→T→Prop} {res:T→R}
 (g0:∀i t,G [] i t=some t) (g1:∀k ks i t,G (k::ks) i t=(nx k i t).bind (G ks (i+1)))
 (hs:∀i (h:i<ks.length) t,I i t→(nx ks[i] i t=none∧step (rep i t)=some (.inr (.inr ())))∨∃t',nx ks[i] i t=some t'∧step (rep i t)=some (.inl (rep (i+1) t'))∧I (i+1) t')
 (he:∀t,I ks.length t→step (rep ks.length t)=some (.inr (.inl (res t)))) {N:Nat} (hN:ks.length<N) {t0:T} (h0:I 0 t0):
 (G ks 0 t0=none∧loopN step N (rep 0 t0)=some (.inr ()))∨∃t,G ks 0 t0=some t∧I ks.length t∧loopN step N (rep 0 t0)=some (.inl (res t)):=by
 have key:∀(d i N:Nat) (t:T),i+d=ks.length→d<N→I i t→(G (ks.drop i) i t=none∧loopN step N (rep i t)=some (.inr ()))∨∃t',G (ks.drop i) i t=some t'∧I ks.length t'∧loopN step N (rep i t)=some (.inl (res t')):=by
  intro d
  induction d with
  |zero=>
   intro i N t hi hN ht;obtain⟨N,rfl⟩:∃m,N=m+1:=⟨N - 1,by omega⟩
   have:i=ks.length:=by omega
   subst this;refine .inr ⟨t,by rw[List.drop_eq_nil_of_le (Nat.le_refl _),g0],ht,?_⟩;unfold loopN;rw[he t ht]
  |succ d ih=>
   intro i N t hi hN ht;obtain⟨N,rfl⟩:∃m,N=m+1:=⟨N - 1,by omega⟩
   have hik:i<ks.length:=by omega
   rw[List.drop_eq_getElem_cons hik,g1];unfold loopN
   rcases hs i hik t ht with⟨h1,h2⟩|⟨t',h1,h2,h3⟩
   ·rw[h1,h2];exact .inl ⟨rfl,rfl⟩
   rw[h1,h2];exact ih (i+1) N t' (by omega) (by omega) h3
 simpa using key ks.length 0 N t0 (by omega) hN h0
theorem Yb {S T R X:Type}{ks:List A1}{step:S→Option (S ⊕ (R ⊕ Unit))}{s0:S}{k:R ⊕ Unit→Option X}{Q:X→Prop}(rep:Nat→T→S)(nx:A1→Nat→T→Option T)(G:List A1→Nat→T→Option T)(I:Nat→T→Prop)(res:T→R){t0:T}(e0:s0=rep 0 t0)
 (g0:∀i t,G [] i t=some t) (g1:∀k ks i t,G (k::ks) i t=(nx k i t).bind (G ks (i+1))) {N:Nat} (hN:ks.length<N) (h0:I 0 t0)
 (hs:∀i (h:i<ks.length) t,I i t→(nx ks[i] i t=none∧step (rep i t)=some (.inr (.inr ())))∨∃t',nx ks[i] i t=some t'∧step (rep i t)=some (.inl (rep (i+1) t'))∧I (i+1) t')
 (he:∀t,I ks.length t→step (rep ks.length t)=some (.inr (.inl (res t))))
 (k1:G ks 0 t0=none→∃r,k (.inr ())=some r∧Q r) (k2:∀t,G ks 0 t0=some t→I ks.length t→∃r,k (.inl (res t))=some r∧Q r):∃r,(loopN step N s0).bind k=some r∧Q r:=by
 subst e0
 rcases Xj g0 g1 hs he hN h0 with⟨h1,h2⟩|⟨t,h1,h2,h3⟩
 ·rw[h2];exact k1 h1
 rw[h3];exact k2 t h1 h2
theorem UC {s x:List PR}(h:x≠[]):Bn (s++x)=Bn x:=by
 unfold Bn;rw[List.getLast?_append]
 cases hx:x.getLast? with
 |none=>exact absurd (List.getLast?_eq_none_iff.1 hx) h
 |some y=>rfl
theorem Zb {l:List A9}{s x:List PR}{f:Int}(hs:s=[]∨LC l f s)(hx:LC l (if s≠[]then Bn s+1 else f) x):Bn (mrg s x)=Bn x:=by
 rcases hs with rfl|hs
 ·rw[GI]
 rw[if_pos hs.ne]at hx
 rw[Nt fun a ha b hb=>by have:=KR hs.gd.asc a ha;have:=hx.ge b hb;omega,UC hx.ne]
theorem Sp {l:List A9} {p:A0} {b s:List PR} {f:Int} (ho:QW l b f) (hs:s=[]∨LC l f s):QW l (Hf p b s) (DR p f s):=by
 unfold Hf DR
 by_cases hc:DL p
 ·rw[if_pos hc]
  rcases hs with rfl|hs
  ·rw[if_neg (fun h=>h.2 rfl),Gf];exact ho
  rw[if_pos ⟨hc,hs.ne⟩];exact ho.next hs
 rw[if_neg hc,if_neg fun h=>hc h.1];exact ho
theorem Yx {l:List A9} {p:A0} {s x:List PR} {f:Int} (hs:s=[]∨LC l f s) (hx:LC l (DR p f s) x) (hm:CI s x=false):LC l f (mrg s x):=by
 rcases hs with rfl|hs
 ·rw[GI]
  unfold DR at hx
  rw[if_neg (fun h=>h.2 rfl)]at hx
  exact hx
 unfold DR at hx
 by_cases hc:DL p
 ·rw[if_pos ⟨hc,hs.ne⟩]at hx
  exact(hs.seq hx).1
 rw[if_neg fun h=>hc h.1]at hx
 exact hs.all hx (ID.1 hm)
theorem Zv {l:List A9} {p:A0} {s x:List PR} {f:Int} (hs:s=[]∨LC l f s) (hx:LC l (DR p f s) x) (hc:DL p):DR p f (mrg s x)=Bn x+1:=by
 have hx':LC l (if s≠[]then Bn s+1 else f) x:=by
  unfold DR at hx
  by_cases h:s=[]
  ·subst h;rw[if_neg (fun h=>h.2 rfl)]at hx;rw[if_neg (fun h=>h rfl)];exact hx
  rw[if_pos ⟨hc,h⟩]at hx;rw[if_pos h];exact hx
 have hne:mrg s x≠[]:=fun e=>by
  have h1:=congrArg List.length e
  rw[MA,List.length_nil]at h1
  have:=List.length_pos_iff.2 hx.ne;omega
 unfold DR;rw[if_pos ⟨hc,hne⟩,Zb hs hx']
end
end Go.Ab
namespace Go.Ab
open Classical
noncomputable section
theorem Ic (p:A0):Ar.or (cmp .eql p.Op 1) (cmp .eql p.Op 4)=true↔DL p:=by
 simp only[G9,C5,DL];simp
theorem Zo {l:List A9}{s:List PR}(h:Gd l s):InS l.length s:=fun x hx=>(h.wf x hx).2
theorem VU {N:Nat}(hN:40000000≤N){l:List A9}(hl:l.length≤4096){a b:List DP}(ha:Gd l (J8 a))(hb:Gd l (J8 b))(hd:Bq (J8 a) (J8 b)):E8 N a b=some ((mrg (J8 a) (J8 b)).map DY):=by
 have la:=ha.len;have lb:=hb.len
 rw[List.length_map]at la lb
 exact Tj hN (n:=l.length) (by omega) (by omega) (by omega) ha.asc hb.asc hd (Zo ha) (Zo hb)
def YM (r:List DP×Bool):Option (List PR):=if r.2=true then some (J8 r.1)else none
theorem Rn {N:Nat} (hN:40000000≤N) {l:List A9} (hl:l.length≤4096) (hchk:Mm l=0) (c:Int):∀(n:Nat) (p:A0) (d:A1) (o:List DP) (f:Int),Ml d≤n→FN d≤4096→Mc p→p.pre.length≤64→OK d p=0→QW l (J8 o) f→
 ∃r,I6 N n ⟨l,c⟩ p d o f=some r∧YM r=vlA l d p (J8 o) f∧(r.2=true→LC l f (J8 r.1))
 |0,p,d,o,f,h,_,_,_,_,_=>by rw[AJ]at h;omega
 | n +1,p,d,o,f,h,hs,hw,hpp,hsu,ho=>by
  have hsz:=FE d;have hdp:=AJ d;have hkl:=BR d.Kids;have hop:=hw.self.op;have hol:=ho.gd.len
  rw[List.length_map]at hol
  unfold I6;rw[PS]
  by_cases h0:p.Op=0
  ·rw [if_pos (K9 h0),if_pos h0];obtain⟨k,hf,hk⟩:=Wa hN hl hchk d.Ref
   dsimp only
   rw[hf];simp only[Option.bind_some]
   cases hp:EG l d.Ref with
   |none=>
    refine⟨([⟨p.Var,(k:Int)⟩],false),?_,rfl,fun h=>by cases h⟩;rw[if_neg (by simp[H6])]
   | some i=>
    have hki:=hk i hp;subst hki;obtain⟨hil,_⟩:=Ga hp
    by_cases hfi:f≤(k:Int)
    ·rw[if_pos (by rw[H6,L3];simpa using hfi),Rv hN (by omega) ho.gd.wf c hw.self.cond hil];refine⟨([⟨p.Var,(k:Int)⟩],NM l p (J8 o) k),rfl,?_,fun _=>⟨⟨fun x hx=>?_,List.pairwise_singleton _ _⟩,fun x hx=>?_,by simp⟩⟩
     ·unfold YM
      by_cases ht:NM l p (J8 o) k=true<;>simp[ht,hfi,dpr]
     ·rw[List.mem_singleton.1 hx];exact⟨hw.self.var h0,by show 0≤(k:Int)∧(k:Int)<l.length;omega⟩
     rw[List.mem_singleton.1 hx];exact hfi
    rw[if_neg (by rw[H6,L3];simpa using hfi)];exact⟨([⟨p.Var,(k:Int)⟩],false),rfl,by simp[YM,hfi],fun h=>by cases h⟩
  rw[if_neg (We h0),if_neg h0];have hS:=Vw hsu;have hpos:=hS.pos hw.self h0
  have kid:∀(i:Nat) (hi:i<d.Kids.length) (o':List DP) (f':Int),QW l (J8 o') f'→∃r,I6 N n ⟨l,c⟩ (AK p d.Choice i) d.Kids[i] o' f'=some r∧YM r=vlA l d.Kids[i] (AK p d.Choice i) (J8 o') f'∧(r.2=true→LC l f' (J8 r.1)):=by
   intro i hi o' f' ho';have hm:=List.getElem_mem hi;have hma:=(U3 hw.self hS.n hi hS.c).1;have h1:=Ca hm;have h2:=BQ hm;have h3:=Cc hma;exact Rn hN hl hchk c n _ _ o' f' (by omega) (by omega) (hw.arg hma) (by omega) (hS.k i hi) ho'
  by_cases h2:p.Op=2
  ·rw[if_pos (K9 h2)];have hc:=hS.c h2;have hone:=hS.one h0 (by omega) (by omega)
   obtain⟨k0,hk0⟩:∃k0,d.Kids=[k0]:=by
    match hk:d.Kids,hone with
    |[k0],_=>exact⟨k0,rfl⟩
   have hi:0<d.Kids.length:=by omega
   obtain⟨r,e1,e2,e3⟩:=kid 0 hi o f ho;have ha:=(U3 hw.self hS.n hi hS.c).2.2.1 h2
   have e4:d.Kids[0]=k0:=by simp[hk0]
   rw[e4]at e1 e2
   have hci:B9 p.cK d.Choice=some (AK p d.Choice 0):=by
    obtain⟨m,hm⟩:=Int.eq_ofNat_of_zero_le hc.1;rw[hm,E2]
    rw[hm,Int.toNat_natCast]at ha
    rw[ha]
   have hk:B9 d.Kids 0=some k0:=by rw[hk0];rfl
   rw[hci,hk];simp only[Option.bind_some];rw[e1];refine⟨r,rfl,?_,e3⟩;rw[hk0,Ld]
   have hnc:¬DL p:=by unfold DL;omega
   simp only[nxA,Hf,DR,hnc,if_false,false_and];rw[←e2];unfold YM;cases r.2
   ·rfl
   simp[Gv,GI,CI,h2]
  rw[if_neg (We h2)]
  refine Yb (ks:=d.Kids) (T:=List PR) (fun i s=>(DR p f s,s.map DY,(i:Int))) (nxA l p d.Choice (J8 o) f) (fun ks i s=>Gv l ks p d.Choice i (J8 o) f s) (fun i s=>(i=0∧s=[])∨LC l f s) (fun s=>s.map DY) (t0:=[]) (by simp[DR])
   (fun i t=>by rw[Gv]) (fun k ks i t=>Ld l k ks p d.Choice i (J8 o) f t) (by omega) (.inl ⟨rfl,rfl⟩) ?_ ?_ (fun h1=>by rw[h1];exact⟨([],false),rfl,rfl,fun h=>by cases h⟩) ?_
  ·intro i hi s hI;have hs':s=[]∨LC l f s:=hI.imp (fun h=>h.2) id;have hon:=Sp (p:=p) ho hs';have gs:Gd l s:=hs'.elim (fun h=>h▸Gd.nil l) fun h=>h.gd;have ls:=gs.len;have hap:Bq (J8 o) s:=hs'.elim (fun h=>h▸fun _ _ y hy=>absurd hy (List.not_mem_nil)) fun h=>ho.apart h
   dsimp only
   rw[if_pos (Ch (by omega)),E2,List.getElem?_eq_getElem hi];simp only[Option.bind_some]
   have e1:((if Ar.or (cmp .eql p.Op 1) (cmp .eql p.Op 4)=true then
    (E8 N o (s.map DY)).bind fun r11=>
    some r11
    else
     some o:Option (List A3)))=some ((Hf p (J8 o) s).map DY):=by
    unfold Hf
    by_cases hc:DL p
    ·rw[if_pos ((Ic p).2 hc),if_pos hc,VU hN hl ho.gd (by rw[X6];exact gs) (by rw[X6];exact hap),X6];rfl
    rw[if_neg (fun h=>hc ((Ic p).1 h)),if_neg hc,Ah8]
   rw[e1];simp only[Option.bind_some]
   have hne:p.cK≠[]:=fun e=>by
    have:=(U3 hw.self hS.n hi hS.c).1
    rw[e]at this;cases this
   have hq:Jx (cmp .neq (Ar.len p.cK) 0)=some ():=by
    unfold Jx;rw[if_pos (J5 (by rw[B5];have:=List.length_pos_iff.2 hne;omega))]
   rw[hq,Wp hw hpp hS h0 h2 hi];simp only[Option.bind_some];obtain⟨r,v1,v2,v3⟩:=kid i hi ((Hf p (J8 o) s).map DY) (DR p f s) (by rw[X6];exact hon)
   rw[X6]at v2
   rw[v1];simp only[Option.bind_some]
   by_cases hok:r.2=true
   ·rw[if_neg (by rw[K6,hok];simp)];have hx:=v3 hok;have lx:=hx.gd.len
    rw[List.length_map]at lx
    have v4:vlA l d.Kids[i] (AK p d.Choice i) (Hf p (J8 o) s) (DR p f s)=some (J8 r.1):=by rw[←v2,YM,if_pos hok]
    rw[ZG hN (by rw[List.length_map];omega) (by omega),X6];simp only[Option.bind_some]
    by_cases hm:CI s (J8 r.1)=true
    ·refine .inl ⟨by simp only[nxA];rw[v4];simp[hm],?_⟩;rw[hm];rfl
    rw[Bool.not_eq_true]at hm
    have hnx:nxA l p d.Choice (J8 o) f d.Kids[i] i s=some (mrg s (J8 r.1)):=by simp only[nxA];rw[v4];simp[hm]
    refine .inr ⟨_,hnx,?_,.inr (Yx hs' hx hm)⟩;rw[hm,if_neg (by simp[K6])]
    have hj:E8 N (s.map DY) r.1=some ((mrg s (J8 r.1)).map DY):=by
     rw[VU hN hl (by rw[X6];exact gs) hx.gd (by rw[X6];exact ID.1 hm),X6]
    have ha:ar .add .i64 (i:Int) 1=((i+1:Nat):Int):=by rw[D2 (by omega) (by omega)];omega
    by_cases hc:DL p
    ·have hlx:=hx.gd.lst hx.ne;rw[if_pos ((Ic p).2 hc),Vb (fun e=>hx.ne (by rw[e];rfl)) (by omega) ⟨hlx.1,by omega⟩,hj];simp only[Option.bind_some];rw[ha,Zv hs' hx hc]
    rw[if_neg (fun h=>hc ((Ic p).1 h)),hj];simp only[Option.bind_some];rw[ha];simp only[DR,hc,false_and,if_false]
   refine .inl ⟨?_,by rw[if_pos (by rw[Bool.not_eq_true]at hok;rw[K6,hok];rfl)]⟩;simp only[nxA];rw[←v2,YM,if_neg hok];rfl
  ·intro s hI
   dsimp only
   rw[if_neg Db]
  intro t h1 h3;rw[h1]
  have hr:LC l f t:=h3.resolve_left fun e=>by omega
  simp only[Option.bind_some]
  by_cases h5:5≤p.Op
  ·rw[if_neg (by simp only[K6,G9,C5];simp;omega)];rw[XE hN (by omega) hw.self.cond ⟨h5,hop.2⟩ ho.gd (by rw[X6];exact hr.gd) (by simpa using hr.ne) (by rw[X6];exact ho.apart hr) c,X6];refine⟨_,rfl,?_,fun _=>by rw[X6];exact hr⟩;unfold YM
   dsimp only
   rw[X6];cases Dc l p (J8 o) t<;>simp[h5]
  rw[if_pos (by simp only[K6,G9,C5];simp;omega),if_neg (fun h=>h5 h.1)];exact⟨_,rfl,by simp only[YM,if_true,X6],fun _=>by rw[X6];exact hr⟩
end
end Go.Ab
namespace Go.Ab
open Classical
noncomputable section
def Ap0 (l:List A9)(p:A0)(s:List PR)(i:Nat):Bool:=match l[i]? with|some e=>decide (e.Typ=p.Typ)&&(!IR s i)&&DO (Lw l [] i) p.Var e p.cL|none=>false
theorem SL {N:Nat} (hN:40000000≤N) {l:List A9} (hl:l.length≤10000) {p:A0} (hc:p.cL.bulk≤16777216) {b s:List PR} (gb:Gd l b) (gs:Gd l s) (hn:s≠[]):
 ∃q,Ac N p l b s=some q∧(Bq b s→q=if 5≤p.Op∧p.Op≤7 then Dc l p b s else true):=by
 rcases Classical.em (Bq b s)with hd|hd
 ·exact⟨_,UJ hN hl hc gb gs hn hd,fun _=>rfl⟩
 have lb:=gb.len;have ls:=gs.len;have hlst:=gs.lst hn;obtain⟨h0,h1,h2,hh⟩:=gs.hd hn;obtain⟨x0,hx0,e0⟩:=UQ hn;obtain⟨x1,hx1,_,e1⟩:=Er hn;have gm:Gd l []:=.nil l
 suffices h:∃q,Ac N p l b s=some q from h.imp fun q h=>⟨h,fun h=>absurd h hd⟩
 unfold Ac;rw[Kx hN (by omega),Ln _ (Nat.le_refl _) gb.asc gs.asc,if_neg hd,hx0,KC hn (by omega),hx1];simp only[Option.bind_some]
 by_cases h6:p.Op=6
 ·rw[if_pos (K9 h6)];obtain⟨y1,hy1,t1⟩:=Iq (l:=l) (i:=x1.At) (by omega) (by omega);obtain⟨y0,hy0,t0⟩:=Iq (l:=l) (i:=x0.At) (by omega) (by omega);rw[hy1,hy0];exact⟨_,rfl⟩
 rw[if_neg (We h6)]
 by_cases h7:p.Op=7
 ·rw[if_pos (K9 h7),Kq hN (by simp) gm.wf];simp only[Option.bind_some];rw[FT hN (Di l (by simp) _) _ _ hc];exact⟨_,rfl⟩
 rw[if_neg (We h7)];obtain⟨n,hnn⟩:=Int.eq_ofNat_of_zero_le hlst.1;obtain⟨a,ha⟩:=Int.eq_ofNat_of_zero_le h0;rw[e0,ha,D2 (a:=((a:Nat):Int)) (by omega) (by omega),show((a:Int)+1)=((a+1:Nat):Int) by omega]
 by_cases h5:p.Op=5
 ·rw[GJ (A:=Unit) (n:=n) (P:=Ap0 l p s) (u:=()) 0 ?_ ?_ n (a+1) N (by omega) (by omega) (by omega)]
  ·generalize (List.range' (a+1) (n - (a+1))).any (Ap0 l p s)=q;cases q
   ·exact⟨true,rfl⟩
   exact⟨false,rfl⟩
  ·intro i _ hi
   have hil:i<l.length:=by omega
   have e:ar .add .i64 (i:Int) 1=i+1:=D2 (by omega) (by omega);rw[if_pos (by rw[H6,W4 (by omega),K9 h5];rfl),Pd hN (by omega),GT hil];simp only[Option.bind_some];rw[Kq hN (by simp) gm.wf];simp only[Option.bind_some,e];rw[FT hN (Di l (by simp) _) _ _ hc];simp only[Option.bind_some,K6,C5];unfold Ap0;simp only[List.getElem?_eq_getElem hil];cases IR s (i:Int)<;>by_cases ht:l[i].Typ=p.Typ<;>cases DO (Lw l [] (i:Int)) p.Var l[i] p.cL<;>simp[ht]
  intro i hi;rw[if_neg (by rw[H6];have:=Q6 (a:=(i:Int)) (b:=x1.At) (by omega);rw[Bool.not_eq_true]at this;rw[this];simp)]
 obtain⟨M,rfl⟩:∃m,N=m+1:=⟨N - 1,by omega⟩;unfold loopN;rw[if_neg (by rw[H6,Z7 h5];simp)];exact⟨true,rfl⟩
theorem Zd {S T R:Type} {m:Nat} {step:S→Option (S ⊕ (R ⊕ Unit))} {rep:Nat→T→S} {I:Nat→T→Prop} {Bad:Prop} {res:T→R}
 (hs:∀i,i<m→∀t,I i t→(Bad∧step (rep i t)=some (.inr (.inr ())))∨∃t',step (rep i t)=some (.inl (rep (i+1) t'))∧I (i+1) t')
 (he:∀t,I m t→step (rep m t)=some (.inr (.inl (res t)))) {N:Nat} (hN:m<N) {t0:T} (h0:I 0 t0):
 (Bad∧loopN step N (rep 0 t0)=some (.inr ()))∨∃t,I m t∧loopN step N (rep 0 t0)=some (.inl (res t)):=by
 have key:∀(d i N:Nat) (t:T),i+d=m→d<N→I i t→(Bad∧loopN step N (rep i t)=some (.inr ()))∨∃t',I m t'∧loopN step N (rep i t)=some (.inl (res t')):=by
  intro d
  induction d with
  |zero=>
   intro i N t hi hN ht;obtain⟨N,rfl⟩:∃m,N=m+1:=⟨N - 1,by omega⟩
   have:i=m:=by omega
   subst this;refine .inr ⟨t,ht,?_⟩;unfold loopN;rw[he t ht]
  |succ d ih=>
   intro i N t hi hN ht;obtain⟨N,rfl⟩:∃m,N=m+1:=⟨N - 1,by omega⟩
   have hik:i<m:=by omega
   unfold loopN
   rcases hs i hik t ht with⟨h1,h2⟩|⟨t',h2,h3⟩
   ·rw[h2];exact .inl ⟨h1,rfl⟩
   rw[h2];exact ih (i+1) N t' (by omega) (by omega) h3
 exact key m 0 N t0 (by omega) hN h0
theorem PU {S T R X:Type}{m:Nat}{step:S→Option (S ⊕ (R ⊕ Unit))}{s0:S}{k:R ⊕ Unit→Option X}{Q:X→Prop}(rep:Nat→T→S)(I:Nat→T→Prop)(Bad:Prop)(res:T→R){t0:T}(e0:s0=rep 0 t0){N:Nat}(hN:m<N)(h0:I 0 t0)
 (hs:∀i,i<m→∀t,I i t→(Bad∧step (rep i t)=some (.inr (.inr ())))∨∃t',step (rep i t)=some (.inl (rep (i+1) t'))∧I (i+1) t')
 (he:∀t,I m t→step (rep m t)=some (.inr (.inl (res t)))) (k1:Bad→∃r,k (.inr ())=some r∧Q r) (k2:∀t,I m t→∃r,k (.inl (res t))=some r∧Q r):∃r,(loopN step N s0).bind k=some r∧Q r:=by
 subst e0
 rcases Zd hs he hN h0 with⟨h1,h2⟩|⟨t,h1,h3⟩
 ·rw[h2];exact k1 h1
 rw[h3];exact k2 t h1
mutual
def Ol :A1→A0→List C6
 |⟨r,c,ks⟩,p=>if p.Op=0 then[⟨p.Var,r⟩]else Ka ks p c 0
def Ka :List A1→A0→Int→Nat→List C6
 |[],_,_,_=>[]
 |k::ks,p,c,i=>Ol k (AK p c i)++Ka ks p c (i+1)
end
theorem QO (d:A1)(p:A0):Ol d p=if p.Op=0 then[⟨p.Var,d.Ref⟩]else Ka d.Kids p d.Choice 0:=by cases d;simp only[Ol]
theorem ZL :∀{ks:List A1} {p:A0} {c:Int} {j i:Nat} (h:i<ks.length) {y:C6},y∈Ol ks[i] (AK p c (j+i))→y∈Ka ks p c j
 |[],_,_,_,i,h,_,_=>absurd h (by simp)
 |k::ks,p,c,j,0,h,y,hy=>by rw[Ka];exact List.mem_append_left _ hy
 |k::ks,p,c,j,i+1,h,y,hy=>by
  rw[Ka];refine List.mem_append_right _ (ZL (i:=i) (by simpa using h) ?_);rw[show j+1+i=j+(i+1) by omega];exact hy
def Fnd (l:List A9)(d:A1)(p:A0):Prop:=∀y∈Ol d p,(EG l y.Ref).isSome=true
theorem Fnd.kid {l:List A9}{d:A1}{p:A0}(h:Fnd l d p)(h0:p.Op≠0){i:Nat}(hi:i<d.Kids.length):Fnd l d.Kids[i] (AK p d.Choice i):=fun y hy=>by
 refine h y ?_;rw[QO,if_neg h0];exact ZL hi (by rwa[Nat.zero_add])
theorem Tw {N:Nat} {p:A0} (hw:Mc p) {d:A1} (hn:¬Fd p d.Kids.length) (hcc:p.Op=2→0≤d.Choice∧d.Choice<p.cK.length) (h0:p.Op≠0) {i:Nat} (hi:i<d.Kids.length):Cr N p d (i:Int)=some (AK p d.Choice i):=by
 have hm:=U3 hw.self hn hi hcc;have ho:=hw.self.op;unfold Cr
 by_cases h1:p.Op=1∨p.Op=3
 ·rw[if_pos (by simp only[G9,C5];simpa using h1),E2,hm.2.1 h1];rfl
 rw[if_neg (by simp only[G9,C5];simpa using h1)]
 by_cases h2:p.Op=2
 ·rw[if_pos (K9 h2)];have hc:=hcc h2;obtain⟨m,hmm⟩:=Int.eq_ofNat_of_zero_le hc.1;have ha:=hm.2.2.1 h2
  rw[hmm,Int.toNat_natCast]at ha
  rw[hmm,E2,ha];rfl
 rw[if_neg (We h2),hm.2.2.2 (by omega)];rfl
theorem Wq {N:Nat}{p:A0}(hw:Mc p){d:A1}(hs:Su d p)(h0:p.Op≠0){i:Nat}(hi:i<d.Kids.length):Cr N p d (i:Int)=some (AK p d.Choice i):=Tw hw hs.n hs.c h0 hi
theorem SP {s:List PR}(ha:Rc s)(hn:s≠[])(f:Int):f≤Hk s↔∀y∈s,f≤y.At:=by
 constructor
 ·intro h y hy;have:=Tv ha y hy;omega
 intro h
 cases s with
 |nil=>exact absurd rfl hn
 |cons x s=>exact h x (by simp)
theorem An5 {s x:List PR}(h:x≠[]):mrg s x≠[]:=fun e=>by
 have h1:=congrArg List.length e
 rw[MA,List.length_nil]at h1
 have:=List.length_pos_iff.2 h;omega
theorem Qk {l:List A9}{s:List PR}(g:Gd l s)(hn:s≠[]){f:Int}(h:f≤Hk s):LC l f s:=⟨g,(SP g.asc hn f).1 h,hn⟩
end
end Go.Ab
namespace Go.Ab
open Classical
noncomputable section
structure RV (l:List A9) (d:A1) (p:A0) (b:List PR) (r:List PR×Bool):Prop where
 gd:r.2=true→Gd l r.1∧r.1≠[]
 eq:∀f,QW l b f→vlA l d p b f=if r.2=true∧f≤Hk r.1 then some r.1 else none
structure RI (l:List A9) (ks:List A1) (p:A0) (c:Int) (b:List PR) (i:Nat) (s:List PR):Prop where
 gd:(i=0∧s=[])∨(Gd l s∧s≠[])
 ap:DL p→Bq b s
 eq:∀f,QW l b f→Gv l ks p c 0 b f []=if s=[]∨f≤Hk s then Gv l (ks.drop i) p c i b f s else none
theorem Yq {N:Nat} (hN:40000000≤N) {l:List A9} (hl:l.length≤4096) (hchk:Mm l=0):∀(n:Nat) (p:A0) (d:A1) (b:List PR),Ml d≤n→FN d≤4096→Mc p→p.pre.length≤64→OK d p=0→Fnd l d p→Gd l b→
 ∃r,Bf N n p l b d=some r∧RV l d p b r
 |0,p,d,b,h,_,_,_,_,_,_=>by rw[AJ]at h;omega
 | n + 1,p,d,b,h,hs,hw,hpp,hsu,hfd,gb=>by
  have hsz:=FE d;have hdp:=AJ d;have hkl:=BR d.Kids;have hop:=hw.self.op;have hbl:=gb.len;unfold Bf
  by_cases h0:p.Op=0
  ·rw[if_pos (K9 h0),SN hN (by omega)];have hf:=hfd ⟨p.Var,d.Ref⟩ (by rw[QO,if_pos h0];simp);obtain⟨i,hi⟩:=Option.isSome_iff_exists.1 hf;obtain⟨hil,_⟩:=Ga hi;rw[hi];simp only[Option.bind_some];rw[Ag9 hN (by omega) gb.wf hw.self.cond hil];refine⟨([⟨p.Var,(i:Int)⟩],NM l p b i),rfl,fun _=>⟨⟨fun x hx=>?_,List.pairwise_singleton _ _⟩,by simp⟩,fun f _=>?_⟩
   ·rw[List.mem_singleton.1 hx];exact⟨hw.self.var h0,by show 0≤(i:Int)∧(i:Int)<l.length;omega⟩
   rw[PS,if_pos h0,hi]
   by_cases ht:NM l p b i=true<;>simp[ht,Hk]
  rw[if_neg (We h0)];have hS:=Vw hsu;have hpos:=hS.pos hw.self h0
  have kid:∀(i:Nat) (hi:i<d.Kids.length) (b':List PR),Gd l b'→∃r,Bf N n (AK p d.Choice i) l b' d.Kids[i]=some r∧RV l d.Kids[i] (AK p d.Choice i) b' r:=by
   intro i hi b' gb';have hm:=List.getElem_mem hi;have hma:=(U3 hw.self hS.n hi hS.c).1;have h1:=Ca hm;have h2:=BQ hm;have h3:=Cc hma;exact Yq hN hl hchk n _ _ b' (by omega) (by omega) (hw.arg hma) (by omega) (hS.k i hi) (hfd.kid h0 hi) gb'
  refine PU (m:=d.Kids.length) (fun i s=>(s,Hf p b s,(i:Int))) (RI l d.Kids p d.Choice b) (∀f,QW l b f→Gv l d.Kids p d.Choice 0 b f []=none) (fun s=>s) (t0:=[]) (by simp[Hf,Gf]) (by omega)
   ⟨.inl ⟨rfl,rfl⟩,fun _ _ _ y hy=>absurd hy List.not_mem_nil,fun f _=>by rw[if_pos (.inl rfl)];rfl⟩ ?_ ?_
   (fun h1=>⟨([],false),rfl,(fun h=>by cases h),fun f ho=>by rw[PS,if_neg h0,h1 f ho];rfl⟩) ?_
  ·intro i hi s hI;have gs:Gd l s:=hI.gd.elim (fun h=>h.2▸Gd.nil l) fun h=>h.1;have ls:=gs.len
   have gob:Gd l (Hf p b s):=by
    unfold Hf
    split
    ·next hc=>exact gb.mrg gs (hI.ap hc)
    exact gb
   obtain⟨r,v1,v2⟩:=kid i hi (Hf p b s) gob
   have rnd:∀f,QW l b f→Gv l d.Kids p d.Choice 0 b f []=if s=[]∨f≤Hk s then(if r.2=true∧DR p f s≤Hk r.1∧CI s r.1=false then Gv l (d.Kids.drop (i+1)) p d.Choice (i+1) b f (mrg s r.1)else none)else none:=by
    intro f ho;rw[hI.eq f ho]
    by_cases hf:s=[]∨f≤Hk s
    ·rw[if_pos hf,if_pos hf,List.drop_eq_getElem_cons hi,Ld,nxA]
     have hs':s=[]∨LC l f s:=by
      rcases hI.gd with h|h
      ·exact .inl h.2
      exact .inr (Qk h.1 h.2 (hf.resolve_left h.2))
     rw[v2.eq _ (Sp ho hs')]
     by_cases h1:r.2=true∧DR p f s≤Hk r.1
     ·rw[if_pos h1];simp only[Option.bind_some]
      by_cases h2:CI s r.1=true
      ·rw[if_pos h2,if_neg (fun h=>by rw[h.2.2]at h2;cases h2)];rfl
      rw[Bool.not_eq_true]at h2
      rw[if_neg (by rw[h2];simp),if_pos ⟨h1.1,h1.2,h2⟩];rfl
     rw[if_neg h1,if_neg fun h=>h1 ⟨h.1,h.2.1⟩];rfl
    rw[if_neg hf,if_neg hf]
   have bad:∀P:Prop,(∀f,QW l b f→(s=[]∨f≤Hk s)→(r.2=true∧DR p f s≤Hk r.1∧CI s r.1=false)→False)→∀f,QW l b f→Gv l d.Kids p d.Choice 0 b f []=none:=by
    intro _ hh f ho;rw[rnd f ho]
    by_cases h1:s=[]∨f≤Hk s
    ·rw[if_pos h1,if_neg (hh f ho h1)]
    rw[if_neg h1]
   dsimp only
   rw[if_pos (Ch (by omega)),Wq hw hS h0 hi,E2,List.getElem?_eq_getElem hi];simp only[Option.bind_some];rw[v1];simp only[Option.bind_some]
   rcases Classical.em (¬r.2=true)with hok|hok
   ·refine .inl ⟨bad True fun f _ _ h=>hok h.1,?_⟩;rw[if_pos (by rw[Bool.not_eq_true]at hok;rw[K6,hok];rfl)]
   have hok:=Classical.not_not.1 hok;rw[if_neg (by rw[K6,hok];simp)];obtain⟨gx,hxn⟩:=v2.gd hok;have lx:=gx.len
   have ha:ar .add .i64 (i:Int) 1=((i+1:Nat):Int):=by rw[D2 (by omega) (by omega)];omega
   generalize hZ:(U6 N s r.1).bind _=Z
   have rest:(DL p→s≠[]→Bn s<Hk r.1)→((∀f,QW l b f→Gv l d.Kids p d.Choice 0 b f []=none)∧Z=some (.inr (.inr ())))∨∃t',Z=some (.inl (t',Hf p b t',((i+1:Nat):Int)))∧RI l d.Kids p d.Choice b (i+1) t':=by
    rw[←hZ];intro hord;rw[Kx hN (by omega),Ln _ (Nat.le_refl _) gs.asc gx.asc]
    rcases Classical.em (¬Bq s r.1)with hap|hap
    ·rw[if_neg hap];exact .inl ⟨bad True fun f _ _ h=>hap (ID.1 h.2.2),rfl⟩
    have hap:=Classical.not_not.1 hap;rw[if_pos hap];simp only[Option.bind_some];rw[if_neg (by simp[K6])];have gm:=gs.mrg gx hap;have lm:=gm.len;have hmn:mrg s r.1≠[]:=An5 hxn;have hms:=ID.2 hap
    have hfr:∀f,((s=[]∨f≤Hk s)∧(r.2=true∧DR p f s≤Hk r.1∧CI s r.1=false))↔f≤Hk (mrg s r.1):=by
     intro f;rw[SP gm.asc hmn]
     constructor
     ·rintro⟨h1,h2,h3,h4⟩ y hy
      rcases Bz.1 hy with hy|hy
      ·have hsn:s≠[]:=fun e=>by rw[e]at hy;cases hy
       exact(SP gs.asc hsn f).1 (h1.resolve_left hsn) y hy
      have hg:=Tv gx.asc y hy
      unfold DR at h3
      by_cases hc:DL p∧s≠[]
      ·rw[if_pos hc]at h3
       have:=h1.resolve_left hc.2;have:=gs.hd hc.2;omega
      rw[if_neg hc]at h3;omega
     intro hy;have hxs:f≤Hk r.1:=(SP gx.asc hxn f).2 fun y h=>hy y (Bz.2 (.inr h));refine⟨?_,hok,?_,hms⟩
     ·by_cases hsn:s=[]
      ·exact .inl hsn
      exact .inr ((SP gs.asc hsn f).2 fun y h=>hy y (Bz.2 (.inl h)))
     unfold DR
     by_cases hc:DL p∧s≠[]
     ·rw[if_pos hc];have:=hord hc.1 hc.2;omega
     rw[if_neg hc];exact hxs
    have heq:∀f,QW l b f→Gv l d.Kids p d.Choice 0 b f []=if mrg s r.1=[]∨f≤Hk (mrg s r.1)then Gv l (d.Kids.drop (i+1)) p d.Choice (i+1) b f (mrg s r.1)else none:=by
     intro f ho;rw[rnd f ho]
     by_cases hq:f≤Hk (mrg s r.1)
     ·have:=(hfr f).2 hq;rw[if_pos this.1,if_pos this.2,if_pos (.inr hq)]
     rw[if_neg (show¬(mrg s r.1=[]∨f≤Hk (mrg s r.1))from fun h=>h.elim hmn hq)]
     by_cases h1:s=[]∨f≤Hk s
     ·rw[if_pos h1,if_neg fun h=>hq ((hfr f).1 ⟨h1,h⟩)]
     rw[if_neg h1]
    by_cases hc:DL p
    ·rw[if_pos ((Ic p).2 hc),Kx hN (by omega),Ln _ (Nat.le_refl _) gb.asc gm.asc]
     by_cases hab:Bq b (mrg s r.1)
     ·rw[if_pos hab];refine .inr ⟨mrg s r.1,?_,.inr ⟨gm,hmn⟩,fun _=>hab,heq⟩;simp only[Option.bind_some];rw[if_neg (by simp[K6]),ha,Hf,if_pos hc]
     rw[if_neg hab];refine .inl ⟨fun f ho=>?_,rfl⟩;rw[heq f ho,if_neg];rintro(h|h)
     ·exact hmn h
     exact hab (ho.apart (Qk gm hmn h))
    rw[if_neg fun h=>hc ((Ic p).1 h),ha];refine .inr ⟨mrg s r.1,?_,.inr ⟨gm,hmn⟩,fun h=>absurd h hc,heq⟩;simp only[Hf,hc,if_false]
   by_cases hc:DL p∧s≠[]
   ·have hsl:=List.length_pos_iff.2 hc.2;rw[if_pos (by rw[H6,(Ic p).2 hc.1,W5 (by rw[B5];omega)];rfl)];obtain⟨x0,hx0,e0⟩:=UQ hxn;obtain⟨x1,hx1,_,e1⟩:=Er hc.2;rw[hx0,KC hc.2 (by omega),hx1];simp only[Option.bind_some]
    by_cases hle:Hk r.1≤Bn s
    ·refine .inl ⟨bad True fun f _ _ h=>?_,by rw[if_pos (by rw[AU];simp;omega)]⟩;have:=h.2.1
     unfold DR at this
     rw[if_pos hc]at this
     omega
    rw[if_neg (by rw[AU];simp;omega)]
    exact rest fun _ _=>by omega
   rw[if_neg (by
    rw[H6];intro h
    rw[and_eq_true]at h
    refine hc ⟨(Ic p).1 h.1,fun e=>?_⟩
    rw[e,MD]at h;exact absurd h.2 (by simp))]
   exact rest fun h1 h2=>absurd ⟨h1,h2⟩ hc
  ·intro s hI
   dsimp only
   rw[if_neg Db]
  intro t h3
  dsimp only
  obtain⟨gt,hne⟩:=h3.gd.resolve_left fun e=>by omega
  obtain⟨q,hq,hqa⟩:=SL hN (by omega) hw.self.cond gb gt hne;rw[hq];refine⟨(t,q),rfl,fun _=>⟨gt,hne⟩,fun f ho=>?_⟩;rw[PS,if_neg h0,h3.eq f ho]
  by_cases hf:f≤Hk t
  ·have hr:=Qk gt hne hf;have:=hqa (ho.apart hr);subst this;rw[if_pos (.inr hf),List.drop_eq_nil_of_le (Nat.le_refl _),Gv];simp only[Option.bind_some]
   by_cases h5:5≤p.Op
   ·rw[if_pos (show 5≤p.Op∧p.Op≤7 from⟨h5,hop.2⟩)]
    by_cases hk:Dc l p b t=true<;>simp[h5,hk,hf]
   rw[if_neg (show¬(5≤p.Op∧p.Op≤7)from fun h=>h5 h.1)];simp[h5,hf]
  rw[if_neg (fun h=>h.elim hne hf),if_neg fun h=>hf h.2];rfl
end
end Go.Ab
namespace Go.Ab
open Classical
noncomputable section
theorem Af5 {S T R:Type} {m:Nat} {step:S→Option (S ⊕ R)} {rep:Nat→T→S} {I:Nat→T→Prop} {res:T→R}
 (hs:∀i,i<m→∀t,I i t→∃t',step (rep i t)=some (.inl (rep (i+1) t'))∧I (i+1) t')
 (he:∀t,I m t→step (rep m t)=some (.inr (res t))) {N:Nat} (hN:m<N) {t0:T} (h0:I 0 t0):
 ∃t,I m t∧loopN step N (rep 0 t0)=some (res t):=by
 have key:∀(d i N:Nat) (t:T),i+d=m→d<N→I i t→∃t',I m t'∧loopN step N (rep i t)=some (res t'):=by
  intro d
  induction d with
  |zero=>
   intro i N t hi hN ht;obtain⟨N,rfl⟩:∃m,N=m+1:=⟨N - 1,by omega⟩
   have:i=m:=by omega
   subst this;refine⟨t,ht,?_⟩;unfold loopN;rw[he t ht]
  |succ d ih=>
   intro i N t hi hN ht;obtain⟨N,rfl⟩:∃m,N=m+1:=⟨N - 1,by omega⟩;unfold loopN;obtain⟨t',h2,h3⟩:=hs i (by omega) t ht;rw[h2];exact ih (i+1) N t' (by omega) (by omega) h3
 exact key m 0 N t0 (by omega) hN h0
theorem TU {S T R X:Type}{m:Nat}{step:S→Option (S ⊕ R)}{s0:S}{k:R→Option X}{x:Option X}(rep:Nat→T→S)(I:Nat→T→Prop)(res:T→R){t0:T}(e0:s0=rep 0 t0){N:Nat}(hN:m<N)(h0:I 0 t0)
 (hs:∀i,i<m→∀t,I i t→∃t',step (rep i t)=some (.inl (rep (i+1) t'))∧I (i+1) t') (he:∀t,I m t→step (rep m t)=some (.inr (res t))) (k1:∀t,I m t→k (res t)=x):(loopN step N s0).bind k=x:=by
 subst e0;obtain⟨t,h1,h2⟩:=Af5 hs he hN h0;rw[h2];exact k1 t h1
mutual
theorem QN :∀(d:A1) (p:A0),(Ol d p).length≤FN d
 |⟨r,c,ks⟩,p=>by
  simp only[Ol,FN]
  split
  ·simp
  have:=Wm ks p c 0;omega
theorem Wm :∀(ks:List A1) (p:A0) (c:Int) (i:Nat),(Ka ks p c i).length≤Gy ks
 |[],_,_,_=>Nat.zero_le _
 |k::ks,p,c,i=>by
  rw[Ka,List.length_append,Gy];have:=QN k (AK p c i);have:=Wm ks p c (i+1);omega
end
def BI (ks:List A1)(p:A0)(c:Int)(i:Nat)(t:List C6):Prop:=t++Ka (ks.drop i) p c i=Ka ks p c 0∧t.length+Gy (ks.drop i)≤4096
theorem BI.next {ks:List A1}{p:A0}{c:Int}{i:Nat}{t:List C6}(h:BI ks p c i t)(hi:i<ks.length):M5 t (Ol ks[i] (AK p c i))=some (t++Ol ks[i] (AK p c i))∧BI ks p c (i+1) (t++Ol ks[i] (AK p c i)):=by
 obtain⟨h1,h2⟩:=h
 rw[List.drop_eq_getElem_cons hi]at h1 h2
 rw[Ka]at h1
 rw[Gy]at h2
 have:=QN ks[i] (AK p c i);refine⟨AV (by omega),by rw[List.append_assoc];exact h1,by rw[List.length_append];omega⟩
theorem BI.start {ks:List A1}{p:A0}{c:Int}(h:Gy ks≤4096):BI ks p c 0 []:=⟨rfl,by simpa using h⟩
theorem BI.stop {ks:List A1}{p:A0}{c:Int}{t:List C6}(h:BI ks p c ks.length t):t=Ka ks p c 0:=by
 have:=h.1
 rw[List.drop_eq_nil_of_le (Nat.le_refl _),Ka,List.append_nil]at this
 exact this
theorem Tm {N:Nat} (hN:40000000≤N):∀(n:Nat) (p:A0) (d:A1),Ml d≤n→FN d≤4096→Mc p→p.pre.length≤64→OK d p=0→K1 N n p d=some (Ol d p)
 |0,p,d,h,_,_,_,_=>by rw[AJ]at h;omega
 | n+1,p,d,h,hs,hw,hpp,hsu=>by
  have hsz:=FE d;have hdp:=AJ d;have hkl:=BR d.Kids;unfold K1;rw[QO]
  by_cases h0:p.Op=0
  ·rw[if_pos (K9 h0),if_pos h0]
  rw[if_neg (We h0),if_neg h0];have hS:=Vw hsu
  have kid:∀(i:Nat) (hi:i<d.Kids.length),K1 N n (AK p d.Choice i) d.Kids[i]=some (Ol d.Kids[i] (AK p d.Choice i)):=by
   intro i hi;have hm:=List.getElem_mem hi;have hma:=(U3 hw.self hS.n hi hS.c).1;have h1:=Ca hm;have h2:=BQ hm;have h3:=Cc hma;exact Tm hN n _ _ (by omega) (by omega) (hw.arg hma) (by omega) (hS.k i hi)
  by_cases h2:p.Op=2
  ·rw[if_pos (K9 h2)];have hc:=hS.c h2;have hone:=hS.one h0 (by omega) (by omega)
   have hi:0<d.Kids.length:=by omega
   have ha:=(U3 hw.self hS.n hi hS.c).2.2.1 h2
   have hci:B9 p.cK d.Choice=some (AK p d.Choice 0):=by
    obtain⟨m,hm⟩:=Int.eq_ofNat_of_zero_le hc.1;rw[hm,E2]
    rw[hm,Int.toNat_natCast]at ha
    rw[ha]
   have hk:B9 d.Kids 0=some d.Kids[0]:=by
    rw[show(0:Int)=((0:Nat):Int)from rfl,E2,List.getElem?_eq_getElem hi]
   rw[hci,hk];simp only[Option.bind_some];rw[kid 0 hi];simp only[Option.bind_some]
   obtain⟨k0,hk0⟩:∃k0,d.Kids=[k0]:=by
    match hk:d.Kids,hone with
    |[k0],_=>exact⟨k0,rfl⟩
   have e4:d.Kids[0]=k0:=by simp[hk0]
   rw[e4,hk0,Ka,Ka,List.append_nil]
  rw[if_neg (We h2)]
  exact TU (m:=d.Kids.length) (fun i t=>(t,(i:Int))) (BI d.Kids p d.Choice) (fun t=>t) (t0:=[]) rfl (by omega) (.start (by omega)) (fun i hi t hI=>by
   dsimp only
   have hne:p.cK≠[]:=fun e=>by
    have:=(U3 hw.self hS.n hi hS.c).1
    rw[e]at this;cases this
   have hq:Jx (cmp .neq (Ar.len p.cK) 0)=some ():=by
    unfold Jx;rw[if_pos (J5 (by rw[B5];have:=List.length_pos_iff.2 hne;omega))]
   obtain⟨e1,e2⟩:=hI.next hi;refine⟨_,?_,e2⟩;rw[if_pos (Ch (by omega)),E2,List.getElem?_eq_getElem hi,hq,Wp hw hpp hS h0 h2 hi];simp only[Option.bind_some];rw[kid i hi];simp only[Option.bind_some];rw[e1];simp only[Option.bind_some]
   rw[D2 (by omega) (by omega)];rfl) (fun t _=>by dsimp only;rw[if_neg Db]) (fun t h1=>by rw[h1.stop])
theorem Sd {N:Nat} (hN:40000000≤N):∀(n:Nat) (p:A0) (d:A1),Ml d≤n→FN d≤4096→Mc p→OK d p=0→Z2 N n p d=some (Ol d p)
 |0,p,d,h,_,_,_=>by rw[AJ]at h;omega
 | n+1,p,d,h,hs,hw,hsu=>by
  have hsz:=FE d;have hdp:=AJ d;have hkl:=BR d.Kids;unfold Z2;rw[QO]
  by_cases h0:p.Op=0
  ·rw[if_pos (K9 h0),if_pos h0]
  rw[if_neg (We h0),if_neg h0];have hS:=Vw hsu
  exact TU (m:=d.Kids.length) (fun i t=>(t,(i:Int))) (BI d.Kids p d.Choice) (fun t=>t) (t0:=[]) rfl (by omega) (.start (by omega)) (fun i hi t hI=>by
   dsimp only
   obtain⟨e1,e2⟩:=hI.next hi;refine⟨_,?_,e2⟩;have hm:=List.getElem_mem hi;have hma:=(U3 hw.self hS.n hi hS.c).1;have h1:=Ca hm;have h2:=BQ hm;rw[if_pos (Ch (by omega)),Wq hw hS h0 hi,E2,List.getElem?_eq_getElem hi];simp only[Option.bind_some];rw[Sd hN n _ _ (by omega) (by omega) (hw.arg hma) (hS.k i hi)];simp only[Option.bind_some];rw[e1];simp only[Option.bind_some]
   rw[D2 (by omega) (by omega)];rfl) (fun t _=>by dsimp only;rw[if_neg Db]) (fun t h1=>by rw[h1.stop])
theorem ZE {N:Nat} (hN:40000000≤N) {p:A0} {d:A1} (hd:Ml d≤N) (hs:FN d≤4096) (hw:Mc p) (hpp:p.pre.length≤64) (hsu:OK d p=0):AB N p d=some ((Ol d p).map (·.Ref)):=by
 unfold AB;rw[Tm hN N p d hd hs hw hpp hsu];simp only[Option.bind_some];have hl:=QN d p
 exact TU (m:=(Ol d p).length) (fun i t=>(t,(i:Int))) (fun i t=>t=((Ol d p).take i).map (·.Ref)) (fun t=>t) (t0:=[]) rfl (by omega) (by simp) (fun i hi t hI=>by
  dsimp only
  have hlt:t.length=i:=by rw[hI];simp;omega
  refine⟨t++[(Ol d p)[i].Ref],?_,by rw[hI,List.take_succ_eq_append_getElem hi,List.map_append];rfl⟩;rw[if_pos (Ch (by omega)),E2,List.getElem?_eq_getElem hi];simp only[Option.bind_some];rw[AV (by simp;omega)];simp only[Option.bind_some]
  rw[D2 (by omega) (by omega)];rfl) (fun t _=>by dsimp only;rw[if_neg Db]) (fun t h1=>by rw[List.take_of_length_le (Nat.le_refl _)]at h1;rw[h1])
theorem LJ {N:Nat} (hN:40000000≤N):∀(n:Nat) (p:A0) (d:A1),Ml d≤n→FN d≤4096→Mc p→p.pre.length≤64→Cp N n p d=some (OK d p)
 |0,p,d,h,_,_,_=>by rw[AJ]at h;omega
 | n+1,p,d,h,hs,hw,hpp=>by
  have hsz:=FE d;have hdp:=AJ d;have hl:=BR d.Kids;have ho:=hw.self.op;have hal:=EY p;unfold Cp;rw[TY]
  by_cases hf:(p.Op≠0∧¬(d.Ref.Time=0∧d.Ref.Source=0∧d.Ref.Seq=0))∨(p.Op≠2∧d.Choice≠0)
  ·rw[if_pos ((KF p d).2 hf),if_pos hf]
  rw[if_neg (fun e=>hf ((KF p d).1 e)),if_neg hf]
  by_cases hc:p.Op=2∧(d.Choice<0∨(p.cK.length:Int)≤d.Choice)
  ·rw[if_pos (by simp only[H6,G9,C5,C4,L3,B5];simpa using hc),if_pos hc]
  rw[if_neg (by simp only[H6,G9,C5,C4,L3,B5];simpa using hc),if_neg hc]
  have hdem:∃lo hi,Bg N p=some (lo,hi)∧((((d.Kids.length:Int)<lo∨(d.Kids.length:Int)>hi))↔Fd p d.Kids.length):=by
   unfold Bg Fd
   by_cases h0:p.Op=0
   ·rw[if_pos (K9 h0),if_pos h0];exact⟨_,_,rfl,by omega⟩
   rw[if_neg (We h0),if_neg h0]
   by_cases h1:p.Op=1∨p.Op=3
   ·rw[if_pos (by simp only[G9,C5];simpa using h1),if_pos h1];exact⟨_,_,rfl,by rw[B5];omega⟩
   rw[if_neg (by simp only[G9,C5];simpa using h1),if_neg h1]
   by_cases h4:p.Op=4
   ·rw[if_pos (K9 h4),if_pos h4];exact⟨_,_,rfl,by omega⟩
   rw[if_neg (We h4),if_neg h4];exact⟨_,_,rfl,by omega⟩
  obtain⟨lo,hi,e1,e2⟩:=hdem;rw[e1];simp only[Option.bind_some]
  by_cases hb:Fd p d.Kids.length
  ·have:=e2.2 hb;rw[if_pos (by simp only[G9,C4,Z0,B5];simpa using this),if_pos hb]
  have:=fun h=>hb (e2.1 h);rw[if_neg (by simp only[G9,C4,Z0,B5];simpa using this),if_neg hb]
  have hcc:p.Op=2→0≤d.Choice∧d.Choice<p.cK.length:=fun h2=>by
   rcases Classical.em (d.Choice<0∨(p.cK.length:Int)≤d.Choice)with h|h
   ·exact absurd ⟨h2,h⟩ hc
   omega
  refine VM (by omega) (by omega) (fun i hi=>?_) (by rw[if_neg Db]) rfl fun e=>rfl
  have h0:p.Op≠0:=fun h0=>by unfold Fd at hb;rw[if_pos h0]at hb;omega
  have hm:=List.getElem_mem hi;have hma:=(U3 hw.self hb hi hcc).1;rw[if_pos (Ch (by omega)),Tw hw hb hcc h0 hi,E2,List.getElem?_eq_getElem hi];simp only[Option.bind_some];rw[LJ hN n _ _ (by have:=Ca hm;omega) (by have:=BQ hm;omega) (hw.arg hma) (by have:=Cc hma;omega)];rfl
def ckD (N:Nat)(p:A0)(d:A1):Int:=if Mn N p=0 then(if FN d≤4096 then OK d p else 5)else Mn N p
theorem Xz {N:Nat} (hN:40000000≤N) {p:A0} (hb:p.bulk≤16777216) {d:A1} (hd:Ml d≤30000000) (hs:FN d≤30000000):V5 N p d=some (ckD N p d):=by
 unfold V5 ckD;rw[WY hN hb];simp only[Option.bind_some]
 by_cases hc:Mn N p=0
 ·rw[if_neg (J6 hc),if_pos hc,Th hN N d (by omega) hs];simp only[Option.bind_some]
  by_cases h5:FN d≤4096
  ·obtain⟨hw,hpp⟩:=Lc hN hb hc;rw[if_neg (U1 (by omega)),if_pos h5,Pw hN N p d (by omega) h5 hw hpp];rfl
  rw[if_pos (W5 (by omega)),if_neg h5]
 rw[if_pos (J5 hc),if_neg hc]
theorem Sc {N:Nat} (hN:40000000≤N) {p:A0} (hb:p.bulk≤16777216) {d:A1} (hd:Ml d≤30000000) (hs:FN d≤30000000):DD N p d=some (ckD N p d):=by
 unfold DD ckD;rw[WU hN hb];simp only[Option.bind_some]
 by_cases hc:Mn N p=0
 ·rw[if_neg (J6 hc),if_pos hc,Kp hN N d (by omega) hs];simp only[Option.bind_some]
  by_cases h5:FN d≤4096
  ·obtain⟨hw,hpp⟩:=Lc hN hb hc;rw[if_neg (U1 (by omega)),if_pos h5,LJ hN N p d (by omega) h5 hw hpp];rfl
  rw[if_pos (W5 (by omega)),if_neg h5]
 rw[if_pos (J5 hc),if_neg hc]
theorem ZI {N:Nat} {p:A0} {d:A1} (h:ckD N p d=0):Mn N p=0∧FN d≤4096∧OK d p=0:=by
 unfold ckD at h
 by_cases hc:Mn N p=0
 ·rw[if_pos hc]at h
  by_cases h5:FN d≤4096
  ·rw[if_pos h5]at h;exact⟨hc,h5,h⟩
  rw[if_neg h5]at h;cases h
 rw[if_neg hc]at h;exact absurd h hc
theorem Rm {N:Nat} (hN:40000000≤N) {p:A0} (hb:p.bulk≤16777216) {l:List A9} (hl:l.length≤4096) {d:A1} (hd:Ml d≤30000000) (hs:FN d≤30000000):∃v,K4 N p l d=some v∧Bv N p l d=some v:=by
 unfold K4 Bv;rw[Xz hN hb hd hs,Sc hN hb hd hs];simp only[Option.bind_some]
 by_cases hk:ckD N p d=0
 case neg=>exact⟨_,by rw[if_pos (J5 hk)],by rw[if_pos (J5 hk)]⟩
 rw[if_neg (J6 hk),if_neg (J6 hk),Vz hN,Ac5 hN];simp only[Option.bind_some]
 by_cases hcs:Mm l=0
 case neg=>exact⟨_,by rw[if_pos (J5 hcs)],by rw[if_pos (J5 hcs)]⟩
 obtain⟨hc,h5,hsu⟩:=ZI hk;obtain⟨hw,hpp⟩:=Lc hN hb hc;rw[if_neg (J6 hcs),if_neg (J6 hcs),ZE hN (by omega) h5 hw hpp hsu,Sd hN N p d (by omega) h5 hw hsu];simp only[Option.bind_some];have hbl:=QN d p
 rw [IF (l:=(Ol d p).map (·.Ref)) (fun r=> !(EG l r).isSome) (by rw[List.length_map];omega) (by rw[List.length_map];omega) (fun i x hx hi=>by
     rw[List.length_map]at hi
     rw[if_pos (Ch (by rw[List.length_map];omega)),E2,hx];simp only[Option.bind_some];obtain⟨k,hf,_⟩:=Wa hN hl hcs x;rw[hf];simp only[Option.bind_some,K6];rw[D2 (by omega) (by omega)]
     cases(EG l x).isSome<;>rfl) (by rw[if_neg Db]),
  IF (l:=Ol d p) (fun y=> !(EG l y.Ref).isSome) (by omega) (by omega) (fun i x hx hi=>by
   rw[if_pos (Ch (by omega)),E2,hx];simp only[Option.bind_some];rw[SN hN (by omega)];simp only[Option.bind_some];rw[D2 (by omega) (by omega)]
   cases hp:EG l x.Ref with
   |none=>rw[if_pos (W4 (show(-1:Int)<0 by omega))];rfl
   |some k=>rw[if_neg (Q6 (show¬((k:Int)<0) by omega))];rfl) (by rw[if_neg Db])]
 rw[List.any_map]
 by_cases ha:(Ol d p).any (fun y=> !(EG l y.Ref).isSome)=true
 ·have ha':(Ol d p).any ((fun r=> !(EG l r).isSome)∘fun y=>y.Ref)=true:=ha;rw[if_pos ha',if_pos ha];exact⟨6,rfl,rfl⟩
 have ha':¬(Ol d p).any ((fun r=> !(EG l r).isSome)∘fun y=>y.Ref)=true:=ha;rw[if_neg ha',if_neg ha]
 have hfd:Fnd l d p:=by
  rw[Bool.not_eq_true,List.any_eq_false]at ha
  intro y hy;have:=ha y hy
  cases hq:(EG l y.Ref).isSome with
  |true=>rfl
  |false=>rw[hq]at this;exact absurd rfl this
 have ho:QW l (J8 []) 0:=⟨.nil l,fun x hx=>absurd hx List.not_mem_nil,Int.le_refl _,by omega⟩;obtain⟨r,v1,v2,v3⟩:=Rn hN hl hcs 0 N p d [] 0 (by omega) h5 hw hpp hsu ho;obtain⟨q,w1,w2⟩:=Yq hN hl hcs N p d [] (by omega) h5 hw hpp hsu hfd (.nil l);simp only[Option.bind_some];unfold Fj;rw[v1,w1];simp only[Option.bind_some];have e:=w2.eq 0 ho
 rw[show J8 []=[]from rfl]at v2
 rw[←v2]at e
 have hq:r.2=q.2:=by
  by_cases h2:q.2=true
  ·obtain⟨g,hn⟩:=w2.gd h2;have:=g.hd hn
   rw[if_pos ⟨h2,this.1⟩]at e
   unfold YM at e
   by_cases hr:r.2=true
   ·rw[hr,h2]
   rw[if_neg hr]at e;cases e
  rw[if_neg fun h=>h2 h.1]at e
  unfold YM at e
  by_cases hr:r.2=true
  ·rw[if_pos hr]at e;cases e
  rw[Bool.not_eq_true]at hr h2
  rw[hr,h2]
 rw[hq];cases q.2
 ·exact⟨18,rfl,rfl⟩
 exact⟨0,rfl,rfl⟩
theorem few1 {N:Nat} (hN:40000000≤N) (l:List A6):∃b,FZ N l=some b∧True:=by
 unfold FZ;refine PU (m:=min l.length 40) (fun i _=>(i:Int)) (fun _ _=>True) True (fun _=>()) (t0:=()) rfl (by omega) trivial (fun i hi t _=>?_) (fun t _=>?_) (fun _=>⟨_,rfl,trivial⟩) (fun t _=>⟨_,rfl,trivial⟩)
 ·have hil:i<l.length:=by omega
  rw[if_pos (by rw[H6,Ch (by omega),W4 (by omega)];rfl),E2,List.getElem?_eq_getElem hil];simp only[Option.bind_some]
  split
  ·exact .inl ⟨trivial,rfl⟩
  refine .inr ⟨(),?_,trivial⟩;rw[D2 (by omega) (by omega)];rfl
 rw[if_neg];rw[H6];intro h
 rw[and_eq_true,C4,C4,decide_eq_true_eq,decide_eq_true_eq,B5]at h
 omega
theorem few4 {N:Nat} (hN:40000000≤N) (l:List A9):∃b,CF N l=some b∧(b=true→l.length≤20):=by
 unfold CF;refine PU (m:=min l.length 20) (fun i _=>(i:Int)) (fun _ _=>True) True (fun _=>()) (t0:=()) rfl (by omega) trivial (fun i hi t _=>?_) (fun t _=>?_) (fun _=>⟨false,rfl,fun h=>by cases h⟩) (fun t _=>⟨_,rfl,fun h=>?_⟩)
 ·have hil:i<l.length:=by omega
  rw[if_pos (by rw[H6,Ch (by omega),W4 (by omega)];rfl),E2,List.getElem?_eq_getElem hil];simp only[Option.bind_some];obtain⟨b,hb,_⟩:=few1 hN l[i].Values;unfold Iw;rw[hb];simp only[Option.bind_some]
  split
  ·exact .inl ⟨trivial,rfl⟩
  refine .inr ⟨(),?_,trivial⟩;rw[D2 (by omega) (by omega)];rfl
 ·rw[if_neg];rw[H6];intro h
  rw[and_eq_true,C4,C4,decide_eq_true_eq,decide_eq_true_eq,B5]at h
  omega
 rw[AU,decide_eq_true_eq,B5]at h
 omega
theorem At2 {N:Nat} (hN:40000000≤N) {p:A0} (hb:p.bulk≤16777216) (l:List A9) {d:A1} (hs:FN d≤30000000):∃b,Gj N p l d=some b∧(b=true→l.length≤20∧Ml d≤20∧FN d≤4101):=by
 unfold Gj;obtain⟨b1,h1⟩:=few9 hN hb;rw[h1];simp only[Option.bind_some]
 cases b1 with
 |false=>exact⟨false,rfl,fun h=>by cases h⟩
 | true=>
  obtain⟨b2,h2,h3⟩:=few4 hN l;rw[if_pos rfl,h2];simp only[Option.bind_some]
  cases b2 with
  |false=>exact⟨false,rfl,fun h=>by cases h⟩
  |true=>
   rw[if_pos rfl,Ah1 hN hs];exact⟨_,rfl,fun h=>by have:=of_decide_eq_true h;exact⟨h3 rfl,this⟩⟩
theorem PT {N:Nat} (hN:40000000≤N) (haw:Ag N=some true) {p:A0} (hb:p.bulk≤16777216) (l:List A9) {d:A1} (hs:FN d≤16777216):R7 N p l d=some true:=by
 unfold R7;obtain⟨b,h1,h2⟩:=At2 hN hb l (d:=d) (by omega);rw[h1,haw];simp only[Option.bind_some]
 cases b with
 |false=>rfl
 | true=>
  obtain⟨h3,h4,h5⟩:=h2 rfl;rw[if_neg (by simp[K6]),Kp hN N d (by omega) (by omega)];simp only[Option.bind_some];obtain⟨v,v1,v2⟩:=Rm hN hb (l:=l) (by omega) (d:=d) (by omega) (by omega);rw[v1,v2];simp only[Option.bind_some];rw[if_pos trivial,K9 (show v=v from rfl)]
  try simp only[if_true]
  by_cases c1:cmp .gtr (FN d:Int) 100=true
  ·rw[if_pos c1]
   by_cases c2:cmp .leq (FN d:Int) 4096=true
   ·rw[if_pos c2]
   rw[if_neg c2]
  rw[if_neg c1]
end
end Go.Ab
namespace Go.Ab
open Go.RowKit Go.ChangeShapes Go.WideShapes Go.ChangeAt Go.Proofs Go.Proofs.YtjhobbohibnioaaGreatDoor
set_option maxRecDepth 100000
mutual
def ZD :B4→V
 |⟨op,args,var,field,kind,val⟩=>.agg [.int .i64 op,.sl (Tb args) .ro,.int .i64 var,.int .i64 field,.int .i64 kind,.int .i64 val.Kind,.int .i64 val.Num,.str val.Text]
def Tb :List B4→List V
 |[]=>[]
 |a::r=>ZD a::Tb r
end
theorem Pt :∀l:List B4,Tb l=l.map ZD
 |[]=>by simp[Tb]
 |a::r=>by simp[Tb,Pt r]
mutual
def Ah4 :A0→V
 |⟨op,args,typ,var,scope,span,c⟩=>.agg [.int .i64 op,.sl (Ta args) .ro,.int .i64 typ,.int .i64 var,.int .i64 scope,.int .i64 span,.int .i64 c.Op,.sl (c.cK.map ZD) .ro,.int .i64 c.Var,.int .i64 c.Field,.int .i64 c.Kind,.int .i64 c.Value.Kind,.int .i64 c.Value.Num,.str c.Value.Text]
def Ta :List A0→List V
 |[]=>[]
 |a::r=>Ah4 a::Ta r
end
theorem Ps :∀l:List A0,Ta l=l.map Ah4
 |[]=>by simp[Ta]
 |a::r=>by simp[Ta,Ps r]
mutual
def Td :A1→V
 |⟨r,c,ks⟩=>.agg [.int .i64 r.Time,.int .i64 r.Source,.int .i64 r.Seq,.int .i64 c,.sl (Tc ks) .ro]
def Tc :List A1→List V
 |[]=>[]
 |a::r=>Td a::Tc r
end
theorem Pu :∀l:List A1,Tc l=l.map Td
 |[]=>by simp[Tc]
 |a::r=>by simp[Tc,Pu r]
noncomputable def Lz (x:A6):V:=.agg [.int .i64 x.Kind,.int .i64 x.Num,.str x.Text]
noncomputable def IJ (x:A9):V:=.agg [.int .i64 x.Source,.int .i64 x.Seq,.int .i64 x.Typ,.int .i64 x.Time,.sl (lst Lz x.Values) .ro]
noncomputable def Ah5 (x:O7):V:=.agg [.int .i64 x.Time,.int .i64 x.Source,.int .i64 x.Seq]
noncomputable def LS (x:C6):V:=.agg [.int .i64 x.Var,.int .i64 x.Ref.Time,.int .i64 x.Ref.Source,.int .i64 x.Ref.Seq]
noncomputable def Xw (x:DV):V:=.agg [.sl (lst LS x.cQ) .ro]
noncomputable def Hj (x:D4):V:=.agg [.sl (lst IJ x.cP) .ro,.int .i64 x.count]
noncomputable def BH (x:A3):V:=.agg [.int .i64 x.v,.int .i64 x.at_]
noncomputable def Ia (x:B3):V:=.agg [.int .i64 x.d.Ref.Time,.int .i64 x.d.Ref.Source,.int .i64 x.d.Ref.Seq,.int .i64 x.d.Choice,.sl (lst Td x.d.Kids) .ro,.sl (lst BH x.s) .ro]
noncomputable def Hi (x:A8):V:=.agg [.int .i64 x.d.Ref.Time,.int .i64 x.d.Ref.Source,.int .i64 x.d.Ref.Seq,.int .i64 x.d.Choice,.sl (lst Td x.d.Kids) .ro,.bool x.ok]
noncomputable def IT (x:Gs):V:=.agg [.sl (lst IJ x.cP) .ro,.bool x.full]
noncomputable def DX (x:V6):V:=.agg [.int .i64 x.cT,.int .i64 x.at_]
noncomputable def IS (x:E1):V:=.agg [.int .i64 x.source,.int .i64 x.seq]
noncomputable def IU (x:B8):V:=.agg [.int .i64 x.node,.int .i64 x.first,.int .i64 x.last,.int .i64 x.outer]
noncomputable def Av (x:B2):V:=.agg [.int .i64 x.Var,.int .i64 x.At]
noncomputable def GN (x:Eb):V:=.agg [.sl (lst Av x.s) .ro,.int .i64 x.d.Ref.Time,.int .i64 x.d.Ref.Source,.int .i64 x.d.Ref.Seq,.int .i64 x.d.Choice,.sl (lst Td x.d.Kids) .ro]
noncomputable def KK (x:L1):V:=.agg [.int .i64 x.cR,.int .i64 x.most,.bool x.cN,.bool x.cond,.bool x.scope,.bool x.span]
noncomputable def JU (x:List A9):V:=.sl (lst IJ x) .ro
noncomputable def Ah6 (x:AZ):V:=.agg [.sl (lst JU x.cS) .ro]
noncomputable def JV (x:M2):V:=.agg [.sl (lst JU x.env.cS) .ro,.int .i64 x.own,.int .i64 x.event.Source,.int .i64 x.event.Seq,.int .i64 x.event.Typ,.int .i64 x.event.Time,.sl (lst Lz x.event.Values) .ro,.fmap QH QG]
noncomputable def Mk (x:C2):V:=.agg [.int .i64 x.Kind,.int .i64 x.Count,.int .i64 x.Value.Kind,.int .i64 x.Value.Num,.str x.Value.Text]
noncomputable def Mj (x:List A1):V:=.sl (lst Td x) .ro
noncomputable def HZ (x:List A3):V:=.sl (lst BH x) .ro
noncomputable def DK (x:List V6):V:=.sl (lst DX x) .ro
noncomputable def Hh (x:List (List V6)):V:=.sl (lst DK x) .ro
noncomputable def Gp (x:List B2):V:=.sl (lst Av x) .ro
noncomputable instance encsInst :I8 where
 eAv4:=Lz
 eAu9:=fun _=>rfl
 eAw0:=ZD
 eAv9:=fun⟨_,_,_,_,_,_⟩=>by simp only[ZD,Pt];rfl
 eAv1:=Ah4
 eAv2:=fun⟨_,_,_,_,_,_,_⟩=>by simp only[Ah4,Ps];rfl
 eAu4:=IJ
 eAv0:=fun _=>rfl
 eAw3:=Ah5
 eAw7:=fun _=>rfl
 eAu8:=LS
 eAv5:=fun _=>rfl
 eAx6:=Xw
 eAy7:=fun _=>rfl
 eAu5:=Td
 eAu7:=fun⟨_,_,_⟩=>by simp only[Td,Pu];rfl
 eAx7:=Hj
 eAy8:=fun _=>rfl
 eAu3:=BH
 eAv6:=fun _=>rfl
 eAx8:=Ia
 eAy9:=fun _=>rfl
 eAv8:=Hi
 eAx1:=fun _=>rfl
 eAx9:=IT
 eAz0:=fun _=>rfl
 eAx3:=DX
 eAz1:=fun _=>rfl
 eAw4:=IS
 eAw8:=fun _=>rfl
 eAv7:=IU
 eAx2:=fun _=>rfl
 eAu6:=Av
 eAv3:=fun _=>rfl
 eAy0:=GN
 eAz2:=fun _=>rfl
 eAx4:=KK
 eAy6:=fun _=>rfl
 eAy1:=Ah6
 eAz3:=fun _=>rfl
 eAy2:=JV
 eAz4:=fun _=>rfl
 eAy3:=Mk
 eAz5:=fun _=>rfl
 eAw2:=JU
 eAw9:=fun _=>rfl
 eAw1:=Mj
 eAw6:=fun _=>rfl
 eAw5:=HZ
 eAx0:=fun _=>rfl
 eAy4:=Hh
 eAz6:=fun _=>rfl
 eAx5:=DK
 eAz7:=fun _=>rfl
 eAy5:=Gp
 eAz8:=fun _=>rfl
def Pb {α:Type}(f:α→Nat):List α→Nat
 |[]=>1
 |a::l=>f a+Pb f l
section
variable [J9]{H:Type}{enc:TypeId×Value→H}{W:World}{base:Nat}{spare:Nat→Bool}{held:Bool}
abbrev bk (d:DataW H):Nat:=Rows.uptoBulk d
noncomputable def NI (P:Program)(t:TypeId):Array Field:=match P.underlying t with|some (.struct fs)=>fs|_=> #[]
theorem G8 {P:Program} {t ty off sz:Nat} {xs:List (DataW H×List MemPlace)} {cs:List Value} {n:Nat} (hl:xs.length=(NI P t).size)
 (hf:∀(i:Nat) (f:Field),(NI P t)[i]? =some f→DataW.trod enc P W base spare held n f.type ((cs.drop f.offset).take (P.cellsOf f.type))=xs[i]?) (i:Nat)
 (h:((NI P t)[i]?.map fun f=>(f.type,f.offset,P.cellsOf f.type))=some (ty,off,sz)):∃y,xs[i]? =some y∧DataW.trod enc P W base spare held n ty ((cs.drop off).take sz)=some y:=by
 cases hi:(NI P t)[i]? with
 |none=>rw[hi]at h;cases h
 |some f=>
  rw[hi]at h
  simp only[Option.map_some,Option.some.injEq,Prod.mk.injEq]at h
  obtain⟨rfl,rfl,rfl⟩:=h;exact UT hl hf i hi
theorem Y8.down {α:Type}{P:Program}{t:TypeId}{f:α→V}{R:α→DataW H→Prop}{n:Nat}(h:Y8 enc P W base spare held t f R (n+1)):Y8 enc P W base spare held t f R n:=fun cs x hx=>h cs x (DataW.trod_le (Nat.le_succ n) hx)
theorem Y8.imp {α:Type}{P:Program}{t:TypeId}{f:α→V}{R R':α→DataW H→Prop}{n:Nat}(h:Y8 enc P W base spare held t f R n)(hi:∀a d,R a d→R' a d):Y8 enc P W base spare held t f R' n:=fun cs x hx=>by
 obtain⟨a,r,q⟩:=h cs x hx;exact⟨a,r,hi _ _ q⟩
theorem Y8.congr {α:Type}{P:Program}{t:TypeId}{f g:α→V}{R:α→DataW H→Prop}{n:Nat}(h:Y8 enc P W base spare held t f R n)(hg:∀x,f x=g x):Y8 enc P W base spare held t g R n:=fun cs x hx=>by
 obtain⟨a,r,q⟩:=h cs x hx;exact⟨a,by rw[←hg];exact r,q⟩
theorem Ak3 {α:Type} {f:α→Nat}:∀(l:List α) (ds:List (DataW H)),RL (fun a d=>f a≤bk d) l ds→Pb f l≤Rows.uptoBulkAll ds+1
 |[],ds,h=>by simp[Pb]
 |a::l,[],h=>by have:=h.1;simp at this
 |a::l,d::ds,h=>by
  have h1:f a≤bk d:=h.2 0 a d rfl rfl;have h2:=Ak3 l ds ⟨by simpa using h.1,fun i a d hi hd=>h.2 (i+1) a d (by simpa using hi) (by simpa using hd)⟩;simp only[Pb,Rows.uptoBulkAll];have h3:bk d=Rows.uptoBulk d:=rfl;omega
theorem RQ {α:Type}{f:α→Nat}{l:List α}{d:DataW H}(h:RS (fun a d=>f a≤bk d) l d):Pb f l≤bk d:=by
 obtain⟨_,h⟩:=h
 rcases h with⟨rfl,rfl⟩|⟨es,sp,rfl,h⟩
 ·simp[bk,Rows.uptoBulk,Pb]
 have:=Ak3 l es h;simp only[bk,Rows.uptoBulk];omega
theorem Ts :∀l:List B4,B4.bulks l=Pb B4.bulk l
 |[]=>by simp[B4.bulks,Pb]
 |a::l=>by simp[B4.bulks,Pb,Ts l]
theorem ZK {l:List B4}{d:DataW H}(h:RS (fun a d=>B4.bulk a≤bk d) l d):B4.bulks l≤bk d:=by rw[Ts];exact RQ h
theorem PE :∀l:List A0,A0.bulks l=Pb A0.bulk l
 |[]=>by simp[A0.bulks,Pb]
 |a::l=>by simp[A0.bulks,Pb,PE l]
theorem Tt {l:List A0}{d:DataW H}(h:RS (fun a d=>A0.bulk a≤bk d) l d):A0.bulks l≤bk d:=by rw[PE];exact RQ h
theorem PF :∀l:List A1,A1.bulks l=Pb A1.bulk l
 |[]=>by simp[A1.bulks,Pb]
 |a::l=>by simp[A1.bulks,Pb,PF l]
theorem XD {l:List A1}{d:DataW H}(h:RS (fun a d=>A1.bulk a≤bk d) l d):A1.bulks l≤bk d:=by rw[PF];exact RQ h
theorem UG {β:Type}{xs:List β}{a b c:β}(hl:xs.length=3)(h0:xs[0]? =some a)(h1:xs[1]? =some b)(h2:xs[2]? =some c):xs=[a,b,c]:=by
 match xs,hl with
 |[x0,x1,x2],_=>simp at h0 h1 h2;rw[h0,h1,h2]
theorem An8 {β:Type}{xs:List β}{a b c d e:β}(hl:xs.length=5)(h0:xs[0]? =some a)(h1:xs[1]? =some b)(h2:xs[2]? =some c)(h3:xs[3]? =some d)(h4:xs[4]? =some e):xs=[a,b,c,d,e]:=by
 match xs,hl with
 |[x0,x1,x2,x3,x4],_=>simp at h0 h1 h2 h3 h4;rw[h0,h1,h2,h3,h4]
theorem Zi {β:Type}{xs:List β}{a b c d e f:β}(hl:xs.length=6)(h0:xs[0]? =some a)(h1:xs[1]? =some b)(h2:xs[2]? =some c)(h3:xs[3]? =some d)(h4:xs[4]? =some e)(h5:xs[5]? =some f):xs=[a,b,c,d,e,f]:=by
 match xs,hl with
 |[x0,x1,x2,x3,x4,x5],_=>simp at h0 h1 h2 h3 h4 h5;rw[h0,h1,h2,h3,h4,h5]
theorem An7 {β:Type}{xs:List β}{a b c d e f g:β}(hl:xs.length=7)(h0:xs[0]? =some a)(h1:xs[1]? =some b)(h2:xs[2]? =some c)(h3:xs[3]? =some d)(h4:xs[4]? =some e)(h5:xs[5]? =some f)(h6:xs[6]? =some g):xs=[a,b,c,d,e,f,g]:=by
 match xs,hl with
 |[x0,x1,x2,x3,x4,x5,x6],_=>simp at h0 h1 h2 h3 h4 h5 h6;rw[h0,h1,h2,h3,h4,h5,h6]
theorem u27 :Tryz.prog.underlying 27=some (.struct (NI Tryz.prog 27)):=by kernel_rfl
theorem u23 :Tryz.prog.underlying 23=some (.slice 27):=by kernel_rfl
theorem u3 :Tryz.prog.underlying 3=some (.int .i64):=by kernel_rfl
theorem Ao (n:Nat):Y8 enc Tryz.prog W base spare held 3 (V.int .i64) (fun a d=>(fun _:Int=>1) a≤bk d) n:=(Lm u3).imp fun a d h=>by subst h;simp[bk,Rows.uptoBulk]
theorem u25 :Tryz.prog.underlying 25=some (.struct (NI Tryz.prog 25)):=by kernel_rfl
theorem u9 :Tryz.prog.underlying 9=some .string:=by kernel_rfl
theorem Am9 (n:Nat):Y8 enc Tryz.prog W base spare held 9 V.str (fun a d=>(fun s:ByteArray=>s.size+1) a≤bk d) n:=(WZ u9).imp fun a d h=>by obtain⟨rfl,_⟩:=h;simp[bk,Rows.uptoBulk]
def A6.mu (x:A6):Nat:=(fun _:Int=>1) x.Kind+(fun _:Int=>1) x.Num+(fun s:ByteArray=>s.size+1) x.Text+1
theorem VF (n:Nat):Y8 enc Tryz.prog W base spare held 25 I8.eAv4 (fun(a:A6) d=>A6.mu a≤bk d) n:=by
 intro cs x h;obtain⟨xs,m,hm,rfl,hcl,hl,hf⟩:=DataW.trod_struct u25 h;subst hm;obtain⟨y0,k0,t0⟩:=G8 hl hf 0 (ty:=3) (off:=0) (sz:=1) (by kernel_rfl);obtain⟨y1,k1,t1⟩:=G8 hl hf 1 (ty:=3) (off:=1) (sz:=1) (by kernel_rfl);obtain⟨y2,k2,t2⟩:=G8 hl hf 2 (ty:=9) (off:=2) (sz:=1) (by kernel_rfl);have hxs:=UG (hl.trans (by kernel_rfl)) k0 k1 k2;obtain⟨a0,r0,q0⟩:=Ao _ _ _ t0;obtain⟨a1,r1,q1⟩:=Ao _ _ _ t1;obtain⟨a2,r2,q2⟩:=Am9 _ _ _ t2;refine⟨⟨a0,a1,a2⟩,?_,?_⟩
 ·have hc3:cs.length=3:=hcl.trans (by kernel_rfl);have:=(r0.join r1).join r2;rw[I8.eAu9]
  simp only[lst_eq]at this ⊢
  simpa[List.take_of_length_le,hc3,V.cells]using this
 simp only[bk]at q0 q1 q2
 rw[hxs];simp only[List.map_cons,List.map_nil,bk,Rows.uptoBulk,Rows.uptoBulkAll,A6.mu];omega
theorem Ae3 :∀n:Nat,Y8 enc Tryz.prog W base spare held 27 I8.eAw0 (fun(a:B4) d=>B4.bulk a≤bk d) n:=by
 intro n
 induction n with
 |zero=>intro cs x h;simp[DataW.trod]at h
 |succ n ih=>
 intro cs x h;obtain⟨xs,m,hm,rfl,hcl,hl,hf⟩:=DataW.trod_struct u27 h;cases hm;obtain⟨y0,k0,t0⟩:=G8 hl hf 0 (ty:=3) (off:=0) (sz:=1) (by kernel_rfl);obtain⟨y1,k1,t1⟩:=G8 hl hf 1 (ty:=23) (off:=1) (sz:=1) (by kernel_rfl);obtain⟨y2,k2,t2⟩:=G8 hl hf 2 (ty:=3) (off:=2) (sz:=1) (by kernel_rfl);obtain⟨y3,k3,t3⟩:=G8 hl hf 3 (ty:=3) (off:=3) (sz:=1) (by kernel_rfl);obtain⟨y4,k4,t4⟩:=G8 hl hf 4 (ty:=3) (off:=4) (sz:=1) (by kernel_rfl);obtain⟨y5,k5,t5⟩:=G8 hl hf 5 (ty:=25) (off:=5) (sz:=3) (by kernel_rfl);have hxs:=Zi (hl.trans (by kernel_rfl)) k0 k1 k2 k3 k4 k5;obtain⟨a0,r0,q0⟩:=Ao _ _ _ t0
 obtain⟨a1,r1,q1⟩:∃a:List B4,Dr (g0 W) W ((cs.drop 1).take 1) (V.sl (a.map I8.eAw0) .ro).cells∧B4.bulks a≤bk y1.1:=by
  cases n with
  |zero=>simp[DataW.trod]at t1
  |succ n=>
   obtain⟨a,r,q⟩:=DI u23 (show 0<Tryz.prog.cellsOf 27 by rw[show Tryz.prog.cellsOf 27=8 by kernel_rfl];decide) ih.down _ _ t1;exact⟨a,r,ZK q⟩
 obtain⟨a2,r2,q2⟩:=Ao _ _ _ t2;obtain⟨a3,r3,q3⟩:=Ao _ _ _ t3;obtain⟨a4,r4,q4⟩:=Ao _ _ _ t4;obtain⟨a5,r5,q5⟩:=VF _ _ _ t5;refine⟨⟨a0,a1,a2,a3,a4,a5⟩,?_,?_⟩
 ·have hc3:cs.length=8:=hcl.trans (by kernel_rfl)
  rw[I8.eAu9]at r5
  have:=((((r0.join r1).join r2).join r3).join r4).join r5;rw[I8.eAv9]
  simp only[lst_eq]at this ⊢
  simpa[List.take_of_length_le,hc3,V.cells]using this
 simp only[bk]at q0 q1 q2 q3 q4 q5
 rw[hxs]
 simp only[List.map_cons,List.map_nil,bk,Rows.uptoBulk,Rows.uptoBulkAll,B4.bulk,A6.mu]at *
 omega
theorem u29 :Tryz.prog.underlying 29=some (.struct (NI Tryz.prog 29)):=by kernel_rfl
theorem u22 :Tryz.prog.underlying 22=some (.slice 29):=by kernel_rfl
theorem Ae2 :∀n:Nat,Y8 enc Tryz.prog W base spare held 29 I8.eAv1 (fun(a:A0) d=>A0.bulk a≤bk d) n:=by
 intro n
 induction n with
 |zero=>intro cs x h;simp[DataW.trod]at h
 |succ n ih=>
 intro cs x h;obtain⟨xs,m,hm,rfl,hcl,hl,hf⟩:=DataW.trod_struct u29 h;cases hm;obtain⟨y0,k0,t0⟩:=G8 hl hf 0 (ty:=3) (off:=0) (sz:=1) (by kernel_rfl);obtain⟨y1,k1,t1⟩:=G8 hl hf 1 (ty:=22) (off:=1) (sz:=1) (by kernel_rfl);obtain⟨y2,k2,t2⟩:=G8 hl hf 2 (ty:=3) (off:=2) (sz:=1) (by kernel_rfl);obtain⟨y3,k3,t3⟩:=G8 hl hf 3 (ty:=3) (off:=3) (sz:=1) (by kernel_rfl);obtain⟨y4,k4,t4⟩:=G8 hl hf 4 (ty:=3) (off:=4) (sz:=1) (by kernel_rfl);obtain⟨y5,k5,t5⟩:=G8 hl hf 5 (ty:=3) (off:=5) (sz:=1) (by kernel_rfl);obtain⟨y6,k6,t6⟩:=G8 hl hf 6 (ty:=27) (off:=6) (sz:=8) (by kernel_rfl);have hxs:=An7 (hl.trans (by kernel_rfl)) k0 k1 k2 k3 k4 k5 k6;obtain⟨a0,r0,q0⟩:=Ao _ _ _ t0
 obtain⟨a1,r1,q1⟩:∃a:List A0,Dr (g0 W) W ((cs.drop 1).take 1) (V.sl (a.map I8.eAv1) .ro).cells∧A0.bulks a≤bk y1.1:=by
  cases n with
  |zero=>simp[DataW.trod]at t1
  |succ n=>
   obtain⟨a,r,q⟩:=DI u22 (show 0<Tryz.prog.cellsOf 29 by rw[show Tryz.prog.cellsOf 29=14 by kernel_rfl];decide) ih.down _ _ t1;exact⟨a,r,Tt q⟩
 obtain⟨a2,r2,q2⟩:=Ao _ _ _ t2;obtain⟨a3,r3,q3⟩:=Ao _ _ _ t3;obtain⟨a4,r4,q4⟩:=Ao _ _ _ t4;obtain⟨a5,r5,q5⟩:=Ao _ _ _ t5;obtain⟨a6,r6,q6⟩:=Ae3 _ _ _ t6;refine⟨⟨a0,a1,a2,a3,a4,a5,a6⟩,?_,?_⟩
 ·have hc3:cs.length=14:=hcl.trans (by kernel_rfl)
  rw[I8.eAv9]at r6
  have:=(((((r0.join r1).join r2).join r3).join r4).join r5).join r6;rw[I8.eAv2]
  simp only[lst_eq]at this ⊢
  simpa[List.take_of_length_le,hc3,V.cells]using this
 simp only[bk]at q0 q1 q2 q3 q4 q5 q6
 rw[hxs]
 simp only[List.map_cons,List.map_nil,bk,Rows.uptoBulk,Rows.uptoBulkAll,A0.bulk,A6.mu]at *
 omega
theorem u78 :Tryz.prog.underlying 78=some (.struct (NI Tryz.prog 78)):=by kernel_rfl
theorem u76 :Tryz.prog.underlying 76=some (.slice 25):=by kernel_rfl
theorem Ad8 (n:Nat):Y8 enc Tryz.prog W base spare held 76 (fun l:List A6=>.sl (lst I8.eAv4 l) .ro) (fun a d=>(Pb A6.mu) a≤bk d) n:=
 Y8.down (((DI u76 (show 0<Tryz.prog.cellsOf 25 by rw[show Tryz.prog.cellsOf 25=3 by kernel_rfl];decide) (VF n)).imp fun a d h=>RQ h).congr fun x=>by rw[lst_eq])
def A9.mu (x:A9):Nat:=(fun _:Int=>1) x.Source+(fun _:Int=>1) x.Seq+(fun _:Int=>1) x.Typ+(fun _:Int=>1) x.Time+(Pb A6.mu) x.Values+1
theorem Ad7 (n:Nat):Y8 enc Tryz.prog W base spare held 78 I8.eAu4 (fun(a:A9) d=>A9.mu a≤bk d) n:=by
 intro cs x h;obtain⟨xs,m,hm,rfl,hcl,hl,hf⟩:=DataW.trod_struct u78 h;subst hm;obtain⟨y0,k0,t0⟩:=G8 hl hf 0 (ty:=3) (off:=0) (sz:=1) (by kernel_rfl);obtain⟨y1,k1,t1⟩:=G8 hl hf 1 (ty:=3) (off:=1) (sz:=1) (by kernel_rfl);obtain⟨y2,k2,t2⟩:=G8 hl hf 2 (ty:=3) (off:=2) (sz:=1) (by kernel_rfl);obtain⟨y3,k3,t3⟩:=G8 hl hf 3 (ty:=3) (off:=3) (sz:=1) (by kernel_rfl);obtain⟨y4,k4,t4⟩:=G8 hl hf 4 (ty:=76) (off:=4) (sz:=1) (by kernel_rfl);have hxs:=An8 (hl.trans (by kernel_rfl)) k0 k1 k2 k3 k4;obtain⟨a0,r0,q0⟩:=Ao _ _ _ t0;obtain⟨a1,r1,q1⟩:=Ao _ _ _ t1;obtain⟨a2,r2,q2⟩:=Ao _ _ _ t2;obtain⟨a3,r3,q3⟩:=Ao _ _ _ t3;obtain⟨a4,r4,q4⟩:=Ad8 _ _ _ t4;refine⟨⟨a0,a1,a2,a3,a4⟩,?_,?_⟩
 ·have hc3:cs.length=5:=hcl.trans (by kernel_rfl);have:=(((r0.join r1).join r2).join r3).join r4;rw[I8.eAv0]
  simp only[lst_eq]at this ⊢
  simpa[List.take_of_length_le,hc3,V.cells]using this
 simp only[bk]at q0 q1 q2 q3 q4
 rw[hxs];simp only[List.map_cons,List.map_nil,bk,Rows.uptoBulk,Rows.uptoBulkAll,A9.mu];omega
theorem u30 :Tryz.prog.underlying 30=some (.slice 78):=by kernel_rfl
theorem Ae1 (n:Nat):Y8 enc Tryz.prog W base spare held 30 (fun l:List A9=>.sl (lst I8.eAu4 l) .ro) (fun a d=>(Pb A9.mu) a≤bk d) n:=
 Y8.down (((DI u30 (show 0<Tryz.prog.cellsOf 78 by rw[show Tryz.prog.cellsOf 78=5 by kernel_rfl];decide) (Ad7 n)).imp fun a d h=>RQ h).congr fun x=>by rw[lst_eq])
theorem u46 :Tryz.prog.underlying 46=some (.struct (NI Tryz.prog 46)):=by kernel_rfl
theorem u37 :Tryz.prog.underlying 37=some (.slice 46):=by kernel_rfl
theorem u44 :Tryz.prog.underlying 44=some (.struct (NI Tryz.prog 44)):=by kernel_rfl
def O7.mu (x:O7):Nat:=(fun _:Int=>1) x.Time+(fun _:Int=>1) x.Source+(fun _:Int=>1) x.Seq+1
theorem Ae0 (n:Nat):Y8 enc Tryz.prog W base spare held 44 I8.eAw3 (fun(a:O7) d=>O7.mu a≤bk d) n:=by
 intro cs x h;obtain⟨xs,m,hm,rfl,hcl,hl,hf⟩:=DataW.trod_struct u44 h;subst hm;obtain⟨y0,k0,t0⟩:=G8 hl hf 0 (ty:=3) (off:=0) (sz:=1) (by kernel_rfl);obtain⟨y1,k1,t1⟩:=G8 hl hf 1 (ty:=3) (off:=1) (sz:=1) (by kernel_rfl);obtain⟨y2,k2,t2⟩:=G8 hl hf 2 (ty:=3) (off:=2) (sz:=1) (by kernel_rfl);have hxs:=UG (hl.trans (by kernel_rfl)) k0 k1 k2;obtain⟨a0,r0,q0⟩:=Ao _ _ _ t0;obtain⟨a1,r1,q1⟩:=Ao _ _ _ t1;obtain⟨a2,r2,q2⟩:=Ao _ _ _ t2;refine⟨⟨a0,a1,a2⟩,?_,?_⟩
 ·have hc3:cs.length=3:=hcl.trans (by kernel_rfl);have:=(r0.join r1).join r2;rw[I8.eAw7]
  simp only[lst_eq]at this ⊢
  simpa[List.take_of_length_le,hc3,V.cells]using this
 simp only[bk]at q0 q1 q2
 rw[hxs];simp only[List.map_cons,List.map_nil,bk,Rows.uptoBulk,Rows.uptoBulkAll,O7.mu];omega
theorem Ad9 :∀n:Nat,Y8 enc Tryz.prog W base spare held 46 I8.eAu5 (fun(a:A1) d=>A1.bulk a≤bk d) n:=by
 intro n
 induction n with
 |zero=>intro cs x h;simp[DataW.trod]at h
 |succ n ih=>
 intro cs x h;obtain⟨xs,m,hm,rfl,hcl,hl,hf⟩:=DataW.trod_struct u46 h;cases hm;obtain⟨y0,k0,t0⟩:=G8 hl hf 0 (ty:=44) (off:=0) (sz:=3) (by kernel_rfl);obtain⟨y1,k1,t1⟩:=G8 hl hf 1 (ty:=3) (off:=3) (sz:=1) (by kernel_rfl);obtain⟨y2,k2,t2⟩:=G8 hl hf 2 (ty:=37) (off:=4) (sz:=1) (by kernel_rfl);have hxs:=UG (hl.trans (by kernel_rfl)) k0 k1 k2;obtain⟨a0,r0,q0⟩:=Ae0 _ _ _ t0;obtain⟨a1,r1,q1⟩:=Ao _ _ _ t1
 obtain⟨a2,r2,q2⟩:∃a:List A1,Dr (g0 W) W ((cs.drop 4).take 1) (V.sl (a.map I8.eAu5) .ro).cells∧A1.bulks a≤bk y2.1:=by
  cases n with
  |zero=>simp[DataW.trod]at t2
  |succ n=>
   obtain⟨a,r,q⟩:=DI u37 (show 0<Tryz.prog.cellsOf 46 by rw[show Tryz.prog.cellsOf 46=5 by kernel_rfl];decide) ih.down _ _ t2;exact⟨a,r,XD q⟩
 refine⟨⟨a0,a1,a2⟩,?_,?_⟩
 ·have hc3:cs.length=5:=hcl.trans (by kernel_rfl)
  rw[I8.eAw7]at r0
  have:=(r0.join r1).join r2;rw[I8.eAu7]
  simp only[lst_eq]at this ⊢
  simpa[List.take_of_length_le,hc3,V.cells]using this
 simp only[bk]at q0 q1 q2
 rw[hxs]
 simp only[List.map_cons,List.map_nil,bk,Rows.uptoBulk,Rows.uptoBulkAll,A1.bulk,O7.mu]at *
 omega
theorem QQ {v:Value}{d:DataW H}{p:List MemPlace}(hv:Value.okWide Tryz.prog W .any base 29 v)(h:DataW.Trod enc Tryz.prog W 0 (fun _=>true) true 29 v d p):∃x:A0,VR (g0 W) W v (I8.eAv1 x)∧A0.bulk x≤Rows.uptoBulk d:=by
 obtain⟨fuel,ht⟩:=h;obtain⟨cs,rfl,hcs⟩:=okWide_struct u29 hv;obtain⟨x,hr,hb⟩:=Ae2 fuel _ _ ht;have hr':Dr (g0 W) W cs.toList (I8.eAv1 x).cells:=hr;refine⟨x,?_,hb⟩;have:=hr'.agg
 rw[I8.eAv2]at this ⊢
 exact this
theorem Tx {v:Value}{d:DataW H}{p:List MemPlace}(hv:Value.okWide Tryz.prog W .any base 30 v)(h:DataW.Trod enc Tryz.prog W 0 (fun _=>true) true 30 v d p):∃x:List A9,VR (g0 W) W v (.sl (lst I8.eAu4 x) .ro)∧(Pb A9.mu) x≤Rows.uptoBulk d:=by
 obtain⟨fuel,ht⟩:=h;obtain⟨a,len,cap,rfl⟩:=okWide_slice u30 hv;obtain⟨x,hr,hb⟩:=Ae1 fuel _ _ ht;exact⟨x,(hr.2 0 (by simp[V.cells])).2,hb⟩
theorem Mp {v:Value}{d:DataW H}{p:List MemPlace}(hv:Value.okWide Tryz.prog W .any base 46 v)(h:DataW.Trod enc Tryz.prog W 0 (fun _=>true) true 46 v d p):∃x:A1,VR (g0 W) W v (I8.eAu5 x)∧A1.bulk x≤Rows.uptoBulk d:=by
 obtain⟨fuel,ht⟩:=h;obtain⟨cs,rfl,hcs⟩:=okWide_struct u46 hv;obtain⟨x,hr,hb⟩:=Ad9 fuel _ _ ht;have hr':Dr (g0 W) W cs.toList (I8.eAu5 x).cells:=hr;refine⟨x,?_,hb⟩;have:=hr'.agg
 rw[I8.eAu7]at this ⊢
 exact this
theorem u4 :Tryz.prog.underlying 4=some .bool:=by kernel_rfl
theorem Ag0 {f:FuncId}{vals:Array Value}{args:List V}(hg:∀n,VR (g0 W) W (.pointer (some ⟨n,0,none⟩)) (J9.gl n))(hcall:∀vals w,(callFunc f vals).run Tryz.prog w= .ok (.enter f vals) w)(law:B6 Tryz.prog f args (.bool true))(hA:Args (g0 W) W vals args):
 Calls Tryz.prog f vals W fun e W'=>e= .returned (.bool true)∧Below W.heap.size W W':=by
 have hc:=law (fun _=>none) (g0 W) W vals (rl0 hg) hA
 rw[hcall]at hc
 refine(callsIn_wide.1 hc).mono fun e W' ⟨v,he,g',y,H',hs,hR,hvy,hy,_⟩=>?_;subst hy;cases hvy;exact⟨he,hs.low⟩
theorem At7 {v0 v1 v2:Value}{x0 x1 x2:V}(h0:VR (g0 W) W v0 x0)(h1:VR (g0 W) W v1 x1)(h2:VR (g0 W) W v2 x2):Args (g0 W) W #[v0,v1,v2] [x0,x1,x2]:=⟨rfl,fun i hi=>by
 match i,hi with
 |0,_=>exact h0
 |1,_=>exact h1
 |2,_=>exact h2⟩
end
end Go.Ab
namespace Go.Ab
open Go.RowKit Go.ChangeShapes Go.WideShapes Go.ChangeAt Go.Proofs Go.Proofs.YtjhobbohibnioaaGreatDoor
set_option maxRecDepth 100000
section
variable {H:Type}{enc:TypeId×Value→H}{W:World}{base:Nat}{spare:Nat→Bool}{held:Bool}
theorem u220 :Tryz.prog.underlying 220=some (.array H7.length 219):=by kernel_rfl
theorem u219 :Tryz.prog.underlying 219=some (.struct (NI Tryz.prog 219)):=by kernel_rfl
theorem Uy (n:Nat):Y8 enc Tryz.prog W base spare held 219 I8.eAx4 (fun(a:L1) d=>d= .agg [.lit (.int .i64 a.cR),.lit (.int .i64 a.most),.lit (.bool a.cN),.lit (.bool a.cond),.lit (.bool a.scope),.lit (.bool a.span)]) n:=by
 intro cs x h;obtain⟨xs,m,rfl,rfl,hcl,hl,hf⟩:=DataW.trod_struct u219 h;obtain⟨y0,k0,t0⟩:=G8 hl hf 0 (ty:=3) (off:=0) (sz:=1) (by kernel_rfl);obtain⟨y1,k1,t1⟩:=G8 hl hf 1 (ty:=3) (off:=1) (sz:=1) (by kernel_rfl);obtain⟨y2,k2,t2⟩:=G8 hl hf 2 (ty:=4) (off:=2) (sz:=1) (by kernel_rfl);obtain⟨y3,k3,t3⟩:=G8 hl hf 3 (ty:=4) (off:=3) (sz:=1) (by kernel_rfl);obtain⟨y4,k4,t4⟩:=G8 hl hf 4 (ty:=4) (off:=4) (sz:=1) (by kernel_rfl);obtain⟨y5,k5,t5⟩:=G8 hl hf 5 (ty:=4) (off:=5) (sz:=1) (by kernel_rfl);have hxs:=Zi (hl.trans (by kernel_rfl)) k0 k1 k2 k3 k4 k5;obtain⟨a0,r0,q0⟩:=Lm u3 _ _ t0;obtain⟨a1,r1,q1⟩:=Lm u3 _ _ t1;obtain⟨a2,r2,q2⟩:=GE u4 _ _ t2;obtain⟨a3,r3,q3⟩:=GE u4 _ _ t3;obtain⟨a4,r4,q4⟩:=GE u4 _ _ t4;obtain⟨a5,r5,q5⟩:=GE u4 _ _ t5;refine⟨⟨a0,a1,a2,a3,a4,a5⟩,?_,?_⟩
 ·have hc3:cs.length=6:=hcl.trans (by kernel_rfl);have:=((((r0.join r1).join r2).join r3).join r4).join r5;rw[I8.eAy6]
  simpa[List.take_of_length_le,hc3,V.cells]using this
 rw[hxs];simp only[List.map_cons,List.map_nil,q0,q1,q2,q3,q4,q5]
theorem ON :∀(l k:List L1),(RL (H:=H) (fun(a:L1) d=>d= .agg [.lit (.int .i64 a.cR),.lit (.int .i64 a.most),.lit (.bool a.cN),.lit (.bool a.cond),.lit (.bool a.scope),.lit (.bool a.span)]) l
 (k.map fun a=>.agg [.lit (.int .i64 a.cR),.lit (.int .i64 a.most),.lit (.bool a.cN),.lit (.bool a.cond),.lit (.bool a.scope),.lit (.bool a.span)]))→l=k
 |[],[],_=>rfl
 |[],_::_,h=>by have:=h.1;simp at this
 |_::_,[],h=>by have:=h.1;simp at this
 |a::l,b::k,h=>by
  have h0:=h.2 0 a _ rfl rfl;have h1:=ON l k ⟨by simpa using h.1,fun i a d hi hd=>h.2 (i+1) a d (by simpa using hi) (by simpa using hd)⟩;subst h1;obtain⟨a0,a1,a2,a3,a4,a5⟩:=a;obtain⟨b0,b1,b2,b3,b4,b5⟩:=b
  simp at h0
  simp[h0]
theorem SK (h:laidMetH Tryz.prog Rows.derivationComparesRow.laid W):VR (g0 W) W (.pointer (some ⟨0,0,none⟩)) (J9.gl 0):=by
 have h':laidMet Tryz.prog Rows.derivationComparesRow.laid W:=h;obtain⟨ps,⟨g',t',cs,fuel,p,q,hg',ht',hvar,hd,_,_⟩,_⟩:=h';obtain rfl:g'=0:=Option.some.inj (hg'.symm.trans (by kernel_rfl));obtain rfl:t'=220:=Option.some.inj (ht'.symm.trans (by kernel_rfl));obtain⟨l,hr,ds,hds,hl⟩:=Ss u220 (by kernel_rfl) (by decide) (fun n=>Uy n) hd
 have e:ds=H7.map fun a=>.agg [.lit (.int .i64 a.cR),.lit (.int .i64 a.most),.lit (.bool a.cN),.lit (.bool a.cond),.lit (.bool a.scope),.lit (.bool a.span)]:=by
  have e2:(Rows.laid_tidegate_pattern_shapes:DataW Unit)= .agg ds:=hds;have e3:(Rows.laid_tidegate_pattern_shapes:DataW Unit)= .agg (H7.map fun a=>.agg [.lit (.int .i64 a.cR),.lit (.int .i64 a.most),.lit (.bool a.cN),.lit (.bool a.cond),.lit (.bool a.scope),.lit (.bool a.span)]):=rfl
  rw[e3]at e2
  exact(DataW.agg.inj e2).symm
 subst e;obtain rfl:=ON _ _ hl;exact SR hg' hvar hr
theorem An9 (h:laidMetH Tryz.prog Rows.derivationComparesRow.laid W):∀n,VR (g0 W) W (.pointer (some ⟨n,0,none⟩)) (J9.gl n)
 |0=>SK h
 |_+1=>.bad _
end
end Go.Ab
