/- GVA2 GVB1 GVX3 GVX4 GVB2 GVB3 GVB4 GVB5 GVB6 GVB7 GVB8 -/
import Derived.Test.YtjhobbohibnioaaGreatDoorE19
import Derived.KernelRfl
set_option linter.all false
open Go.Ab.Ar (an ar cmp wr)
namespace Go.Ab
open Classical
noncomputable section
mutual
theorem Pi :∀d:A2,FY d≤d.bulk
 |⟨_,_,ks⟩=>by have:=MT ks;simp only[FY,A2.bulk];omega
theorem MT :∀l:List A2,Ft l≤A2.bulks l
 |[]=>by simp[Ft]
 |a::l=>by have:=Pi a;have:=MT l;simp only[Ft,A2.bulks];omega
end
end
end Go.Ab
namespace Go.Ab
open Classical
noncomputable section
def fitA (l:List B8)(p:A0)(b:List PR)(i:Nat):Bool:=match l[i]? with|some e=>decide (e.Typ=p.Typ)&&NT (YK l b i) p.Var e p.cL|none=>false
end
end Go.Ab
namespace Go.Ab
open Classical
noncomputable section
end
end Go.Ab
namespace Go.Ab
open Classical
noncomputable section
def JT (m:List A4)(i:Nat):Int:=
 match m[i]? with
 |none=>0
 |some x=>if(decide (0≤x.Var)&&decide (x.Var≤15)&&(decide (0≤x.Ref.Time)&&decide (x.Ref.Time≤1099511627776)&&(decide (0≤x.Ref.Source)&&decide (x.Ref.Source≤7))&&(decide (0≤x.Ref.Seq)&&decide (x.Ref.Seq≤1099511627776))))=false then 2 else if 0<i∧0≤N0 (K6 ((m[i - 1]?).getD x).Ref) (K6 x.Ref)then 14 else 0
def WV (m:List A4):Int:=if m.length=0 then 15 else if 4096<m.length then 5 else W8 (JT m) (List.range m.length)
theorem Nl {N:Nat} (hN:40000000≤N) {m:List A4} (hm:m.length≤4096) {step:Int→Option (Int ⊕ (Unit ⊕ Int))} (hs:∀i,i<m.length→step (i:Int)=some (if JT m i=0 then .inl ((i:Int)+1)else .inr (.inr (JT m i)))) (he:step (m.length:Int)=some (.inr (.inl ()))):
 ((loopN step N 0).bind fun s2=>match s2 with| .inl _=>some 0| .inr y=>some y)=some (W8 (JT m) (List.range m.length)):=by
 have hr:(List.range m.length).length=m.length:=List.length_range;rw[N5 (List.range m.length) (by omega) (mk:=fun(_:Unit) i=>i) (body:=Bj fun i=>some (JT m i)) (fin:=fun _=>.inl ()) (s:=()) (by omega) ?_ ?_]
 ·rw[Ag (F:=fun i=>some (JT m i)) (f:=JT m) fun x _=>rfl]
  by_cases h:W8 (JT m) (List.range m.length)=0
  ·rw[if_pos h,h];rfl
  rw[if_neg h];rfl
 ·intro s i x hx hi
  have hil:i<m.length:=by omega
  rw[List.getElem?_range hil]at hx
  cases hx;rw[hs i hil];unfold Bj;simp only[Option.bind_some]
  by_cases h:JT m i=0
  ·rw[if_pos h,if_neg (R6 h)];rfl
  rw[if_neg h,if_pos (O2 h)];rfl
 intro s;rw[hr];exact he
theorem Yn {N:Nat} (hN:40000000≤N) {m:List A4} (hm:m.length≤1000000):BL N ⟨m⟩=some (WV m):=by
 unfold BL WV
 dsimp only
 by_cases h0:m.length=0
 ·rw[if_pos (by rw[G5,C0];exact decide_eq_true (by omega)),if_pos h0]
 rw[if_neg (by rw[G5,C0];simp;intro e;exact h0 (by rw[e];rfl)),if_neg h0]
 by_cases h1:4096<m.length
 ·rw[if_pos (P4 (by rw[C0];omega)),if_pos h1]
 rw[if_neg (M5 (by rw[C0];omega)),if_neg h1];refine Nl hN (by omega) (fun i hi=>?_) (by rw[if_neg (K9 (by rw[C0];exact Int.lt_irrefl _))]);have e:ar .add .i64 (i:Int) 1=i+1:=D4 (by omega) (by omega)
 have hb:JT m i=if(decide (0≤m[i].Var)&&decide (m[i].Var≤15)&&(decide (0≤m[i].Ref.Time)&&decide (m[i].Ref.Time≤1099511627776)&&(decide (0≤m[i].Ref.Source)&&decide (m[i].Ref.Source≤7))&&(decide (0≤m[i].Ref.Seq)&&decide (m[i].Ref.Seq≤1099511627776))))=false then 2 else if 0<i∧0≤N0 (K6 ((m[i - 1]?).getD m[i]).Ref) (K6 m[i].Ref)then 14 else 0:=by
  unfold JT;rw[List.getElem?_eq_getElem hi]
 rw[if_pos (L4 (by rw[C0];omega)),F2,List.getElem?_eq_getElem hi];simp only[Option.bind_some,Z9,e,K0,Ak,Ac,V3];rw[hb]
 have hlast:(if cmp .gtr (i:Int) 0=true then
  (C1 m (ar .sub .i64 (i:Int) 1)).bind fun x9=>(CA N x9.Ref m[i].Ref).bind fun r10=>if decide (0≤r10)=true then some (Sum.inr (Sum.inr 14))else some (.inl ((i:Int)+1))
  else some (.inl ((i:Int)+1)):Option (Int ⊕ (Unit ⊕ Int)))=some (if 0<i∧0≤N0 (K6 ((m[i - 1]?).getD m[i]).Ref) (K6 m[i].Ref)then .inr (.inr 14)else .inl ((i:Int)+1)):=by
  by_cases hi0:0<i
  ·have e1:ar .sub .i64 (i:Int) 1=((i - 1:Nat):Int):=by rw[N9 (by omega) (by omega)];omega
   have hi1:i - 1<m.length:=by omega
   rw[if_pos (P4 (by omega)),e1,F2,List.getElem?_eq_getElem hi1];simp only[Option.bind_some,Option.getD_some];rw[XP hN];simp only[Option.bind_some,decide_eq_true_eq]
   by_cases h2:0≤N0 (K6 m[i - 1].Ref) (K6 m[i].Ref)
   ·rw[if_pos h2,if_pos ⟨hi0,h2⟩]
   rw[if_neg h2,if_neg (fun h=>h2 h.2)]
  rw[if_neg (M5 (by omega)),if_neg (fun h=>hi0 h.1)]
 rw[hlast];generalize (decide (0≤m[i].Var)&&decide (m[i].Var≤15))=a1;generalize (decide (0≤m[i].Ref.Time)&&decide (m[i].Ref.Time≤1099511627776))=a2;generalize (decide (0≤m[i].Ref.Source)&&decide (m[i].Ref.Source≤7))=a3;generalize (decide (0≤m[i].Ref.Seq)&&decide (m[i].Ref.Seq≤1099511627776))=a4
 by_cases hC:0<i∧0≤N0 (K6 ((m[i - 1]?).getD m[i]).Ref) (K6 m[i].Ref)
 ·simp only[if_pos hC];cases a1<;>cases a2<;>cases a3<;>cases a4<;>simp
 simp only[if_neg hC];cases a1<;>cases a2<;>cases a3<;>cases a4<;>simp
theorem VL {N:Nat} (hN:40000000≤N) {m:List A4} (hm:m.length≤1000000):Da N ⟨m⟩=some (WV m):=by
 unfold Da WV
 dsimp only
 by_cases h0:m.length=0
 ·rw[if_pos (by rw[G5,C0];exact decide_eq_true (by omega)),if_pos h0]
 rw[if_neg (by rw[G5,C0];simp;intro e;exact h0 (by rw[e];rfl)),if_neg h0]
 by_cases h1:4096<m.length
 ·rw[if_pos (P4 (by rw[C0];omega)),if_pos h1]
 rw[if_neg (M5 (by rw[C0];omega)),if_neg h1];refine Nl hN (by omega) (fun i hi=>?_) (by rw[if_neg (K9 (by rw[C0];exact Int.lt_irrefl _))]);have e:ar .add .i64 (i:Int) 1=i+1:=D4 (by omega) (by omega)
 have hb:JT m i=if(decide (0≤m[i].Var)&&decide (m[i].Var≤15)&&(decide (0≤m[i].Ref.Time)&&decide (m[i].Ref.Time≤1099511627776)&&(decide (0≤m[i].Ref.Source)&&decide (m[i].Ref.Source≤7))&&(decide (0≤m[i].Ref.Seq)&&decide (m[i].Ref.Seq≤1099511627776))))=false then 2 else if 0<i∧0≤N0 (K6 ((m[i - 1]?).getD m[i]).Ref) (K6 m[i].Ref)then 14 else 0:=by
  unfold JT;rw[List.getElem?_eq_getElem hi]
 rw[if_pos (L4 (by rw[C0];omega)),F2,List.getElem?_eq_getElem hi]
 have hp:BV N m[i].Ref=some (decide (0≤m[i].Ref.Time)&&decide (m[i].Ref.Time≤1099511627776)&&(decide (0≤m[i].Ref.Source)&&decide (m[i].Ref.Source≤7))&&(decide (0≤m[i].Ref.Seq)&&decide (m[i].Ref.Seq≤1099511627776))):=by
  unfold BV DC;simp only[Option.bind_some,K0,Ak,Ac,C8];have:decide (m[i].Ref.Source<8)=decide (m[i].Ref.Source≤7):=decide_eq_decide.2 (by omega);rw[this];simp only[Bool.and_assoc]
 have hv:Ar.or (cmp .lss m[i].Var 0) (cmp .geq m[i].Var 16)= !(decide (0≤m[i].Var)&&decide (m[i].Var≤15)):=by
  simp only[M4,C8,Ak]
  by_cases h1:m[i].Var<0<;>by_cases h2:16≤m[i].Var<;>simp[h1,h2]<;>omega
 simp only[Option.bind_some,e];rw[hv,hp];simp only[Option.bind_some,V3];rw[hb]
 have hlast:(if cmp .gtr (i:Int) 0=true then
  (C1 m (ar .sub .i64 (i:Int) 1)).bind fun x9=>(As N x9.Ref m[i].Ref).bind fun r10=>if cmp .geq r10 0=true then some (Sum.inr (Sum.inr 14))else some (.inl ((i:Int)+1))
  else some (.inl ((i:Int)+1)):Option (Int ⊕ (Unit ⊕ Int)))=some (if 0<i∧0≤N0 (K6 ((m[i - 1]?).getD m[i]).Ref) (K6 m[i].Ref)then .inr (.inr 14)else .inl ((i:Int)+1)):=by
  by_cases hi0:0<i
  ·have e1:ar .sub .i64 (i:Int) 1=((i - 1:Nat):Int):=by rw[N9 (by omega) (by omega)];omega
   have hi1:i - 1<m.length:=by omega
   rw[if_pos (P4 (by omega)),e1,F2,List.getElem?_eq_getElem hi1];simp only[Option.bind_some,Option.getD_some,PU]
   by_cases h2:0≤N0 (K6 m[i - 1].Ref) (K6 m[i].Ref)
   ·rw[if_pos (show cmp .geq (N0 (K6 m[i - 1].Ref) (K6 m[i].Ref)) 0=true by rw[Ak];exact decide_eq_true h2),if_pos ⟨hi0,h2⟩]
   rw[if_neg (show¬cmp .geq (N0 (K6 m[i - 1].Ref) (K6 m[i].Ref)) 0=true by rw[Ak];simpa using h2),if_neg (fun h=>h2 h.2)]
  rw[if_neg (M5 (by omega)),if_neg (fun h=>hi0 h.1)]
 rw[hlast];generalize (decide (0≤m[i].Var)&&decide (m[i].Var≤15))=a1;generalize (decide (0≤m[i].Ref.Time)&&decide (m[i].Ref.Time≤1099511627776)&&(decide (0≤m[i].Ref.Source)&&decide (m[i].Ref.Source≤7))&&(decide (0≤m[i].Ref.Seq)&&decide (m[i].Ref.Seq≤1099511627776)))=a2
 by_cases hC:0<i∧0≤N0 (K6 ((m[i - 1]?).getD m[i]).Ref) (K6 m[i].Ref)
 ·simp only[if_pos hC];cases a1<;>cases a2<;>simp
 simp only[if_neg hC];cases a1<;>cases a2<;>simp
theorem YD {a b:Nat} (h:a+b<1000000):wr .i64 (Ar.sh .shr .u64 (wr .u64 (ar .add .i64 (a:Int) (b:Int))) 1)=(((a+b) / 2:Nat):Int):=by
 have hw:∀{n:Int},0≤n→n<1000000→IntKind.wrap .u64 n=n:=fun{n} h0 h1=>by
  have e:IntKind.wrap .u64 n=n % 18446744073709551616:=by
   unfold IntKind.wrap;simp[IntKind.bits,IntKind.signed]
  rw[e];omega
 rw[D4 (by omega) (by omega)]
 show IntKind.wrap .i64 (shI .shr .u64 (IntKind.wrap .u64 ((a:Int)+b)) 1)=_
 rw[hw (by omega) (by omega)]
 have e:shI .shr .u64 ((a:Int)+b) 1=((a:Int)+b) / 2:=by
  show((a:Int)+b).fdiv (2 ^ (min (1:Int).toNat 64))=_
  rw[show(2:Int) ^ (min (1:Int).toNat 64)=2 from rfl,Int.fdiv_eq_ediv_of_nonneg _ (by decide)]
 rw[e,EW (by omega) (by omega)];omega
end
end Go.Ab
namespace Go.Ab
open Classical
noncomputable section
end
end Go.Ab
namespace Go.Ab
open Classical
noncomputable section
def posR (l:List B8)(r:R0):Option Nat:=l.findIdx? fun e=>decide (Aa5 e=K6 r)
theorem scmp_eq {N:Nat}(hN:40000000≤N)(e:B8)(r:R0):Y0 N e r=some (N0 (Aa5 e) (K6 r)):=by
 unfold Y0;rw[CG,CG,CG];simp only[Option.bind_some];rw[or_eq hN (by simp),Aa5,K6,Aa2];rfl
end
end Go.Ab
namespace Go.Ab
open Classical
noncomputable section
theorem Yl :(List.range 5000).all (fun n=>match Bx 0 1 (n:Int)with|some (a,b)=>(a==0)&&(b==(n:Int))|none=>false)=true:=by kernel_rfl
theorem mul_one {N n:Nat} (h:n<5000):GY N 1 (n:Int)=some (0,(n:Int)):=by
 have h1:=List.all_eq_true.1 Yl n (List.mem_range.2 h);have e:Bx 0 1 (n:Int)=Bx N 1 (n:Int):=rfl
 rw[e]at h1
 unfold GY
 cases hm:Bx N 1 (n:Int)with
 |none=>rw[hm]at h1;cases h1
 |some p=>
  obtain⟨a,b⟩:=p
  rw[hm]at h1
  simp only[Bool.and_eq_true,beq_iff_eq]at h1
  obtain⟨rfl,rfl⟩:=h1;rfl
theorem Pa {n:Int} (h0:0≤n) (h1:n<1000000000000):wr .u64 n=n:=by
 show IntKind.wrap .u64 n=n
 have e:IntKind.wrap .u64 n=n % 18446744073709551616:=by
  unfold IntKind.wrap;simp[IntKind.bits,IntKind.signed]
 rw[e];omega
theorem Qk {N:Nat} {q:A0} {n:Nat} (hn:n≤1000000) {step:Int×List A0→Option ((Int×List A0) ⊕ List A0)}
 (hs:∀(m:Nat) l,l.length=n→m<n→1≤m→step ((m:Int),l)=some (.inl (((m+min (n - m) m:Nat):Int),l.take m++(l.take m).take (n - m)++l.drop (m+(l.take m).length))))
 (he:∀l,l.length=n→step ((n:Int),l)=some (.inr l)):∀(d m:Nat) (l:List A0) (M:Nat),m+d=n→d<M→1≤m→l.length=n→l.take m=List.replicate m q→loopN step M ((m:Int),l)=some (List.replicate n q):=by
 intro d
 induction d using Nat.strongRecOn with
 | ind d ih=>
  intro m l M h1 h2 h3 h4 h5;obtain⟨M,rfl⟩:∃k,M=k+1:=⟨M - 1,by omega⟩
  by_cases hm:m<n
  ·unfold loopN;rw[hs m l h4 hm h3]
   have hl:(l.take m).length=m:=by rw[List.length_take];omega
   refine ih (n - (m+min (n - m) m)) (by omega) _ _ M (by omega) (by omega) (by omega) ?_ ?_
   ·simp only[List.length_append,List.length_take,List.length_drop];omega
   rw[h5,List.take_replicate];rw[List.take_append_of_le_length (by simp),List.replicate_append_replicate,List.take_replicate]
   congr 1;omega
  have:m=n:=by omega
  subst this;unfold loopN;rw[he l h4]
  rw[List.take_of_length_le (by omega)]at h5
  rw[h5]
theorem XN {N:Nat} (hN:40000000≤N) (q:A0) {n:Nat} (h1:1≤n) (h2:n<5000):I5 N [q] (n:Int)=some (List.replicate n q):=by
 unfold I5;rw[if_neg (K9 (by omega))];simp only[Option.bind_some,C0,List.length_singleton];rw[Pa (by omega) (by omega),Pa (by omega) (by omega),show((1:Nat):Int)=1 from rfl,mul_one h2];simp only[Option.bind_some];rw[if_neg (by simp only[M4,X9];simp;omega)];simp only[Option.bind_some];have hw:wr .i64 (n:Int)=n:=EW (by omega) (by omega);rw[hw,Va,if_pos (by omega)];simp only[Option.bind_some,Int.toNat_natCast];rw[Mi,if_pos (by omega)];simp only[Option.bind_some,List.length_replicate,Int.toNat_zero,Nat.sub_zero,List.take_zero,List.nil_append,List.length_singleton]
 have e1:(if(n:Int) - 0<((1:Nat):Int)then(n:Int) - 0 else((1:Nat):Int))=((1:Nat):Int):=by rw[if_neg (by omega)]
 rw[e1];rw[Qk (N:=N) (q:=q) (n:=n) (by omega) ?_ ?_ (n - 1) 1 _ N (by omega) (by omega) (Nat.le_refl _) ?_ ?_]
 ·rfl
 ·intro m l hl hm h0
  have hlt:(l.take m).length=m:=by rw[List.length_take];omega
  dsimp only
  rw[if_pos (L4 (by omega))]
  have s1:K7 l (some (m:Int)) none none=some (l.drop m):=by
   unfold K7;rw[if_pos (by simp;omega)];simp only[Option.getD_some,Option.getD_none,Int.toNat_natCast];rw[List.take_of_length_le (by rw[List.length_drop];omega)]
  rw[s1,Lc (by omega)];simp only[Option.bind_some];rw[Mi,if_pos (by omega)];simp only[Option.bind_some,Int.toNat_natCast,hl];refine congrArg (fun x=>some (Sum.inl (x,l.take m++(l.take m).take (n - m)++l.drop (m+(l.take m).length)))) ?_;rw[hlt]
  by_cases hc:(n:Int) - (m:Int)<(m:Int)
  ·rw[if_pos hc,D4 (by omega) (by omega)];omega
  rw[if_neg hc,D4 (by omega) (by omega)];omega
 ·intro l hl
  dsimp only
  rw[if_neg (K9 (by omega))]
 ·simp;omega
 obtain⟨k,rfl⟩:∃k,n=k+1:=⟨n - 1,by omega⟩;simp
def AU (p:A0)(c:Int)(i:Nat):A0:=if p.Op=1∨p.Op=3 then(p.cK[i]?).getD p else if p.Op=2 then(p.cK[c.toNat]?).getD p else(p.cK[0]?).getD p
def Er (p:A0)(n:Nat):Prop:=if p.Op=0 then n≠0 else if p.Op=1∨p.Op=3 then n≠p.cK.length else if p.Op=4 then n=0 else n≠1
mutual
def NV :A2→A0→Int
 |⟨r,c,ks⟩,p=>if(p.Op≠0∧¬(r.Time=0∧r.Source=0∧r.Seq=0))∨(p.Op≠2∧c≠0)then 3 else if p.Op=2∧(c<0∨(p.cK.length:Int)≤c)then 2 else if Er p ks.length then 15 else My ks p c 0
def My :List A2→A0→Int→Nat→Int
 |[],_,_,_=>0
 |k::ks,p,c,i=>if NV k (AU p c i)=0 then My ks p c (i+1)else NV k (AU p c i)
end
theorem Rj (d:A2)(p:A0):NV d p=if(p.Op≠0∧¬(d.Ref.Time=0∧d.Ref.Source=0∧d.Ref.Seq=0))∨(p.Op≠2∧d.Choice≠0)then 3 else if p.Op=2∧(d.Choice<0∨(p.cK.length:Int)≤d.Choice)then 2 else if Er p d.Kids.length then 15 else My d.Kids p d.Choice 0:=by
 cases d;simp only[NV]
theorem Tj {N:Nat} {ks:List A2} {p:A0} {c:Int} {step:Int→Option (Int ⊕ (Unit ⊕ Int))} {k:Unit ⊕ Int→Option Int} (hl:ks.length<N) (hN:ks.length<1000000000)
 (hs:∀(i:Nat) (h:i<ks.length),step (i:Int)=if cmp .neq (NV ks[i] (AU p c i)) 0=true then some (.inr (.inr (NV ks[i] (AU p c i))))else some (.inl (ar .add .i64 (i:Int) 1)))
 (he:step (ks.length:Int)=some (.inr (.inl ()))) (k0:k (.inl ())=some 0) (k1:∀e,k (.inr e)=some e):(loopN step N 0).bind k=some (My ks p c 0):=by
 have key:∀(d i N:Nat),i+d=ks.length→d<N→(loopN step N (i:Int)).bind k=some (My (ks.drop i) p c i):=by
  intro d
  induction d with
  |zero=>
   intro i N hi hN;obtain⟨N,rfl⟩:∃m,N=m+1:=⟨N - 1,by omega⟩
   have:i=ks.length:=by omega
   subst this;unfold loopN;rw[he,List.drop_eq_nil_of_le (Nat.le_refl _)];simp only[Option.bind_some,My];exact k0
  |succ d ih=>
   intro i N hi hN;obtain⟨N,rfl⟩:∃m,N=m+1:=⟨N - 1,by omega⟩
   have hik:i<ks.length:=by omega
   rw[List.drop_eq_getElem_cons hik,My];unfold loopN;rw[hs i hik,D4 (by omega) (by omega)]
   by_cases hz:NV ks[i] (AU p c i)=0
   ·rw[if_neg (R6 hz),if_pos hz];exact ih (i+1) N (by omega) (by omega)
   rw[if_pos (O2 hz),if_neg hz];exact k1 _
 simpa using key ks.length 0 N (by omega) hl
theorem V5 {p:A0} (hw:WfN p) {c:Int} {i n:Nat} (h:¬Er p n) (hi:i<n) (hc:p.Op=2→0≤c∧c<p.cK.length):AU p c i∈p.cK∧(p.Op=1∨p.Op=3→p.cK[i]? =some (AU p c i))∧(p.Op=2→p.cK[c.toNat]? =some (AU p c i))∧(4≤p.Op→p.cK=[AU p c i]):=by
 have ho:=hw.op
 unfold Er at h
 unfold AU
 by_cases h0:p.Op=0
 ·rw[if_pos h0]at h;omega
 rw[if_neg h0]at h
 by_cases h1:p.Op=1∨p.Op=3
 ·rw[if_pos h1]at h
  have hi':i<p.cK.length:=by omega
  rw[if_pos h1,List.getElem?_eq_getElem hi'];exact⟨List.getElem_mem _,fun _=>rfl,fun h=>by omega,fun h=>by omega⟩
 rw[if_neg h1]
 by_cases h2:p.Op=2
 ·have:=hc h2
  have hi':c.toNat<p.cK.length:=by omega
  rw[if_pos h2,List.getElem?_eq_getElem hi'];exact⟨List.getElem_mem _,fun h=>absurd h h1,fun _=>rfl,fun h=>by omega⟩
 rw[if_neg h2];obtain⟨q,hq⟩:=hw.a2 (by omega);rw[hq];exact⟨by simp,fun h=>absurd h h1,fun h=>absurd h h2,fun _=>rfl⟩
theorem UJ {a b:Int}(h:¬a=b):¬(cmp .eql a b=true):=by rw[UI h];simp
theorem IZ (p:A0) (d:A2):Ar.or (an (cmp .neq p.Op 0) (Ar.nt (an (cmp .eql d.Ref.Time 0) (an (cmp .eql d.Ref.Source 0) (an (cmp .eql d.Ref.Seq 0) true))))) (an (cmp .neq p.Op 2) (cmp .neq d.Choice 0))=true↔
 (p.Op≠0∧¬(d.Ref.Time=0∧d.Ref.Source=0∧d.Ref.Seq=0))∨(p.Op≠2∧d.Choice≠0):=by
 simp only[M4,K0,V3,K2,G5];simp only[Bool.or_eq_true,Bool.and_eq_true,Bool.not_eq_true',decide_eq_false_iff_not,Bool.and_true,ne_eq,Bool.and_eq_false_iff]
 constructor
 ·rintro(⟨h1,h2⟩|h)
  ·exact .inl ⟨h1,fun h=>by omega⟩
  exact .inr h
 rintro(⟨h1,h2⟩|h)
 ·exact .inl ⟨h1,by omega⟩
 exact .inr h
theorem Nx {N:Nat} (hN:40000000≤N):∀(n:Nat) (p:A0) (d:A2),KT d≤n→FY d≤4096→KF p→p.pre.length≤64→P9 N n p d=some (NV d p)
 |0,p,d,h,_,_,_=>by rw[AT]at h;omega
 | n + 1,p,d,h,hs,hw,hpp=>by
  have hal:=Eg p;have hsz:=Fu d;have hdp:=AT d;have hl:=BT d.Kids;have ho:=hw.self.op;unfold P9;rw[Rj]
  by_cases hf:(p.Op≠0∧¬(d.Ref.Time=0∧d.Ref.Source=0∧d.Ref.Seq=0))∨(p.Op≠2∧d.Choice≠0)
  ·rw[if_pos ((IZ p d).2 hf),if_pos hf]
  rw[if_neg (fun e=>hf ((IZ p d).1 e)),if_neg hf]
  have rest:∀y5:List A0,(Er p d.Kids.length↔d.Kids.length≠y5.length)→(∀i,i<y5.length→¬Er p d.Kids.length→y5[i]? =some (AU p d.Choice i))→(p.Op=2→0≤d.Choice∧d.Choice<p.cK.length)→
   (if cmp .neq (Ar.len d.Kids) (Ar.len y5)=true then
    some 15
   else
    (loopN
     (fun(s6:Int)=>
      (
       if cmp .lss s6 (Ar.len d.Kids)=true then
        (C1 d.Kids s6).bind fun x8=>
        (C1 y5 s6).bind fun x10=>
        (P9 N n x10 x8).bind fun r11=>
        if cmp .neq r11 0=true then
         some (.inr (.inr r11))
        else
         some (.inl (ar .add .i64 s6 1))
       else
        some (.inr (.inl ()))
       :Option ((Int) ⊕ (Unit ⊕ Int))))
     N 0).bind fun s7=>
    match s7 with
    | .inl y12=>
     some 0
    | .inr y13=>
     some y13)=some (if Er p d.Kids.length then 15 else My d.Kids p d.Choice 0):=by
   intro y5 hb hy hc
   by_cases hbl:Er p d.Kids.length
   ·rw[if_pos (O2 (by rw[C0,C0];have:=hb.1 hbl;omega)),if_pos hbl]
   have hlen:d.Kids.length=y5.length:=by
    rcases Nat.decEq d.Kids.length y5.length with h|h
    ·exact absurd (hb.2 h) hbl
    exact h
   rw[if_neg (R6 (by rw[C0,C0];omega)),if_neg hbl];refine Tj (by omega) (by omega) (fun i hi=>?_) (by rw[if_neg JJ]) rfl fun e=>rfl;have hm:=List.getElem_mem hi;rw[if_pos (FF (by omega)),F2,F2,List.getElem?_eq_getElem hi,hy i (by omega) hbl];simp only[Option.bind_some];rw[Nx hN n _ _ (by have:=Ck hm;omega) (by have:=BS hm;omega) (hw.arg (V5 hw.self hbl hi hc).1) (by have:=BY (V5 hw.self hbl hi hc).1;omega)];rfl
  by_cases h2:p.Op=2
  ·rw[if_pos (R8 h2)]
   by_cases hc:d.Choice<0∨(p.cK.length:Int)≤d.Choice
   ·rw[if_pos (by simp only[M4,C8,Ak,C0];simpa using hc),if_pos ⟨h2,hc⟩];rfl
   rw[if_neg (by simp only[M4,C8,Ak,C0];simpa using hc),if_neg (fun h=>hc h.2)]
   have hc':0≤d.Choice∧d.Choice<p.cK.length:=by omega
   obtain⟨c,hcc⟩:=Int.eq_ofNat_of_zero_le hc'.1
   have hcl:c<p.cK.length:=by omega
   have hsl:K7 p.cK (some d.Choice) (some (ar .add .i64 d.Choice 1)) none=some [p.cK[c]]:=by
    have hb:=hw.self;rw[hcc,D4 (by omega) (by omega),show((c:Int)+1)=((c+1:Nat):Int) by omega];unfold K7;rw[if_pos (by simp;omega)];simp only[Option.getD_some,Option.getD_none,Int.toNat_natCast];rw[show c+1 - c=1 by omega,List.drop_eq_getElem_cons hcl];rfl
   rw[hsl];simp only[Option.bind_some];refine rest [p.cK[c]] ?_ ?_ fun _=>hc'
   ·unfold Er;rw[if_neg (by omega),if_neg (by omega),if_neg (by omega)];simp
   intro i hi hbl;have hbl':=hbl
   unfold Er at hbl'
   rw[if_neg (by omega),if_neg (by omega),if_neg (by omega)]at hbl'
   have hi0:i=0:=by simpa using hi
   subst hi0;have:=(V5 hw.self (i:=0) hbl (by omega) fun _=>hc').2.2.1 h2
   rw[hcc,Int.toNat_natCast,List.getElem?_eq_getElem hcl]at this
   simpa[hcc]using this
  rw[if_neg (UJ h2),if_neg (show¬(p.Op=2∧(d.Choice<0∨(p.cK.length:Int)≤d.Choice))from fun h=>h2 h.1)]
  by_cases h4:p.Op=4
  ·rw[if_pos (R8 h4)];obtain⟨q,hq⟩:=hw.self.a2 (by omega)
   by_cases hk:d.Kids.length=0
   ·rw[if_pos (R8 (by rw[C0];omega)),if_pos (by unfold Er;rw[if_neg (by omega),if_neg (by omega),if_pos h4];exact hk)];rfl
   rw[if_neg (UJ (by rw[C0];omega)),hq,C0,XN hN q (by omega) (by omega)];simp only[Option.bind_some];refine rest _ ?_ ?_ fun h=>absurd h h2
   ·unfold Er;rw[if_neg (by omega),if_neg (by omega),if_pos h4];simp[hk]
   intro i hi hbl;have:=(V5 hw.self (c:=d.Choice) (i:=i) hbl (by simpa using hi) fun h=>absurd h h2).2.2.2 (by omega)
   rw[hq]at this
   rw[List.getElem?_replicate,if_pos (by simpa using hi)]
   simpa using(List.cons.inj this).1
  rw[if_neg (UJ h4)];simp only[Option.bind_some];refine rest p.cK ?_ ?_ fun h=>absurd h h2
  ·unfold Er
   by_cases h0:p.Op=0
   ·rw[if_pos h0,hw.self.a0 h0];simp
   rw[if_neg h0]
   by_cases h1:p.Op=1∨p.Op=3
   ·rw[if_pos h1]
   obtain⟨q,hq⟩:=hw.self.a2 (by omega);rw[if_neg h1,if_neg h4,hq];simp
  intro i hi hbl
  have hik:i<d.Kids.length:=by
   unfold Er at hbl
   by_cases h0:p.Op=0
   ·rw[hw.self.a0 h0]at hi;simp at hi
   rw[if_neg h0]at hbl
   by_cases h1:p.Op=1∨p.Op=3
   ·rw[if_pos h1]at hbl;omega
   obtain⟨q,hq⟩:=hw.self.a2 (by omega)
   rw[if_neg h1,if_neg h4]at hbl;rw[hq]at hi;simp at hi;omega
  have hm:=V5 hw.self (c:=d.Choice) (i:=i) hbl hik fun h=>absurd h h2
  by_cases h1:p.Op=1∨p.Op=3
  ·exact hm.2.1 h1
  by_cases h0:p.Op=0
  ·rw[hw.self.a0 h0]at hi;simp at hi
  have:=hm.2.2.2 (by omega)
  rw[this]at hi ⊢
  have hi0:i=0:=by simpa using hi
  rw[hi0];simp
end
end Go.Ab
namespace Go.Ab
open Classical
noncomputable section
theorem Zl :∀{ks:List A2} {p:A0} {c:Int} {j:Nat},My ks p c j=0→∀i (h:i<ks.length),NV ks[i] (AU p c (j+i))=0
 |[],_,_,_,_,i,h=>absurd h (by simp)
 | k::ks,p,c,j,hs,i,h=>by
  rw[My]at hs
  by_cases hz:NV k (AU p c j)=0
  ·rw[if_pos hz]at hs
   cases i with
   |zero=>exact hz
   |succ i=>
    have:=Zl hs i (by simpa using h)
    rw[show j+1+i=j+(i+1) by omega]at this
    exact this
  rw[if_neg hz]at hs;exact absurd hs hz
structure Su (d:A2) (p:A0):Prop where
 n:¬Er p d.Kids.length
 c:p.Op=2→0≤d.Choice∧d.Choice<p.cK.length
 k:∀i (h:i<d.Kids.length),NV d.Kids[i] (AU p d.Choice i)=0
theorem Vv {d:A2} {p:A0} (h:NV d p=0):Su d p:=by
 rw[Rj]at h
 split at h
 ·cases h
 split at h
 ·cases h
 split at h
 ·cases h
 next h1 h2 h3=>
 exact⟨h3,fun e=>by
  rcases Classical.em (d.Choice<0∨(p.cK.length:Int)≤d.Choice)with h|h
  ·exact absurd ⟨e,h⟩ h2
  omega,fun i hi=>by have:=Zl h i hi;rwa[Nat.zero_add]at this⟩
theorem Su.pos {d:A2} {p:A0} (h:Su d p) (hw:WfN p) (h0:p.Op≠0):1≤d.Kids.length:=by
 have hn:=h.n;have ho:=hw.op
 unfold Er at hn
 rw[if_neg h0]at hn
 by_cases h1:p.Op=1∨p.Op=3
 ·rw[if_pos h1]at hn
  have:=List.length_pos_iff.2 (hw.a1 (by omega) (by omega));omega
 rw[if_neg h1]at hn
 by_cases h4:p.Op=4
 ·rw[if_pos h4]at hn;omega
 rw[if_neg h4]at hn;omega
theorem Su.one {d:A2}{p:A0}(h:Su d p)(h0:p.Op≠0)(h1:¬(p.Op=1∨p.Op=3))(h4:p.Op≠4):d.Kids.length=1:=by
 have hn:=h.n
 unfold Er at hn
 rw[if_neg h0,if_neg h1,if_neg h4]at hn
 omega
theorem Uj {a b:Int}(h0:0≤a)(h:a<b):ar .rem .i64 a b=a:=by
 have e:ar .rem .i64 a b=a.tmod b:=rfl;rw[e,Int.tmod_eq_of_lt h0 h]
theorem XO (a:Int):ar .rem .i64 a 1=0:=by
 have e:ar .rem .i64 a 1=a.tmod 1:=rfl;rw[e,Int.tmod_one]
theorem TG {p:A0} (hw:KF p) (hpp:p.pre.length≤64) {d:A2} (hs:Su d p) (h0:p.Op≠0) (h2:p.Op≠2) {i:Nat} (hi:i<d.Kids.length):C1 p.cK (ar .rem .i64 (i:Int) (Ar.len p.cK))=some (AU p d.Choice i):=by
 have hm:=V5 hw.self hs.n hi hs.c;have hal:=Eg p;have ho:=hw.self.op
 by_cases h1:p.Op=1∨p.Op=3
 ·have:=hm.2.1 h1
  have hlt:i<p.cK.length:=by
   rcases Nat.lt_or_ge i p.cK.length with h|h
   ·exact h
   rw[List.getElem?_eq_none h]at this;cases this
  rw[C0,Uj (by omega) (by omega),F2];exact this
 have:=hm.2.2.2 (by omega);rw[this,C0,List.length_singleton,show((1:Nat):Int)=1 from rfl,XO];rfl
def WW (p:A0):Prop:=p.Op=1∨p.Op=4
def outA (p:A0)(b s:List PR):List PR:=if WW p then mrg b s else b
def frmA (p:A0)(f:Int)(s:List PR):Int:=if WW p∧s≠[]then GH s+1 else f
mutual
def vlA (l:List B8):A2→A0→List PR→Int→Option (List PR)
 |⟨r,c,ks⟩,p,b,f=>if p.Op=0 then(match posR l r with|some i=>if f≤(i:Int)∧fitA l p b i=true then some [⟨p.Var,(i:Int)⟩]else none|none=>none)
  else(XA l ks p c 0 b f []).bind fun s=>if 5≤p.Op∧¬Sb l p b s=true then none else some s
def XA (l:List B8):List A2→A0→Int→Nat→List PR→Int→List PR→Option (List PR)
 |[],_,_,_,_,_,s=>some s
 |k::ks,p,c,i,b,f,s=>(vlA l k (AU p c i) (outA p b s) (frmA p f s)).bind fun x=>if ZZ s x=true then none else XA l ks p c (i+1) b f (mrg s x)
end
end
end Go.Ab
namespace Go.Ab
open Classical
noncomputable section
end
end Go.Ab
namespace Go.Ab
open Classical
noncomputable section
theorem Ql {S T R:Type} {m:Nat} {step:S→Option (S ⊕ (R ⊕ Unit))} {rep:Nat→T→S} {I:Nat→T→Prop} {Bad:Prop} {res:T→R}
 (hs:∀i,i<m→∀t,I i t→(Bad∧step (rep i t)=some (.inr (.inr ())))∨∃t',step (rep i t)=some (.inl (rep (i+1) t'))∧I (i+1) t')
 (he:∀t,I m t→step (rep m t)=some (.inr (.inl (res t)))) {N:Nat} (hN:m<N) {t0:T} (h0:I 0 t0):
 (Bad∧loopN step N (rep 0 t0)=some (.inr ()))∨∃t,I m t∧loopN step N (rep 0 t0)=some (.inl (res t)):=by
 have key:∀(d i N:Nat) (t:T),i+d=m→d<N→I i t→(Bad∧loopN step N (rep i t)=some (.inr ()))∨∃t',I m t'∧loopN step N (rep i t)=some (.inl (res t')):=by
  intro d
  induction d with
  |zero=>
   intro i N t hi hN ht;obtain⟨N,rfl⟩:∃m,N=m+1:=⟨N - 1,by omega⟩
   have:i=m:=by omega
   subst this;refine .inr ⟨t,ht,?_⟩;unfold loopN;rw[he t ht]
  |succ d ih=>
   intro i N t hi hN ht;obtain⟨N,rfl⟩:∃m,N=m+1:=⟨N - 1,by omega⟩
   have hik:i<m:=by omega
   unfold loopN
   rcases hs i hik t ht with⟨h1,h2⟩|⟨t',h2,h3⟩
   ·rw[h2];exact .inl ⟨h1,rfl⟩
   rw[h2];exact ih (i+1) N t' (by omega) (by omega) h3
 exact key m 0 N t0 (by omega) hN h0
theorem SO {S T R X:Type}{m:Nat}{step:S→Option (S ⊕ (R ⊕ Unit))}{s0:S}{k:R ⊕ Unit→Option X}{Q:X→Prop}(rep:Nat→T→S)(I:Nat→T→Prop)(Bad:Prop)(res:T→R){t0:T}(e0:s0=rep 0 t0){N:Nat}(hN:m<N)(h0:I 0 t0)
 (hs:∀i,i<m→∀t,I i t→(Bad∧step (rep i t)=some (.inr (.inr ())))∨∃t',step (rep i t)=some (.inl (rep (i+1) t'))∧I (i+1) t')
 (he:∀t,I m t→step (rep m t)=some (.inr (.inl (res t)))) (k1:Bad→∃r,k (.inr ())=some r∧Q r) (k2:∀t,I m t→∃r,k (.inl (res t))=some r∧Q r):∃r,(loopN step N s0).bind k=some r∧Q r:=by
 subst e0
 rcases Ql hs he hN h0 with⟨h1,h2⟩|⟨t,h1,h3⟩
 ·rw[h2];exact k1 h1
 rw[h3];exact k2 t h1
mutual
def QV :A2→A0→List A4
 |⟨r,c,ks⟩,p=>if p.Op=0 then[⟨p.Var,r⟩]else GX ks p c 0
def GX :List A2→A0→Int→Nat→List A4
 |[],_,_,_=>[]
 |k::ks,p,c,i=>QV k (AU p c i)++GX ks p c (i+1)
end
theorem OJ (d:A2)(p:A0):QV d p=if p.Op=0 then[⟨p.Var,d.Ref⟩]else GX d.Kids p d.Choice 0:=by cases d;simp only[QV]
theorem Xc :∀{ks:List A2} {p:A0} {c:Int} {j i:Nat} (h:i<ks.length) {y:A4},y∈QV ks[i] (AU p c (j+i))→y∈GX ks p c j
 |[],_,_,_,i,h,_,_=>absurd h (by simp)
 |k::ks,p,c,j,0,h,y,hy=>by rw[GX];exact List.mem_append_left _ hy
 |k::ks,p,c,j,i+1,h,y,hy=>by
  rw[GX];refine List.mem_append_right _ (Xc (i:=i) (by simpa using h) ?_);rw[show j+1+i=j+(i+1) by omega];exact hy
def Fnd (l:List B8)(d:A2)(p:A0):Prop:=∀y∈QV d p,(posR l y.Ref).isSome=true
theorem Fnd.kid {l:List B8}{d:A2}{p:A0}(h:Fnd l d p)(h0:p.Op≠0){i:Nat}(hi:i<d.Kids.length):Fnd l d.Kids[i] (AU p d.Choice i):=fun y hy=>by
 refine h y ?_;rw[OJ,if_neg h0];exact Xc hi (by rwa[Nat.zero_add])
theorem QN {N:Nat} {p:A0} (hw:KF p) {d:A2} (hn:¬Er p d.Kids.length) (hcc:p.Op=2→0≤d.Choice∧d.Choice<p.cK.length) (h0:p.Op≠0) {i:Nat} (hi:i<d.Kids.length):Cw N p d (i:Int)=some (AU p d.Choice i):=by
 have hm:=V5 hw.self hn hi hcc;have ho:=hw.self.op;unfold Cw
 by_cases h1:p.Op=1∨p.Op=3
 ·rw[if_pos (by simp only[M4,G5];simpa using h1),F2,hm.2.1 h1];rfl
 rw[if_neg (by simp only[M4,G5];simpa using h1)]
 by_cases h2:p.Op=2
 ·rw[if_pos (R8 h2)];have hc:=hcc h2;obtain⟨m,hmm⟩:=Int.eq_ofNat_of_zero_le hc.1;have ha:=hm.2.2.1 h2
  rw[hmm,Int.toNat_natCast]at ha
  rw[hmm,F2,ha];rfl
 rw[if_neg (UJ h2),hm.2.2.2 (by omega)];rfl
theorem YT {N:Nat}{p:A0}(hw:KF p){d:A2}(hs:Su d p)(h0:p.Op≠0){i:Nat}(hi:i<d.Kids.length):Cw N p d (i:Int)=some (AU p d.Choice i):=QN hw hs.n hs.c h0 hi
end
end Go.Ab
namespace Go.Ab
open Classical
noncomputable section
structure RV (l:List B8) (d:A2) (p:A0) (b:List PR) (r:List PR×Bool):Prop where
 gd:r.2=true→Gd l r.1∧r.1≠[]
 eq:∀f,ZH l b f→vlA l d p b f=if r.2=true∧f≤Zz r.1 then some r.1 else none
structure RI (l:List B8) (ks:List A2) (p:A0) (c:Int) (b:List PR) (i:Nat) (s:List PR):Prop where
 gd:(i=0∧s=[])∨(Gd l s∧s≠[])
 ap:WW p→Jt b s
 eq:∀f,ZH l b f→XA l ks p c 0 b f []=if s=[]∨f≤Zz s then XA l (ks.drop i) p c i b f s else none
end
end Go.Ab
