/- . -/
import Derived.Test.YtjhobbohibnioaaGreatDoorG16
set_option linter.all false
open Go.Ab.Ar (ar cmp)
namespace Go.Ab
noncomputable section
def To (N:Nat)(b:Bool):AY N b=some (Lo b):=by grind[AY,Lo]
def Xc (N:Nat)(env:CY)(v:Int):Ff N env v=some (JZ env v):=by
 unfold Ff JZ
 by_cases h:v<0∨(env.cY.length:Int)≤v
 ·rw[A1 (by simp only[N8,D6,O7,B0];grind),A1 h]
 rw[A0 (by simp only[N8,D6,O7,B0];grind),A0 h]
 have hi:v.toNat<env.cY.length:=by omega
 have hv:v=(v.toNat:Int):=by omega
 rw[hv,E1]
 grind
def ZP {l:List A9}{k:Int}(h0:0≤k)(h1:k<l.length):B9 l k=some (l.getD k.toNat Bh):=by
 simp_all[B9]
def AH4 (N:Nat) {env:CY} (he:Kk env) (v own:Int) (ev:A8):OD N env v own ev=some (match OT (JZ env v) own ev v with|some y=>(y,true)|none=>(⟨0,0,0,0,[]⟩,false)):=by
 have hl:=SH he v;unfold OD OT
 by_cases hv:v=own
 ·rw[A1 (by rw[D7];simp_all),A0 (by omega)]
 rw[A0 (by rw[D7];grind),A1 hv,Xc];simp only[A3]
 generalize JZ env v=rows at hl
 rcases Eu rows with rfl|⟨q,y,rfl⟩
 ·rfl
 rw[Et]at *
 have e1:ar .sub .i64 (Ar.len (q++[y])) 1=(q.length:Int):=by
  have:ar .sub .i64 (Ar.len (q++[y])) 1=Ar.len (q++[y])-1:=AX (by rw[B0];omega) (by rw[B0];omega);rw[this,B0];simp
 rw[A0 (by rw[D7,B0];simp;omega),e1,E1];simp
def AH3 {N:Nat} (hN:Bgn N) {env:CY} (he:Kk env) (own:Int) (ev:A8) {x:B5} (hx:BT x=0) (ha:x.cQ=[]):OC N x env own ev=some (Ku env own ev x):=by
 have hok:=Bd9 hx
 have hop:0≤x.Op∧x.Op<5:=by
  have:=NI hx
  rw[ha]at this
  grind
 have hl:=SH he x.Var;unfold OC Ku
 by_cases h0:x.Op=0
 ·rw[A1 (by rw[D7];simp_all),A1 h0]
 rw[A0 (by rw[D7];grind),A0 h0]
 by_cases h3:x.Op=3
 ·rw[A1 (by rw[D7];simp_all),A1 h3,Xc];rfl
 rw[A0 (by rw[D7];grind),A0 h3]
 by_cases h4:x.Op=4
 ·have hf:=(hok.1 (.inr h4)).1;rw[A1 (by rw[D7];simp_all),A1 h4,Xc];simp only[A3];unfold WL
  generalize JZ env x.Var=rows at hl
  rw[L5 rows (by omega) (mk:=fun(s:List A9) i=>(s,i)) (body:=fun s e=>if cmp .geq x.Field (Ar.len e.Values)=true then some (.inr (.inr ()))else(B9 e.Values x.Field).bind fun v=>(P9 s [v]).bind fun l=>some (.inl l)) (fin:=fun s=>.inl s) (s:=[]) (by omega) ?_ ?_]
  ·rw[OJ (p:=fun e=>decide (x.Field<(e.Values.length:Int))) (g:=fun e=>e.Values.getD x.Field.toNat Bh) (r:=.inr ()) (by simp;omega) (fun s e _ hs=>by
    by_cases h:(e.Values.length:Int)≤x.Field
    ·rw[A1 (by rw[O7,B0];simp_all),A0 (by grind)]
    rw[A0 (by rw[O7,B0];grind),A1 (by grind),ZP hf (by omega)]
    grind[P9])]
   by_cases h:(rows.all fun e=>decide (x.Field<(e.Values.length:Int)))=true
   ·rw[A1 h,A1 h];simp only[A3,I5];rw[AU2 hN];rfl
   rw[A0 h,A0 h];rfl
  ·intro s i a ha hi;have e:ar .add .i64 (i:Int) 1=i+1:=D0 (by omega) (by omega);simp only[D6,B0,hi,G6,D2,E1,ha,A3,e]
   grind
  intro s;simp[D6,B0]
 rw[A0 (by rw[D7];grind),A0 h4,AH4 N he];simp only[A3]
 cases hy:OT (JZ env x.Var) own ev x.Var with
 |none=>rfl
 |some y=>
  simp only[P7,AU,J2,G0];unfold AH8
  by_cases h2:x.Op=2
  ·rw[A1 (by rw[D7];simp_all),A1 h2]
  rw[A0 (by rw[D7];grind),A0 h2]
  have h1:x.Op=1:=by omega
  have hf:=(hok.1 (.inl h1)).1;unfold Ir
  by_cases hb:(y.Values.length:Int)≤x.Field
  ·rw[A1 (by rw[O7,B0];simp_all),A1 hb];rfl
  rw[A0 (by rw[O7,B0];grind),A0 hb,ZP hf (by omega)];simp only[A3];rw[Ng];simp only[A3];rw[A0 (show¬((0:Int)≠0) by simp)]
  by_cases hc:O0 (y.Values.getD x.Field.toNat Bh)=0
  ·rw[A0 (H7 hc),A0 (show¬O0 (y.Values.getD x.Field.toNat Bh)≠0 by omega)]
  rw[A1 (K0 hc),A1 hc];rfl
def AU0 (N:Nat)(op:Int):Ie N op=some (if op=5∨op=6∨op=7∨op=8 then 0 else if op=10∨op=11∨op=12 then 1 else -1):=by
 unfold Ie;simp only[D7,G1]
 grind
def Xb {N:Nat} (hN:Bgn N) (op:Int) {kinds:List Int} (hl:kinds.length<1000000):Ic N op kinds=some (Ln op kinds):=by
 unfold Ic Ln;rw[L5 kinds (by omega) (mk:=fun(_:Unit) i=>i) (body:=fun _ k=>some (if OU op kinds k=true then .inl ()else .inr (.inr ()))) (fin:=fun _=>.inl ()) (s:=()) (by omega) ?_ ?_]
 ·rw[OK (p:=OU op kinds) (r:=.inr ()) fun x _=>rfl]
  grind
 ·intro s i k hk hi;have e:ar .add .i64 (i:Int) 1=i+1:=D0 (by omega) (by omega)
  have h0:B9 kinds 0=some (kinds.getD 0 0):=by
   have:B9 kinds 0=kinds[0]? :=E1 (i:=0);rw[this,Z0,C0 (by omega)];rfl
  simp only[D6,B0,hi,G6,D2,E1,hk,A3,e,D7,h0,P7,AU0,L9,O7];unfold OU
  grind
 intro s;simp[D6,B0]
def Ah3 {N:Nat} (hN:Bgn N) {env:CY} (he:Kk env) (own:Int) (ev:A8):∀(n:Nat) (x:B5),x.dep≤n→x.bulk≤16777216→(∀y∈x.pre,BT y=0)→FW N n x env own ev=some (JL (Ku env own ev) x):=by
 intro n
 induction n with
 |zero=>intro x h;rw[B5.dep_eq]at h;omega
 | succ n ih=>
  intro x hd hb hbad;have hx:=hbad x (by rw[B5.pre_eq];simp);have hd':=B5.dep_eq x;unfold FW;rw[ZZ]
  by_cases h0:x.cQ.length=0
  ·rw[A1 (by rw[D7,B0];simp_all),A1 h0,AH3 hN he own ev hx (HX h0)];rfl
  rw[A0 (by rw[D7,B0];simp_all),A0 h0];obtain⟨a1,a2,a3⟩:=NI hx
  have hlen:x.cQ.length≤2:=by
   omega
  have hop5:5≤x.Op:=by
   omega
  have hF:∀a∈x.cQ,FW N n a env own ev=some (JL (Ku env own ev) a):=fun a ha=>ih a (by have:=Ur ha;omega) (by have:=BL ha;omega) fun y hy=>hbad y (by rw[B5.pre_eq];exact Dc _ (QR ha hy));rw[L5 x.cQ (by omega) (mk:=fun(s:List A9×List Int) i=>(s.1,s.2,i)) (body:=fun(s:List A9×List Int) a=>(FW N n a env own ev).bind fun r8=>if cmp .neq r8.2 0=true then some (.inr (.inr r8.2))else(P9 s.1 [r8.1]).bind fun l9=>(P9 s.2 [r8.1.Kind]).bind fun l12=>some (.inl (l9,l12))) (fin:=fun s=>.inl s) (s:=([],[])) (by omega) ?_ ?_]
  ·rw [MA (R:=Ku env own ev) rfl (by simp;omega) hF]
   cases hq:Hm (Ku env own ev) x.cQ with
   |inr f=>rfl
   | inl q=>
    simp only[A3,I5];have hql:=OZ hq;rw[Xb hN _ (by simp;omega)];simp only[A3]
    by_cases hz:Ln x.Op (q.map (·.Kind))=0
    ·rw[A0 (H7 hz),A0 (show¬Ln x.Op (q.map (·.Kind))≠0 by omega)]
     have hi0:B9 q 0=some (q.getD 0 Bh):=by
      have:B9 q 0=q[0]? :=E1 (i:=0);rw[this,ML (by omega)]
     unfold RA
     by_cases h12:x.Op=12
     ·have e1:q.length-1=0:=by rw[A0 (by omega),A1 h12]at a3;omega
      rw[h12];simp only[D7,hi0,A3,To,L9];rfl
     have h2:q.length=2:=by rw[A0 (by omega),A0 h12]at a3;omega
     have hi1:B9 q 1=some (q.getD 1 Bh):=by
      have:B9 q 1=q[1]? :=E1 (i:=1);rw[this,ML (by omega)]
     have e1:q.length-1=1:=by omega
     unfold XP;rw[e1];simp only[D7,hi0,hi1,A3,To,L9,D6,Bv];generalize q.getD 0 Bh=v;generalize q.getD 1 Bh=w
     have hop:x.Op=5∨x.Op=6∨x.Op=7∨x.Op=8∨x.Op=9∨x.Op=10∨x.Op=11:=by omega
     rcases hop with h|h|h|h|h|h|h
     ·simp[h]
     ·simp[h]
     ·simp[h]
     ·simp[h]
     ·simp only[h];have:=Af1 v w
      simp only[D7]at this
      rw[this];simp
     ·grind
     grind
    rw[A1 (K0 hz),A1 hz];rfl
  ·intro s i a ha hi;have e:ar .add .i64 (i:Int) 1=i+1:=D0 (by omega) (by omega);simp only[D6,B0,hi,G6,D2,E1,ha,A3,e]
   grind
  intro s;simp[D6,B0]
def AH6 {N:Nat}(hN:Bgn N){env:CY}(he:Kk env)(own:Int)(ev:A8){x:B5}(hb:x.bulk≤16777216):OE N x env own ev=some (RN env own ev x):=by
 unfold OE RN;rw[UD hN hb];simp only[A3]
 by_cases h:S2 x=0
 ·rw[A0 (H7 h),A1 h];have hd:=Pg x;rw[Ah3 hN he own ev N x (by omega) hb (Oc h)];rfl
 rw[A1 (K0 h),A0 h];rfl
def QD {N:Nat} (hN:Bgn N) {env:CY} (he:Kk env) (own:Int) (ev:A8) {x:B5} (hb:x.bulk≤16777216):GZ N x env own ev=some (Mn env own ev x):=by
 unfold GZ Mn;rw[AH6 hN he own ev hb];simp only[A3];rw[D7]
 by_cases h:(RN env own ev x).2=0
 ·rw[A1 (J1 h),To];simp only[A3,J1 h,EJ];rw[Af1]
  grind[Lo]
 simp_all
end
end Go.Ab
namespace Go.Ab
open Classical
noncomputable section
abbrev PR:=B6
def mrg:List PR→List PR→List PR
 |[],b=>b
 |x::a,[]=>x::a
 |x::a,y::b=>if x.At<y.At then x::mrg a (y::b)else y::mrg (x::a) b
 termination_by a b=>a.length+b.length
def DN (b:List PR):mrg [] b=b:=by unfold mrg;rfl
def X5 (a:List PR):mrg a []=a:=by cases a<;>(unfold mrg;rfl)
def PT (x y:PR)(a b:List PR):mrg (x::a) (y::b)=if x.At<y.At then x::mrg a (y::b)else y::mrg (x::a) b:=by rw[mrg]
def Eb:∀(n:Nat) (a b:List PR),a.length+b.length≤n→(mrg a b).Perm (a++b)
 |_,[],b,_=>by rw[DN];grind
 |_,x::a,[],_=>by rw[X5];simp
 |0,x::a,y::b,h=>by simp at h
 |n+1,x::a,y::b,h=>by
  simp only[G7]at h
  rw[PT]
  split
  ·exact(Eb n a (y::b) (by simp;omega)).cons x
  exact((Eb n (x::a) b (by simp;omega)).cons y).trans (List.perm_middle.symm)
def M5 {a b:List PR}{x:PR}:x∈mrg a b↔x∈a∨x∈b:=by rw[(Eb _ a b (B1 _)).mem_iff,Dp]
def KV (a b:List PR):(mrg a b).length=a.length+b.length:=by rw[(Eb _ a b (B1 _)).length_eq,G8]
def UT (a:List PR):Prop:=a.Pairwise fun x y=>x.At<y.At
def O1 (a b:List PR):Prop:=∀x∈a,∀y∈b,x.At≠y.At
def JD:∀(n:Nat) {a b:List PR},a.length+b.length≤n→UT a→UT b→O1 a b→UT (mrg a b)
 |_,[],b,_,_,hb,_=>by rw[DN];exact hb
 |_,x::a,[],_,ha,_,_=>by rw[X5];exact ha
 |0,x::a,y::b,h,_,_,_=>by simp at h
 | n+1,x::a,y::b,h,ha,hb,hd=>by
  simp only[G7]at h
  unfold UT at ha hb
  rw[Ew]at ha hb
  rw[PT];have hxy:=hd x (by simp) y (by simp)
  split
  ·rename_i hlt;refine List.pairwise_cons.2 ⟨fun z hz=>?_,JD n (by simp;omega) ha.2 (List.pairwise_cons.2 hb) fun u hu v hv=>hd u (by simp[hu]) v hv⟩
   rcases M5.1 hz with hz|hz
   ·grind
   grind
  rename_i hlt;refine List.pairwise_cons.2 ⟨fun z hz=>?_,JD n (by simp;omega) (List.pairwise_cons.2 ha) hb.2 fun u hu v hv=>hd u hu v (by simp[hv])⟩
  rcases M5.1 hz with hz|hz
  ·grind
  simp_all
def TR:∀{a b:List PR},(∀x∈a,∀y∈b,x.At<y.At)→mrg a b=a++b
 |[],b,_=>DN b
 |x::a,[],_=>by rw[X5,G4]
 |x::a,y::b,h=>by
  rw[PT,A1 (h x (by simp) y (by simp)),TR fun u hu v hv=>h u (by simp[hu]) v hv];rfl
def Oo {α:Type}(x:α)(l:List α):O5 (x::l) (some 1) none none=some l:=by
 unfold O5;rw[A1 (by simp;omega)];simp
def InS (n:Int)(s:List PR):Prop:=∀x∈s,0≤x.At∧x.At<n
def Gs {a b:Int}(h0: -9223372036854775808≤a-b)(h1:a-b<9223372036854775808):ar .sub .i64 a b=a-b:=AX h0 h1
def Sg (s:List PR)(i:Int):Bool:=s.any fun x=>decide (x.At=i)
def T7 (a b:List PR):Bool:=a.any fun x=>Sg b x.At
def Xs {s:List PR}{i:Int}:Sg s i=true↔∃x∈s,x.At=i:=by simp[Sg]
def U8 {a b:List PR}:T7 a b=false↔O1 a b:=by
 unfold T7 O1;rw[GK]
 constructor
 ·intro h x hx y hy e;exact h x hx (Xs.2 ⟨y,hy,e.symm⟩)
 intro h x hx hc;obtain⟨y,hy,e⟩:=Xs.1 hc
 grind
def T8 {α:Type}{l:List α}{i:Int}(h:i<l.length):cmp .lss i (Ar.len l)=true:=W8 h
def Cv {α:Type}{l:List α}:¬cmp .lss (l.length:Int) (Ar.len l)=true:=K4 (LE _)
def ZK {α A B:Type} {N:Nat} {l:List α} (hl:l.length<N) (hN:l.length<1000000000) {step:Int→Option (Int⊕(A⊕B))} (P:α→Bool) (u:A) (r:Int→B)
 (hstep:∀(i:Nat) x,l[i]? =some x→(i:Int)<l.length→step i=some (if P x=true then .inr (.inr (r i))else .inl ((i:Int)+1)))
 (hend:step (l.length:Int)=some (.inr (.inl u))):∃i,loopN step N 0=some (if l.any P=true then .inr (r i)else .inl u)∧0≤i:=by
 have key:∀(k i n:Nat),i+k=l.length→k<n→∃j,loopN step n (i:Int)=some (if(l.drop i).any P=true then .inr (r j)else .inl u)∧0≤j:=by
  intro k
  induction k with
  |zero=>
   intro i n hi hn;obtain⟨n,rfl⟩:∃m,n=m+1:=⟨n-1,by omega⟩;refine⟨0,?_,by omega⟩;rw[Dg (by omega),show(i:Int)=l.length by omega]
   grind[loopN]
  |succ k ih=>
   intro i n hi hn;obtain⟨n,rfl⟩:∃m,n=m+1:=⟨n-1,by omega⟩
   have hlt:i<l.length:=by omega
   obtain⟨j,h,hj⟩:=ih (i+1) n (by omega) (by omega);rw[O4 hlt,EI];have hs:=hstep i l[i] (by simp[hlt]) (by omega)
   grind[loopN]
 obtain⟨j,h,hj⟩:=key l.length 0 N (by omega) hl;exact⟨j,by grind,hj⟩
def Kt {α:Type}{N:Nat}{l:List α}{step:Int→Option (Int⊕(Unit⊕Unit))}(P:α→Bool)(hl:l.length<N)(hN:l.length<1000000000)
 (hstep:∀(i:Nat) x,l[i]? =some x→(i:Int)<l.length→step i=some (if P x=true then .inr (.inr ())else .inl ((i:Int)+1)))
 (hend:step (l.length:Int)=some (.inr (.inl ()))):loopN step N 0=some (if l.any P=true then .inr ()else .inl ()):=by
 obtain⟨_,h,_⟩:=ZK hl hN P () (fun _=>()) hstep hend;exact h
def hdA (s:List PR):Int:=match s with|[]=>0|x::_=>x.At
def T9 (s:List PR):Int:=match s.getLast? with|none=>0|some x=>x.At
def Qb {α:Type} {l:List α} (h:l≠[]) (hl:l.length≤1000000):B9 l (ar .sub .i64 (Ar.len l) 1)=l.getLast? :=by
 rcases Eu l with rfl|⟨q,y,rfl⟩
 ·simp_all
 rw[Et]at *
 have e1:ar .sub .i64 (Ar.len (q++[y])) 1=(q.length:Int):=by
  have:ar .sub .i64 (Ar.len (q++[y])) 1=Ar.len (q++[y])-1:=Gs (by rw[B0];omega) (by rw[B0];omega);rw[this,B0];simp
 rw[e1,E1];simp
def Gc {s:List PR}(h:s≠[]):∃x,s.getLast? =some x∧x∈s∧T9 s=x.At:=by
 cases hs:s.getLast? with
 |none=>simp_all
 |some x=>exact⟨x,rfl,List.mem_of_getLast? hs,by simp[T9,hs]⟩
def Uf {α:Type}(x:α)(l:List α):B9 (x::l) 0=some x:=rfl
def IB {s:List PR}(ha:UT s):∀x∈s,x.At≤T9 s:=by
 intro x hx
 rcases Eu s with rfl|⟨q,y,rfl⟩
 ·cases hx
 rw[Et]at *
 have e:T9 (q++[y])=y.At:=by simp[T9]
 rw[e]
 unfold UT at ha
 rw[GN]at ha
 rcases List.mem_append.1 hx with h|h
 ·have:=ha.2.2 x h y (by simp);omega
 simp_all
def Au4:∀{s:List PR} {k:Int} {m:Nat},UT s→(∀x∈s,k≤x.At∧x.At<k+m)→s.length≤m
 |[],_,_,_,_=>Dm _
 |x::s,k,m,ha,h=>by
  unfold UT at ha
  rw[Ew]at ha
  have hx:=h x (by simp);obtain⟨m,rfl⟩:∃q,m=q+1:=⟨m-1,by omega⟩
  have:=Au4 (s:=s) (k:=x.At+1) (m:=m) ha.2 fun y hy=>by have:=ha.1 y hy;have:=h y (by simp[hy]);omega
  simp;omega
def Vb (l:List A8)(s:List PR)(b v:Int):List A8:=s.filterMap fun x=>if x.At<b∧x.Var=v then l[x.At.toNat]? else none
def Vg (l:List A8)(s:List PR)(b:Int):CY:=⟨(List.range 16).map fun(v:Nat)=>Vb l s b (v:Int)⟩
def WfS (l:List A8)(s:List PR):Prop:=∀x∈s,(0≤x.Var∧x.Var<16)∧(0≤x.At∧x.At<l.length)
def WfS.ins {l:List A8}{s:List PR}(h:WfS l s):InS l.length s:=fun x hx=>(h x hx).2
def YR (l:List A8)(s:List PR)(b v:Int):(Vb l s b v).length≤s.length:=List.length_filterMap_le ..
def Kz (l:List A8){s:List PR}(hs:s.length<1000000)(b:Int):Kk (Vg l s b):=by
 constructor
 ·simp[Vg]
 intro r hr
 simp only[Vg,GA]at hr
 obtain⟨v,_,rfl⟩:=hr;have:=YR l s b v;omega
def VG (l:List A8)(p:List PR)(x:PR)(b v:Int):Vb l (p++[x]) b v=Vb l p b v++(if x.At<b∧x.Var=v then(l[x.At.toNat]?).toList else[]):=by
 unfold Vb;rw[List.filterMap_append]
 grind
def Ty {α R:Type} (f:α→PR) (l:List A8) (b:Int) {s:List α} (hs:s.length≤1000000) (hw:WfS l (s.map f)):
 L6 (R:=R) (fun rows x=>if cmp .lss (f x).At b=true then(B9 rows (f x).Var).bind fun x9=>(B9 l (f x).At).bind fun x14=>(P9 x9 [x14]).bind fun l15=>(FJ rows (f x).Var (fun _=>l15)).bind fun l13=>some (.inl l13)else some (.inl rows)) s (List.replicate 16 [])=
  some (.inl ((List.range 16).map fun(v:Nat)=>Vb l (s.map f) b (v:Int))):=by
 obtain⟨s',h1,p,h2,h3⟩:=DL (R:=R) (step:=fun rows x=>if cmp .lss (f x).At b=true then(B9 rows (f x).Var).bind fun x9=>(B9 l (f x).At).bind fun x14=>(P9 x9 [x14]).bind fun l15=>(FJ rows (f x).Var (fun _=>l15)).bind fun l13=>some (.inl l13)else some (.inl rows))
  (fun r rows=>∃p,p++r=s∧rows=(List.range 16).map fun(v:Nat)=>Vb l (p.map f) b (v:Int)) (fun x r rows ⟨p,e1,e2⟩=>by
   subst e2
   have hx:x∈s:=by rw[←e1];simp
   obtain⟨⟨v0,v1⟩,a0,a1⟩:=hw (f x) (List.mem_map.2 ⟨x,hx,rfl⟩)
   have hpl:p.length≤1000000:=by have:=I4 List.length e1;grind
   by_cases hb:(f x).At<b
   ·rw[A1 (by rw[D6];simp_all)]
    generalize hv:(f x).Var=vv at *
    generalize ha:(f x).At=aa at *
    obtain⟨v,rfl⟩:=Dh v0;obtain⟨a,rfl⟩:=Dh a0
    have hva:v<16:=by omega
    have haa:a<l.length:=by omega
    have e1':B9 ((List.range 16).map fun(v:Nat)=>Vb l (p.map f) b (v:Int)) (v:Int)=some (Vb l (p.map f) b v):=by
     rw[E1];simp[hva]
    have e2':B9 l (a:Int)=some l[a]:=by rw[E1];simp[haa]
    have hpl':=YR l (p.map f) b v;simp only[e1',e2',A3];rw[S1 (by grind)];simp only[A3];refine⟨_,by unfold FJ;rw[e1'];rfl,p++[x],by grind,?_⟩;apply BD;intro j;rw[Au]
    by_cases hj:j<16
    ·simp only[S5,GM hj,N1,D9,H6,VG,hv,ha,R6,D4,Db,K2]
     grind
    simp_all
   rw[A0 (by rw[D6];grind)];refine⟨_,rfl,p++[x],by grind,?_⟩;apply X3;intro v _
   rw[N1,D9,H6,VG,A0 (by omega),G4]) (l:=s) (s:=List.replicate 16 []) ⟨[],rfl,by simp[Vb];rfl⟩
 rw[h1]
 rw[G4]at h2
 rw[h3,h2]
def Xd {N:Nat} (hN:Bgn N) {l:List A8} {s:List PR} (hs:s.length≤1000000) (hw:WfS l s) (b:Int):Km N l s b=some (Vg l s b):=by
 unfold Km;have h1:mkL 16 16 ([]:List A8)=some (List.replicate 16 []):=rfl;rw[h1];simp only[A3];rw[L5 s (by omega) (mk:=fun(rows:List (List A8)) i=>(i,rows)) (body:=fun rows x=>if cmp .lss x.At b=true then(B9 rows x.Var).bind fun x9=>(B9 l x.At).bind fun x14=>(P9 x9 [x14]).bind fun l15=>(FJ rows x.Var (fun _=>l15)).bind fun l13=>some (.inl l13)else some (.inl rows)) (fin:=fun s=>s) (s:=List.replicate 16 []) (by omega) ?_ ?_]
 ·have h:=Ty (R:=List (List A8)) (fun x:PR=>x) l b hs (by simpa using hw);rw[h];simp[Vg]
 ·intro rows i x hx hi;have e:ar .add .i64 (i:Int) 1=i+1:=D0 (by omega) (by omega);have c1:cmp .lss (i:Int) (s.length:Int)=true:=W8 hi
  by_cases hb:x.At<b
  ·have c2:cmp .lss x.At b=true:=W8 hb;simp only[c1,c2,B0,D2,E1,hx,A3,e]
   cases B9 rows x.Var with
   |none=>rfl
   |some r=>
    simp only[A3]
    grind
  have c2:cmp .lss x.At b=false:=by simpa using K4 hb
  simp only[c1,c2,B0,D2,E1,hx,A3,e,J2,G0]
 intro s;simp[D6,B0]
def Pm {l:List A8}{i:Nat}(h:i<l.length):B9 l (i:Int)=some l[i]:=by rw[E1];simp[h]
def XZ {β:Type}(T:Nat→Bool)(g:Nat→β):Nat→Nat→List β
 |0,_=>[]
 |k+1,i=>if T i=true then g i::XZ T g k (i+1)else XZ T g k (i+1)
def Kf {β:Type}(T:Nat→Bool)(g:Nat→β)(k i:Nat):XZ T g (k+1) i=if T i=true then g i::XZ T g k (i+1)else XZ T g k (i+1):=rfl
def PU {β:Type} {T:Nat→Bool} {g:Nat→β} {x:β}:∀{k i:Nat},x∈XZ T g k i↔∃j,i≤j∧j<i+k∧T j=true∧x=g j
 |0,i=>by grind[XZ]
 |k+1,i=>by
  rw[Kf];have ih:=PU (T:=T) (g:=g) (x:=x) (k:=k) (i:=i+1)
  grind
def QJ {β:Type} {T:Nat→Bool} {g:Nat→β} (hg:∀i j,g i=g j→i=j):∀{k i:Nat},(XZ T g k i).Nodup
 |0,i=>by simp[XZ]
 |k+1,i=>by
  rw[Kf]
  split
  ·refine List.nodup_cons.2 ⟨fun h=>?_,QJ hg⟩;obtain⟨j,a,b,c,d⟩:=PU.1 h;have:=hg _ _ d;omega
  exact QJ hg
def ZL {β A:Type} {n:Nat} {step:Int→Option (List β×(Int⊕A))} {T:Nat→Bool} {g:Nat→β} {u:A} (hs:∀i,i<n→step (i:Int)=some (if T i=true then[g i]else[],.inl ((i:Int)+1))) (he:step (n:Int)=some ([],.inr u)):
 ∀(k i N:Nat),i+k=n→k<N→DA step N (i:Int)=some (XZ T g k i,u)
 |0,i,N,h,hN=>by
  obtain⟨N,rfl⟩:∃m,N=m+1:=⟨N-1,by omega⟩;rw[show(i:Int)=n by omega]
  grind[DA,XZ]
 |k+1,i,N,h,hN=>by
  obtain⟨N,rfl⟩:∃m,N=m+1:=⟨N-1,by omega⟩;have ih:=ZL hs he k (i+1) N (by omega) (by omega)
  grind[DA,XZ]
def OP {A:Type} {n:Nat} {step:Int→Option (Int⊕(A⊕Unit))} {P:Nat→Bool} {u:A} (m:Nat) (hs:∀i,m≤i→i<n→step (i:Int)=some (if P i=true then .inr (.inr ())else .inl ((i:Int)+1))) (he:∀i:Nat,n≤i→step (i:Int)=some (.inr (.inl u))):
 ∀(k i N:Nat),n≤i+k→m≤i→k<N→loopN step N (i:Int)=some (if(List.range' i (n-i)).any P=true then .inr ()else .inl u)
 |0,i,N,h,_,hN=>by
  obtain⟨N,rfl⟩:∃m,N=m+1:=⟨N-1,by omega⟩;rw[show n-i=0 by omega]
  simp_all[loopN]
 | k+1,i,N,h,hm,hN=>by
  obtain⟨N,rfl⟩:∃m,N=m+1:=⟨N-1,by omega⟩
  by_cases hi:i<n
  ·have ih:=OP m hs he k (i+1) N (by omega) (by omega) (by omega);simp only[loopN,hs i hm hi];rw[show n-i=(n-(i+1))+1 by omega,Dr,EI]
   grind
  simp_all[loopN]
def Ao4 (l:List A8)(i:Int):Int:=match l[i.toNat]? with|some e=>e.Time|none=>0
def UO (l:List A8)(p:A2)(b s:List PR)(i:Nat):Bool:=match l[i]? with|some e=>decide (e.Typ=p.Typ)&&(!Sg s i)&&Mn (Vg l (mrg b s) i) p.Var e p.cR|none=>false
def UC (l:List A8)(p:A2)(b s:List PR):Bool:= !((List.range l.length).any fun i=>decide (hdA s<(i:Int))&&decide ((i:Int)<T9 s)&&UO l p b s i)
def BY (l:List A8)(p:A2)(b s:List PR):Bool:=
 if p.Op=6 then decide (ar .sub .i64 (Ao4 l (T9 s)) (Ao4 l (hdA s))≤p.Span)else if p.Op=7 then Mn (Vg l (mrg b s) l.length) (-1) ⟨0,0,0,0,[]⟩ p.cR else UC l p b s
structure Gd (l:List A8) (s:List PR):Prop where
 wf:WfS l s
 asc:UT s
def Gd.len {l:List A8}{s:List PR}(h:Gd l s):s.length≤l.length:=Au4 (k:=0) h.asc fun x hx=>by have:=(h.wf x hx).2;omega
def Gd.nil (l:List A8):Gd l []:=⟨fun _ h=>absurd h List.not_mem_nil,List.Pairwise.nil⟩
def Gd.mrg {l:List A8}{a b:List PR}(ha:Gd l a)(hb:Gd l b)(h:O1 a b):Gd l (mrg a b):=⟨fun x hx=>(M5.1 hx).elim (ha.wf x) (hb.wf x),JD _ (Nat.le_refl _) ha.asc hb.asc h⟩
def Gd.lst {l:List A8}{s:List PR}(h:Gd l s)(hn:s≠[]):0≤T9 s∧T9 s<l.length:=by
 obtain⟨x,_,hx,e⟩:=Gc hn;rw[e];exact(h.wf x hx).2
def Gd.hd {l:List A8} {s:List PR} (h:Gd l s) (hn:s≠[]):0≤hdA s∧hdA s<l.length∧hdA s≤T9 s∧Sg s (hdA s)=true:=by
 cases s with
 |nil=>simp_all
 |cons x s=>
  have:=(h.wf x (by simp)).2;exact⟨this.1,this.2,IB h.asc x (by simp),Xs.2 ⟨x,by simp,rfl⟩⟩
def Sq {l:List A8}{i:Int}(h0:0≤i)(h1:i<l.length):∃e,B9 l i=some e∧e.Time=Ao4 l i:=by
 simp_all[B9,Ao4]
def Bh1 {s:List PR}(h:s≠[]):∃x,B9 s 0=some x∧x.At=hdA s:=by
 cases s with
 |nil=>simp_all
 |cons x s=>simp[B9,hdA]
def VY {l:List A8}{p:A2}{b s:List PR}{a n:Nat}(h1:(a:Int)≤hdA s+1)(h2:hdA s≤(a:Int))(hn:(n:Int)=T9 s)(hh:Sg s (hdA s)=true)(hl:T9 s<l.length):
 (List.range' a (n-a)).any (UO l p b s)= !UC l p b s:=by
 grind[UO,UC]
def Bc3 (l:List A8)(p:A2)(b:List PR)(i:Nat):Bool:=match l[i]? with|some e=>decide (e.Typ=p.Typ)&&Mn (Vg l b i) p.Var e p.cR|none=>false
def Be9 {n:Int}(h0:0≤n)(h1:n<1000):Ar.wr .i64 n=n:=AX (by omega) (by omega)
structure WfN (y:A2):Prop where
 op:0≤y.Op∧y.Op≤7
 var:y.Op=0→0≤y.Var∧y.Var<16
 a0:y.Op=0→y.cQ=[]
 a1:1≤y.Op→y.Op≤3→y.cQ≠[]
 a2:4≤y.Op→∃q,y.cQ=[q]
 cond:y.cR.bulk≤16777216
def FF (p:A2):Prop:=∀y∈p.pre,WfN y
def Ke {N:Nat} (hN:Bgn N) {x:A2} (hb:x.bulk≤16777216) (h:QV N x=0):FF x∧x.pre.length≤64:=by
 unfold QV at h
 by_cases hr:Z8 N x=0
 ·rw [A0 (by omega)]at h
  by_cases ha:x.pre.any (fun y=>cmp .geq y.Op 8)=true
  ·rw[A1 ha]at h;cases h
  obtain⟨hp,hd,hg⟩:=Nn hr;refine⟨fun y hy=>?_,hp⟩;have h1:=JE x y hy;have h2:=V5 y
  have hyb:y.bulk≤16777216:=by omega
  have hyl:y.cQ.length≤64:=by omega
  obtain⟨ho,s,ng,hs,hc⟩:=TH hN hyb hyl (hg y hy)
  have h7:y.Op≤7:=by
   rw[As,GK]at ha
   have:=ha y hy
   rw[O7]at this
   grind
  have hz:=Bc6 hN N y.cR (⟨0,[],0,0,0,(⟨0,0,⟨#[]⟩⟩:A9)⟩:B5) (by omega) (by omega);have h1:=Lf hN (by omega) ho.1 ho.2 hs hz
  rw[(HR hN hyb hyl).2,hg y hy]at h1
  have h1:=Co h1
  by_cases har:s.cX≤y.cQ.length∧(y.cQ.length:Int)≤s.most
  ·rw[A1 har]at h1
   unfold OM at h1
   by_cases e1:Hg s.cS y.Typ 15=true
   ·rw[A1 e1]at h1;cases h1
   rw[A0 e1]at h1
   by_cases e2:Hg s.cS y.Var 15=true
   ·rw[A1 e2]at h1;cases h1
   have ht:=hs.tab
   have hop:y.Op=0∨y.Op=1∨y.Op=2∨y.Op=3∨y.Op=4∨y.Op=5∨y.Op=6∨y.Op=7:=by omega
   refine⟨⟨ho.1,h7⟩,?_,?_,?_,?_,by omega⟩
   ·intro h0
    rw[h0]at ht
    have hs:s.cS=true:=by cases ht;rfl
    rw[hs]at e2
    unfold Hg at e2
    grind
   ·intro h0
    rw[h0]at ht
    have hm:s.most=0:=by cases ht;rfl
    exact HX (by omega)
   ·intro h0 h3
    have hm:1≤s.cX:=by
     have:y.Op=1∨y.Op=2∨y.Op=3:=by omega
     rcases this with h|h|h<;>rw[h]at ht<;>cases ht<;>decide
    grind
   intro h0
   have hm:s.cX=1∧s.most=1:=by
    have:y.Op=4∨y.Op=5∨y.Op=6∨y.Op=7:=by omega
    rcases this with h|h|h|h<;>rw[h]at ht<;>cases ht<;>decide
   have hl:y.cQ.length=1:=by omega
   match he:y.cQ,hl with
   |[q],_=>grind
  omega
 omega
def V9 {y:A2}:∀{l:List A2},y∈A2.pres l↔∃a∈l,y∈a.pre
 |[]=>by simp[A2.pres]
 |a::l=>by simp only[A2.pres,Dp,V9 (l:=l),GC];simp_all
def FF.self {p:A2}(h:FF p):WfN p:=h p (GW p)
def FF.arg {p q:A2}(h:FF p)(hq:q∈p.cQ):FF q:=fun y hy=>h y (by rw[A2.pre_eq];exact List.mem_cons_of_mem _ (V9.2 ⟨q,hq,hy⟩))
def FF.sub {p:A2}{r:List A2}(h:FF p)(h1:1≤p.Op)(h3:p.Op≤3)(hr:∀q∈r,q∈p.cQ)(hn:r≠[]):FF {p with cQ:=r}:=by
 intro y hy
 rw[A2.pre_eq]at hy
 rcases List.mem_cons.1 hy with rfl|hy
 ·exact⟨h.self.op,fun e=>by have:p.Op=0:=e;omega,fun e=>by have:p.Op=0:=e;omega,fun _ _=>hn,fun e=>by have:4≤p.Op:=e;omega,h.self.cond⟩
 obtain⟨q,hq,hy⟩:=V9.1 hy;exact h.arg (hr q hq) y hy
inductive Sm (l:List A8):A2→List PR→Int→List PR→Prop
 |ev {p:A2} {b:List PR} {f:Int} {j:Nat}:p.Op=0→f≤j→j<l.length→Bc3 l p b j=true→Sm l p b f [⟨p.Var,j⟩]
 |seq1 {p q:A2} {b:List PR} {f:Int} {s:List PR}:p.Op=1→p.cQ=[q]→Sm l q b f s→Sm l p b f s
 |seq {p q q':A2} {r:List A2} {b:List PR} {f:Int} {s t:List PR}:p.Op=1→p.cQ=q::q'::r→Sm l q b f s→Sm l {p with cQ:=q'::r} (mrg b s) (T9 s+1) t→Sm l p b f (mrg s t)
 |alt {p q:A2} {b:List PR} {f:Int} {s:List PR}:p.Op=2→q∈p.cQ→Sm l q b f s→Sm l p b f s
 |all1 {p q:A2} {b:List PR} {f:Int} {s:List PR}:p.Op=3→p.cQ=[q]→Sm l q b f s→Sm l p b f s
 |all {p q:A2} {r:List A2} {b:List PR} {f:Int} {s t:List PR}:p.Op=3→p.cQ=r++[q]→r≠[]→Sm l {p with cQ:=r} b f s→Sm l q b f t→O1 s t→Sm l p b f (mrg s t)
 |plus1 {p q:A2} {b:List PR} {f:Int} {s:List PR}:p.Op=4→p.cQ=[q]→Sm l q b f s→Sm l p b f s
 |plus {p q:A2} {b:List PR} {f:Int} {s t:List PR}:p.Op=4→p.cQ=[q]→Sm l q b f s→Sm l p (mrg b s) (T9 s+1) t→Sm l p b f (mrg s t)
 |some {p q:A2} {b:List PR} {f:Int} {s:List PR}:5≤p.Op→p.Op≤7→p.cQ=[q]→Sm l q b f s→BY l p b s=true→Sm l p b f s
def Sm.i0 {l:List A8} {p:A2} {b:List PR} {f:Int} {s:List PR} (h0:p.Op=0):Sm l p b f s↔∃j:Nat,f≤j∧j<l.length∧Bc3 l p b j=true∧s=[⟨p.Var,j⟩]:=by
 constructor
 ·intro h
  cases h with
  |ev e0 e1 e2 e3=>grind
  |_=>omega
 rintro⟨j,e1,e2,e3,rfl⟩;exact .ev h0 e1 e2 e3
def Sm.i1 {l:List A8} {p q:A2} {b:List PR} {f:Int} {s:List PR} (h0:p.Op=1) (ha:p.cQ=[q]):Sm l p b f s↔Sm l q b f s:=by
 constructor
 ·intro h
  cases h with
  |seq1 e0 ea hs=>rw[ha]at ea;simp_all
  |seq e0 ea hs ht=>rw[ha]at ea;cases ea
  |_=>omega
 exact .seq1 h0 ha
def Sm.i1c {l:List A8} {p q q':A2} {r:List A2} {b:List PR} {f:Int} {s:List PR} (h0:p.Op=1) (ha:p.cQ=q::q'::r):Sm l p b f s↔∃u t,Sm l q b f u∧Sm l {p with cQ:=q'::r} (mrg b u) (T9 u+1) t∧s=mrg u t:=by
 constructor
 ·intro h
  cases h with
  |seq1 e0 ea hs=>rw[ha]at ea;cases ea
  |seq e0 ea hs ht=>rw[ha]at ea;grind
  |_=>omega
 rintro⟨u,t,hs,ht,rfl⟩;exact .seq h0 ha hs ht
def Sm.i2 {l:List A8} {p:A2} {b:List PR} {f:Int} {s:List PR} (h0:p.Op=2):Sm l p b f s↔∃q∈p.cQ,Sm l q b f s:=by
 constructor
 ·intro h
  cases h with
  |alt e0 ea hs=>grind
  |_=>omega
 rintro⟨q,ha,hs⟩;exact .alt h0 ha hs
def Sm.i3 {l:List A8} {p q:A2} {b:List PR} {f:Int} {s:List PR} (h0:p.Op=3) (ha:p.cQ=[q]):Sm l p b f s↔Sm l q b f s:=by
 constructor
 ·intro h
  cases h with
  |all1 e0 ea hs=>rw[ha]at ea;simp_all
  |all e0 ea en hs ht hd=>
   rw[ha]at ea
   exact absurd (Md (s₁:=[]) ea rfl).symm en
  |_=>omega
 exact .all1 h0 ha
def Sm.i3c {l:List A8} {p q:A2} {r:List A2} {b:List PR} {f:Int} {s:List PR} (h0:p.Op=3) (ha:p.cQ=r++[q]) (hr:r≠[]):Sm l p b f s↔∃u t,Sm l {p with cQ:=r} b f u∧Sm l q b f t∧O1 u t∧s=mrg u t:=by
 constructor
 ·intro h
  cases h with
  |all1 e0 ea hs=>
   rw[ha]at ea
   exact absurd (Md (s₂:=[]) ea rfl) hr
  |all e0 ea en hs ht hd=>
   rw[ha]at ea
   have e1:=Md ea rfl;have e2:=List.append_inj_right' ea rfl
   grind
  |_=>omega
 rintro⟨u,t,hs,ht,hd,rfl⟩;exact .all h0 ha hr hs ht hd
def Sm.i4 {l:List A8} {p q:A2} {b:List PR} {f:Int} {s:List PR} (h0:p.Op=4) (ha:p.cQ=[q]):Sm l p b f s↔Sm l q b f s∨∃u t,Sm l q b f u∧Sm l p (mrg b u) (T9 u+1) t∧s=mrg u t:=by
 constructor
 ·intro h
  cases h with
  |plus1 e0 ea hs=>rw[ha]at ea;simp_all
  |plus e0 ea hs ht=>rw[ha]at ea;grind
  |_=>omega
 rintro(hs|⟨u,t,hs,ht,rfl⟩)
 ·exact .plus1 h0 ha hs
 exact .plus h0 ha hs ht
def Sm.i5 {l:List A8} {p q:A2} {b:List PR} {f:Int} {s:List PR} (h0:5≤p.Op) (h1:p.Op≤7) (ha:p.cQ=[q]):Sm l p b f s↔Sm l q b f s∧BY l p b s=true:=by
 constructor
 ·intro h
  cases h with
  |some e0 e1 ea hs hk=>rw[ha]at ea;simp_all
  |_=>omega
 rintro⟨hs,hk⟩;exact .some h0 h1 ha hs hk
structure Lk (l:List A8) (b:List PR) (f:Int):Prop where
 gd:Gd l b
 lt:∀x∈b,x.At<f
 f0:0≤f
 f1:f≤l.length
structure Hj (l:List A8) (f:Int) (s:List PR):Prop where
 gd:Gd l s
 ge:∀x∈s,f≤x.At
 ne:s≠[]
def Lk.apart {l:List A8}{b s:List PR}{f:Int}(h:Lk l b f)(r:Hj l f s):O1 b s:=fun x hx y hy=>by have:=h.lt x hx;have:=r.ge y hy;omega
def Lk.next {l:List A8}{b s:List PR}{f:Int}(h:Lk l b f)(r:Hj l f s):Lk l (mrg b s) (T9 s+1):=by
 have hl:=r.gd.lst r.ne;refine⟨h.gd.mrg r.gd (h.apart r),fun x hx=>?_,by omega,by omega⟩
 rcases M5.1 hx with hx|hx
 ·obtain⟨y,_,hy,e⟩:=Gc r.ne;have:=h.lt x hx;have:=r.ge y hy;omega
 have:=IB r.gd.asc x hx;omega
def Hj.seq {l:List A8} {s t:List PR} {f:Int} (r:Hj l f s) (q:Hj l (T9 s+1) t):Hj l f (mrg s t)∧O1 s t:=by
 have ha:O1 s t:=fun x hx y hy=>by have:=IB r.gd.asc x hx;have:=q.ge y hy;omega
 refine⟨⟨r.gd.mrg q.gd ha,fun x hx=>?_,fun e=>?_⟩,ha⟩
 ·rcases M5.1 hx with hx|hx
  ·exact r.ge x hx
  obtain⟨y,_,hy,e⟩:=Gc r.ne;have:=r.ge y hy;have:=q.ge x hx;omega
 have h1:=I4 List.length e
 rw[KV,X1]at h1
 have:=List.length_pos_iff.2 r.ne;omega
def Hj.all {l:List A8}{s t:List PR}{f:Int}(r:Hj l f s)(q:Hj l f t)(ha:O1 s t):Hj l f (mrg s t):=by
 refine⟨r.gd.mrg q.gd ha,fun x hx=>(M5.1 hx).elim (r.ge x) (q.ge x),fun e=>?_⟩;have h1:=I4 List.length e
 rw[KV,X1]at h1
 have:=List.length_pos_iff.2 r.ne;omega
def Sm.res {l:List A8} {p:A2} {b:List PR} {f:Int} {s:List PR} (h:Sm l p b f s):FF p→Lk l b f→Hj l f s:=by
 induction h with
 |@ev p b f j h0 hf hj ht=>
  intro hw ho;refine⟨⟨fun x hx=>?_,HV _ _⟩,fun x hx=>?_,by simp⟩
  ·rw[List.mem_singleton.1 hx];exact⟨hw.self.var h0,by simp_all⟩
  simp_all
 |seq1 h0 ha _ ih=>intro hw ho;exact ih (hw.arg (by rw[ha];simp)) ho
 |@seq p q q' r b f s t h0 ha _ _ ih1 ih2=>
  intro hw ho;have r1:=ih1 (hw.arg (by rw[ha];simp)) ho;have r2:=ih2 (hw.sub (by omega) (by omega) (fun x hx=>by rw[ha];simp_all) (by simp)) (ho.next r1);exact(r1.seq r2).1
 |alt h0 ha _ ih=>intro hw ho;exact ih (hw.arg ha) ho
 |all1 h0 ha _ ih=>intro hw ho;exact ih (hw.arg (by rw[ha];simp)) ho
 |@all p q r b f s t h0 ha hn _ _ hd ih1 ih2=>
  intro hw ho;exact(ih1 (hw.sub (by omega) (by omega) (fun x hx=>by rw[ha];simp[hx]) hn) ho).all (ih2 (hw.arg (by rw[ha];simp)) ho) hd
 |plus1 h0 ha _ ih=>intro hw ho;exact ih (hw.arg (by rw[ha];simp)) ho
 |@plus p q b f s t h0 ha _ _ ih1 ih2=>
  intro hw ho;have r1:=ih1 (hw.arg (by rw[ha];simp)) ho;exact(r1.seq (ih2 hw (ho.next r1))).1
 |some h0 h1 ha _ _ ih=>intro hw ho;exact ih (hw.arg (by rw[ha];simp)) ho
def Vs (p:A2)(v:Int):Prop:=∃y∈p.pre,y.Op=0∧y.Var=v
def Vs.arg {p q:A2}{v:Int}(hq:q∈p.cQ)(h:Vs q v):Vs p v:=by
 obtain⟨y,hy,h⟩:=h;exact⟨y,by rw[A2.pre_eq];exact Dc _ (V9.2 ⟨q,hq,hy⟩),h⟩
def Vs.sub {p:A2}{r:List A2}{v:Int}(h0:p.Op≠0)(hr:∀q∈r,q∈p.cQ)(h:Vs {p with cQ:=r} v):Vs p v:=by
 obtain⟨y,hy,h1,h2⟩:=h
 rw[A2.pre_eq]at hy
 rcases List.mem_cons.1 hy with rfl|hy
 ·simp_all
 obtain⟨q,hq,hy⟩:=V9.1 hy;exact Vs.arg (hr q hq) ⟨y,hy,h1,h2⟩
def Sm.vars {l:List A8} {p:A2} {b:List PR} {f:Int} {s:List PR} (h:Sm l p b f s):∀x∈s,Vs p x.Var:=by
 induction h with
 |@ev p b f j h0 hf hj ht=>intro x hx;rw[List.mem_singleton.1 hx];exact⟨p,GW p,h0,rfl⟩
 |seq1 h0 ha _ ih=>intro x hx;exact Vs.arg (by rw[ha];simp) (ih x hx)
 |@seq p q q' r b f s t h0 ha _ _ ih1 ih2=>
  intro x hx
  rcases M5.1 hx with hx|hx
  ·exact Vs.arg (by rw[ha];simp) (ih1 x hx)
  exact Vs.sub (by omega) (fun x hx=>by rw[ha];simp_all) (ih2 x hx)
 |alt h0 ha _ ih=>intro x hx;exact Vs.arg ha (ih x hx)
 |all1 h0 ha _ ih=>intro x hx;exact Vs.arg (by rw[ha];simp) (ih x hx)
 |@all p q r b f s t h0 ha hn _ _ hd ih1 ih2=>
  intro x hx
  rcases M5.1 hx with hx|hx
  ·exact Vs.sub (by omega) (fun x hx=>by rw[ha];simp[hx]) (ih1 x hx)
  exact Vs.arg (by rw[ha];simp) (ih2 x hx)
 |plus1 h0 ha _ ih=>intro x hx;exact Vs.arg (by rw[ha];simp) (ih x hx)
 |@plus p q b f s t h0 ha _ _ ih1 ih2=>
  intro x hx
  rcases M5.1 hx with hx|hx
  ·exact Vs.arg (by rw[ha];simp) (ih1 x hx)
  simp_all
 |some h0 h1 ha _ _ ih=>intro x hx;exact Vs.arg (by rw[ha];simp) (ih x hx)
def Y2 (p:A2):Nat:=p.pre.countP fun y=>decide (y.Op=0)
def BM (p:A2):Prop:=∀y∈p.pre,y.Op≠4
def Fx (p:A2):Y2 p=(if p.Op=0 then 1 else 0)+(A2.pres p.cQ).countP fun y=>decide (y.Op=0):=by
 unfold Y2;rw[A2.pre_eq,List.countP_cons]
 by_cases h:p.Op=0<;>simp[h]<;>omega
def NC (p:A2)(r:List A2):Y2 {p with cQ:=r}=(if p.Op=0 then 1 else 0)+(A2.pres r).countP fun y=>decide (y.Op=0):=Fx _
def RT {q:A2}:∀{l:List A2},q∈l→Y2 q≤(A2.pres l).countP fun y=>decide (y.Op=0)
 |a::l,h=>by
  simp only[A2.pres,Er]
  rcases List.mem_cons.1 h with rfl|h
  ·simp[Y2]
  have:=RT h;omega
def La {p q:A2}(h:q∈p.cQ):Y2 q≤Y2 p:=by rw[Fx p];have:=RT h;omega
def BM.arg {p q:A2}(h:BM p)(hq:q∈p.cQ):BM q:=fun y hy=>h y (by rw[A2.pre_eq];exact List.mem_cons_of_mem _ (V9.2 ⟨q,hq,hy⟩))
def BM.sub {p:A2}{r:List A2}(h:BM p)(hr:∀q∈r,q∈p.cQ):BM {p with cQ:=r}:=by
 intro y hy
 rw[A2.pre_eq]at hy
 rcases List.mem_cons.1 hy with rfl|hy
 ·exact h p (GW p)
 obtain⟨q,hq,hy⟩:=V9.1 hy;exact h.arg (hr q hq) y hy
def Sml (n:Nat)(p:A2):Prop:=(Y2 p+1) ^ n≤1500∨(BM p∧2≤n∧n ^ Y2 p≤1500)
def Sml.mono {n:Nat}{p q:A2}(h:Sml n p)(h1:Y2 q≤Y2 p)(h2:BM p→BM q):Sml n q:=by
 rcases h with h|⟨a,b,c⟩
 ·exact .inl (N0 (Ja (by omega) n) h)
 exact .inr ⟨h2 a,b,N0 (Es (by omega) h1) c⟩
def Sml.arg {n:Nat}{p q:A2}(h:Sml n p)(hq:q∈p.cQ):Sml n q:=h.mono (La hq) fun k=>k.arg hq
def Sml.tail {n:Nat}{p q:A2}{r:List A2}(h:Sml n p)(ha:p.cQ=q::r):Sml n {p with cQ:=r}:=by
 refine h.mono ?_ fun k=>k.sub fun x hx=>by rw[ha];simp_all
 rw[NC,Fx,ha];simp[A2.pres]
def Cm:∀(r m:List A2),A2.pres (r++m)=A2.pres r++A2.pres m
 |[],m=>by simp[A2.pres]
 |a::r,m=>by simp[A2.pres,Cm r m]
def MR (V:List Int):Nat→Int→List (List PR)
 |0,_=>[[]]
 |m+1,k=>MR V m (k+1)++V.flatMap fun v=>(MR V m (k+1)).map fun s=>⟨v,k⟩::s
def QS (V:List Int):∀(m:Nat) (k:Int),(MR V m k).length=(V.length+1) ^ m
 |0,_=>rfl
 | m+1,k=>by
  have ih:=QS V m (k+1)
  have h:(V.flatMap fun v=>(MR V m (k+1)).map fun s=>(⟨v,k⟩:PR)::s).length=V.length*(V.length+1) ^ m:=by
   clear ih;generalize hE:MR V m (k+1)=E
   have hl:E.length=(V.length+1) ^ m:=by rw[←hE];exact QS V m (k+1)
   rw[←hl];clear hl hE
   induction V with
   |nil=>simp
   |cons v V ih=>rw[W3,G8,ih,D4,G7,LB];omega
  rw[MR,G8,ih,h,LA];rw[EH _ (V.length+1),LB];omega
def ND (V:List Int):∀(m:Nat) (k:Int) (s:List PR),UT s→(∀x∈s,k≤x.At∧x.At<k+m)→(∀x∈s,x.Var∈V)→s∈MR V m k
 |0,k,[],_,_,_=>by simp[MR]
 |0,k,x::s,_,h,_=>by have:=h x (by simp);omega
 |m+1,k,[],ha,_,_=>by
  rw[MR];exact GO _ (ND V m (k+1) [] ha (by simp) (by simp))
 | m+1,k,x::s,ha,h,hv=>by
  rw[MR];have ha':=ha
  unfold UT at ha
  rw[Ew]at ha
  have hx:=h x (by simp)
  by_cases e:x.At=k
  ·refine Jd _ (List.mem_flatMap.2 ⟨x.Var,hv x (by simp),List.mem_map.2 ⟨s,ND V m (k+1) s ha.2 (fun y hy=>?_) (fun y hy=>hv y (by simp[hy])),?_⟩⟩)
   ·have:=ha.1 y hy;have:=h y (by simp[hy]);omega
   rw[←e]
  refine GO _ (ND V m (k+1) (x::s) ha' (fun y hy=>?_) hv);have:=h y hy
  grind
def Ym (p:A2):List Int:=(p.pre.filter fun y=>decide (y.Op=0)).map (·.Var)
def Av4 (p:A2):(Ym p).length=Y2 p:=by grind[Ym,Y2]
def Vs.mem {p:A2}{v:Int}(h:Vs p v):v∈Ym p:=by
 grind[Ym,Vs]
def Bn1 {l:List A8} {p:A2} {L:List (List PR)} (hn:L.Nodup) (h:∀s∈L,Gd l s∧∀x∈s,Vs p x.Var):L.length≤(Y2 p+1) ^ l.length:=by
 have:=Mj hn (l₂:=MR (Ym p) l.length 0) fun s hs=>by
  obtain⟨g,hv⟩:=h s hs;exact ND _ _ _ s g.asc (fun x hx=>by have:=(g.wf x hx).2;omega) fun x hx=>(hv x hx).mem
 rwa[QS,Av4]at this
def Ap1 {α β:Type}(A B:List α)(f:α→α→β):(A.flatMap fun a=>B.map (f a)).length=A.length*B.length:=by
 induction A with
 |nil=>simp
 |cons a A ih=>rw[W3,G8,ih,D4,G7,LB];omega
def Ap3:∀(n:Nat) (p:A2),p.pre.length≤n→FF p→1≤Y2 p
 |0,p,h,_=>by rw[A2.pre_eq]at h;simp at h
 | n+1,p,h,hw=>by
  by_cases h0:p.Op=0
  ·rw[Fx,A1 h0];omega
  have hne:∃q,q∈p.cQ:=by
   by_cases h3:p.Op≤3
   ·exact BH _ (hw.self.a1 (by have:=hw.self.op;omega) h3)
   obtain⟨q,hq⟩:=hw.self.a2 (by omega)
   simp_all
  obtain⟨q,hq⟩:=hne;have:=Ap3 n q (by have:=K7 hq;omega) (hw.arg hq);have:=La hq;omega
def Ad5 {x y:Nat} (hx:2≤x) (hy:2≤y):x+y≤x*y:=by
 obtain⟨a,rfl⟩:∃a,x=a+2:=⟨x-2,by omega⟩;obtain⟨b,rfl⟩:∃b,y=b+2:=⟨y-2,by omega⟩
 have:(a+2)*(b+2)=a*b+2*a+2*b+4:=by
  rw[Cg,E2,E2];omega
 omega
def Sx {p q:A2}{r:List A2}(ha:p.cQ=q::r):({p with cQ:=r}:A2).pre.length<p.pre.length:=by
 have h1:=A2.pre_eq ({p with cQ:=r}:A2);have h2:=A2.pre_eq p;rw[h1,h2,ha];have:=A2.pre_eq q
 grind[A2.pres]
def AI3 {p q:A2}{r:List A2}(ha:p.cQ=r++[q]):({p with cQ:=r}:A2).pre.length<p.pre.length:=by
 have h1:=A2.pre_eq ({p with cQ:=r}:A2);have h2:=A2.pre_eq p;rw[h1,h2,ha,Cm];have:=A2.pre_eq q
 simp_all[A2.pres]
def Of {l:List A8} (hl:2≤l.length):∀(n:Nat) (p:A2),p.pre.length≤n→FF p→BM p→∃C:List (List PR),C.length≤l.length ^ Y2 p∧∀b f s,Sm l p b f s→s∈C
 |0,p,h,_,_=>by rw[A2.pre_eq]at h;simp at h
 | n +1,p,h,hw,hp=>by
  have hop:=hw.self.op;have hnp:=hp p (GW p)
  have hpow:∀q:A2,FF q→2≤l.length ^ Y2 q:=fun q hq=>by
   have h1:=Ap3 _ q (B1 _) hq;have:=Es (n:=l.length) (by omega) h1
   rw[Nat.pow_one]at this;omega
  by_cases h0:p.Op=0
  ·refine⟨(List.range l.length).map fun(j:Nat)=>[⟨p.Var,(j:Int)⟩],?_,fun b f s hs=>?_⟩
   ·rw[Fx,A1 h0,hw.self.a0 h0,D4,Db];simp[A2.pres]
   obtain⟨j,_,hj,_,rfl⟩:=(Sm.i0 h0).1 hs
   grind
  by_cases h1:p.Op=1
  ·match ha:p.cQ with
   |[]=>exact absurd ha (hw.self.a1 (by omega) (by omega))
   |[q]=>
    have hq:q∈p.cQ:=by rw[ha];simp
    obtain⟨C,h2,h3⟩:=Of hl n q (by have:=K7 hq;omega) (hw.arg hq) (hp.arg hq);refine⟨C,N0 h2 (Es (by omega) (La hq)),fun b f s hs=>?_⟩;exact h3 _ _ _ ((Sm.i1 h1 ha).1 hs)
   | q::q'::r=>
    have hq:q∈p.cQ:=by rw[ha];simp
    obtain⟨C,h2,h3⟩:=Of hl n q (by have:=K7 hq;omega) (hw.arg hq) (hp.arg hq);obtain⟨D,h4,h5⟩:=Of hl n {p with cQ:=q'::r} (by have:=Sx ha;omega) (hw.sub (by omega) (by omega) (fun x hx=>by rw[ha];simp_all) (by simp)) (hp.sub fun x hx=>by rw[ha];simp_all);refine⟨C.flatMap fun s=>D.map (mrg s),?_,fun b f s hs=>?_⟩
    ·rw[Ap1,show Y2 p=Y2 q+Y2 {p with cQ:=q'::r}from ?_,Nat.pow_add]
     ·exact S4 h2 h4
     rw[NC,Fx p,ha,A0 h0];rw[A2.pres,Er];unfold Y2;omega
    obtain⟨u,t,hu,ht,rfl⟩:=(Sm.i1c h1 ha).1 hs
    grind
  by_cases h2':p.Op=2
  ·match ha:p.cQ with
   |[]=>exact absurd ha (hw.self.a1 (by omega) (by omega))
   |[q]=>
    have hq:q∈p.cQ:=by rw[ha];simp
    obtain⟨C,h2,h3⟩:=Of hl n q (by have:=K7 hq;omega) (hw.arg hq) (hp.arg hq);refine⟨C,N0 h2 (Es (by omega) (La hq)),fun b f s hs=>?_⟩;obtain⟨q',ha',hs⟩:=(Sm.i2 h2').1 hs
    rw[ha]at ha'
    rw[List.mem_singleton.1 ha']at hs
    grind
   | q::q'::r=>
    have hq:q∈p.cQ:=by rw[ha];simp
    have hws:FF {p with cQ:=q'::r}:=hw.sub (by omega) (by omega) (fun x hx=>by rw[ha];simp_all) (by simp);obtain⟨C,h2,h3⟩:=Of hl n q (by have:=K7 hq;omega) (hw.arg hq) (hp.arg hq);obtain⟨D,h4,h5⟩:=Of hl n {p with cQ:=q'::r} (by have:=Sx ha;omega) hws (hp.sub fun x hx=>by rw[ha];simp_all);refine⟨C++D,?_,fun b f s hs=>?_⟩
    ·rw[G8,show Y2 p=Y2 q+Y2 {p with cQ:=q'::r}from ?_,Nat.pow_add]
     ·have e1:=hpow q (hw.arg hq);have e2:=hpow _ hws;have:=Ad5 e1 e2;omega
     rw[NC,Fx p,ha,A0 h0];rw[A2.pres,Er];unfold Y2;omega
    obtain⟨x,ha',hs⟩:=(Sm.i2 h2').1 hs
    rw[ha]at ha'
    rcases List.mem_cons.1 ha' with e|hm
    ·rw[e]at hs;grind
    exact Jd _ (h5 _ _ _ (Sm.alt (p:={p with cQ:=q'::r}) h2' hm hs))
  by_cases h3':p.Op=3
  ·rcases Eu p.cQ with ha|⟨r,q,ha⟩
   ·exact absurd ha (hw.self.a1 (by omega) (by omega))
   rw[Et]at ha
   have hq:q∈p.cQ:=by rw[ha];simp
   obtain⟨C,h2,h3⟩:=Of hl n q (by have:=K7 hq;omega) (hw.arg hq) (hp.arg hq)
   by_cases hr:r=[]
   ·subst hr;refine⟨C,N0 h2 (Es (by omega) (La hq)),fun b f s hs=>?_⟩;exact h3 _ _ _ ((Sm.i3 h3' ha).1 hs)
   have hws:FF {p with cQ:=r}:=hw.sub (by omega) (by omega) (fun x hx=>by rw[ha];simp[hx]) hr;obtain⟨D,h4,h5⟩:=Of hl n {p with cQ:=r} (by have:=AI3 ha;omega) hws (hp.sub fun x hx=>by rw[ha];simp[hx]);refine⟨D.flatMap fun s=>C.map (mrg s),?_,fun b f s hs=>?_⟩
   ·rw[Ap1,show Y2 p=Y2 {p with cQ:=r}+Y2 q from ?_,Nat.pow_add]
    ·exact S4 h4 h2
    rw[NC,Fx p,ha,A0 h0,Cm,Er];simp[A2.pres,Y2]
   obtain⟨u,t,hu,ht,_,rfl⟩:=(Sm.i3c h3' ha hr).1 hs
   grind
  obtain⟨q,ha⟩:=hw.self.a2 (by omega)
  have hq:q∈p.cQ:=by rw[ha];simp
  obtain⟨C,h2,h3⟩:=Of hl n q (by have:=K7 hq;omega) (hw.arg hq) (hp.arg hq);refine⟨C,N0 h2 (Es (by omega) (La hq)),fun b f s hs=>?_⟩;exact h3 _ _ _ ((Sm.i5 (by omega) hop.2 ha).1 hs).1
def card {l:List A8} {p:A2} (hw:FF p) (hs:Sml l.length p) {L:List (List PR)} (hn:L.Nodup) (h:∀s∈L,Gd l s∧∃b f,Sm l p b f s):L.length≤1500:=by
 rcases hs with hs|⟨h1,h2,h3⟩
 ·refine N0 (Bn1 hn fun s m=>?_) hs;obtain⟨g,b,f,hm⟩:=h s m;exact⟨g,hm.vars⟩
 obtain⟨C,h4,h5⟩:=Of h2 _ p (B1 _) hw h1
 have:=Mj hn (l₂:=C) fun s m=>by
  grind
 omega
section
variable {N:Nat}(hN:Bgn N){l:List A8}(hl:l.length≤10)
include hN hl
def mu (l:List A8)(p:A2)(f:Nat):Nat:=p.pre.length*(l.length+2)+(l.length-f)
omit hN hl in
theorem AW7 {p q:A2}{f g:Nat}(h:q.pre.length<p.pre.length):mu l q g+1≤mu l p f:=by
 unfold mu;have:=G3 (l.length+2) (show q.pre.length+1≤p.pre.length from h)
 rw[E2]at this
 omega
omit hN hl in
theorem SD {u:List PR}{f:Int}(r:Hj l f u)(h0:0≤f):∃g:Nat,T9 u+1=(g:Int)∧g≤l.length∧f<g:=by
 have:=r.gd.lst r.ne;obtain⟨x,_,hx,e⟩:=Gc r.ne;have:=r.ge x hx;exact⟨(T9 u+1).toNat,by omega,by omega,by omega⟩
end
end
end Go.Ab
