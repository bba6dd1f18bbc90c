/- . -/
import Derived.Test.YtjhobbohibnioaaGreatDoorG18
import Derived.KernelRfl
set_option linter.all false
open Go.Ab.Ar (an ar cmp sh wr)
namespace Go.Ab
open Classical
noncomputable section
def UN (m:List C1)(i:Nat):Int:=
 match m[i]? with
 |none=>0
 |some x=>if(decide (0≤x.Var)&&decide (x.Var≤15)&&(decide (0≤x.Ref.Time)&&decide (x.Ref.Time≤1099511627776)&&(decide (0≤x.Ref.Source)&&decide (x.Ref.Source≤7))&&(decide (0≤x.Ref.Seq)&&decide (x.Ref.Seq≤1099511627776))))=false then 2 else if 0<i∧0≤M9 (N9 ((m[i-1]?).getD x).Ref) (N9 x.Ref)then 14 else 0
def Ba1 (m:List C1):Int:=if m.length=0 then 15 else if 4096<m.length then 5 else AD (UN m) (List.range m.length)
def Az9 {N:Nat} (hN:Bgn N) {m:List C1} (hm:m.length≤4096) {step:Int→Option (Int⊕(Unit⊕Int))} (hs:∀i,i<m.length→step (i:Int)=some (if UN m i=0 then .inl ((i:Int)+1)else .inr (.inr (UN m i)))) (he:step (m.length:Int)=some (.inr (.inl ()))):
 ((loopN step N 0).bind fun s2=>match s2 with| .inl _=>some 0| .inr y=>some y)=some (AD (UN m) (List.range m.length)):=by
 have hr:(List.range m.length).length=m.length:=Db;rw[L5 (List.range m.length) (by omega) (mk:=fun(_:Unit) i=>i) (body:=BQ fun i=>some (UN m i)) (fin:=fun _=>.inl ()) (s:=()) (by omega) ?_ ?_]
 ·rw[AN (F:=fun i=>some (UN m i)) (f:=UN m) fun x _=>rfl]
  grind
 ·intro s i x hx hi
  have hil:i<m.length:=by omega
  rw[GM hil]at hx
  cases hx;rw[hs i hil];unfold BQ;simp only[A3]
  by_cases h:UN m i=0
  ·rw[A1 h,A0 (H7 h)];rfl
  rw[A0 h,A1 (K0 h)];rfl
 simp_all
def AW8 {N:Nat} (hN:Bgn N) {m:List C1} (hm:m.length≤1000000):EY N ⟨m⟩=some (Ba1 m):=by
 unfold EY Ba1
 dsimp only
 by_cases h0:m.length=0
 ·rw[A1 (by rw[D7,B0];simp_all),A1 h0]
 rw[A0 (by rw[D7,B0];simp_all),A0 h0]
 by_cases h1:4096<m.length
 ·rw[A1 (W1 (by rw[B0];omega)),A1 h1]
 rw[A0 (Q4 (by rw[B0];omega)),A0 h1];refine Az9 hN (by omega) (fun i hi=>?_) (by rw[A0 (K4 (by rw[B0];omega))]);have e:ar .add .i64 (i:Int) 1=i+1:=D0 (by omega) (by omega)
 have hb:UN m i=if(decide (0≤m[i].Var)&&decide (m[i].Var≤15)&&(decide (0≤m[i].Ref.Time)&&decide (m[i].Ref.Time≤1099511627776)&&(decide (0≤m[i].Ref.Source)&&decide (m[i].Ref.Source≤7))&&(decide (0≤m[i].Ref.Seq)&&decide (m[i].Ref.Seq≤1099511627776))))=false then 2 else if 0<i∧0≤M9 (N9 ((m[i-1]?).getD m[i]).Ref) (N9 m[i].Ref)then 14 else 0:=by
  grind[UN]
 rw[A1 (W8 (by rw[B0];omega)),E1,C0 hi];simp only[A3,DO,e,K5,O7,Bv,P7];rw[hb]
 have hlast:(if cmp .gtr (i:Int) 0=true then
  (B9 m (ar .sub .i64 (i:Int) 1)).bind fun x9=>(Ij N x9.Ref m[i].Ref).bind fun r10=>if decide (0≤r10)=true then some (Sum.inr (Sum.inr 14))else some (.inl ((i:Int)+1))
  else some (.inl ((i:Int)+1)):Option (Int⊕(Unit⊕Int)))=some (if 0<i∧0≤M9 (N9 ((m[i-1]?).getD m[i]).Ref) (N9 m[i].Ref)then .inr (.inr 14)else .inl ((i:Int)+1)):=by
  by_cases hi0:0<i
  ·have e1:ar .sub .i64 (i:Int) 1=((i-1:Nat):Int):=by rw[Gs (by omega) (by omega)];omega
   have hi1:i-1<m.length:=by omega
   rw[A1 (W1 (by omega)),e1,E1,C0 hi1];simp only[A3,U2];rw[AT9 hN]
   grind
  rw[A0 (Q4 (by omega)),A0 (fun h=>hi0 h.1)]
 rw[hlast]
 grind
def AY2 {a b:Nat} (h:a+b<1000000):wr .i64 (sh .shr .u64 (wr .u64 (ar .add .i64 (a:Int) (b:Int))) 1)=(((a+b) / 2:Nat):Int):=by
 have hw:∀{n:Int},0≤n→n<1000000→IntKind.wrap .u64 n=n:=fun{n} h0 h1=>by
  have e:IntKind.wrap .u64 n=n % 18446744073709551616:=by
   unfold IntKind.wrap;simp[IntKind.bits,IntKind.signed]
  rw[e];omega
 rw[D0 (by omega) (by omega)]
 show IntKind.wrap .i64 (shI .shr .u64 (IntKind.wrap .u64 ((a:Int)+b)) 1)=_
 rw[hw (by omega) (by omega)]
 have e:shI .shr .u64 ((a:Int)+b) 1=((a:Int)+b) / 2:=by
  show((a:Int)+b).fdiv (2 ^ (min (1:Int).toNat 64))=_
  rw[show(2:Int) ^ (min (1:Int).toNat 64)=2 from rfl,Int.fdiv_eq_ediv_of_nonneg _ (by decide)]
 rw[e,AX (by omega) (by omega)];omega
def Bh9 {n:Nat} {c:Nat→Bool} (hc:∀i j,i<j→j<n→c j=true→c i=true) {step:Int×Int→Option ((Int×Int)⊕Int)}
 (hs:∀i j:Nat,i<j→j≤n→step ((i:Int),(j:Int))=some (.inl (if c ((i+j) / 2)=true then((((i+j) / 2+1:Nat):Int),(j:Int))else((i:Int),(((i+j) / 2:Nat):Int)))))
 (he:∀i:Nat,step ((i:Int),(i:Int))=some (.inr (i:Int))):∀(k i j M:Nat),j-i≤k→i≤j→j≤n→k<M→(∀m,m<i→c m=true)→(∀m,j≤m→m<n→c m=false)→
 ∃r:Nat,r≤n∧(∀m,m<r→c m=true)∧(∀m,r≤m→m<n→c m=false)∧loopN step M ((i:Int),(j:Int))=some (r:Int):=by
 intro k
 induction k with
 |zero=>
  intro i j M h1 h2 h3 h4 h5 h6;obtain⟨M,rfl⟩:∃m,M=m+1:=⟨M-1,by omega⟩
  have:i=j:=by omega
  grind[loopN]
 | succ k ih=>
  intro i j M h1 h2 h3 h4 h5 h6;obtain⟨M,rfl⟩:∃m,M=m+1:=⟨M-1,by omega⟩
  by_cases hij:i<j
  ·have key:∀(i' j':Nat),step ((i:Int),(j:Int))=some (.inl ((i':Int),(j':Int)))→j'-i'≤k→i'≤j'→j'≤n→(∀m,m<i'→c m=true)→(∀m,j'≤m→m<n→c m=false)→
    ∃r:Nat,r≤n∧(∀m,m<r→c m=true)∧(∀m,r≤m→m<n→c m=false)∧loopN step (M+1) ((i:Int),(j:Int))=some (r:Int):=by
    simp_all[loopN]
   have hst:=hs i j hij h3
   by_cases hm:c ((i+j) / 2)=true
   ·rw[A1 hm]at hst
    refine key _ _ hst (by omega) (by omega) h3 (fun m hl=>?_) h6
    by_cases e:m=(i+j) / 2
    ·rw[e];exact hm
    exact hc m _ (by omega) (by omega) hm
   rw[A0 hm]at hst
   refine key _ _ hst (by omega) (by omega) (by omega) h5 fun m hl hn=>?_
   rw[As]at hm
   by_cases e:m=(i+j) / 2
   ·rw[e];exact hm
   grind
  have:i=j:=by omega
  subst this
  grind[loopN]
def Bn3 {n:Nat} {c:Nat→Bool} (hc:∀i j,i<j→j<n→c j=true→c i=true) {step:Int×Int→Option ((Int×Int)⊕Int)} {M:Nat} (hM:n<M)
 (hs:∀i j:Nat,i<j→j≤n→step ((i:Int),(j:Int))=some (.inl (if c ((i+j) / 2)=true then((((i+j) / 2+1:Nat):Int),(j:Int))else((i:Int),(((i+j) / 2:Nat):Int)))))
 (he:∀i:Nat,step ((i:Int),(i:Int))=some (.inr (i:Int))):loopN step M (0,(n:Int))=some ((Classical.epsilon fun k:Nat=>k≤n∧(∀m,m<k→c m=true)∧∀m,k≤m→m<n→c m=false:Nat):Int)∧
  ∃k:Nat,(Classical.epsilon fun k:Nat=>k≤n∧(∀m,m<k→c m=true)∧∀m,k≤m→m<n→c m=false)=k∧k≤n∧(∀m,m<k→c m=true)∧∀m,k≤m→m<n→c m=false:=by
 obtain⟨r,r1,r2,r3,r4⟩:=Bh9 hc hs he n 0 n M (by omega) (by omega) (B1 _) hM (fun m h=>absurd h (by omega)) fun m h1 h2=>absurd h2 (by omega);have sp:=Classical.epsilon_spec (p:=fun k:Nat=>k≤n∧(∀m,m<k→c m=true)∧∀m,k≤m→m<n→c m=false) ⟨r,r1,r2,r3⟩
 generalize (Classical.epsilon fun k:Nat=>k≤n∧(∀m,m<k→c m=true)∧∀m,k≤m→m<n→c m=false)=k at *
 obtain⟨s1,s2,s3⟩:=sp
 have:k=r:=by
  rcases El k r with h|h|h
  ·have:=s3 k (B1 _) (by omega);rw[r2 k h]at this;cases this
  ·exact h
  grind
 simp_all
def mg2:List PR→List PR→Option (List PR)
 |[],b=>some b
 |x::a,[]=>some (x::a)
 |x::a,y::b=>if x.At=y.At then none else if x.At<y.At then(mg2 a (y::b)).map (x:: ·)else(mg2 (x::a) b).map (y:: ·)
termination_by a b=>a.length+b.length
def Ar3 (b:List PR):mg2 [] b=some b:=by unfold mg2;rfl
def ZC (a:List PR):mg2 a []=some a:=by cases a<;>(unfold mg2;rfl)
def ZD (x y:PR)(a b:List PR):mg2 (x::a) (y::b)=if x.At=y.At then none else if x.At<y.At then(mg2 a (y::b)).map (x:: ·)else(mg2 (x::a) b).map (y:: ·):=by rw[mg2]
def MF:∀(n:Nat) {a b:List PR},a.length+b.length≤n→UT a→UT b→mg2 a b=if O1 a b then some (mrg a b)else none
 |n,[],b,_,_,_=>by rw[Ar3,DN,A1];simp[O1]
 |n,x::a,[],_,_,_=>by rw[ZC,X5,A1];simp[O1]
 |0,x::a,y::b,h,_,_=>by simp at h
 | n+1,x::a,y::b,h,ha,hb=>by
  have ha':=List.pairwise_cons.1 ha;have hb':=List.pairwise_cons.1 hb
  simp only[G7]at h
  rw[ZD,PT]
  by_cases e:x.At=y.At
  ·rw[A1 e,A0];simp_all[O1]
  rw[A0 e]
  by_cases hl:x.At<y.At
  ·rw[A1 hl,A1 hl,MF n (by simp;omega) ha'.2 hb]
   by_cases hd:O1 a (y::b)
   ·rw[A1 hd,A1]
    ·rfl
    intro u hu v hv
    rcases List.mem_cons.1 hu with rfl|hu
    ·grind
    exact hd u hu v hv
   rw[A0 hd,A0]
   ·rfl
   simp_all[O1]
  rw[A0 hl,A0 hl,MF n (by simp;omega) ha hb'.2]
  by_cases hd:O1 (x::a) b
  ·rw[A1 hd,A1]
   ·rfl
   intro u hu v hv
   rcases List.mem_cons.1 hv with rfl|hv
   ·grind
   exact hd u hu v hv
  rw[A0 hd,A0]
  ·rfl
  exact fun hh=>hd fun u hu v hv=>hh u hu v (.tail _ hv)
def Ik {step:List PR×List PR×List PR→Option ((List PR×List PR×List PR)⊕(List PR⊕Unit))}
 (h00:∀o,step ([],[],o)=some (.inr (.inl o))) (h10:∀x a o,o.length≤1000000→step (x::a,[],o)=some (.inl (a,[],o++[x]))) (h01:∀y b o,o.length≤1000000→step ([],y::b,o)=some (.inl ([],b,o++[y])))
 (h11:∀x a y b o,o.length≤1000000→step (x::a,y::b,o)=if x.At=y.At then some (.inr (.inr ()))else if x.At<y.At then some (.inl (a,y::b,o++[x]))else some (.inl (x::a,b,o++[y]))):
 ∀(k:Nat) (a b o:List PR) (n:Nat),a.length+b.length≤k→k<n→o.length+k≤1000000→loopN step n (a,b,o)=some (match mg2 a b with|some m=>.inl (o++m)|none=>.inr ())
 |k,[],[],o,n,_,hn,_=>by
  obtain⟨n,rfl⟩:∃m,n=m+1:=⟨n-1,by omega⟩
  simp_all[loopN,mg2]
 |0,x::a,b,o,n,h,_,_=>by simp at h
 |0,[],y::b,o,n,h,_,_=>by simp at h
 |k+1,x::a,[],o,n,h,hn,ho=>by
  obtain⟨n,rfl⟩:∃m,n=m+1:=⟨n-1,by omega⟩
  simp only[G7,X1]at h
  unfold loopN;rw[h10 _ _ _ (by omega)];have:=Ik h00 h10 h01 h11 k a [] (o++[x]) n (by simp;omega) (by omega) (by simp;omega);simp only[this,ZC];simp
 |k+1,[],y::b,o,n,h,hn,ho=>by
  obtain⟨n,rfl⟩:∃m,n=m+1:=⟨n-1,by omega⟩
  simp only[G7,X1]at h
  unfold loopN;rw[h01 _ _ _ (by omega)];have:=Ik h00 h10 h01 h11 k [] b (o++[y]) n (by simp;omega) (by omega) (by simp;omega);simp only[this,Ar3];simp
 |k+1,x::a,y::b,o,n,h,hn,ho=>by
  obtain⟨n,rfl⟩:∃m,n=m+1:=⟨n-1,by omega⟩
  simp only[G7]at h
  unfold loopN;rw[h11 _ _ _ _ _ (by omega),ZD]
  by_cases e:x.At=y.At
  ·rw[A1 e,A1 e]
  rw[A0 e,A0 e]
  by_cases hl:x.At<y.At
  ·rw[A1 hl,A1 hl];have:=Ik h00 h10 h01 h11 k a (y::b) (o++[x]) n (by simp;omega) (by omega) (by simp;omega);simp only[this];cases mg2 a (y::b)<;>simp
  rw[A0 hl,A0 hl];have:=Ik h00 h10 h01 h11 k (x::a) b (o++[y]) n (by simp;omega) (by omega) (by simp;omega)
  grind
def Uh {α:Type}(x:α)(l:List α):cmp .gtr (Ar.len (x::l)) 0=true:=W1 (by rw[B0,G7];omega)
def Xt {α:Type}:cmp .gtr (Ar.len ([]:List α)) 0=false:=by rw[B0,Bw];simp
def Aa7 {α:Type}(x:α)(l:List α):cmp .eql (Ar.len (x::l)) 0=false:=CI (by rw[B0,G7];omega)
def AZ3 {α:Type}:cmp .eql (Ar.len ([]:List α)) 0=true:=J4 rfl
def Ks {N:Nat}(hN:Bgn N){a b:List PR}(h:a.length+b.length≤100000):Ck N a b=some (match mg2 a b with|some m=>(m,true)|none=>([],false)):=by
 unfold Ck;rw[Ik (fun o=>?_) (fun x a o ho=>?_) (fun y b o ho=>?_) (fun x a y b o ho=>?_) (a.length+b.length) a b [] N (B1 _) (by omega) (by simp;omega)]
 ·cases mg2 a b<;>rfl
 ·simp only[Xt,N8,LF,J2,G0]
 ·simp only[Xt,Uh,AZ3,N8,K5,LF,Bool.and_false,J2,G0,D2,Uf,Oo,A3];rw[S1 (by simp;omega)];rfl
 ·simp only[Xt,Uh,Aa7,N8,K5,EL,Bool.false_and,J2,G0,D2,Uf,Oo,A3];rw[S1 (by simp;omega)];rfl
 simp only[Uh,Aa7,N8,K5,Bool.or_self,Bool.and_self,J2,G0,D2,Uf,Oo,A3];rw[S1 (by simp;omega),S1 (by simp;omega)]
 by_cases e:x.At=y.At
 ·rw[A1 (J4 e),A1 e]
 rw[A0 (by rw[CI e];simp),A0 e]
 by_cases hl:x.At<y.At
 ·rw[A1 (W8 hl),A1 hl];rfl
 rw[A0 (K4 hl),A0 hl];rfl
def Az5 {N:Nat} (hN:Bgn N) {s:List PR} (hl:s.length≤1000000) (i:Int):KM N s i=some (Sg s i):=by
 unfold KM;rw[Kt (N:=N) (l:=s) (fun x=>decide (x.At=i)) (by omega) (by omega) ?_ ?_]
 ·unfold Sg;cases s.any fun x=>decide (x.At=i)<;>rfl
 ·intro j x hx hj;have e:ar .add .i64 (j:Int) 1=j+1:=D0 (by omega) (by omega);rw[A1 (T8 hj),E1,hx];simp only[A3,e,D7]
  split<;>rfl
 rw[A0 Cv]
def AY4 {N:Nat}(hN:Bgn N){l:List A8}{s:List PR}(hs:s.length<1000000)(hw:WfS l s){p:A2}(hc:p.cR.bulk≤16777216){i:Nat}(hi:i<l.length):
 OB N p l s i=some (IH l p s i):=by
 unfold OB IH;rw[Pm hi,C0 hi];simp only[A3]
 by_cases ht:l[i].Typ=p.Typ
 ·rw[A1 (J4 ht),Xd hN (by omega) hw];simp only[A3];rw[QD hN (Kz l (by omega) _) _ _ hc];simp[ht]
 rw[A0 (by rw[CI ht];simp)];simp[ht]
def Aj8 {N:Nat} (hN:Bgn N) {l:List A8} (hl:l.length≤10000) {p:A2} (hc:p.cR.bulk≤16777216) {b s:List PR} (gb:Gd l b) (gs:Gd l s) (hn:s≠[]) (hd:O1 b s):
 Mw N p l b s=some (if 5≤p.Op∧p.Op≤7 then BY l p b s else true):=by
 have lb:=gb.len;have ls:=gs.len;have gm:=gb.mrg gs hd;have lm:=gm.len;have hlst:=gs.lst hn;obtain⟨h0,h1,h2,hh⟩:=gs.hd hn;obtain⟨x0,hx0,e0⟩:=Bh1 hn;obtain⟨x1,hx1,_,e1⟩:=Gc hn;unfold Mw;rw[Ks hN (by omega),MF _ (B1 _) gb.asc gs.asc,A1 hd,hx0,Qb hn (by omega),hx1];simp only[A3]
 by_cases h6:p.Op=6
 ·rw[A1 (J4 h6),A1 (by omega),BY,A1 h6];obtain⟨y1,hy1,t1⟩:=Sq (l:=l) (i:=x1.At) (by omega) (by omega);obtain⟨y0,hy0,t0⟩:=Sq (l:=l) (i:=x0.At) (by omega) (by omega);rw[hy1,hy0];simp only[A3,Bv,t1,t0,e0,e1]
 rw[A0 (by rw[CI h6];simp)]
 by_cases h7:p.Op=7
 ·rw[A1 (J4 h7),A1 (by omega),BY,A0 h6,A1 h7,Xd hN (by omega) gm.wf];simp only[A3];rw[QD hN (Kz l (by omega) _) _ _ hc];rfl
 rw[A0 (by rw[CI h7];simp)];obtain⟨n,hnn⟩:=Dh hlst.1;obtain⟨a,ha⟩:=Dh h0;rw[e0,ha,D0 (a:=((a:Nat):Int)) (by omega) (by omega),show((a:Int)+1)=((a+1:Nat):Int) by omega]
 by_cases h5:p.Op=5
 ·rw[A1 (by omega),BY,A0 h6,A0 h7];rw[OP (A:=Unit) (n:=n) (P:=UO l p b s) (u:=()) 0 ?_ ?_ n (a+1) N (by omega) (by omega) (by omega),VY (by omega) (by omega) (by omega) hh hlst.2]
  ·cases UC l p b s<;>rfl
  ·intro i _ hi
   have hil:i<l.length:=by omega
   have e:ar .add .i64 (i:Int) 1=i+1:=D0 (by omega) (by omega);rw[A1 (by rw[K5,W8 (by omega),J4 h5];rfl),Az5 hN (by omega),Pm hil];simp only[A3];rw[Xd hN (by omega) gm.wf];simp only[A3,e];rw[QD hN (Kz l (by omega) _) _ _ hc];simp only[A3,P7,D7];unfold UO
   grind
  intro i hi;rw[A0 (by rw[K5];have:=K4 (a:=(i:Int)) (b:=x1.At) (by omega);rw[As]at this;rw[this];simp)]
 rw[A0 (by omega)];obtain⟨M,rfl⟩:∃m,N=m+1:=⟨N-1,by omega⟩;unfold loopN;rw[A0 (by rw[K5,CI h5];simp)];rfl
def Cy (l:List A8)(r:T4):Option Nat:=l.findIdx? fun e=>decide (W0 e=N9 r)
def VT {α:Type} {l:List α} {step:Int→Option (Int⊕(Unit⊕Int))} (P:α→Bool) (hs:∀(i:Nat) (h:i<l.length),step (i:Int)=some (if P l[i]=true then .inr (.inr (i:Int))else .inl ((i:Int)+1))) (he:step (l.length:Int)=some (.inr (.inl ()))):
 ∀(d i N:Nat),i+d=l.length→d<N→loopN step N (i:Int)=some (match(l.drop i).findIdx? P with|some k=>.inr ((i+k:Nat):Int)|none=>.inl ())
 |0,i,N,h,hN=>by
  obtain⟨N,rfl⟩:∃m,N=m+1:=⟨N-1,by omega⟩
  have:i=l.length:=by omega
  simp_all[loopN]
 |d+1,i,N,h,hN=>by
  obtain⟨N,rfl⟩:∃m,N=m+1:=⟨N-1,by omega⟩
  have hi:i<l.length:=by omega
  unfold loopN;rw[hs i hi,O4 hi,List.findIdx?_cons]
  by_cases hp:P l[i]=true
  ·rw[A1 hp,A1 hp];simp
  rw[A0 hp,A0 hp];have:=VT P hs he d (i+1) N (by omega) (by omega);rw[show((i:Int)+1)=((i+1:Nat):Int) by omega]
  grind
def scmp_eq {N:Nat}(hN:Bgn N)(e:A8)(r:T4):BV N e r=some (M9 (W0 e) (N9 r)):=by
 unfold BV;rw[Gg,Gg,Gg];simp only[A3];rw[or_eq hN (by simp),W0,N9,Bh0];rfl
def AP4 {l:List A8} (hl:l.length≤4096) (h:Al l=0):∀(d i:Nat),i+d+1<l.length→∀(h1:i<l.length) (h2:i+d+1<l.length),M9 (W0 l[i]) (W0 l[i+d+1])<0:=by
 have hc:∀i,i<l.length→Qn l i=0:=by
  unfold Al at h
  rw[A0 (by omega)]at h
  exact fun i hi=>CJ.1 h i (List.mem_range.2 hi)
 have h1:∀i,∀(h2:i+1<l.length),M9 (W0 l[i]) (W0 l[i+1])<0:=fun i h2=>by
  have:=hc (i+1) h2
  grind[Qn]
 intro d
 induction d with
 |zero=>simp_all
 |succ d ih=>
  intro i _ hi h2;exact Gb (ih i (by omega) hi (by omega)) (h1 (i+d+1) h2)
def Pn {l:List A8}(hl:l.length≤4096)(h:Al l=0){i j:Nat}(hij:i<j)(hj:j<l.length):M9 (W0 (l[i]'(by omega))) (W0 l[j])<0:=by
 have:=AP4 hl h (j-i-1) i (by omega) (by omega) (by omega)
 grind
def DM {l:List A8}{r:T4}{i:Nat}(h:Cy l r=some i):∃hi:i<l.length,W0 l[i]=N9 r:=by
 unfold Cy at h
 obtain⟨hi,h1,_⟩:=List.findIdx?_eq_some_iff_getElem.1 h
 simp_all
def Sy {l:List A8}(hl:l.length≤4096)(hc:Al l=0){r:T4}{i:Nat}(hi:i<l.length)(h:W0 l[i]=N9 r):Cy l r=some i:=by
 unfold Cy;rw[List.findIdx?_eq_some_iff_getElem];refine⟨hi,J1 h,fun j hji hp=>?_⟩;have:=Pn hl hc hji hi
 rw[h,←GJ hp,DQ]at this
 omega
def As8 {N:Nat} (hN:Bgn N) {l:List A8} (hl:l.length≤4096) (hc:Al l=0) (r:T4):∃k:Nat,ET N l r=some ((k:Int),(Cy l r).isSome,0)∧∀i,Cy l r=some i→k=i:=by
 unfold ET;rw[WY hN,hc];simp only[A3];rw[A0 (H7 rfl)];unfold R7
 have hgt:∀{i:Nat} (h:i<l.length),(match l[i]? with|some x=>decide (M9 (W0 x) (N9 r)<0)|none=>false)=decide (M9 (W0 l[i]) (N9 r)<0):=fun{i} h=>by rw[C0 h]
 have ho:∀i j,i<j→j<l.length→(match l[j]? with|some x=>decide (M9 (W0 x) (N9 r)<0)|none=>false)=true→(match l[i]? with|some x=>decide (M9 (W0 x) (N9 r)<0)|none=>false)=true:=fun i j hij hj h=>by
  rw[hgt hj]at h
  rw[hgt (by omega)];exact J1 (Gb (Pn hl hc hij hj) (GJ h))
 rw[B0]
 have hk:=fun hs he=>Bn3 (n:=l.length) (c:=fun i=>match l[i]? with|some x=>decide (M9 (W0 x) (N9 r)<0)|none=>false) ho (M:=N) (by omega) (step:=fun(s1:Int×Int)=>
  (
   if cmp .lss s1.1 s1.2=true then
    (B9 l (wr .i64 (sh .shr .u64 (wr .u64 (ar .add .i64 s1.1 s1.2)) 1))).bind fun x3=>
    (BV N x3 r).bind fun r4=>
    if cmp .lss r4 0=true then
     some (.inl (ar .add .i64 (wr .i64 (sh .shr .u64 (wr .u64 (ar .add .i64 s1.1 s1.2)) 1)) 1,s1.2))
    else
     some (.inl (s1.1,wr .i64 (sh .shr .u64 (wr .u64 (ar .add .i64 s1.1 s1.2)) 1)))
   else
    some (.inr s1.1)
   :Option ((Int×Int)⊕(Int)))) hs he
 obtain⟨e,k,ek,k1,k2,k3⟩:=hk (fun i j hij hj=>by
  have hm2:(i+j) / 2<l.length:=by omega
  dsimp only
  rw[A1 (W8 (by omega)),AY2 (by omega),E1,C0 hm2];simp only[A3];rw[scmp_eq hN];simp only[A3]
  by_cases hc:M9 (W0 l[(i+j) / 2]) (N9 r)<0
  ·rw[A1 (W8 hc),A1 (J1 hc),D0 (by omega) (by omega)];rfl
  rw[A0 (K4 hc),A0 (by grind)]) (fun i=>by dsimp only;rw[A0 (K4 (by omega))])
 rw[ek]at e
 rw[e];simp only[A3];have b1:∀m (hm:m<l.length),m<k→M9 (W0 l[m]) (N9 r)<0:=fun m hm h=>GJ (by have:=k2 m h;rw[hgt hm]at this;exact this);have b2:∀m (hm:m<l.length),k≤m→¬M9 (W0 l[m]) (N9 r)<0:=fun m hm h=>of_decide_eq_false (by have:=k3 m h hm;rw[hgt hm]at this;exact this)
 have hu:∀i,Cy l r=some i→k=i:=fun i hi=>by
  obtain⟨hil,he⟩:=DM hi
  rcases El k i with h|h|h
  ·have:=Pn hl hc h hil
   rw[he]at this
   grind
  ·exact h
  have:=b1 i hil h
  rw[he,DQ]at this;omega
 refine⟨k,?_,hu⟩
 by_cases hkl:k<l.length
 ·rw[A1 (W8 (by omega)),E1,C0 hkl];simp only[A3];rw[scmp_eq hN];simp only[A3,D7];refine I4 (fun x=>some ((k:Int),x,(0:Int))) ?_
  by_cases h0:M9 (W0 l[k]) (N9 r)=0
  ·rw[Sy hl hc hkl (JG h0)];simp[h0]
  cases hp:Cy l r with
  |none=>simp[h0]
  |some i=>
   have:=hu i hp;subst this;obtain⟨_,he⟩:=DM hp
   rw[he,DQ]at h0;omega
 rw[A0 (K4 (by omega))];simp only[A3];refine I4 (fun x=>some ((k:Int),x,(0:Int))) ?_
 cases hp:Cy l r with
 |none=>rfl
 |some i=>
  have:=hu i hp;subst this;obtain⟨h,_⟩:=DM hp;omega
def AW5:(List.range 5000).all (fun n=>match Iz 0 1 (n:Int)with|some (a,b)=>(a==0)&&(b==(n:Int))|none=>false)=true:=by kernel_rfl
def mul_one {N n:Nat}(h:n<5000):Qm N 1 (n:Int)=some (0,(n:Int)):=by
 have h1:=List.all_eq_true.1 AW5 n (List.mem_range.2 h);have e:Iz 0 1 (n:Int)=Iz N 1 (n:Int):=rfl
 rw[e]at h1
 grind[Qm]
def Yi {n:Int} (h0:0≤n) (h1:n<1000000000000):wr .u64 n=n:=by
 show IntKind.wrap .u64 n=n
 have e:IntKind.wrap .u64 n=n % 18446744073709551616:=by
  unfold IntKind.wrap;simp[IntKind.bits,IntKind.signed]
 rw[e];omega
def ZI {N:Nat} {q:A2} {n:Nat} (hn:n≤1000000) {step:Int×List A2→Option ((Int×List A2)⊕List A2)}
 (hs:∀(m:Nat) l,l.length=n→m<n→1≤m→step ((m:Int),l)=some (.inl (((m+min (n-m) m:Nat):Int),l.take m++(l.take m).take (n-m)++l.drop (m+(l.take m).length))))
 (he:∀l,l.length=n→step ((n:Int),l)=some (.inr l)):∀(d m:Nat) (l:List A2) (M:Nat),m+d=n→d<M→1≤m→l.length=n→l.take m=List.replicate m q→loopN step M ((m:Int),l)=some (List.replicate n q):=by
 intro d
 induction d using Nat.strongRecOn with
 | ind d ih=>
  intro m l M h1 h2 h3 h4 h5;obtain⟨M,rfl⟩:∃k,M=k+1:=⟨M-1,by omega⟩
  by_cases hm:m<n
  ·unfold loopN;rw[hs m l h4 hm h3]
   have hl:(l.take m).length=m:=by rw[U3];omega
   refine ih (n-(m+min (n-m) m)) (by omega) _ _ M (by omega) (by omega) (by omega) ?_ ?_
   ·simp only[G8,U3,IQ];omega
   simp_all
  have:m=n:=by omega
  grind[loopN]
def AT7 {N:Nat} (hN:Bgn N) (q:A2) {n:Nat} (h1:1≤n) (h2:n<5000):T6 N [q] (n:Int)=some (List.replicate n q):=by
 unfold T6;rw[A0 (K4 (by omega))];simp only[A3,B0,BE];rw[Yi (by omega) (by omega),Yi (by omega) (by omega),show((1:Nat):Int)=1 from rfl,mul_one h2];simp only[A3];rw[A0 (by simp only[N8,Bw];simp;omega)];simp only[A3];have hw:wr .i64 (n:Int)=n:=AX (by omega) (by omega);rw[hw,mkL,A1 (by omega)];simp only[A3,R6];rw[Uz,A1 (by omega)];simp only[A3,Rh,Int.toNat_zero,Nat.sub_zero,LK,I5,BE]
 have e1:(if(n:Int)-0<((1:Nat):Int)then(n:Int)-0 else((1:Nat):Int))=((1:Nat):Int):=by rw[A0 (by omega)]
 rw[e1];rw[ZI (N:=N) (q:=q) (n:=n) (by omega) ?_ ?_ (n-1) 1 _ N (by omega) (by omega) (B1 _) ?_ ?_]
 ·rfl
 ·intro m l hl hm h0
  have hlt:(l.take m).length=m:=by rw[U3];omega
  dsimp only
  rw[A1 (W8 (by omega))]
  have s1:O5 l (some (m:Int)) none none=some (l.drop m):=by
   unfold O5;rw[A1 (by simp;omega)];simp only[U2,Ds,R6];rw[Av (by rw[IQ];omega)]
  rw[s1,SY (by omega)];simp only[A3];rw[Uz,A1 (by omega)];simp only[A3,R6,hl];refine I4 (fun x=>some (Sum.inl (x,l.take m++(l.take m).take (n-m)++l.drop (m+(l.take m).length)))) ?_;rw[hlt]
  by_cases hc:(n:Int)-(m:Int)<(m:Int)
  ·rw[A1 hc,D0 (by omega) (by omega)];omega
  rw[A0 hc,D0 (by omega) (by omega)];omega
 ·intro l hl
  dsimp only
  rw[A0 (K4 (by omega))]
 ·simp;omega
 grind
def K6 (p:A2)(c:Int)(i:Nat):A2:=if p.Op=1∨p.Op=3 then(p.cQ[i]?).getD p else if p.Op=2 then(p.cQ[c.toNat]?).getD p else(p.cQ[0]?).getD p
def FM (p:A2)(n:Nat):Prop:=if p.Op=0 then n≠0 else if p.Op=1∨p.Op=3 then n≠p.cQ.length else if p.Op=4 then n=0 else n≠1
mutual
def FV:A4→A2→Int
 |⟨r,c,ks⟩,p=>if(p.Op≠0∧¬(r.Time=0∧r.Source=0∧r.Seq=0))∨(p.Op≠2∧c≠0)then 3 else if p.Op=2∧(c<0∨(p.cQ.length:Int)≤c)then 2 else if FM p ks.length then 15 else BN ks p c 0
def BN:List A4→A2→Int→Nat→Int
 |[],_,_,_=>0
 |k::ks,p,c,i=>if FV k (K6 p c i)=0 then BN ks p c (i+1)else FV k (K6 p c i)
end
def Ia (d:A4)(p:A2):FV d p=if(p.Op≠0∧¬(d.Ref.Time=0∧d.Ref.Source=0∧d.Ref.Seq=0))∨(p.Op≠2∧d.Choice≠0)then 3 else if p.Op=2∧(d.Choice<0∨(p.cQ.length:Int)≤d.Choice)then 2 else if FM p d.Kids.length then 15 else BN d.Kids p d.Choice 0:=by
 cases d;simp only[FV]
def AX0 {N:Nat} {ks:List A4} {p:A2} {c:Int} {step:Int→Option (Int⊕(Unit⊕Int))} {k:Unit⊕Int→Option Int} (hl:ks.length<N) (hN:ks.length<1000000000)
 (hs:∀(i:Nat) (h:i<ks.length),step (i:Int)=if cmp .neq (FV ks[i] (K6 p c i)) 0=true then some (.inr (.inr (FV ks[i] (K6 p c i))))else some (.inl (ar .add .i64 (i:Int) 1)))
 (he:step (ks.length:Int)=some (.inr (.inl ()))) (k0:k (.inl ())=some 0) (k1:∀e,k (.inr e)=some e):(loopN step N 0).bind k=some (BN ks p c 0):=by
 have key:∀(d i N:Nat),i+d=ks.length→d<N→(loopN step N (i:Int)).bind k=some (BN (ks.drop i) p c i):=by
  intro d
  induction d with
  |zero=>
   intro i N hi hN;obtain⟨N,rfl⟩:∃m,N=m+1:=⟨N-1,by omega⟩
   have:i=ks.length:=by omega
   simp_all[loopN,BN]
  | succ d ih=>
   intro i N hi hN;obtain⟨N,rfl⟩:∃m,N=m+1:=⟨N-1,by omega⟩
   have hik:i<ks.length:=by omega
   rw[O4 hik,BN];unfold loopN;rw[hs i hik,D0 (by omega) (by omega)]
   by_cases hz:FV ks[i] (K6 p c i)=0
   ·rw[A0 (H7 hz),A1 hz]
    grind
   rw[A1 (K0 hz),A0 hz];exact k1 _
 grind
def G9 {p:A2} (hw:WfN p) {c:Int} {i n:Nat} (h:¬FM p n) (hi:i<n) (hc:p.Op=2→0≤c∧c<p.cQ.length):K6 p c i∈p.cQ∧(p.Op=1∨p.Op=3→p.cQ[i]? =some (K6 p c i))∧(p.Op=2→p.cQ[c.toNat]? =some (K6 p c i))∧(4≤p.Op→p.cQ=[K6 p c i]):=by
 have ho:=hw.op
 unfold FM at h
 unfold K6
 by_cases h0:p.Op=0
 ·rw[A1 h0]at h;omega
 rw[A0 h0]at h
 by_cases h1:p.Op=1∨p.Op=3
 ·rw[A1 h1]at h
  have hi':i<p.cQ.length:=by omega
  rw[A1 h1,C0 hi']
  grind
 rw[A0 h1]
 by_cases h2:p.Op=2
 ·have:=hc h2
  have hi':c.toNat<p.cQ.length:=by omega
  rw[A1 h2,C0 hi']
  simp_all
 rw[A0 h2];obtain⟨q,hq⟩:=hw.a2 (by omega);rw[hq]
 simp_all
def MP {a b:Int}(h:¬a=b):¬(cmp .eql a b=true):=by rw[CI h];simp
def ZW (p:A2)(d:A4):Ar.or (an (cmp .neq p.Op 0) (Ar.nt (an (cmp .eql d.Ref.Time 0) (an (cmp .eql d.Ref.Source 0) (an (cmp .eql d.Ref.Seq 0) true))))) (an (cmp .neq p.Op 2) (cmp .neq d.Choice 0))=true↔
 (p.Op≠0∧¬(d.Ref.Time=0∧d.Ref.Source=0∧d.Ref.Seq=0))∨(p.Op≠2∧d.Choice≠0):=by
 simp only[N8,K5,P7,L9,D7]
 grind
def Wi {N:Nat} (hN:Bgn N):∀(n:Nat) (p:A2) (d:A4),NG d≤n→Fa d≤4096→FF p→p.pre.length≤64→Z4 N n p d=some (FV d p)
 |0,p,d,h,_,_,_=>by rw[V2]at h;omega
 | n + 1,p,d,h,hs,hw,hpp=>by
  have hal:=V5 p;have hsz:=Fd d;have hdp:=V2 d;have hl:=GU d.Kids;have ho:=hw.self.op;unfold Z4;rw[Ia]
  by_cases hf:(p.Op≠0∧¬(d.Ref.Time=0∧d.Ref.Source=0∧d.Ref.Seq=0))∨(p.Op≠2∧d.Choice≠0)
  ·rw[A1 ((ZW p d).2 hf),A1 hf]
  rw[A0 (fun e=>hf ((ZW p d).1 e)),A0 hf]
  have rest:∀y5:List A2,(FM p d.Kids.length↔d.Kids.length≠y5.length)→(∀i,i<y5.length→¬FM p d.Kids.length→y5[i]? =some (K6 p d.Choice i))→(p.Op=2→0≤d.Choice∧d.Choice<p.cQ.length)→
   (if cmp .neq (Ar.len d.Kids) (Ar.len y5)=true then
    some 15
   else
    (loopN
     (fun(s6:Int)=>
      (
       if cmp .lss s6 (Ar.len d.Kids)=true then
        (B9 d.Kids s6).bind fun x8=>
        (B9 y5 s6).bind fun x10=>
        (Z4 N n x10 x8).bind fun r11=>
        if cmp .neq r11 0=true then
         some (.inr (.inr r11))
        else
         some (.inl (ar .add .i64 s6 1))
       else
        some (.inr (.inl ()))
       :Option ((Int)⊕(Unit⊕Int))))
     N 0).bind fun s7=>
    match s7 with
    | .inl y12=>
     some 0
    | .inr y13=>
     some y13)=some (if FM p d.Kids.length then 15 else BN d.Kids p d.Choice 0):=by
   intro y5 hb hy hc
   by_cases hbl:FM p d.Kids.length
   ·rw[A1 (K0 (by rw[B0,B0];have:=hb.1 hbl;omega)),A1 hbl]
   have hlen:d.Kids.length=y5.length:=by
    simp_all
   rw[A0 (H7 (by rw[B0,B0];omega)),A0 hbl];refine AX0 (by omega) (by omega) (fun i hi=>?_) (by rw[A0 Cv]) rfl fun e=>rfl;have hm:=E4 hi;rw[A1 (T8 (by omega)),E1,E1,C0 hi,hy i (by omega) hbl];simp only[A3];rw[Wi hN n _ _ (by have:=Ak hm;omega) (by have:=Dt hm;omega) (hw.arg (G9 hw.self hbl hi hc).1) (by have:=K7 (G9 hw.self hbl hi hc).1;omega)];rfl
  by_cases h2:p.Op=2
  ·rw[A1 (J4 h2)]
   by_cases hc:d.Choice<0∨(p.cQ.length:Int)≤d.Choice
   ·rw[A1 (by simp only[N8,D6,O7,B0];grind),A1 ⟨h2,hc⟩];rfl
   rw[A0 (by simp only[N8,D6,O7,B0];grind),A0 (fun h=>hc h.2)]
   have hc':0≤d.Choice∧d.Choice<p.cQ.length:=by omega
   obtain⟨c,hcc⟩:=Dh hc'.1
   have hcl:c<p.cQ.length:=by omega
   have hsl:O5 p.cQ (some d.Choice) (some (ar .add .i64 d.Choice 1)) none=some [p.cQ[c]]:=by
    have hb:=hw.self;rw[hcc,D0 (by omega) (by omega),show((c:Int)+1)=((c+1:Nat):Int) by omega];unfold O5;rw[A1 (by simp;omega)];simp only[U2,Ds,R6];rw[show c+1-c=1 by omega,O4 hcl];rfl
   rw[hsl];simp only[A3];refine rest [p.cQ[c]] ?_ ?_ fun _=>hc'
   ·simp_all[FM]
   simp_all[K6]
  rw[A0 (MP h2),A0 (show¬(p.Op=2∧(d.Choice<0∨(p.cQ.length:Int)≤d.Choice))from fun h=>h2 h.1)]
  by_cases h4:p.Op=4
  ·rw[A1 (J4 h4)];obtain⟨q,hq⟩:=hw.self.a2 (by omega)
   by_cases hk:d.Kids.length=0
   ·rw[A1 (J4 (by rw[B0];omega)),A1 (by simp_all[FM])];rfl
   rw[A0 (MP (by rw[B0];omega)),hq,B0,AT7 hN q (by omega) (by omega)];simp only[A3];refine rest _ ?_ ?_ fun h=>absurd h h2
   ·simp_all[FM]
   simp_all[K6]
  rw[A0 (MP h4)];simp only[A3];refine rest p.cQ ?_ ?_ fun h=>absurd h h2
  ·unfold FM
   by_cases h0:p.Op=0
   ·rw[A1 h0,hw.self.a0 h0];simp
   rw[A0 h0]
   by_cases h1:p.Op=1∨p.Op=3
   ·rw[A1 h1]
   obtain⟨q,hq⟩:=hw.self.a2 (by omega);rw[A0 h1,A0 h4,hq];simp
  intro i hi hbl
  have hik:i<d.Kids.length:=by
   unfold FM at hbl
   by_cases h0:p.Op=0
   ·rw[hw.self.a0 h0]at hi;simp at hi
   rw[A0 h0]at hbl
   by_cases h1:p.Op=1∨p.Op=3
   ·rw[A1 h1]at hbl;omega
   obtain⟨q,hq⟩:=hw.self.a2 (by omega)
   rw[A0 h1,A0 h4]at hbl;rw[hq]at hi;simp_all
  have hm:=G9 hw.self (c:=d.Choice) (i:=i) hbl hik fun h=>absurd h h2
  by_cases h1:p.Op=1∨p.Op=3
  ·grind
  by_cases h0:p.Op=0
  ·rw[hw.self.a0 h0]at hi;simp at hi
  have:=hm.2.2.2 (by omega)
  rw[this]at hi ⊢
  have hi0:i=0:=by grind
  rw[hi0];simp
def Bc4:∀{ks:List A4} {p:A2} {c:Int} {j:Nat},BN ks p c j=0→∀i (h:i<ks.length),FV ks[i] (K6 p c (j+i))=0
 |[],_,_,_,_,i,h=>absurd h (by simp)
 | k::ks,p,c,j,hs,i,h=>by
  rw[BN]at hs
  by_cases hz:FV k (K6 p c j)=0
  ·rw[A1 hz]at hs
   cases i with
   |zero=>exact hz
   |succ i=>
    have:=Bc4 hs i (by grind)
    rw[show j+1+i=j+(i+1) by omega]at this
    exact this
  omega
structure Su (d:A4) (p:A2):Prop where
 n:¬FM p d.Kids.length
 c:p.Op=2→0≤d.Choice∧d.Choice<p.cQ.length
 k:∀i (h:i<d.Kids.length),FV d.Kids[i] (K6 p d.Choice i)=0
def Du {d:A4} {p:A2} (h:FV d p=0):Su d p:=by
 rw[Ia]at h
 split at h
 ·cases h
 split at h
 ·cases h
 split at h
 ·cases h
 next h1 h2 h3=>
 exact⟨h3,fun e=>by
  omega,fun i hi=>by have:=Bc4 h i hi;rwa[J7]at this⟩
def Su.pos {d:A4} {p:A2} (h:Su d p) (hw:WfN p) (h0:p.Op≠0):1≤d.Kids.length:=by
 have hn:=h.n;have ho:=hw.op
 unfold FM at hn
 rw[A0 h0]at hn
 by_cases h1:p.Op=1∨p.Op=3
 ·rw[A1 h1]at hn
  have:=List.length_pos_iff.2 (hw.a1 (by omega) (by omega));omega
 rw[A0 h1]at hn
 grind
theorem Su.one {d:A4}{p:A2}(h:Su d p)(h0:p.Op≠0)(h1:¬(p.Op=1∨p.Op=3))(h4:p.Op≠4):d.Kids.length=1:=by
 have hn:=h.n
 simp_all[FM]
def QF {a b:Int}(h0:0≤a)(h:a<b):ar .rem .i64 a b=a:=by
 have e:ar .rem .i64 a b=a.tmod b:=rfl;rw[e,Int.tmod_eq_of_lt h0 h]
def Ao9 (a:Int):ar .rem .i64 a 1=0:=by
 have e:ar .rem .i64 a 1=a.tmod 1:=rfl;rw[e,Int.tmod_one]
def XN {p:A2} (hw:FF p) (hpp:p.pre.length≤64) {d:A4} (hs:Su d p) (h0:p.Op≠0) (h2:p.Op≠2) {i:Nat} (hi:i<d.Kids.length):B9 p.cQ (ar .rem .i64 (i:Int) (Ar.len p.cQ))=some (K6 p d.Choice i):=by
 have hm:=G9 hw.self hs.n hi hs.c;have hal:=V5 p;have ho:=hw.self.op
 by_cases h1:p.Op=1∨p.Op=3
 ·have:=hm.2.1 h1
  have hlt:i<p.cQ.length:=by
   grind
  rw[B0,QF (by omega) (by omega),E1];exact this
 have:=hm.2.2.2 (by omega);rw[this,B0,BE,show((1:Nat):Int)=1 from rfl,Ao9];rfl
def Cz (p:A2):Prop:=p.Op=1∨p.Op=4
def Ea (p:A2)(b s:List PR):List PR:=if Cz p then mrg b s else b
def Bi (p:A2)(f:Int)(s:List PR):Int:=if Cz p∧s≠[]then T9 s+1 else f
mutual
def Lr (l:List A8):A4→A2→List PR→Int→Option (List PR)
 |⟨r,c,ks⟩,p,b,f=>if p.Op=0 then(match Cy l r with|some i=>if f≤(i:Int)∧IH l p b i=true then some [⟨p.Var,(i:Int)⟩]else none|none=>none)
  else(Cs l ks p c 0 b f []).bind fun s=>if 5≤p.Op∧¬BY l p b s=true then none else some s
def Cs (l:List A8):List A4→A2→Int→Nat→List PR→Int→List PR→Option (List PR)
 |[],_,_,_,_,_,s=>some s
 |k::ks,p,c,i,b,f,s=>(Lr l k (K6 p c i) (Ea p b s) (Bi p f s)).bind fun x=>if T7 s x=true then none else Cs l ks p c (i+1) b f (mrg s x)
end
def HZ (l:List A8)(d:A4)(p:A2)(b:List PR)(f:Int):Lr l d p b f=if p.Op=0 then(match Cy l d.Ref with|some i=>if f≤(i:Int)∧IH l p b i=true then some [⟨p.Var,(i:Int)⟩]else none|none=>none)
 else(Cs l d.Kids p d.Choice 0 b f []).bind fun s=>if 5≤p.Op∧¬BY l p b s=true then none else some s:=by
 cases d;simp only[Lr]
def Ve (l:List A8)(p:A2)(c:Int)(b:List PR)(f:Int)(k:A4)(i:Nat)(s:List PR):Option (List PR):=(Lr l k (K6 p c i) (Ea p b s) (Bi p f s)).bind fun x=>if T7 s x=true then none else some (mrg s x)
def Y0 (l:List A8) (k:A4) (ks:List A4) (p:A2) (c:Int) (i:Nat) (b:List PR) (f:Int) (s:List PR):Cs l (k::ks) p c i b f s=(Ve l p c b f k i s).bind fun t=>Cs l ks p c (i+1) b f t:=by
 rw[Cs,Ve]
 cases Lr l k (K6 p c i) (Ea p b s) (Bi p f s)with
 |none=>rfl
 |some x=>
  grind
def Az8 {S T R:Type} {ks:List A4} {step:S→Option (S⊕(R⊕Unit))} {rep:Nat→T→S} {nx:A4→Nat→T→Option T} {G:List A4→Nat→T→Option T} {I:Nat→T→Prop} {res:T→R}
 (g0:∀i t,G [] i t=some t) (g1:∀k ks i t,G (k::ks) i t=(nx k i t).bind (G ks (i+1)))
 (hs:∀i (h:i<ks.length) t,I i t→(nx ks[i] i t=none∧step (rep i t)=some (.inr (.inr ())))∨∃t',nx ks[i] i t=some t'∧step (rep i t)=some (.inl (rep (i+1) t'))∧I (i+1) t')
 (he:∀t,I ks.length t→step (rep ks.length t)=some (.inr (.inl (res t)))) {N:Nat} (hN:ks.length<N) {t0:T} (h0:I 0 t0):
 (G ks 0 t0=none∧loopN step N (rep 0 t0)=some (.inr ()))∨∃t,G ks 0 t0=some t∧I ks.length t∧loopN step N (rep 0 t0)=some (.inl (res t)):=by
 have key:∀(d i N:Nat) (t:T),i+d=ks.length→d<N→I i t→(G (ks.drop i) i t=none∧loopN step N (rep i t)=some (.inr ()))∨∃t',G (ks.drop i) i t=some t'∧I ks.length t'∧loopN step N (rep i t)=some (.inl (res t')):=by
  intro d
  induction d with
  |zero=>
   intro i N t hi hN ht;obtain⟨N,rfl⟩:∃m,N=m+1:=⟨N-1,by omega⟩
   have:i=ks.length:=by omega
   simp_all[loopN]
  |succ d ih=>
   intro i N t hi hN ht;obtain⟨N,rfl⟩:∃m,N=m+1:=⟨N-1,by omega⟩
   have hik:i<ks.length:=by omega
   rw[O4 hik,g1]
   grind[loopN]
 grind
def AE9 {S T R X:Type}{ks:List A4}{step:S→Option (S⊕(R⊕Unit))}{s0:S}{k:R⊕Unit→Option X}{Q:X→Prop}(rep:Nat→T→S)(nx:A4→Nat→T→Option T)(G:List A4→Nat→T→Option T)(I:Nat→T→Prop)(res:T→R){t0:T}(e0:s0=rep 0 t0)
 (g0:∀i t,G [] i t=some t) (g1:∀k ks i t,G (k::ks) i t=(nx k i t).bind (G ks (i+1))) {N:Nat} (hN:ks.length<N) (h0:I 0 t0)
 (hs:∀i (h:i<ks.length) t,I i t→(nx ks[i] i t=none∧step (rep i t)=some (.inr (.inr ())))∨∃t',nx ks[i] i t=some t'∧step (rep i t)=some (.inl (rep (i+1) t'))∧I (i+1) t')
 (he:∀t,I ks.length t→step (rep ks.length t)=some (.inr (.inl (res t))))
 (k1:G ks 0 t0=none→∃r,k (.inr ())=some r∧Q r) (k2:∀t,G ks 0 t0=some t→I ks.length t→∃r,k (.inl (res t))=some r∧Q r):∃r,(loopN step N s0).bind k=some r∧Q r:=by
 subst e0
 rcases Az8 g0 g1 hs he hN h0 with⟨h1,h2⟩|⟨t,h1,h2,h3⟩
 ·rw[h2];exact k1 h1
 simp_all
def Aj0 {s x:List PR}(h:x≠[]):T9 (s++x)=T9 x:=by
 unfold T9;rw[List.getLast?_append]
 cases hx:x.getLast? with
 |none=>simp_all
 |some y=>rfl
def TW {l:List A8}{s x:List PR}{f:Int}(hs:s=[]∨Hj l f s)(hx:Hj l (if s≠[]then T9 s+1 else f) x):T9 (mrg s x)=T9 x:=by
 rcases hs with rfl|hs
 ·rw[DN]
 rw[A1 hs.ne]at hx
 rw[TR fun a ha b hb=>by have:=IB hs.gd.asc a ha;have:=hx.ge b hb;omega,Aj0 hx.ne]
def PM {l:List A8} {p:A2} {b s:List PR} {f:Int} (ho:Lk l b f) (hs:s=[]∨Hj l f s):Lk l (Ea p b s) (Bi p f s):=by
 unfold Ea Bi
 by_cases hc:Cz p
 ·rw[A1 hc]
  rcases hs with rfl|hs
  ·rw[A0 (fun h=>h.2 rfl),X5];exact ho
  rw[A1 ⟨hc,hs.ne⟩];exact ho.next hs
 simp_all
def PG {l:List A8} {p:A2} {s x:List PR} {f:Int} (hs:s=[]∨Hj l f s) (hx:Hj l (Bi p f s) x) (hm:T7 s x=false):Hj l f (mrg s x):=by
 rcases hs with rfl|hs
 ·rw[DN]
  simp_all[Bi]
 unfold Bi at hx
 by_cases hc:Cz p
 ·rw[A1 ⟨hc,hs.ne⟩]at hx
  exact(hs.seq hx).1
 rw[A0 fun h=>hc h.1]at hx
 exact hs.all hx (U8.1 hm)
def AN5 {l:List A8} {p:A2} {s x:List PR} {f:Int} (hs:s=[]∨Hj l f s) (hx:Hj l (Bi p f s) x) (hc:Cz p):Bi p f (mrg s x)=T9 x+1:=by
 have hx':Hj l (if s≠[]then T9 s+1 else f) x:=by
  simp_all[Bi]
 have hne:mrg s x≠[]:=fun e=>by
  have h1:=I4 List.length e
  rw[KV,X1]at h1
  have:=List.length_pos_iff.2 hx.ne;omega
 unfold Bi;rw[A1 ⟨hc,hne⟩,TW hs hx']
def XH (p:A2):Ar.or (cmp .eql p.Op 1) (cmp .eql p.Op 4)=true↔Cz p:=by
 simp only[N8,D7,Cz];simp
def AN0 {l:List A8}{s:List PR}(h:Gd l s):InS l.length s:=fun x hx=>(h.wf x hx).2
def Nz {N:Nat}(hN:Bgn N){l:List A8}(hl:l.length≤4096){a b:List DP}(ha:Gd l (N7 a))(hb:Gd l (N7 b))(hd:O1 (N7 a) (N7 b)):H9 N a b=some ((mrg (N7 a) (N7 b)).map O2):=by
 have la:=ha.len;have lb:=hb.len
 rw[D4]at la lb
 exact Ab0 hN (n:=l.length) (by omega) (by omega) (by omega) ha.asc hb.asc hd (AN0 ha) (AN0 hb)
def okd (r:List DP×Bool):Option (List PR):=if r.2=true then some (N7 r.1)else none
def SU {N:Nat} (hN:Bgn N) {l:List A8} (hl:l.length≤4096) (hchk:Al l=0) (c:Int):∀(n:Nat) (p:A2) (d:A4) (o:List DP) (f:Int),NG d≤n→Fa d≤4096→FF p→p.pre.length≤64→FV d p=0→Lk l (N7 o) f→
 ∃r,N4 N n ⟨l,c⟩ p d o f=some r∧okd r=Lr l d p (N7 o) f∧(r.2=true→Hj l f (N7 r.1))
 |0,p,d,o,f,h,_,_,_,_,_=>by rw[V2]at h;omega
 | n +1,p,d,o,f,h,hs,hw,hpp,hsu,ho=>by
  have hsz:=Fd d;have hdp:=V2 d;have hkl:=GU d.Kids;have hop:=hw.self.op;have hol:=ho.gd.len
  rw[D4]at hol
  unfold N4;rw[HZ]
  by_cases h0:p.Op=0
  ·rw [A1 (J4 h0),A1 h0];obtain⟨k,hf,hk⟩:=As8 hN hl hchk d.Ref
   dsimp only
   rw[hf];simp only[A3]
   cases hp:Cy l d.Ref with
   |none=>
    refine⟨([⟨p.Var,(k:Int)⟩],false),?_,rfl,fun h=>by cases h⟩;rw[A0 (by simp[K5])]
   | some i=>
    have hki:=hk i hp;subst hki;obtain⟨hil,_⟩:=DM hp
    by_cases hfi:f≤(k:Int)
    ·rw[A1 (by rw[K5,O7];grind),SX hN (by omega) ho.gd.wf c hw.self.cond hil];refine⟨([⟨p.Var,(k:Int)⟩],IH l p (N7 o) k),rfl,?_,fun _=>⟨⟨fun x hx=>?_,HV _ _⟩,fun x hx=>?_,by simp⟩⟩
     ·unfold okd
      by_cases ht:IH l p (N7 o) k=true<;>simp[ht,hfi,dpr]
     ·rw[List.mem_singleton.1 hx];exact⟨hw.self.var h0,by simp_all[dpr]⟩
     rw[List.mem_singleton.1 hx];exact hfi
    rw[A0 (by rw[K5,O7];grind)];exact⟨([⟨p.Var,(k:Int)⟩],false),rfl,by simp[okd,hfi],fun h=>by cases h⟩
  rw[A0 (MP h0),A0 h0];have hS:=Du hsu;have hpos:=hS.pos hw.self h0
  have kid:∀(i:Nat) (hi:i<d.Kids.length) (o':List DP) (f':Int),Lk l (N7 o') f'→∃r,N4 N n ⟨l,c⟩ (K6 p d.Choice i) d.Kids[i] o' f'=some r∧okd r=Lr l d.Kids[i] (K6 p d.Choice i) (N7 o') f'∧(r.2=true→Hj l f' (N7 r.1)):=by
   intro i hi o' f' ho';have hm:=E4 hi;have hma:=(G9 hw.self hS.n hi hS.c).1;have h1:=Ak hm;have h2:=Dt hm;have h3:=K7 hma;exact SU hN hl hchk c n _ _ o' f' (by omega) (by omega) (hw.arg hma) (by omega) (hS.k i hi) ho'
  by_cases h2:p.Op=2
  ·rw[A1 (J4 h2)];have hc:=hS.c h2;have hone:=hS.one h0 (by omega) (by omega)
   obtain⟨k0,hk0⟩:∃k0,d.Kids=[k0]:=by
    match hk:d.Kids,hone with
    |[k0],_=>simp_all
   have hi:0<d.Kids.length:=by omega
   obtain⟨r,e1,e2,e3⟩:=kid 0 hi o f ho;have ha:=(G9 hw.self hS.n hi hS.c).2.2.1 h2
   have e4:d.Kids[0]=k0:=by simp[hk0]
   rw[e4]at e1 e2
   have hci:B9 p.cQ d.Choice=some (K6 p d.Choice 0):=by
    simp_all[B9]
   have hk:B9 d.Kids 0=some k0:=by rw[hk0];rfl
   rw[hci,hk];simp only[A3];rw[e1];refine⟨r,rfl,?_,e3⟩;rw[hk0,Y0]
   have hnc:¬Cz p:=by simp_all[Cz]
   simp only[Ve,Ea,Bi,hnc,G0,false_and];rw[←e2];unfold okd;cases r.2
   ·rfl
   simp[Cs,DN,T7,h2]
  rw[A0 (MP h2)]
  refine AE9 (ks:=d.Kids) (T:=List PR) (fun i s=>(Bi p f s,s.map O2,(i:Int))) (Ve l p d.Choice (N7 o) f) (fun ks i s=>Cs l ks p d.Choice i (N7 o) f s) (fun i s=>(i=0∧s=[])∨Hj l f s) (fun s=>s.map O2) (t0:=[]) (by simp[Bi])
   (fun i t=>by rw[Cs]) (fun k ks i t=>Y0 l k ks p d.Choice i (N7 o) f t) (by omega) (.inl ⟨rfl,rfl⟩) ?_ ?_ (fun h1=>by rw[h1];exact⟨([],false),rfl,rfl,fun h=>by cases h⟩) ?_
  ·intro i hi s hI;have hs':s=[]∨Hj l f s:=hI.imp (fun h=>h.2) id;have hon:=PM (p:=p) ho hs';have gs:Gd l s:=hs'.elim (fun h=>h▸Gd.nil l) fun h=>h.gd;have ls:=gs.len;have hap:O1 (N7 o) s:=hs'.elim (fun h=>h▸fun _ _ y hy=>absurd hy (BC)) fun h=>ho.apart h
   dsimp only
   rw[A1 (T8 (by omega)),E1,C0 hi];simp only[A3]
   have e1:((if Ar.or (cmp .eql p.Op 1) (cmp .eql p.Op 4)=true then
    (H9 N o (s.map O2)).bind fun r11=>
    some r11
    else
     some o:Option (List A6)))=some ((Ea p (N7 o) s).map O2):=by
    unfold Ea
    by_cases hc:Cz p
    ·rw[A1 ((XH p).2 hc),A1 hc,Nz hN hl ho.gd (by rw[I3];exact gs) (by rw[I3];exact hap),I3];rfl
    rw[A0 (fun h=>hc ((XH p).1 h)),A0 hc,AZ4]
   rw[e1];simp only[A3]
   have hne:p.cQ≠[]:=fun e=>by
    have:=(G9 hw.self hS.n hi hS.c).1
    rw[e]at this;cases this
   have hq:FL (cmp .neq (Ar.len p.cQ) 0)=some ():=by
    unfold FL;rw[A1 (K0 (by rw[B0];have:=List.length_pos_iff.2 hne;omega))]
   rw[hq,XN hw hpp hS h0 h2 hi];simp only[A3];obtain⟨r,v1,v2,v3⟩:=kid i hi ((Ea p (N7 o) s).map O2) (Bi p f s) (by rw[I3];exact hon)
   rw[I3]at v2
   rw[v1];simp only[A3]
   by_cases hok:r.2=true
   ·rw[A0 (by rw[P7,hok];simp)];have hx:=v3 hok;have lx:=hx.gd.len
    rw[D4]at lx
    have v4:Lr l d.Kids[i] (K6 p d.Choice i) (Ea p (N7 o) s) (Bi p f s)=some (N7 r.1):=by rw[←v2,okd,A1 hok]
    rw[Uw hN (by rw[D4];omega) (by omega),I3];simp only[A3]
    by_cases hm:T7 s (N7 r.1)=true
    ·refine .inl ⟨by simp_all[Ve],?_⟩;rw[hm];rfl
    rw[As]at hm
    have hnx:Ve l p d.Choice (N7 o) f d.Kids[i] i s=some (mrg s (N7 r.1)):=by simp_all[Ve]
    refine .inr ⟨_,hnx,?_,.inr (PG hs' hx hm)⟩;rw[hm,A0 (by simp[P7])]
    have hj:H9 N (s.map O2) r.1=some ((mrg s (N7 r.1)).map O2):=by
     rw[Nz hN hl (by rw[I3];exact gs) hx.gd (by rw[I3];exact U8.1 hm),I3]
    have ha:ar .add .i64 (i:Int) 1=((i+1:Nat):Int):=by rw[D0 (by omega) (by omega)];omega
    by_cases hc:Cz p
    ·have hlx:=hx.gd.lst hx.ne;rw[A1 ((XH p).2 hc),Ph (fun e=>hx.ne (by rw[e];rfl)) (by omega) ⟨hlx.1,by omega⟩,hj];simp only[A3];rw[ha,AN5 hs' hx hc]
    rw[A0 (fun h=>hc ((XH p).1 h)),hj];simp only[A3];rw[ha];simp only[Bi,hc,false_and,G0]
   refine .inl ⟨?_,by rw[A1 (by rw[As]at hok;rw[P7,hok];rfl)]⟩;simp only[Ve];rw[←v2,okd,A0 hok];rfl
  ·intro s hI
   dsimp only
   rw[A0 Cv]
  intro t h1 h3;rw[h1]
  have hr:Hj l f t:=h3.resolve_left fun e=>by omega
  simp only[A3]
  by_cases h5:5≤p.Op
  ·rw[A0 (by simp only[P7,N8,D7];simp;omega)];rw[Ww hN (by omega) hw.self.cond ⟨h5,hop.2⟩ ho.gd (by rw[I3];exact hr.gd) (by simpa using hr.ne) (by rw[I3];exact ho.apart hr) c,I3];refine⟨_,rfl,?_,fun _=>by rw[I3];exact hr⟩;unfold okd
   dsimp only
   rw[I3];cases BY l p (N7 o) t<;>simp[h5]
  rw[A1 (by simp only[P7,N8,D7];simp;omega),A0 (fun h=>h5 h.1)];exact⟨_,rfl,by simp only[okd,D2,I3],fun _=>by rw[I3];exact hr⟩
def AL8 {S T R:Type} {m:Nat} {step:S→Option (S⊕(R⊕Unit))} {rep:Nat→T→S} {I:Nat→T→Prop} {Bad:Prop} {res:T→R}
 (hs:∀i,i<m→∀t,I i t→(Bad∧step (rep i t)=some (.inr (.inr ())))∨∃t',step (rep i t)=some (.inl (rep (i+1) t'))∧I (i+1) t')
 (he:∀t,I m t→step (rep m t)=some (.inr (.inl (res t)))) {N:Nat} (hN:m<N) {t0:T} (h0:I 0 t0):
 (Bad∧loopN step N (rep 0 t0)=some (.inr ()))∨∃t,I m t∧loopN step N (rep 0 t0)=some (.inl (res t)):=by
 have key:∀(d i N:Nat) (t:T),i+d=m→d<N→I i t→(Bad∧loopN step N (rep i t)=some (.inr ()))∨∃t',I m t'∧loopN step N (rep i t)=some (.inl (res t')):=by
  intro d
  induction d with
  |zero=>
   intro i N t hi hN ht;obtain⟨N,rfl⟩:∃m,N=m+1:=⟨N-1,by omega⟩
   have:i=m:=by omega
   grind[loopN]
  |succ d ih=>
   intro i N t hi hN ht;obtain⟨N,rfl⟩:∃m,N=m+1:=⟨N-1,by omega⟩
   have hik:i<m:=by omega
   grind[loopN]
 simp_all
def Ao0 {S T R X:Type}{m:Nat}{step:S→Option (S⊕(R⊕Unit))}{s0:S}{k:R⊕Unit→Option X}{Q:X→Prop}(rep:Nat→T→S)(I:Nat→T→Prop)(Bad:Prop)(res:T→R){t0:T}(e0:s0=rep 0 t0){N:Nat}(hN:m<N)(h0:I 0 t0)
 (hs:∀i,i<m→∀t,I i t→(Bad∧step (rep i t)=some (.inr (.inr ())))∨∃t',step (rep i t)=some (.inl (rep (i+1) t'))∧I (i+1) t')
 (he:∀t,I m t→step (rep m t)=some (.inr (.inl (res t)))) (k1:Bad→∃r,k (.inr ())=some r∧Q r) (k2:∀t,I m t→∃r,k (.inl (res t))=some r∧Q r):∃r,(loopN step N s0).bind k=some r∧Q r:=by
 subst e0
 rcases AL8 hs he hN h0 with⟨h1,h2⟩|⟨t,h1,h3⟩
 ·rw[h2];exact k1 h1
 simp_all
mutual
def Oh:A4→A2→List C1
 |⟨r,c,ks⟩,p=>if p.Op=0 then[⟨p.Var,r⟩]else Hf ks p c 0
def Hf:List A4→A2→Int→Nat→List C1
 |[],_,_,_=>[]
 |k::ks,p,c,i=>Oh k (K6 p c i)++Hf ks p c (i+1)
end
def Pl (d:A4)(p:A2):Oh d p=if p.Op=0 then[⟨p.Var,d.Ref⟩]else Hf d.Kids p d.Choice 0:=by cases d;simp only[Oh]
def AP8:∀{ks:List A4} {p:A2} {c:Int} {j i:Nat} (h:i<ks.length) {y:C1},y∈Oh ks[i] (K6 p c (j+i))→y∈Hf ks p c j
 |[],_,_,_,i,h,_,_=>absurd h (by simp)
 |k::ks,p,c,j,0,h,y,hy=>by rw[Hf];simp_all
 |k::ks,p,c,j,i+1,h,y,hy=>by
  rw[Hf];refine Jd _ (AP8 (i:=i) (by grind) ?_);rw[show j+1+i=j+(i+1) by omega];exact hy
def Fnd (l:List A8)(d:A4)(p:A2):Prop:=∀y∈Oh d p,(Cy l y.Ref).isSome=true
def Fnd.kid {l:List A8}{d:A4}{p:A2}(h:Fnd l d p)(h0:p.Op≠0){i:Nat}(hi:i<d.Kids.length):Fnd l d.Kids[i] (K6 p d.Choice i):=fun y hy=>by
 refine h y ?_;rw[Pl,A0 h0];exact AP8 hi (by rwa[J7])
structure RV (l:List A8) (d:A4) (p:A2) (b:List PR) (r:List PR×Bool):Prop where
 gd:r.2=true→Gd l r.1∧r.1≠[]
 eq:∀f,Lk l b f→Lr l d p b f=if r.2=true∧f≤hdA r.1 then some r.1 else none
structure RI (l:List A8) (ks:List A4) (p:A2) (c:Int) (b:List PR) (i:Nat) (s:List PR):Prop where
 gd:(i=0∧s=[])∨(Gd l s∧s≠[])
 ap:Cz p→O1 b s
 eq:∀f,Lk l b f→Cs l ks p c 0 b f []=if s=[]∨f≤hdA s then Cs l (ks.drop i) p c i b f s else none
def SF {S T R:Type} {m:Nat} {step:S→Option (S⊕R)} {rep:Nat→T→S} {I:Nat→T→Prop} {res:T→R}
 (hs:∀i,i<m→∀t,I i t→∃t',step (rep i t)=some (.inl (rep (i+1) t'))∧I (i+1) t')
 (he:∀t,I m t→step (rep m t)=some (.inr (res t))) {N:Nat} (hN:m<N) {t0:T} (h0:I 0 t0):
 ∃t,I m t∧loopN step N (rep 0 t0)=some (res t):=by
 have key:∀(d i N:Nat) (t:T),i+d=m→d<N→I i t→∃t',I m t'∧loopN step N (rep i t)=some (res t'):=by
  intro d
  induction d with
  |zero=>
   intro i N t hi hN ht;obtain⟨N,rfl⟩:∃m,N=m+1:=⟨N-1,by omega⟩
   have:i=m:=by omega
   grind[loopN]
  |succ d ih=>
   intro i N t hi hN ht;obtain⟨N,rfl⟩:∃m,N=m+1:=⟨N-1,by omega⟩
   grind[loopN]
 simp_all
def DV {S T R X:Type}{m:Nat}{step:S→Option (S⊕R)}{s0:S}{k:R→Option X}{x:Option X}(rep:Nat→T→S)(I:Nat→T→Prop)(res:T→R){t0:T}(e0:s0=rep 0 t0){N:Nat}(hN:m<N)(h0:I 0 t0)
 (hs:∀i,i<m→∀t,I i t→∃t',step (rep i t)=some (.inl (rep (i+1) t'))∧I (i+1) t') (he:∀t,I m t→step (rep m t)=some (.inr (res t))) (k1:∀t,I m t→k (res t)=x):(loopN step N s0).bind k=x:=by
 subst e0;obtain⟨t,h1,h2⟩:=SF hs he hN h0;rw[h2];grind
mutual
def XK:∀(d:A4) (p:A2),(Oh d p).length≤Fa d
 |⟨r,c,ks⟩,p=>by
  simp only[Oh,Fa]
  split
  ·simp
  have:=Au3 ks p c 0;omega
def Au3:∀(ks:List A4) (p:A2) (c:Int) (i:Nat),(Hf ks p c i).length≤FK ks
 |[],_,_,_=>Dm _
 |k::ks,p,c,i=>by
  rw[Hf,G8,FK];have:=XK k (K6 p c i);have:=Au3 ks p c (i+1);omega
end
def BI (ks:List A4)(p:A2)(c:Int)(i:Nat)(t:List C1):Prop:=t++Hf (ks.drop i) p c i=Hf ks p c 0∧t.length+FK (ks.drop i)≤4096
def BI.next {ks:List A4}{p:A2}{c:Int}{i:Nat}{t:List C1}(h:BI ks p c i t)(hi:i<ks.length):P9 t (Oh ks[i] (K6 p c i))=some (t++Oh ks[i] (K6 p c i))∧BI ks p c (i+1) (t++Oh ks[i] (K6 p c i)):=by
 obtain⟨h1,h2⟩:=h
 rw[O4 hi]at h1 h2
 rw[Hf]at h1
 rw[FK]at h2
 have:=XK ks[i] (K6 p c i)
 grind[P9,BI]
def BI.start {ks:List A4}{p:A2}{c:Int}(h:FK ks≤4096):BI ks p c 0 []:=⟨rfl,by grind⟩
def BI.stop {ks:List A4}{p:A2}{c:Int}{t:List C1}(h:BI ks p c ks.length t):t=Hf ks p c 0:=by
 have:=h.1
 rw[Dg (B1 _),Hf,G4]at this
 exact this
def Ux {N:Nat} (hN:Bgn N):∀(n:Nat) (p:A2) (d:A4),NG d≤n→Fa d≤4096→FF p→p.pre.length≤64→FV d p=0→N6 N n p d=some (Oh d p)
 |0,p,d,h,_,_,_,_=>by rw[V2]at h;omega
 | n+1,p,d,h,hs,hw,hpp,hsu=>by
  have hsz:=Fd d;have hdp:=V2 d;have hkl:=GU d.Kids;unfold N6;rw[Pl]
  by_cases h0:p.Op=0
  ·rw[A1 (J4 h0),A1 h0]
  rw[A0 (MP h0),A0 h0];have hS:=Du hsu
  have kid:∀(i:Nat) (hi:i<d.Kids.length),N6 N n (K6 p d.Choice i) d.Kids[i]=some (Oh d.Kids[i] (K6 p d.Choice i)):=by
   intro i hi;have hm:=E4 hi;have hma:=(G9 hw.self hS.n hi hS.c).1;have h1:=Ak hm;have h2:=Dt hm;have h3:=K7 hma;exact Ux hN n _ _ (by omega) (by omega) (hw.arg hma) (by omega) (hS.k i hi)
  by_cases h2:p.Op=2
  ·rw[A1 (J4 h2)];have hc:=hS.c h2;have hone:=hS.one h0 (by omega) (by omega)
   have hi:0<d.Kids.length:=by omega
   have ha:=(G9 hw.self hS.n hi hS.c).2.2.1 h2
   have hci:B9 p.cQ d.Choice=some (K6 p d.Choice 0):=by
    simp_all[B9]
   have hk:B9 d.Kids 0=some d.Kids[0]:=by
    rw[show(0:Int)=((0:Nat):Int)from rfl,E1,C0 hi]
   rw[hci,hk];simp only[A3];rw[kid 0 hi];simp only[A3]
   obtain⟨k0,hk0⟩:∃k0,d.Kids=[k0]:=by
    match hk:d.Kids,hone with
    |[k0],_=>simp_all
   have e4:d.Kids[0]=k0:=by simp[hk0]
   rw[e4,hk0,Hf,Hf,G4]
  rw[A0 (MP h2)]
  exact DV (m:=d.Kids.length) (fun i t=>(t,(i:Int))) (BI d.Kids p d.Choice) (fun t=>t) (t0:=[]) rfl (by omega) (.start (by omega)) (fun i hi t hI=>by
   dsimp only
   have hne:p.cQ≠[]:=fun e=>by
    have:=(G9 hw.self hS.n hi hS.c).1
    rw[e]at this;cases this
   have hq:FL (cmp .neq (Ar.len p.cQ) 0)=some ():=by
    unfold FL;rw[A1 (K0 (by rw[B0];have:=List.length_pos_iff.2 hne;omega))]
   obtain⟨e1,e2⟩:=hI.next hi;refine⟨_,?_,e2⟩;rw[A1 (T8 (by omega)),E1,C0 hi,hq,XN hw hpp hS h0 h2 hi];simp only[A3];rw[kid i hi];simp only[A3];rw[e1];simp only[A3]
   rw[D0 (by omega) (by omega)];rfl) (fun t _=>by dsimp only;rw[A0 Cv]) (fun t h1=>by rw[h1.stop])
def AO5 {N:Nat} (hN:Bgn N) {p:A2} {d:A4} (hd:NG d≤N) (hs:Fa d≤4096) (hw:FF p) (hpp:p.pre.length≤64) (hsu:FV d p=0):Eh N p d=some ((Oh d p).map (·.Ref)):=by
 unfold Eh;rw[Ux hN N p d hd hs hw hpp hsu];simp only[A3];have hl:=XK d p
 exact DV (m:=(Oh d p).length) (fun i t=>(t,(i:Int))) (fun i t=>t=((Oh d p).take i).map (·.Ref)) (fun t=>t) (t0:=[]) rfl (by omega) (by simp) (fun i hi t hI=>by
  dsimp only
  have hlt:t.length=i:=by rw[hI];simp;omega
  refine⟨t++[(Oh d p)[i].Ref],?_,by rw[hI,Aw hi,N1];rfl⟩;rw[A1 (T8 (by omega)),E1,C0 hi];simp only[A3];rw[S1 (by simp;omega)];simp only[A3]
  rw[D0 (by omega) (by omega)];rfl) (fun t _=>by dsimp only;rw[A0 Cv]) (fun t h1=>by rw[Av (B1 _)]at h1;rw[h1])
def ckD (N:Nat)(p:A2)(d:A4):Int:=if QV N p=0 then(if Fa d≤4096 then FV d p else 5)else QV N p
def Wm {N:Nat} (hN:Bgn N) {p:A2} (hb:p.bulk≤16777216) {d:A4} (hd:NG d≤30000000) (hs:Fa d≤30000000):Cb N p d=some (ckD N p d):=by
 unfold Cb ckD;rw[VL hN hb];simp only[A3]
 by_cases hc:QV N p=0
 ·rw[A0 (H7 hc),A1 hc,Us hN N d (by omega) hs];simp only[A3]
  by_cases h5:Fa d≤4096
  ·obtain⟨hw,hpp⟩:=Ke hN hb hc;rw[A0 (Q4 (by omega)),A1 h5,Wi hN N p d (by omega) h5 hw hpp];rfl
  rw[A1 (W1 (by omega)),A0 h5]
 rw[A1 (K0 hc),A0 hc]
def few1 {N:Nat} (hN:Bgn N) (l:List A9):∃b,Nq N l=some b∧True:=by
 unfold Nq;refine Ao0 (m:=min l.length 40) (fun i _=>(i:Int)) (fun _ _=>True) True (fun _=>()) (t0:=()) rfl (by omega) trivial (fun i hi t _=>?_) (fun t _=>?_) (fun _=>⟨_,rfl,trivial⟩) (fun t _=>⟨_,rfl,trivial⟩)
 ·have hil:i<l.length:=by omega
  rw[A1 (by rw[K5,T8 (by omega),W8 (by omega)];rfl),E1,C0 hil];simp only[A3]
  split
  ·simp_all
  refine .inr ⟨(),?_,trivial⟩;rw[D0 (by omega) (by omega)];rfl
 rw[A0];rw[K5];intro h
 rw[K3,D6,D6,G1,G1,B0]at h
 omega
def few4 {N:Nat} (hN:Bgn N) (l:List A8):∃b,HI N l=some b∧(b=true→l.length≤20):=by
 unfold HI;refine Ao0 (m:=min l.length 20) (fun i _=>(i:Int)) (fun _ _=>True) True (fun _=>()) (t0:=()) rfl (by omega) trivial (fun i hi t _=>?_) (fun t _=>?_) (fun _=>⟨false,rfl,fun h=>by cases h⟩) (fun t _=>⟨_,rfl,fun h=>?_⟩)
 ·have hil:i<l.length:=by omega
  rw[A1 (by rw[K5,T8 (by omega),W8 (by omega)];rfl),E1,C0 hil];simp only[A3];obtain⟨b,hb,_⟩:=few1 hN l[i].Values;unfold QG;rw[hb];simp only[A3]
  split
  ·simp_all
  refine .inr ⟨(),?_,trivial⟩;rw[D0 (by omega) (by omega)];rfl
 ·rw[A0];rw[K5];intro h
  rw[K3,D6,D6,G1,G1,B0]at h
  omega
 rw[Bv,G1,B0]at h
 omega
def XE:∀L:List A2,(A2.pres L).countP (fun y=>decide (y.Op=0))=(L.map Y2).sum
 |[]=>rfl
 |a::r=>by
  simp only[A2.pres,Er,D9,IM];rw[XE r];rfl
def AO2 {p:A2}(h:p.Op≠0):Y2 p=(p.cQ.map Y2).sum:=by
 rw[Fx,A0 h,XE,J7]
def EO:∀(L:List Nat) (i j:Nat),i≤j→(L.take i).sum≤(L.take j).sum
 |[],i,j,_=>by simp
 |a::r,0,j,_=>by simp
 |a::r,i+1,0,h=>by omega
 |a::r,i+1,j+1,h=>by
  simp only[LZ,IM];have:=EO r i j (by omega);omega
def EP {L:List Nat}{i:Nat}(h:i<L.length):(L.take (i+1)).sum=(L.take i).sum+L[i]:=by
 rw[Aw h,List.sum_append];simp
def PC (L:List Nat) (i:Nat):(L.take i).sum≤L.sum:=by
 rcases Nat.le_total i L.length with h|h
 ·have:=EO L i L.length h
  rw[X2]at this;exact this
 rw[Av h];omega
def AB (p:A2)(c:Int)(i:Nat):Nat:=if p.Op=1∨p.Op=3 then((p.cQ.map Y2).take i).sum else if p.Op=2 then((p.cQ.map Y2).take c.toNat).sum else 0
mutual
def He (l:List A8):A4→A2→Nat→List (Nat×Nat)
 |⟨r,c,ks⟩,p,o=>if p.Op=0 then[((Cy l r).getD 0,o)]else AC2 l ks p c 0 o
def AC2 (l:List A8):List A4→A2→Int→Nat→Nat→List (Nat×Nat)
 |[],_,_,_,_=>[]
 |k::ks,p,c,i,o=>He l k (K6 p c i) (o+AB p c i)++AC2 l ks p c (i+1) o
end
def Pj (l:List A8)(d:A4)(p:A2)(o:Nat):He l d p o=if p.Op=0 then[((Cy l d.Ref).getD 0,o)]else AC2 l d.Kids p d.Choice 0 o:=by cases d;simp only[He]
def Ac2 {l:List A8}:∀{ks:List A4} {p:A2} {c:Int} {j o:Nat} {x:Nat×Nat},x∈AC2 l ks p c j o↔∃i,∃h:i<ks.length,x∈He l ks[i] (K6 p c (j+i)) (o+AB p c (j+i))
 |[],p,c,j,o,x=>by simp[AC2]
 | k::ks,p,c,j,o,x=>by
  rw[AC2,Dp,Ac2]
  constructor
  ·rintro(h|⟨i,h,hx⟩)
   ·exact⟨0,by simp,h⟩
   exact⟨i+1,by grind,by rw[show j+(i+1)=j+1+i by omega];exact hx⟩
  grind
def FD {l:List A8}{d:A4}{p:A2}{o:Nat}(h0:p.Op≠0){x:Nat×Nat}:x∈He l d p o↔∃i,∃h:i<d.Kids.length,x∈He l d.Kids[i] (K6 p d.Choice i) (o+AB p d.Choice i):=by
 rw[Pj,A0 h0,Ac2]
 simp_all
def HF {d:A4} {p:A2} (h:FV d p=0):(p.Op≠0→d.Ref=⟨0,0,0⟩)∧(p.Op≠2→d.Choice=0):=by
 rw[Ia]at h
 split at h
 ·cases h
 next hf=>
 constructor
 ·intro h0
  have h1:d.Ref.Time=0∧d.Ref.Source=0∧d.Ref.Seq=0:=by
   omega
  obtain⟨⟨a,b,c⟩,_,_⟩:=d
  simp_all
 omega
def Bg0 {p:A2} (hw:FF p) {d:A4} (hs:Su d p) (h0:p.Op≠0) {i:Nat} (hi:i<d.Kids.length):AB p d.Choice i+Y2 (K6 p d.Choice i)≤Y2 p:=by
 have hm:=G9 hw.self hs.n hi hs.c;have ho:=hw.self.op;rw[AO2 h0];unfold AB
 have at_:∀k:Nat,p.cQ[k]? =some (K6 p d.Choice i)→((p.cQ.map Y2).take k).sum+Y2 (K6 p d.Choice i)≤(p.cQ.map Y2).sum:=by
  intro k hk;obtain⟨hk1,hk2⟩:=List.getElem?_eq_some_iff.1 hk;have:=EP (L:=p.cQ.map Y2) (i:=k) (by grind)
  rw[Dq,hk2]at this
  rw[←this];exact PC _ _
 grind
def FB {l:List A8}:∀(n:Nat) (p:A2) (d:A4) (o:Nat),NG d≤n→FV d p=0→FF p→(∀x∈He l d p o,o≤x.2∧x.2<o+Y2 p)∧He l d p o≠[]
 |0,p,d,o,h,_,_=>by rw[V2]at h;omega
 | n+1,p,d,o,h,hsu,hw=>by
  have hdp:=V2 d
  by_cases h0:p.Op=0
  ·rw[Pj,A1 h0];refine⟨fun x hx=>?_,by simp⟩;rw[List.mem_singleton.1 hx]
   have:1≤Y2 p:=by rw[Fx,A1 h0];omega
   omega
  have hS:=Du hsu
  have ih:∀(i:Nat) (hi:i<d.Kids.length),(∀x∈He l d.Kids[i] (K6 p d.Choice i) (o+AB p d.Choice i),o+AB p d.Choice i≤x.2∧x.2<o+AB p d.Choice i+Y2 (K6 p d.Choice i))∧He l d.Kids[i] (K6 p d.Choice i) (o+AB p d.Choice i)≠[]:=by
   intro i hi;have hm:=E4 hi;have h1:=Ak hm;exact FB n _ _ _ (by omega) (hS.k i hi) (hw.arg (G9 hw.self hS.n hi hS.c).1)
  constructor
  ·intro x hx;obtain⟨i,hi,hx⟩:=(FD h0).1 hx;have h1:=(ih i hi).1 x hx;have h2:=Bg0 hw hS h0 hi;omega
  have hpos:=hS.pos hw.self h0;obtain⟨x,hx⟩:=BH _ (ih 0 hpos).2;intro e;have:=(FD (o:=o) (l:=l) h0).2 ⟨0,hpos,hx⟩
  rw[e]at this;cases this
def Kv {l:List A8} {p:A2} {d d':A4} {o:Nat} (hsu:FV d p=0) (hsu':FV d' p=0) (hw:FF p) (h0:p.Op≠0) (h4:p.Op≠4) (hc:∀x∈He l d p o,x∈He l d' p o):
 d.Ref=d'.Ref∧d.Choice=d'.Choice∧d.Kids.length=d'.Kids.length∧∀i (hi:i<d.Kids.length) (hi':i<d'.Kids.length),∀x∈He l d.Kids[i] (K6 p d.Choice i) (o+AB p d.Choice i),x∈He l d'.Kids[i] (K6 p d.Choice i) (o+AB p d.Choice i):=by
 have hS:=Du hsu;have hS':=Du hsu';obtain⟨r1,c1⟩:=HF hsu;obtain⟨r2,c2⟩:=HF hsu';have hpos:=hS.pos hw.self h0
 have rg:∀(i:Nat) (hi:i<d.Kids.length),(∀x∈He l d.Kids[i] (K6 p d.Choice i) (o+AB p d.Choice i),o+AB p d.Choice i≤x.2∧x.2<o+AB p d.Choice i+Y2 (K6 p d.Choice i))∧He l d.Kids[i] (K6 p d.Choice i) (o+AB p d.Choice i)≠[]:=fun i hi=>
  FB (NG d.Kids[i]) _ _ _ (B1 _) (hS.k i hi) (hw.arg (G9 hw.self hS.n hi hS.c).1)
 have rg':∀(i:Nat) (hi:i<d'.Kids.length),(∀x∈He l d'.Kids[i] (K6 p d'.Choice i) (o+AB p d'.Choice i),o+AB p d'.Choice i≤x.2∧x.2<o+AB p d'.Choice i+Y2 (K6 p d'.Choice i))∧He l d'.Kids[i] (K6 p d'.Choice i) (o+AB p d'.Choice i)≠[]:=fun i hi=>
  FB (NG d'.Kids[i]) _ _ _ (B1 _) (hS'.k i hi) (hw.arg (G9 hw.self hS'.n hi hS'.c).1)
 have apart:∀(a b x:Nat) (ha:a<p.cQ.length) (hb:b<p.cQ.length),((p.cQ.map Y2).take a).sum≤x→x<((p.cQ.map Y2).take a).sum+Y2 p.cQ[a]→((p.cQ.map Y2).take b).sum≤x→x<((p.cQ.map Y2).take b).sum+Y2 p.cQ[b]→a=b:=by
  intro a b x ha hb g1 g2 g3 g4;have e1:=EP (L:=p.cQ.map Y2) (i:=a) (by grind);have e2:=EP (L:=p.cQ.map Y2) (i:=b) (by grind)
  rw[Dq]at e1 e2
  rcases El a b with h|h|h
  ·have:=EO (p.cQ.map Y2) (a+1) b h;omega
  ·exact h
  have:=EO (p.cQ.map Y2) (b+1) a h;omega
 have hch:d.Choice=d'.Choice:=by
  by_cases h2:p.Op=2
  ·obtain⟨x,hx⟩:=BH _ (rg 0 hpos).2;obtain⟨j,hj,hx'⟩:=(FD h0).1 (hc x ((FD h0).2 ⟨0,hpos,hx⟩));have g1:=(rg 0 hpos).1 x hx;have g2:=(rg' j hj).1 x hx';have cc:=hS.c h2;have cc':=hS'.c h2;have m1:=(G9 hw.self hS.n hpos hS.c).2.2.1 h2;have m2:=(G9 hw.self hS'.n hj hS'.c).2.2.1 h2;obtain⟨a1,a2⟩:=List.getElem?_eq_some_iff.1 m1;obtain⟨b1,b2⟩:=List.getElem?_eq_some_iff.1 m2
   have o1:AB p d.Choice 0=((p.cQ.map Y2).take d.Choice.toNat).sum:=by grind[AB]
   have o2:AB p d'.Choice j=((p.cQ.map Y2).take d'.Choice.toNat).sum:=by grind[AB]
   rw[o1,←a2]at g1
   rw[o2,←b2]at g2
   have:=apart d.Choice.toNat d'.Choice.toNat (x.2-o) a1 b1 (by omega) (by omega) (by omega) (by omega);omega
  omega
 have hlen:d.Kids.length=d'.Kids.length:=by
  have n1:=hS.n;have n2:=hS'.n
  unfold FM at n1 n2
  rw[A0 h0]at n1 n2
  grind
 refine⟨by rw[r1 h0,r2 h0],hch,hlen,fun i hi hi' x hx=>?_⟩;obtain⟨j,hj,hx'⟩:=(FD h0).1 (hc x ((FD h0).2 ⟨i,hi,hx⟩));have g1:=(rg i hi).1 x hx;have g2:=(rg' j hj).1 x hx'
 have hij:i=j:=by
  by_cases h1:p.Op=1∨p.Op=3
  ·have m1:=(G9 hw.self hS.n hi hS.c).2.1 h1;have m2:=(G9 hw.self hS'.n hj hS'.c).2.1 h1;obtain⟨a1,a2⟩:=List.getElem?_eq_some_iff.1 m1;obtain⟨b1,b2⟩:=List.getElem?_eq_some_iff.1 m2
   have o1:AB p d.Choice i=((p.cQ.map Y2).take i).sum:=by grind[AB]
   have o2:AB p d'.Choice j=((p.cQ.map Y2).take j).sum:=by grind[AB]
   rw[o1,←a2]at g1
   rw[o2,←b2]at g2
   exact apart i j (x.2-o) a1 b1 (by omega) (by omega) (by omega) (by omega)
  have:=hS.one h0 h1 h4;omega
 grind
def XI {l:List A8}:∀(n:Nat) (p:A2) (d d':A4) (o:Nat),NG d≤n→FV d p=0→FV d' p=0→FF p→BM p→Fnd l d p→Fnd l d' p→(∀x∈He l d p o,x∈He l d' p o)→d=d'
 |0,p,d,d',o,h,_,_,_,_,_,_,_=>by rw[V2]at h;omega
 | n+1,p,d,d',o,h,hsu,hsu',hw,hnp,hf,hf',hc=>by
  have hdp:=V2 d;have hS:=Du hsu;have hS':=Du hsu';obtain⟨r1,c1⟩:=HF hsu;obtain⟨r2,c2⟩:=HF hsu'
  have ext:d.Ref=d'.Ref→d.Choice=d'.Choice→d.Kids=d'.Kids→d=d':=by
   intro a b c;cases d;cases d'
   simp_all
  by_cases h0:p.Op=0
  ·have k1:d.Kids=[]:=by
    have:=hS.n;unfold FM at this;rw[A1 h0]at this
    simp_all
   have k2:d'.Kids=[]:=by
    have:=hS'.n;unfold FM at this;rw[A1 h0]at this
    simp_all
   refine ext ?_ (by rw[c1 (by omega),c2 (by omega)]) (by rw[k1,k2]);have e1:=hf ⟨p.Var,d.Ref⟩ (by rw[Pl,A1 h0];simp);have e2:=hf' ⟨p.Var,d'.Ref⟩ (by rw[Pl,A1 h0];simp);obtain⟨i,hi⟩:=Option.isSome_iff_exists.1 e1;obtain⟨j,hj⟩:=Option.isSome_iff_exists.1 e2
   simp only at hi hj
   rw[Pj,A1 h0,Pj,A1 h0,hi,hj]at hc
   have:=hc (i,o) (by simp)
   rw[Cq,GD]at this
   obtain⟨hij,_⟩:=this
   simp only[U2]at hij
   subst hij;obtain⟨_,q1⟩:=DM hi;obtain⟨_,q2⟩:=DM hj;have q:=q1.symm.trans q2
   unfold N9 at q
   simp only[U1,O3]at q
   obtain⟨a,b,c⟩:=q;cases hd:d.Ref;simp_all
  have h4:p.Op≠4:=hnp p (GW p);obtain⟨e1,e2,e3,e4⟩:=Kv hsu hsu' hw h0 h4 hc;refine ext e1 e2 (GG e3 fun i hi hi'=>?_);have hma:=(G9 hw.self hS.n hi hS.c).1;have hm:=E4 hi;have h1:=Ak hm;exact XI n (K6 p d.Choice i) _ _ (o+AB p d.Choice i) (by omega) (hS.k i hi) (by rw[e2];exact hS'.k i hi') (hw.arg hma) (hnp.arg hma) (hf.kid h0 hi) (by rw[e2];exact hf'.kid h0 hi') (e4 i hi hi')
def WJ {l:List A8}(hl:l.length≤4096)(hchk:Al l=0){p:A2}{d:A4}{b:List PR}{f:Int}{s:List PR}(hs:Fa d≤4096)(hw:FF p)(hpp:p.pre.length≤64)(hsu:FV d p=0)(ho:Lk l b f)(h:Lr l d p b f=some s):Hj l f s:=by
 obtain⟨r,_,h2,h3⟩:=SU (N:=40000000) (B1 _) hl hchk 0 (NG d) p d (b.map O2) f (B1 _) hs hw hpp hsu (by rw[I3];exact ho)
 rw[I3,h]at h2
 unfold okd at h2
 simp_all
def Tr (l:List A8)(d:A4)(p:A2)(s:List PR):Prop:=Fa d≤4096∧FV d p=0∧∃b f,Lk l b f∧Lr l d p b f=some s
def Vr {l:List A8} (hl:l.length≤4096) (hchk:Al l=0) {p:A2} {c:Int} {b:List PR} {f:Int} (ho:Lk l b f):
 ∀(ks:List A4) (j:Nat) (s0 s:List PR),(∀k∈ks,Fa k≤4096)→(∀i (h:i<ks.length),FV ks[i] (K6 p c (j+i))=0∧FF (K6 p c (j+i))∧(K6 p c (j+i)).pre.length≤64)→(s0=[]∨Hj l f s0)→Cs l ks p c j b f s0=some s→
 ∃X:Nat→List PR,(∀i (h:i<ks.length),Tr l ks[i] (K6 p c (j+i)) (X i))∧(∀i,i<ks.length→∀y∈X i,y∈s)∧(∀y∈s0,y∈s)∧(Cz p→∀i,i<ks.length→∀y∈s0,∀z∈X i,y.At<z.At)∧(Cz p→∀i i',i<i'→i'<ks.length→∀y∈X i,∀z∈X i',y.At<z.At)∧(∀i,i<ks.length→∀y∈s0,∀z∈X i,y.At≠z.At)∧(∀i i',i<i'→i'<ks.length→∀y∈X i,∀z∈X i',y.At≠z.At)
 |[],j,s0,s,_,_,_,h=>by
  rw[Cs]at h
  simp_all
 | k::ks,j,s0,s,hz,hk,h0,h=>by
  rw[Y0]at h
  obtain⟨t,h1,h2⟩:=Option.bind_eq_some_iff.1 h
  unfold Ve at h1
  obtain⟨x,g1,g2⟩:=Option.bind_eq_some_iff.1 h1;have hk0:=hk 0 (by simp)
  simp only[Ri,AT]at hk0
  have hon:=PM (p:=p) ho h0;have hx:=WJ hl hchk (hz k (by simp)) hk0.2.1 hk0.2.2 hk0.1 hon g1
  split at g2
  ·cases g2
  next hm=>
  rw[As]at hm
  cases g2;have hres:=PG h0 hx hm
  obtain⟨X,q1,q2,q3,q4,q5,q6,q7⟩:=Vr hl hchk ho ks (j+1) (mrg s0 x) s (fun k' hk'=>hz k' (by simp[hk'])) (fun i hi=>by
   have:=hk (i+1) (by grind)
   grind) (.inr hres) h2
  have lo:Cz p→∀y∈s0,∀z∈x,y.At<z.At:=by
   intro hc y hy z hz'
   have hsn:s0≠[]:=fun e=>by rw[e]at hy;cases hy
   have hr:=h0.resolve_left hsn;have:=IB hr.gd.asc y hy;have h9:=hx.ge z hz'
   unfold Bi at h9
   rw[A1 ⟨hc,hsn⟩]at h9
   omega
  refine⟨fun i=>match i with|0=>x|i+1=>X i,?_,?_,?_,?_,?_,?_,?_⟩
  ·intro i hi
   cases i with
   |zero=>exact⟨hz k (by simp),hk0.1,_,_,hon,g1⟩
   |succ i=>
    have:=q1 i (by grind)
    rw[show j+1+i=j+(i+1) by omega]at this
    exact this
  ·intro i hi y hy
   cases i with
   |zero=>exact q3 y (M5.2 (.inr hy))
   |succ i=>grind
  ·intro y hy;exact q3 y (M5.2 (.inl hy))
  ·intro hc i hi y hy z hz'
   cases i with
   |zero=>simp_all
   |succ i=>exact q4 hc i (by grind) y (M5.2 (.inl hy)) z hz'
  ·intro hc i i' hii hi' y hy z hz'
   cases i' with
   |zero=>omega
   |succ i'=>
    cases i with
    |zero=>exact q4 hc i' (by grind) y (M5.2 (.inr hy)) z hz'
    |succ i=>grind
  ·intro i hi y hy z hz'
   cases i with
   |zero=>exact U8.1 hm y hy z hz'
   |succ i=>exact q6 i (by grind) y (M5.2 (.inl hy)) z hz'
  intro i i' hii hi' y hy z hz'
  cases i' with
  |zero=>omega
  |succ i'=>
   cases i with
   |zero=>exact q6 i' (by grind) y (M5.2 (.inr hy)) z hz'
   |succ i=>grind
def Tr.kids {l:List A8} (hl:l.length≤4096) (hchk:Al l=0) {d:A4} {p:A2} {s:List PR} (hw:FF p) (hpp:p.pre.length≤64) (h0:p.Op≠0) (h:Tr l d p s):
 ∃X:Nat→List PR,(∀i (h:i<d.Kids.length),Tr l d.Kids[i] (K6 p d.Choice i) (X i))∧(∀i,i<d.Kids.length→∀y∈X i,y∈s)∧(Cz p→∀i i',i<i'→i'<d.Kids.length→∀y∈X i,∀z∈X i',y.At<z.At)∧(∀i i',i<i'→i'<d.Kids.length→∀y∈X i,∀z∈X i',y.At≠z.At):=by
 obtain⟨hz,hsu,b,f,ho,hv⟩:=h;have hS:=Du hsu;have hsz:=Fd d
 rw[HZ,A0 h0]at hv
 obtain⟨t,h1,h2⟩:=Option.bind_eq_some_iff.1 hv
 split at h2
 ·cases h2
 cases h2
 obtain⟨X,q1,q2,_,_,q5,_,q7⟩:=Vr hl hchk ho d.Kids 0 [] s (fun k hk=>by have:=Dt hk;omega) (fun i hi=>by
  have hma:=(G9 hw.self hS.n hi hS.c).1;have:=K7 hma;rw[J7]
  exact⟨hS.k i hi,hw.arg hma,by omega⟩) (.inl rfl) h1
 exact⟨X,fun i hi=>by have:=q1 i hi;rwa[J7]at this,q2,q5,q7⟩
def FP {l:List A8} (hl:l.length≤4096) (hchk:Al l=0):∀(n:Nat) (p:A2) (d:A4) (o:Nat) (s:List PR),NG d≤n→FF p→p.pre.length≤64→Tr l d p s→(∀x∈He l d p o,∃y∈s,y.At=(x.1:Int))∧Fnd l d p
 |0,p,d,o,s,h,_,_,_=>by rw[V2]at h;omega
 | n +1,p,d,o,s,h,hw,hpp,ht=>by
  have hdp:=V2 d
  by_cases h0:p.Op=0
  ·obtain⟨hz,hsu,b,f,ho,hv⟩:=ht
   rw[HZ,A1 h0]at hv
   cases hp:Cy l d.Ref with
   |none=>rw[hp]at hv;cases hv
   | some i=>
    rw[hp]at hv
    dsimp only at hv
    split at hv
    ·cases hv;refine⟨fun x hx=>?_,fun y hy=>?_⟩
     ·rw[Pj,A1 h0,hp,Cq]at hx
      simp_all
     rw[Pl,A1 h0,Cq]at hy
     simp_all
    cases hv
  obtain⟨X,q1,q2,_⟩:=ht.kids hl hchk hw hpp h0;have hS:=Du ht.2.1
  have ih:∀(i:Nat) (hi:i<d.Kids.length),(∀x∈He l d.Kids[i] (K6 p d.Choice i) (o+AB p d.Choice i),∃y∈X i,y.At=(x.1:Int))∧Fnd l d.Kids[i] (K6 p d.Choice i):=by
   intro i hi;have hm:=E4 hi;have hma:=(G9 hw.self hS.n hi hS.c).1;have h1:=Ak hm;have:=K7 hma;exact FP hl hchk n _ _ _ (X i) (by omega) (hw.arg hma) (by omega) (q1 i hi)
  constructor
  ·intro x hx;obtain⟨i,hi,hx⟩:=(FD h0).1 hx
   grind
  have bm:∀(ks:List A4) (c:Int) (j:Nat) (y:C1),y∈Hf ks p c j→∃i,∃h:i<ks.length,y∈Oh ks[i] (K6 p c (j+i)):=by
   intro ks
   induction ks with
   |nil=>simp[Hf]
   |cons k ks ih2=>
    intro c j y hy
    rw[Hf,Dp]at hy
    rcases hy with hy|hy
    ·exact⟨0,by simp,hy⟩
    obtain⟨i,hi,h9⟩:=ih2 c (j+1) y hy;exact⟨i+1,by grind,by rw[show j+(i+1)=j+1+i by omega];exact h9⟩
  intro y hy
  rw[Pl,A0 h0]at hy
  obtain⟨i,hi,h9⟩:=bm _ _ _ y hy
  rw[J7]at h9
  exact(ih i hi).2 y h9
def VH {C:A4→List (Nat×Nat)}:∀(ks ks':List A4),(∀k∈ks,C k≠[])→(∀k∈ks',C k≠[])→
 (∀k∈ks,∀k'∈ks',(∀x∈C k,x∈C k')→k=k')→(∀k'∈ks',∀k∈ks,(∀x∈C k',x∈C k)→k'=k)→
 ks.Pairwise (fun k k'=>∀x∈C k,∀y∈C k',x.1<y.1)→ks'.Pairwise (fun k k'=>∀x∈C k,∀y∈C k',x.1<y.1)→
 (∀x,(∃k∈ks,x∈C k)↔∃k∈ks',x∈C k)→ks=ks'
 |[],[],_,_,_,_,_,_,_=>rfl
 |[],k'::ks',_,n2,_,_,_,_,he=>by
  obtain⟨x,hx⟩:=BH _ (n2 k' (by simp))
  simp_all
 |k::ks,[],n1,_,_,_,_,_,he=>by
  obtain⟨x,hx⟩:=BH _ (n1 k (by simp))
  simp_all
 | k::ks,k'::ks',n1,n2,i1,i2,p1,p2,he=>by
  rw[Ew]at p1 p2
  have hkk:k=k':=by
   rcases Classical.em (∀x∈C k,x∈C k')with h|h
   ·grind
   rcases Classical.em (∀x∈C k',x∈C k)with h'|h'
   ·grind
   obtain⟨x,hx⟩:=Classical.not_forall.1 h;obtain⟨hx1,hx2⟩:=Classical.not_imp.1 hx;obtain⟨y,hy⟩:=Classical.not_forall.1 h';obtain⟨hy1,hy2⟩:=Classical.not_imp.1 hy;obtain⟨a,ha,hax⟩:=(he x).1 ⟨k,by simp,hx1⟩;obtain⟨b,hb,hby⟩:=(he y).2 ⟨k',by simp,hy1⟩
   grind
  subst hkk;refine I4 _ (VH ks ks' (fun a ha=>n1 a (by simp[ha])) (fun a ha=>n2 a (by simp[ha])) (fun a ha b hb=>i1 a (by simp[ha]) b (by simp[hb])) (fun a ha b hb=>i2 a (by simp[ha]) b (by simp[hb])) p1.2 p2.2 fun x=>?_)
  constructor
  ·rintro⟨a,ha,hx⟩;obtain⟨b,hb,hx'⟩:=(he x).1 ⟨a,by simp[ha],hx⟩
   grind
  rintro⟨a,ha,hx⟩;obtain⟨b,hb,hx'⟩:=(he x).2 ⟨a,by simp[ha],hx⟩
  grind
end
end Go.Ab
