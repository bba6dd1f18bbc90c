/- . -/
import Derived.Test.YtjhobbohibnioaaGreatDoorF17
set_option linter.all false
open Go.Ab.Ar (an ar cmp nt scmp)
namespace Go.Ab
def cnt:List (Bool×Bool×A1)→Int→Int→Bool
 |[],_,_=>true
 |y::l,v,s=>(if y.1=true then decide (y.2.2.Var=v)else true)&&(if y.2.1=true then decide (y.2.2.cP=s)else true)&&cnt l (if y.1=true then v+1 else v) (if y.2.1=true then s+1 else s)
noncomputable def IT (y:A1):Bool:=match C3 M7 y.Op with|some s=>s.cO|none=>false
noncomputable def IV (y:A1):Bool:=match C3 M7 y.Op with|some s=>s.scope|none=>false
noncomputable def Zt (l:List A1):Bool:=cnt (l.map fun y=>(IT y,IV y,y)) 0 0
def Ah3 (N:Nat)(y:A1):Prop:=∃s ng,PU N y s ng
theorem TA {N:Nat}(hN:40000000≤N){x:A1}(hb:x.bulk≤16777216)(hz:Y0 N x=0):∀y∈x.pre,Ah3 N y:=fun y hy=>by
 obtain⟨hp,hd,hg⟩:=MS hz;have h1:=Ji x y hy;have h2:=V2 y;obtain⟨_,s,ng,h,_⟩:=SZ hN (by omega) (by omega) (hg y hy)
 grind[Ah3]
theorem Z6 {a b:Int}(h:a<b):cmp .lss a b=true:=by rw[D4];simp_all
theorem N4 {a b:Int}(h:¬a<b):¬(cmp .lss a b=true):=by rw[D4];grind
noncomputable def TN (s7:Bool×Int×Int)(y6:A1):Option ((Bool×Int×Int)⊕Unit):=
 (C3 M7 y6.Op).bind fun x11=>((if x11.cO=true then some (an s7.1 (cmp .eql y6.Var s7.2.2),ar .add .i64 s7.2.2 1)else some (s7.1,s7.2.2)):Option (Bool×Int)).bind fun s12=>if x11.scope=true then some (.inl (an s12.1 (cmp .eql y6.cP s7.2.1),ar .add .i64 s7.2.1 1,s12.2))else some (.inl (s12.1,s7.2.1,s12.2))
theorem Vv {N:Nat}:∀(l:List A1),(∀y∈l,Ah3 N y)→∀(b:Bool) (v s:Int),0≤v→0≤s→v+l.length≤1000000→s+l.length≤1000000→
 ∃v' s',K7 TN l (b,s,v)=some (.inl (b&&cnt (l.map fun y=>(IT y,IV y,y)) v s,s',v'))
 |[],_,b,v,s,_,_,_,_=>⟨v,s,by simp[K7,cnt]⟩
 | y::l,h,b,v,s,hv,hs,hv2,hs2=>by
  simp only[H7]at hv2 hs2
  obtain⟨sh,ng,ok⟩:=h y (by simp)
  have et:IT y=sh.cO:=by unfold IT;rw[ok.tab]
  have es:IV y=sh.scope:=by unfold IV;rw[ok.tab]
  have ev:ar .add .i64 v 1=v+1:=D3 (by omega) (by omega);have ess:ar .add .i64 s 1=s+1:=D3 (by omega) (by omega);have hr:=fun b v' s' h1 h2 h3 h4=>Vv l (fun z hz=>h z (by simp[hz])) b v' s' h1 h2 h3 h4;simp only[D5,cnt,et,es]
  have step:∀b' v2 s2,TN (b,s,v) y=some (.inl (b',s2,v2))→K7 TN (y::l) (b,s,v)=K7 TN l (b',s2,v2):=fun b' v2 s2 h=>by grind[K7]
  have hst:∀b' v2 s2,(some (.inl (b',s2,v2)):Option ((Bool×Int×Int)⊕Unit))=(((if sh.cO=true then some (an b (cmp .eql y.Var v),ar .add .i64 v 1)else some (b,v)):Option (Bool×Int)).bind fun s12=>if sh.scope=true then some (.inl (an s12.1 (cmp .eql y.cP s),ar .add .i64 s 1,s12.2))else some (.inl (s12.1,s,s12.2)))→K7 TN (y::l) (b,s,v)=K7 TN l (b',s2,v2):=fun b' v2 s2 h=>step b' v2 s2 (by rw[h];unfold TN;rw[ok.tab];rfl);cases ht:sh.cO<;>cases hc:sh.scope
  ·obtain⟨v',s',h1⟩:=hr b v s hv hs (by omega) (by omega)
   simp_all
  ·obtain⟨v',s',h1⟩:=hr (b&&decide (y.cP=s)) v (s+1) hv (by omega) (by omega) (by omega);exact⟨v',s',by rw[hst (b&&decide (y.cP=s)) v (s+1) (by simp[ht,hc,ess,D8,L3])];grind⟩
  ·obtain⟨v',s',h1⟩:=hr (b&&decide (y.Var=v)) (v+1) s (by omega) hs (by omega) (by omega);exact⟨v',s',by rw[hst (b&&decide (y.Var=v)) (v+1) s (by rw[ht,hc,ev,D8,L3];rfl)];grind⟩
  obtain⟨v',s',h1⟩:=hr (b&&decide (y.Var=v)&&decide (y.cP=s)) (v+1) (s+1) (by omega) (by omega) (by omega) (by omega);exact⟨v',s',by rw[hst (b&&decide (y.Var=v)&&decide (y.cP=s)) (v+1) (s+1) (by rw[ht,hc,ev,ess,D8,D8,L3];rfl)];grind⟩
theorem As3 {N:Nat}(hN:40000000≤N){x:A1}(hb:x.bulk≤16777216)(hz:Y0 N x=0):∃v s,FW N x=some (v,s,Zt x.pre):=by
 obtain⟨hp,hd,hg⟩:=MS hz;obtain⟨v,s,h⟩:=Vv (N:=N) x.pre (TA hN hb hz) true 0 0 (by omega) (by omega) (by omega) (by omega);unfold FW;rw[Mi hN hb];simp only[A4];refine⟨v,s,AS7 h ?_⟩;simp[Zt]
noncomputable def Ag4 (N:Nat)(x:A1):Int:=if Y0 N x≠0 then Y0 N x else if x.pre.any (fun y=>cmp .geq y.Op 8)=true then 1 else if Zt x.pre=true then 0 else 14
theorem As4 {N:Nat} (hN:40000000≤N) {x:A1} (hb:x.bulk≤16777216):Cc N x=some (Ag4 N x):=by
 unfold Cc Ag4;rw[Ay3 hN hb];simp only[A4]
 by_cases h:Y0 N x=0
 ·rw[A0 (show¬(Y0 N x≠0) by omega),A0 (show¬(Y0 N x≠0) by omega)]
  by_cases h2:x.pre.any (fun y=>cmp .geq y.Op 8)=true
  ·rw[A2 h2,A2 h2,A2 (K9 (by omega))]
  rw[A0 h2,A0 h2,A0 (K8 rfl)];obtain⟨v,s,hr⟩:=As3 hN hb h;rw[hr];simp only[A4];cases Zt x.pre<;>simp[R8]
 rw[A2 h,A2 (K9 h),A2 h]
theorem As1 {N:Nat}(l:List A1)(hl:l.length<N)(hs:l.length≤1000000):Hi N l=some (!(l.any fun y=>cmp .geq y.Op 8)):=by
 unfold Hi;rw[L5 l (by omega) (mk:=fun(_:Unit) i=>i) (body:=fun(_:Unit) a=>if cmp .geq a.Op 8=true then some (.inr (.inr ()))else some (.inl ())) (fin:=fun _=>.inl ()) (s:=()) (by omega) ?_ ?_]
 ·rw[Oh (fun y:A1=>cmp .geq y.Op 8) (Sum.inr ():Unit⊕Unit) l];cases h:l.any fun y=>cmp .geq y.Op 8<;>simp
 ·intro s i a ha hi;have e:ar .add .i64 (i:Int) 1=i+1:=D3 (by omega) (by omega);simp only[D4,B4,hi,G9,D1,F6,ha,A4,e];cases cmp .geq a.Op 8<;>rfl
 intro s;simp[D4,B4]
theorem Ar9 {N:Nat} (hN:40000000≤N) {x:A1} (hb:x.bulk≤16777216):Ja N x=some (Ag4 N x):=by
 unfold Ja Ag4;rw[AB3 hN hb];simp only[A4]
 by_cases h:Y0 N x=0
 ·rw [A0 (show¬(Y0 N x≠0) by omega),A0 (K8 h),SY hN N x (by omega) hb];have hpb:=Fy x;obtain⟨hp,hd,hg⟩:=MS h;simp only[A4];rw[As1 x.pre (by omega) (by omega)];simp only[A4]
  by_cases h2:x.pre.any (fun y=>cmp .geq y.Op 8)=true
  ·rw[A2 h2,h2,A2 (show nt (!true)=true from rfl)]
  rw[A0 h2,A0 (by simp[R8,h2])];have hk:=TA hN hb h
  obtain ⟨r,k1,k2⟩:=To (S:=Int×Int×Int) (R:=Unit⊕Unit) (step:=fun(s4:Int×Int×Int)=>((if cmp .lss s4.2.2 (Ar.len x.pre)=true then(C3 x.pre s4.2.2).bind fun x6=>(Bx N x6).bind fun r7=>((if r7=true then(C3 x.pre s4.2.2).bind fun x9=>if cmp .neq x9.Var s4.1=true then some (.inr ())else some (.inl (ar .add .i64 s4.1 1))else some (.inl s4.1)):Option (Int⊕Unit)).bind fun s8=>match s8 with
          | .inl y10=>(C3 x.pre s4.2.2).bind fun x11=>(Cb N x11).bind fun r12=>if r12=true then(C3 x.pre s4.2.2).bind fun x13=>if cmp .neq x13.cP s4.2.1=true then some (.inr (.inr ()))else some (.inl (y10,ar .add .i64 s4.2.1 1,ar .add .i64 s4.2.2 1))else(C3 x.pre s4.2.2).bind fun x14=>(AV N x14).bind fun r15=>if r15=true then(C3 x.pre s4.2.2).bind fun x16=>if cmp .neq x16.cP s4.2.1=true then some (.inr (.inr ()))else some (.inl (y10,ar .add .i64 s4.2.1 1,ar .add .i64 s4.2.2 1))else some (.inl (y10,s4.2.1,ar .add .i64 s4.2.2 1))
          | .inr y17=>some (.inr (.inr ()))
   else some (.inr (.inl ())))
   :Option ((Int×Int×Int)⊕(Unit⊕Unit))))
   (fun j s=>s.2.2=(j:Int)∧0≤s.1∧s.1≤j∧0≤s.2.1∧s.2.1≤j∧Zt x.pre=cnt ((x.pre.drop j).map fun y=>(IT y,IV y,y)) s.1 s.2.1)
   (fun r=>r=if Zt x.pre=true then .inl ()else .inr ()) x.pre.length 0 (0,0,0) N (by omega) ⟨rfl,by simp,by simp,by simp,by simp,rfl⟩
   (fun j s _ hj ⟨e,b1,b2,b3,b4,hc⟩=>by
    obtain⟨v,sc,i⟩:=s
    simp only at e b1 b2 b3 b4 hc
    subst e
    simp only[K1]at hj
    have e1:C3 x.pre (j:Int)=some x.pre[j]:=by rw[F6,E0 hj]
    obtain⟨sh,ng,ok⟩:=hk _ (G3 hj)
    have et:IT x.pre[j]=sh.cO:=by unfold IT;rw[ok.tab]
    have es:IV x.pre[j]=sh.scope:=by unfold IV;rw[ok.tab]
    have ev:ar .add .i64 v 1=v+1:=D3 (by omega) (by omega);have ess:ar .add .i64 sc 1=sc+1:=D3 (by omega) (by omega);have ei:ar .add .i64 (j:Int) 1=((j+1:Nat):Int):=Am6 (by omega)
    rw[R7 hj,D5,cnt]at hc
    simp only[et,es]at hc
    have sco:=ok.sco;rw[A2 (Z6 (by simp only[B4];omega))];simp only[e1,A4,ok.var,ok.neg,ok.tim,ev,ess,ei]
    by_cases hv:sh.cO=true∧x.pre[j].Var≠v
    ·rw[A2 hv.1,A2 (K9 hv.2)]
     simp_all
    have hv1:((if sh.cO=true then if cmp .neq x.pre[j].Var v=true then some (.inr ())else some (.inl (v+1))else some (.inl v)):Option (Int⊕Unit))=some (.inl (if sh.cO=true then v+1 else v)):=by
     by_cases ht:sh.cO=true
     ·rw[A2 ht,A2 ht,A0 (K8 (Classical.not_not.1 fun e=>hv ⟨ht,e⟩))]
     simp_all
    rw[hv1];simp only[A4]
    have hcv:(if sh.cO=true then decide (x.pre[j].Var=v)else true)=true:=by
     simp_all
    rw[hcv,Es]at hc
    have hvb:0≤(if sh.cO=true then v+1 else v)∧(if sh.cO=true then v+1 else v)≤((j+1:Nat):Int):=by split<;>omega
    generalize (if sh.cO=true then v+1 else v)=v' at hc hvb ⊢
    by_cases hs:sh.scope=true
    ·rw[A2 hs,A2 hs]at hc
     by_cases hsc:x.pre[j].cP=sc
     ·have hgo:0≤sc+1∧sc+1≤((j+1:Nat):Int)∧Zt x.pre=cnt ((x.pre.drop (j+1)).map fun y=>(IT y,IV y,y)) v' (sc+1):=by
       grind
      by_cases hng:ng=true
      ·rw[A2 hng,A0 (K8 hsc)];simp_all
      have hsp:sh.span=true:=by rw[hs]at sco;simp_all
      rw[A0 hng,A2 hsp,A0 (K8 hsc)];simp_all
     have hno:Zt x.pre=false:=by rw[hc,CC hsc,Bool.false_and]
     by_cases hng:ng=true
     ·rw[A2 hng,A2 (K9 hsc)]
      simp_all
     have hsp:sh.span=true:=by rw[hs]at sco;simp_all
     rw[A0 hng,A2 hsp,A2 (K9 hsc)]
     simp_all
    rw[A0 hs,A0 hs,Es]at hc
    have hs0:sh.scope=false:=by grind
    rw[hs0]at sco
    have hng:¬ng=true:=fun e=>by rw[e]at sco;cases sco
    have hsp:¬sh.span=true:=fun e=>by rw[e]at sco;simp at sco
    rw[A0 hng,A0 hsp]
    grind)
   (fun s ⟨e,_,_,_,_,hc⟩=>by
    obtain⟨v,sc,i⟩:=s
    simp only[K1]at e hc
    subst e
    rw[List.drop_length]at hc
    rw[A0 (N4 (by simp only[B4];omega))];refine⟨_,rfl,?_⟩
    rw[hc];rfl)
  grind
 rw[A2 h,A2 (K9 h)]
theorem TH:∀{l:List B6} {a:B6},a∈l→a.dep≤B6.deps l
 |b::l,a,h=>by
  simp only[B6.deps]
  rcases List.mem_cons.1 h with rfl|h
  ·omega
  exact N5 (TH h) (Nat.le_max_right _ _)
theorem Qy:∀{l:List B6} {a y:B6},a∈l→y∈a.pre→y∈B6.pres l
 |b::l,a,y,h,hy=>by
  simp only[B6.pres,CU]
  rcases List.mem_cons.1 h with rfl|h
  ·grind
  exact .inr (Qy h hy)
theorem Oj {α R:Type} {body:Unit→α→Option (Unit⊕R)} {p:α→Bool} {r:R}:∀{l:List α},(∀x∈l,body () x=some (if p x=true then .inl ()else .inr r))→K7 body l ()=some (if l.all p=true then .inl ()else .inr r)
 |[],_=>rfl
 | x::l,h=>by
  unfold K7;rw[h x (by simp),Lk]
  by_cases hx:p x=true
  ·rw[A2 hx,hx]
   dsimp only
   rw[Oj fun y hy=>h y (by simp[hy])];rfl
  simp_all
theorem AW6 {x:B6} (h:Bq x=0):(x.Op=1∨x.Op=4→0≤x.Field∧x.Field<8)∧(1≤x.Op∧x.Op≤4→0≤x.Var∧x.Var<16):=by
 have h3:Yl x=false:=by
  grind[Bq]
 unfold Yl at h3
 simp only[P5,L3,D4,R4,Bool.or_eq_false_iff,QJ,Fu]at h3
 grind[Ay5,Ay6]
end Go.Ab
namespace Go.Ab
noncomputable section
def AO:B1:=⟨0,0,⟨#[]⟩⟩
def S2 (k:Int)(v:B1):Int:=if N8 v≠0 then N8 v else if v.Kind=0∨(k≠1∧k≠2∧k≠3)then 0 else 9
def NO (k:Int)(a b:B1):B1:=
 if k=1 then⟨0,ar .add .i64 a.Num b.Num,⟨#[]⟩⟩else if k=2 then⟨0,Ar.mn a.Num b.Num,⟨#[]⟩⟩else if k=3 then⟨0,Ar.mx a.Num b.Num,⟨#[]⟩⟩else if k=4 then a else if k=5 then b else AO
def DG (k:Int)(v:B1):B1:=if k=0 then AO else v
def BB (k:Int):List B1→B1
 |[]=>AO
 |v::l=>l.foldl (fun a b=>NO k a (DG k b)) (DG k v)
def AJ7 (k:Int)(l:List B1)(o:B1):B1×Int:=
 if k<0∨5<k then(AO,1)else if 4096<l.length then(AO,5)else if Az (S2 k) l≠0 then(AO,Az (S2 k) l)else if S2 k o≠0 then(AO,S2 k o)
 else if k=0 then(⟨0,l.length,⟨#[]⟩⟩,0)else if l=[]∧k≠1 then(o,0)else(BB k l,0)
theorem Sv (N:Nat)(k:Int)(v:B1):AR N k v=some (decide (v.Kind=0∨(k≠1∧k≠2∧k≠3))):=by
 unfold AR;simp only[P5,L3,D8,N0,F3]
 by_cases h0:v.Kind=0<;>by_cases h1:k=1<;>by_cases h2:k=2<;>by_cases h3:k=3<;>simp[h0,h1,h2,h3]
theorem Xh (N:Nat) (k:Int) (v:B1):Ah N k v=some (S2 k v):=by
 unfold Ah S2;rw[OY,Sv];simp only[A4]
 by_cases h:N8 v=0
 ·rw[A0 (K8 h),A0 (show¬N8 v≠0 by omega)]
  by_cases h2:v.Kind=0∨(k≠1∧k≠2∧k≠3)
  ·rw[A0 (by rw[R8,J1 h2];decide),A2 h2]
  rw[A2 (by rw[R8,CC h2];rfl),A0 h2]
 rw[A2 (K9 h),A2 h]
theorem Xg {k:Int}{v:B1}(h:S2 k v=0):N8 v=0∧(v.Kind=0∨(k≠1∧k≠2∧k≠3)):=by
 grind[S2]
theorem OZ {v:B1}(h:N8 v=0)(hk:v.Kind=0):v.Text=⟨#[]⟩∧ -1099511627776≤v.Num∧v.Num≤1099511627776:=by
 grind[N8]
theorem Ak1 {n:Int}(h0: -1099511627776≤n)(h1:n≤1099511627776):N8 ⟨0,n,⟨#[]⟩⟩=0:=by
 simp_all[N8]
structure Ap1 (k:Int) (n:Nat) (v:B1):Prop where
 c:k=0→v=AO
 s:k=1→v.Kind=0∧v.Text=⟨#[]⟩∧ -(1099511627776*(n:Int))≤v.Num∧v.Num≤1099511627776*(n:Int)
 m:k=2∨k=3→N8 v=0∧v.Kind=0
 f:k=4∨k=5→N8 v=0
theorem AG4 {k:Int}{v:B1}(h:S2 k v=0):Ap1 k 1 (DG k v):=by
 obtain⟨h1,h2⟩:=Xg h;unfold DG
 by_cases k0:k=0
 ·rw[A2 k0];exact⟨fun _=>rfl,by omega,by omega,by omega⟩
 rw[A0 k0];refine⟨by omega,fun e=>?_,fun e=>⟨h1,by omega⟩,fun _=>h1⟩
 have hk:v.Kind=0:=by omega
 grind[N8]
theorem Au6 {k:Int} {n:Nat} {a v:B1} (ha:Ap1 k n a) (hn:n≤4096) (h:S2 k v=0):Ap1 k (n+1) (NO k a (DG k v)):=by
 obtain⟨h1,h2⟩:=Xg h;unfold NO
 by_cases k1:k=1
 ·rw[A2 k1]
  have hk:v.Kind=0:=by omega
  obtain⟨_,b,c⟩:=OZ h1 hk;obtain⟨_,_,d,e⟩:=ha.s k1;have e1:DG k v=v:=A0 (by omega);rw[e1];have e2:ar .add .i64 a.Num v.Num=a.Num+v.Num:=D3 (by omega) (by omega);rw[e2];exact⟨by omega,fun _=>⟨rfl,rfl,by grind,by grind⟩,by omega,by omega⟩
 rw[A0 k1]
 by_cases k2:k=2
 ·rw[A2 k2]
  have hk:v.Kind=0:=by omega
  obtain⟨_,b,c⟩:=OZ h1 hk;obtain⟨d,e⟩:=ha.m (.inl k2);obtain⟨_,d1,d2⟩:=OZ d e;have e1:DG k v=v:=A0 (by omega);rw[e1];refine⟨by omega,by omega,fun _=>⟨?_,rfl⟩,by omega⟩
  show N8 ⟨0,if v.Num<a.Num then v.Num else a.Num,⟨#[]⟩⟩=0
  split<;>exact Ak1 (by omega) (by omega)
 rw[A0 k2]
 by_cases k3:k=3
 ·rw[A2 k3]
  have hk:v.Kind=0:=by omega
  obtain⟨_,b,c⟩:=OZ h1 hk;obtain⟨d,e⟩:=ha.m (.inr k3);obtain⟨_,d1,d2⟩:=OZ d e;have e1:DG k v=v:=A0 (by omega);rw[e1];refine⟨by omega,by omega,fun _=>⟨?_,rfl⟩,by omega⟩
  show N8 ⟨0,if a.Num<v.Num then v.Num else a.Num,⟨#[]⟩⟩=0
  split<;>exact Ak1 (by omega) (by omega)
 rw[A0 k3]
 by_cases k4:k=4
 ·rw[A2 k4];exact⟨by omega,by omega,by omega,fun _=>ha.f (.inl k4)⟩
 rw[A0 k4]
 by_cases k5:k=5
 ·rw[A2 k5];have e1:DG k v=v:=A0 (by omega);rw[e1];exact⟨by omega,by omega,by omega,fun _=>h1⟩
 rw[A0 k5];exact⟨fun _=>rfl,by omega,by omega,by omega⟩
theorem Ag3 {N:Nat}{k:Int}(h0:0≤k)(h5:k≤5)(a b:B1):Cu N k a b=some (NO k a b):=by
 have h:k=0∨k=1∨k=2∨k=3∨k=4∨k=5:=by omega
 rcases h with rfl|rfl|rfl|rfl|rfl|rfl<;>rfl
theorem Aq2 (N:Nat)(k:Int)(v:B1):Dw N k v=some (DG k v):=by
 unfold Dw DG;rw[D8]
 grind[AO]
def V4 (k:Int)(l:List B1):D0:=⟨k,l.length,BB k l⟩
theorem OA (k:Int)(l:List B1)(v:B1):BB k (l++[v])=if l=[]then DG k v else NO k (BB k l) (DG k v):=by
 cases l with
 |nil=>rfl
 |cons a l=>simp[BB]
theorem AL7 {N:Nat} {k:Int} (h0:0≤k) (h5:k≤5) (l:List B1) (hl:l.length≤4096) (v:B1):W1 N (V4 k l) v k=some (V4 k (l++[v])):=by
 unfold W1;rw[Aq2];simp only[A4];unfold FO;rw[D8,D8]
 have e:V4 k (l++[v])=⟨k,(l.length:Int)+1,if l=[]then DG k v else NO k (BB k l) (DG k v)⟩:=by
  unfold V4;rw[OA];simp
 rw[e]
 cases l with
 |nil=>rfl
 | cons a l=>
  have hc:¬(decide ((V4 k (a::l)).Count=0)=true):=by
   grind[V4]
  rw[A0 hc,A0 (by simp)]
  show((Cu N k (BB k (a::l)) (DG k v)).bind _).bind _=_
  rw[Ag3 h0 h5];simp only[A4,V4,reduceCtorEq,G4];rw[D3 (by omega) (by omega)]
theorem PB {k:Int}:∀(n:Nat) {l:List B1},l.length=n→l≠[]→l.length≤4096→(∀v∈l,S2 k v=0)→Ap1 k l.length (BB k l):=by
 intro n
 induction n with
 |zero=>simp_all
 |succ n ih=>
  intro l h0 h hn hv
  rcases Fs l with rfl|⟨q,v,rfl⟩
  ·simp_all
  rw[Fq]at *
  rw[OA,J2];have hw:=hv v (by simp)
  simp only[J2,H7,W9]at hn h0
  by_cases h:q=[]
  ·subst h;rw[A2 rfl];exact AG4 hw
  rw[A0 h];exact Au6 (ih (by omega) h (by omega) fun x hx=>hv x (by simp[hx])) (by omega) hw
theorem ZG {N:Nat} {k:Int} (h0:0≤k) (h5:k≤5) {l:List B1} (hl:l.length≤4096) (hv:∀v∈l,S2 k v=0):DN N (V4 k l)=some 0:=by
 unfold DN BX;simp only[A4]
 have e1:¬(nt (an (cmp .geq (V4 k l).Kind 0) (cmp .leq (V4 k l).Kind 5))=true):=by
  show¬((!(decide (0≤k)&&decide (k≤5)))=true)
  simp;omega
 have e2:¬(Ar.or (cmp .lss (V4 k l).Count 0) (cmp .gtr (V4 k l).Count 4096)=true):=by
  show¬((decide ((l.length:Int)<0)||decide (4096<(l.length:Int)))=true)
  simp;omega
 rw[A0 e1,A0 e2]
 by_cases hz:l=[]∨k=0
 ·have e3:Ar.or (cmp .eql (V4 k l).Count 0) (cmp .eql (V4 k l).Kind 0)=true:=by
   show(decide ((l.length:Int)=0)||decide (k=0))=true
   simp_all
  have e4:(V4 k l).Value=AO:=by
   by_cases hn:l=[]
   ·subst hn;rfl
   exact(PB _ rfl hn hl hv).c (hz.resolve_left hn)
  rw[A2 e3,e4];exact A0 (by simp[R8,L3,D8,GA,AO])
 have hn:l≠[]:=fun h=>hz (.inl h);have hk:k≠0:=fun h=>hz (.inr h);have hlen:l.length≠0:=fun h=>hn (HA h)
 have e3:¬(Ar.or (cmp .eql (V4 k l).Count 0) (cmp .eql (V4 k l).Kind 0)=true):=by
  show¬((decide ((l.length:Int)=0)||decide (k=0))=true)
  grind
 rw[A0 e3];have g:=PB _ rfl hn hl hv
 by_cases k1:k=1
 ·rw[A2 (show cmp .eql (V4 k l).Kind 1=true from J1 k1)];obtain⟨a,b,c,d⟩:=g.s k1;have ev:(V4 k l).Value=BB k l:=rfl;have ec:(V4 k l).Count=(l.length:Int):=rfl;have em:ar .mul .i64 (l.length:Int) 1099511627776=(l.length:Int)*1099511627776:=Bs (by omega) (by omega)
  have en:Ar.neg .i64 ((l.length:Int)*1099511627776)= - ((l.length:Int)*1099511627776):=by
   show IntKind.wrap .i64 (0-(l.length:Int)*1099511627776)=_
   rw[Bs (by omega) (by omega)];omega
  rw[ev,ec,em,en];rw[A0];simp only[R8,L3,D8,R4,BS,GA];rw[J1 a,J1 b,J1 (show -((l.length:Int)*1099511627776)≤(BB k l).Num by omega),J1 (show(BB k l).Num≤(l.length:Int)*1099511627776 by omega)]
  decide
 rw[A0 (show¬(cmp .eql (V4 k l).Kind 1=true)from(by show¬decide (k=1)=true;grind))]
 have hvb:N8 (BB k l)=0:=by
  by_cases h23:k=2∨k=3
  ·exact(g.m h23).1
  exact g.f (by omega)
 have hsu:(BB k l).Kind=0∨(k≠1∧k≠2∧k≠3):=by
  by_cases h23:k=2∨k=3
  ·exact .inl (g.m h23).2
  omega
 show((AS N (BB k l)).bind _)=_
 rw[OY,hvb];simp only[A4];rw[A2 (show cmp .eql 0 0=true from rfl)]
 show((AR N k (BB k l)).bind _)=_
 rw[Sv,J1 hsu];rfl
theorem Ba8 {N:Nat} (hN:40000000≤N) (k:Int) {l:List B1} (hl:l.length<1000000) (o:B1):Hn N k l o=some (AJ7 k l o):=by
 unfold Hn AJ7 BX;simp only[A4]
 by_cases h0:k<0∨5<k
 ·rw[A2 (by show(!(decide (0≤k)&&decide (k≤5)))=true;simp;omega),A2 h0];rfl
 rw[A0 (by show¬((!(decide (0≤k)&&decide (k≤5)))=true);simp;omega),A0 h0]
 by_cases h1:4096<l.length
 ·rw[A2 (Y4 (by rw[B4];omega)),A2 h1];rfl
 rw[A0 (T9 (by rw[B4];omega)),A0 h1];rw[L5 l (by omega) (mk:=fun(_:Unit) i=>i) (body:=Cn fun v=>Ah N k v) (fin:=fun _=>.inl ()) (s:=()) (by omega) ?_ ?_]
 ·rw [Bm (f:=S2 k) fun v _=>Xh N k v]
  by_cases h2:Az (S2 k) l=0
  ·rw [A2 h2,A0 (show¬Az (S2 k) l≠0 by omega)];have hv:=FM.1 h2;simp only[A4]
   have hf:P8 N (⟨k,0,⟨0,0,⟨#[]⟩⟩⟩:D0) l (fun y1 y2=>W1 N y1 y2 k)=some (V4 k l):=by
    unfold P8;rw[L5 l (by omega) (mk:=fun(s:D0) i=>(i,s)) (body:=fun s v=>(W1 N s v k).bind fun r=>some (.inl r)) (fin:=fun s=>s) (s:=⟨k,0,⟨0,0,⟨#[]⟩⟩⟩) (by omega) ?_ ?_]
    ·obtain⟨s',k1,p,k2,k3⟩:=Dr (R:=D0) (step:=fun s v=>(W1 N s v k).bind fun r=>some (.inl r)) (fun r s=>∃p,p++r=l∧s=V4 k p) (fun v r s ⟨p,e1,e2⟩=>by
      subst e2
      refine⟨_,by rw[AL7 (by omega) (by omega) p (by have:=J6 List.length e1;grind)];rfl,p++[v],by grind,rfl⟩) (l:=l) (s:=⟨k,0,⟨0,0,⟨#[]⟩⟩⟩) ⟨[],rfl,rfl⟩
     simp_all
    ·intro s i a ha hi;have e:ar .add .i64 (i:Int) 1=i+1:=D3 (by omega) (by omega);simp only[D4,B4,hi,G9,D1,F6,ha,A4,e];cases W1 N s a k<;>rfl
    intro s;simp[D4,B4]
   rw[hf];simp only[A4];unfold FP;rw[ZG (by omega) (by omega) (by omega) hv];simp only[A4];rw[A0 (show¬(cmp .neq 0 0=true) by decide)]
   show((Ah N k o).bind _).bind _=_
   rw[Xh];simp only[A4]
   by_cases h3:S2 k o=0
   ·rw[A0 (K8 h3),A0 (show¬S2 k o≠0 by omega)]
    by_cases h4:k=0
    ·rw[A2 (show cmp .eql (V4 k l).Kind 0=true from J1 h4),A2 h4];rfl
    rw[A0 (show¬(cmp .eql (V4 k l).Kind 0=true)from(by show¬decide (k=0)=true;grind)),A0 h4]
    by_cases h5:l=[]∧k≠1
    ·rw[A2 (show an (cmp .eql (V4 k l).Count 0) (cmp .neq (V4 k l).Kind 1)=true by show(decide ((l.length:Int)=0)&& !decide (k=1))=true;simp_all),A2 h5];rfl
    rw[A0 (show¬(an (cmp .eql (V4 k l).Count 0) (cmp .neq (V4 k l).Kind 1)=true) by show¬((decide ((l.length:Int)=0)&& !decide (k=1))=true);simpa using h5),A0 h5];rfl
   rw[A2 (K9 h3),A2 h3];rfl
  rw[A0 h2,A2 h2];rfl
 ·intro s i a ha hi;have e:ar .add .i64 (i:Int) 1=i+1:=D3 (by omega) (by omega);simp only[D4,B4,hi,G9,D1,F6,ha,A4,e,Cn,N0]
  grind
 intro s;simp[D4,B4]
def JA (env:Cz)(v:Int):List A8:=if v<0∨(env.cT.length:Int)≤v then[]else env.cT.getD v.toNat []
def HV (e:A8)(k:Int):B1×Int:=if(e.Values.length:Int)≤k then(AO,6)else(e.Values.getD k.toNat AO,0)
def VQ (rows:List A8)(x:B6):B1×Int:=
 if(rows.all fun e=>decide (x.Field<(e.Values.length:Int)))=true then AJ7 x.Kind (rows.map fun e=>e.Values.getD x.Field.toNat AO) x.Value else(AO,6)
def Ow (rows:List A8)(own:Int)(ev:A8)(v:Int):Option A8:=if v≠own then rows.getLast? else some ev
def AB4 (y:A8)(x:B6):B1×Int:=
 if x.Op=2 then(⟨0,y.Time,⟨#[]⟩⟩,0)else if(HV y x.Field).2≠0 then(AO,(HV y x.Field).2)else if N8 (HV y x.Field).1≠0 then(AO,N8 (HV y x.Field).1)else((HV y x.Field).1,0)
def JS (env:Cz)(own:Int)(ev:A8)(x:B6):B1×Int:=
 if x.Op=0 then(x.Value,0)else if x.Op=3 then(⟨0,(JA env x.Var).length,⟨#[]⟩⟩,0)else if x.Op=4 then VQ (JA env x.Var) x
 else match Ow (JA env x.Var) own ev x.Var with|none=>(AO,10)|some y=>AB4 y x
theorem Ns {x:B6}(hx:Bq x=0):0≤x.Op∧x.Op≤12∧(x.cL.length:Int)=(if x.Op<5 then 0 else if x.Op=12 then 1 else 2):=by
 grind[Bq]
def JL (e:Cz):Prop:=e.cT.length<1000000∧∀l∈e.cT,l.length<1000000
theorem Sg {env:Cz}(h:JL env)(v:Int):(JA env v).length<1000000:=by
 grind[JA,JL]
theorem Rm (N:Nat)(env:Cz)(own:Int)(ev:A8)(u:Unit)(v:Int):W7 N ⟨env,own,ev,u⟩ v=some (JA env v):=by
 unfold W7 JA
 by_cases h:v<0∨(env.cT.length:Int)≤v
 ·rw[A2 (by simp only[P5,D4,R4,B4];grind),A2 h]
 rw[A0 (by simp only[P5,D4,R4,B4];grind),A0 h]
 have hi:v.toNat<env.cT.length:=by omega
 have hv:v=(v.toNat:Int):=by omega
 rw[hv,F6]
 grind
theorem TG (N:Nat)(e:A8){k:Int}(hk:0≤k):Ef N e k=some (HV e k):=by
 unfold Ef HV
 by_cases h:(e.Values.length:Int)≤k
 ·rw[A2 (by rw[R4,B4];simp_all),A2 h];rfl
 rw[A0 (by rw[R4,B4];grind),A0 h]
 have hi:k.toNat<e.Values.length:=by omega
 have hv:k=(k.toNat:Int):=by omega
 rw[hv,F6]
 grind
theorem Oi {α β R:Type} {body:List β→α→Option (List β⊕R)} {p:α→Bool} {g:α→β} {r:R}:∀{l:List α} {s:List β},s.length+l.length≤1000000→(∀(s:List β) x,x∈l→s.length≤1000000→body s x=some (if p x=true then .inl (s++[g x])else .inr r))→
 K7 body l s=some (if l.all p=true then .inl (s++l.map g)else .inr r)
 |[],s,_,_=>by simp[K7]
 |x::l,s,hl,h=>by
  simp only[K7,h s x (by simp) (by omega)]
  by_cases hp:p x=true
  ·simp only[hp,D1];rw[Oi (by grind) fun s y hy=>h s y (by simp[hy])];simp[hp]
  simp[hp]
theorem Af3 {N:Nat} (hN:40000000≤N) {env:Cz} (he:JL env) (own:Int) (ev:A8) (u:Unit) {x:B6} (hf:0≤x.Field):AY N ⟨env,own,ev,u⟩ x=some (VQ (JA env x.Var) x):=by
 have hl:=Sg he x.Var;unfold AY VQ;rw[Rm];simp only[A4]
 generalize JA env x.Var=rows at hl
 rw[L5 rows (by omega) (mk:=fun(s:List B1) i=>(s,i)) (body:=fun s e=>(Ef N e x.Field).bind fun r=>if cmp .neq r.2 0=true then some (.inr (.inr r.2))else(Q2 s [r.1]).bind fun l=>some (.inl l)) (fin:=fun s=>.inl s) (s:=[]) (by omega) ?_ ?_]
 ·rw[Oi (p:=fun e=>decide (x.Field<(e.Values.length:Int))) (g:=fun e=>e.Values.getD x.Field.toNat AO) (r:=.inr 6) (by simp;omega) (fun s e _ hs=>by
   rw[TG N e hf];unfold HV
   by_cases h:(e.Values.length:Int)≤x.Field
   ·rw[A2 h,A0 (by grind)];rfl
   rw[A0 h,A2 (by grind)];simp only[A4]
   rw[A0 (by decide),S3 (by simp;omega)];rfl)]
  by_cases h:(rows.all fun e=>decide (x.Field<(e.Values.length:Int)))=true
  ·rw[A2 h,A2 h];simp only[A4,K2];rw[Ba8 hN _ (by grind)];rfl
  rw[A0 h,A0 h];rfl
 ·intro s i a ha hi;have e:ar .add .i64 (i:Int) 1=i+1:=D3 (by omega) (by omega);simp only[D4,B4,hi,G9,D1,F6,ha,A4,e]
  grind
 intro s;simp[D4,B4]
theorem Av2 {N:Nat} (hN:40000000≤N) {env:Cz} (he:JL env) (own:Int) (ev:A8) (u:Unit) {x:B6} (hx:Bq x=0) (ha:x.cL=[]):Bp N ⟨env,own,ev,u⟩ x=some (JS env own ev x):=by
 have hok:=AW6 hx
 have hop:0≤x.Op∧x.Op<5:=by
  have:=Ns hx
  rw[ha]at this
  grind
 have hl:=Sg he x.Var;unfold Bp JS;rw[Rm];simp only[A4]
 by_cases h0:x.Op=0
 ·rw[A2 (by rw[D8];simp_all),A2 h0]
 rw[A0 (by rw[D8];grind),A0 h0]
 by_cases h3:x.Op=3
 ·rw[A2 (by rw[D8];simp_all),A2 h3];rfl
 rw[A0 (by rw[D8];grind),A0 h3]
 by_cases h4:x.Op=4
 ·rw[A2 (by rw[D8];simp_all),A2 h4,Af3 hN he own ev u (hok.1 (.inr h4)).1];rfl
 rw[A0 (by rw[D8];grind),A0 h4]
 have key:((if cmp .neq x.Var own=true then if cmp .eql (Ar.len (JA env x.Var)) 0=true then some (.inr ())else(C3 (JA env x.Var) (ar .sub .i64 (Ar.len (JA env x.Var)) 1)).bind fun x6=>some (.inl x6)else some (.inl ev)):Option (A8⊕Unit))=some (match Ow (JA env x.Var) own ev x.Var with|some y=>.inl y|none=>.inr ()):=by
  unfold Ow
  by_cases hv:x.Var=own
  ·rw[A0 (K8 hv),A0 (by omega)]
  rw[A2 (K9 hv),A2 hv]
  generalize JA env x.Var=rows at hl
  rcases Fs rows with rfl|⟨q,y,rfl⟩
  ·rfl
  rw[Fq]at *
  have e1:ar .sub .i64 (Ar.len (q++[y])) 1=(q.length:Int):=by
   have:ar .sub .i64 (Ar.len (q++[y])) 1=Ar.len (q++[y])-1:=Bs (by rw[B4];omega) (by rw[B4];omega);rw[this,B4];simp
  rw[A0 (by rw[D8,B4];simp;omega),e1,F6];simp
 have key2:=J6 (fun o=>o.bind fun s5=>match s5 with
  | .inl y7=>
   if cmp .eql x.Op 2=true then
    some ((⟨0,y7.Time,⟨#[]⟩⟩:B1),(0:Int))
   else
    (Ef N y7 x.Field).bind fun r8=>
    ((
     if cmp .eql r8.2 0=true then
      (AS N r8.1).bind fun r10=>
      some r10
     else
      some r8.2
    ):Option (Int)).bind fun s9=>
    if cmp .neq s9 0=true then
     some ((⟨0,0,⟨#[]⟩⟩:B1),s9)
    else
     some (r8.1,0)
  | .inr y11=>
   some ((⟨0,0,⟨#[]⟩⟩:B1),10)) key
 refine key2.trans ?_
 cases hy:Ow (JA env x.Var) own ev x.Var with
 |none=>rfl
 | some y=>
  simp only[A4];unfold AB4
  by_cases h2:x.Op=2
  ·rw[A2 (by rw[D8];simp_all),A2 h2]
  rw[A0 (by rw[D8];grind),A0 h2]
  have h1:x.Op=1:=by omega
  rw[TG N y (hok.1 (.inl h1)).1];simp only[A4]
  by_cases hb:(HV y x.Field).2=0
  ·rw[A2 (by rw[D8];simp_all),OY,A0 (by omega)];simp only[A4]
   by_cases hc:N8 (HV y x.Field).1=0
   ·rw[A0 (K8 hc),A0 (by omega)]
   rw[A2 (K9 hc),A2 hc];rfl
  rw[A0 (by rw[D8];grind),A2 hb];simp only[A4];rw[A2 (K9 hb)];rfl
def KS (b:Bool):B1:=if b=true then⟨1,1,⟨#[]⟩⟩else⟨1,0,⟨#[]⟩⟩
def Ox (op:Int)(kinds:List Int)(k:Int):Bool:=
 if op=5∨op=6∨op=7∨op=8 then decide (k=0)else if op=10∨op=11∨op=12 then decide (k=1)else if op=9 then decide (k=kinds.getD 0 0)else true
def KR (op:Int)(kinds:List Int):Int:=if kinds.all (Ox op kinds)=true then 0 else 9
instance (x y:B1):Decidable (x=y):=by
 obtain⟨a,b,c⟩:=x;obtain⟨d,e,f⟩:=y;exact decidable_of_iff (a=d∧b=e∧c=f) (by simp)
def WR (op:Int)(l:List B1):B1:=
 let a:=l.getD 0 AO
 let b:=l.getD (l.length-1) AO
 if op=9 then KS (decide (a=l.getD 1 AO))else if op=5 then⟨0,ar .add .i64 a.Num b.Num,⟨#[]⟩⟩else if op=6 then⟨0,ar .sub .i64 a.Num b.Num,⟨#[]⟩⟩
 else if op=7 then KS (decide (a.Num<b.Num))else if op=8 then KS (decide (a.Num≤b.Num))else if op=10 then KS (decide (a.Num=1)&&decide (b.Num=1))else if op=11 then KS (decide (a.Num=1)||decide (b.Num=1))else KS (!decide (a.Num=1))
mutual
def Jn (R:B6→B1×Int):B6→B1×Int
 |⟨op,args,var,field,kind,val⟩=>
  if args.length=0 then R ⟨op,args,var,field,kind,val⟩else
  match GN R args with
  | .inr f=>(AO,f)
  | .inl l=>if KR op (l.map (·.Kind))≠0 then(AO,KR op (l.map (·.Kind)))else(WR op l,0)
def GN (R:B6→B1×Int):List B6→List B1⊕Int
 |[]=>.inl []
 |a::r=>if(Jn R a).2≠0 then .inr (Jn R a).2 else match GN R r with| .inr f=>.inr f| .inl l=>.inl ((Jn R a).1::l)
end
theorem YX (R:B6→B1×Int)(x:B6):Jn R x=if x.cL.length=0 then R x else
 match GN R x.cL with
 | .inr f=>(AO,f)
 | .inl l=>if KR x.Op (l.map (·.Kind))≠0 then(AO,KR x.Op (l.map (·.Kind)))else(WR x.Op l,0):=by cases x;simp only[Jn]
theorem OC {R:B6→B1×Int}:∀{l:List B6} {r:List B1},GN R l= .inl r→r.length=l.length
 |[],r,h=>by simp_all[GN]
 |a::l,r,h=>by
  simp only[GN]at h
  split at h
  ·cases h
  cases hr:GN R l with
  |inr f=>rw[hr]at h;cases h
  |inl q=>rw[hr]at h;simp only[Sum.inl.injEq]at h;subst h;simp[OC hr]
theorem WF (N:Nat)(b:Bool):Cd N b=some (KS b):=by
 unfold Cd NW KS;cases b<;>rfl
theorem WJ {N:Nat} (hN:40000000≤N) (op:Int) {kinds:List Int} (hl:kinds.length<1000000):FY N op kinds=some (KR op kinds):=by
 unfold FY KR;rw[L5 kinds (by omega) (mk:=fun(_:Unit) i=>i) (body:=fun _ k=>some (if Ox op kinds k=true then .inl ()else .inr (.inr ()))) (fin:=fun _=>.inl ()) (s:=()) (by omega) ?_ ?_]
 ·rw[Oj (p:=Ox op kinds) (r:=.inr ()) fun x _=>rfl]
  grind
 ·intro s i k hk hi;have e:ar .add .i64 (i:Int) 1=i+1:=D3 (by omega) (by omega)
  have h0:C3 kinds 0=some (kinds.getD 0 0):=by
   have:C3 kinds 0=kinds[0]? :=F6 (i:=0);rw[this,X3,E0 (by omega)];rfl
  simp only[D4,B4,hi,G9,D1,F6,hk,A4,e,D8,h0,R8];unfold Ox
  by_cases a5:op=5
  ·grind
  grind
 intro s;simp[D4,B4]
theorem Mg {α:Type} {F:B6→Option (B1×Int)} {R:B6→B1×Int}:∀{l:List B6} {s:List B1×List Int},s.2=s.1.map (·.Kind)→s.1.length+l.length≤1000000→(∀a∈l,F a=some (Jn R a))→
 K7 (fun(s:List B1×List Int) a=>(F a).bind fun r8=>if cmp .neq r8.2 0=true then some (Sum.inr (Sum.inr (α:=α) r8.2))else(Q2 s.1 [r8.1]).bind fun l9=>(Q2 s.2 [r8.1.Kind]).bind fun l12=>some (.inl (l9,l12))) l s=
  some (match GN R l with| .inr f=>.inr (.inr f)| .inl q=>.inl (s.1++q,(s.1++q).map (·.Kind)))
 |[],s,h,_,_=>by obtain⟨a,b⟩:=s;dsimp only at h;subst h;simp[K7,GN]
 | a::l,s,h,hl,hF=>by
  obtain⟨s1,s2⟩:=s
  dsimp only at h;subst h
  simp only[H7]at hl
  simp only[K7,GN,hF a (by simp),A4,N0]
  by_cases hz:(Jn R a).2=0
  ·simp only[hz,G9,AD,J7,G4,ne_eq,IC];rw[S3 (by simp;omega),S3 (by simp;omega)];simp only[A4];have ih:=Mg (α:=α) (F:=F) (R:=R) (l:=l) (s:=(s1++[(Jn R a).1],s1.map (·.Kind)++[(Jn R a).1.Kind])) (by simp) (by simp;omega) fun b hb=>hF b (by simp[hb])
   simp only[N0]at ih
   rw[ih]
   grind
  simp[hz]
theorem Mu {l:List B1}{i:Nat}(h:i<l.length):l[i]? =some (l.getD i AO):=by
 rw[X3,E0 h];rfl
theorem Av4 {N:Nat} (hN:40000000≤N) {env:Cz} (he:JL env) (own:Int) (ev:A8) (u:Unit):∀(n:Nat) (x:B6),x.dep≤n→x.bulk≤16777216→(∀y∈x.pre,Bq y=0)→Q6 N n ⟨env,own,ev,u⟩ x=some (Jn (JS env own ev) x):=by
 intro n
 induction n with
 |zero=>intro x h;rw[B6.dep_eq]at h;omega
 | succ n ih=>
  intro x hd hb hbad;have hx:=hbad x (by rw[B6.pre_eq];simp);have hd':=B6.dep_eq x;unfold Q6;rw[YX]
  by_cases h0:x.cL.length=0
  ·rw[A2 (by rw[D8,B4];simp_all),A2 h0,Av2 hN he own ev u hx (HA h0)];rfl
  rw[A0 (by rw[D8,B4];simp_all),A0 h0];obtain⟨a1,a2,a3⟩:=Ns hx
  have hlen:x.cL.length≤2:=by
   omega
  have hop5:5≤x.Op:=by
   omega
  have hF:∀a∈x.cL,Q6 N n ⟨env,own,ev,u⟩ a=some (Jn (JS env own ev) a):=fun a ha=>ih a (by have:=TH ha;omega) (by have:=Bn ha;omega) fun y hy=>hbad y (by rw[B6.pre_eq];exact CI _ (Qy ha hy));rw[L5 x.cL (by omega) (mk:=fun(s:List B1×List Int) i=>(s.1,s.2,i)) (body:=fun(s:List B1×List Int) a=>(Q6 N n ⟨env,own,ev,u⟩ a).bind fun r8=>if cmp .neq r8.2 0=true then some (.inr (.inr r8.2))else(Q2 s.1 [r8.1]).bind fun l9=>(Q2 s.2 [r8.1.Kind]).bind fun l12=>some (.inl (l9,l12))) (fin:=fun s=>.inl s) (s:=([],[])) (by omega) ?_ ?_]
  ·rw [Mg (R:=JS env own ev) rfl (by simp;omega) hF]
   cases hq:GN (JS env own ev) x.cL with
   |inr f=>rfl
   | inl q=>
    simp only[A4,K2];have hql:=OC hq;rw[WJ hN _ (by simp;omega)];simp only[A4]
    by_cases hz:KR x.Op (q.map (·.Kind))=0
    ·rw[A0 (K8 hz),A0 (show¬KR x.Op (q.map (·.Kind))≠0 by omega)]
     have hi0:C3 q 0=some (q.getD 0 AO):=by
      have:C3 q 0=q[0]? :=F6 (i:=0);rw[this,Mu (by omega)]
     have hiL:C3 q (ar .sub .i64 (Ar.len q) 1)=some (q.getD (q.length-1) AO):=by
      have e:ar .sub .i64 (Ar.len q) 1=((q.length-1:Nat):Int):=by
       have:ar .sub .i64 (Ar.len q) 1=Ar.len q-1:=Bs (by rw[B4];omega) (by rw[B4];omega);rw[this,B4];omega
      rw[e,F6,Mu (by omega)]
     unfold WR
     by_cases h9:x.Op=9
     ·rw[A2 (by rw[D8];simp_all)]
      have h2:x.cL.length=2:=by rw[A0 (by omega),A0 (by omega)]at a3;omega
      have hi1:C3 q 1=some (q.getD 1 AO):=by
       have:C3 q 1=q[1]? :=F6 (i:=1);rw[this,Mu (by omega)]
      rw[hi0,hi1];simp only[A4];rw[WF];simp only[A4,h9,D1,F3,Gj,O9]
      congr 1
      generalize q.getD 0 AO=v;generalize q.getD 1 AO=w;obtain⟨v1,v2,v3⟩:=v;obtain⟨w1,w2,w3⟩:=w;simp only[L3,D8,GA,B1.mk.injEq,Gi,Bool.decide_and]
     rw[A0 (by rw[D8];grind)];rw[hi0,hiL];simp only[A4,Z7,EZ,EY,EX,EW,EV,EU,ET,WF,D8,D4,BS,L3,P5,N0,A0 h9]
     have hop:x.Op=5∨x.Op=6∨x.Op=7∨x.Op=8∨x.Op=10∨x.Op=11∨x.Op=12:=by omega
     rcases hop with h|h|h|h|h|h|h<;>simp[h]
    rw[A2 (K9 hz),A2 hz];rfl
  ·intro s i a ha hi;have e:ar .add .i64 (i:Int) 1=i+1:=D3 (by omega) (by omega);simp only[D4,B4,hi,G9,D1,F6,ha,A4,e]
   grind
  intro s;simp[D4,B4]
def Ro (env:Cz)(own:Int)(ev:A8)(x:B6):B1×Int:=if R0 x=0 then Jn (JS env own ev) x else(AO,R0 x)
theorem NM {x:B6}(h:R0 x=0):∀y∈x.pre,Bq y=0:=by
 unfold R0 at h
 split at h
 ·omega
 split at h
 ·omega
 exact FM.1 h
theorem AR6 {N:Nat}(hN:40000000≤N){env:Cz}(he:JL env)(own:Int)(ev:A8){x:B6}(hb:x.bulk≤16777216):Nk N x env own ev=some (Ro env own ev x):=by
 unfold Nk Ro;rw[Vz hN hb];simp only[A4]
 by_cases h:R0 x=0
 ·rw[A0 (K8 h),A2 h];have hd:=OJ x;rw[Av4 hN he own ev () N x (by omega) hb (NM h)];rfl
 rw[A2 (K9 h),A0 h];rfl
end
end Go.Ab
namespace Go.Ab
noncomputable section
open Classical
theorem ZZ (x y:B1):an (cmp .eql x.Kind y.Kind) (an (cmp .eql x.Num y.Num) (an (scmp .eql x.Text y.Text) true))=decide (x=y):=by
 rw[GA];simp only[L3,D8,Gi];cases x;cases y
 simp_all
def LR (env:Cz)(own:Int)(ev:A8)(x:B6):Bool:=decide ((Ro env own ev x).2=0)&&decide ((Ro env own ev x).1=⟨1,1,⟨#[]⟩⟩)
theorem Xr {N:Nat} (hN:40000000≤N) {env:Cz} (he:JL env) (own:Int) (ev:A8) {x:B6} (hb:x.bulk≤16777216):HY N x env own ev=some (LR env own ev x):=by
 unfold HY LR;rw[AR6 hN he own ev hb];simp only[A4];rw[D8]
 by_cases h:(Ro env own ev x).2=0
 ·rw[A2 (J1 h),WF];simp only[A4,J1 h,Es];rw[ZZ]
  grind[KS]
 simp_all
end
end Go.Ab
namespace Go.Ab
noncomputable section
theorem Rb (N:Nat){k:Int}(h0:0≤k)(h5:k≤5)(v:B1):AX N k v=some (decide (v.Kind=0∨(k≠1∧k≠2∧k≠3))):=by
 unfold AX;simp only[P5,D8,F3]
 have h:k=0∨k=1∨k=2∨k=3∨k=4∨k=5:=by omega
 by_cases hz:v.Kind=0<;>rcases h with rfl|rfl|rfl|rfl|rfl|rfl<;>simp[hz]
theorem UQ (N:Nat) {k:Int} (h0:0≤k) (h5:k≤5) (v:B1):Da N k v=some (S2 k v):=by
 unfold Da S2;rw[MN];simp only[A4]
 by_cases h:N8 v=0
 ·rw[A0 (K8 h),A0 (show¬N8 v≠0 by omega),Rb N h0 h5];simp only[A4]
  by_cases h2:v.Kind=0∨(k≠1∧k≠2∧k≠3)
  ·rw[A0 (by rw[R8,J1 h2];decide),A2 h2]
  rw[A2 (by rw[R8,CC h2];rfl),A0 h2]
 rw[A2 (K9 h),A2 h]
theorem XX (N:Nat)(k:Int)(a b:B1):FU N k a b=some (NO k a b):=by
 unfold FU NO;simp only[D8,H8]
 grind[AO]
theorem XT (N:Nat)(k:Int):Kp N k=some (decide (0≤k)&&decide (k≤5)):=rfl
theorem Pl {N:Nat} {k:Int} (h0:0≤k) (h5:k≤5) {l:List B1} (hl:l.length≤4096) (hv:∀v∈l,S2 k v=0):GC N (V4 k l)=some 0:=by
 unfold GC;rw[XT];simp only[A4]
 have e1:¬(nt (decide (0≤(V4 k l).Kind)&&decide ((V4 k l).Kind≤5))=true):=by
  show¬((!(decide (0≤k)&&decide (k≤5)))=true)
  simp;omega
 have e2:¬(Ar.or (cmp .lss (V4 k l).Count 0) (cmp .gtr (V4 k l).Count 4096)=true):=by
  show¬((decide ((l.length:Int)<0)||decide (4096<(l.length:Int)))=true)
  simp;omega
 rw[A0 e1,A0 e2]
 by_cases hz:l=[]∨k=0
 ·have e3:Ar.or (cmp .eql (V4 k l).Count 0) (cmp .eql (V4 k l).Kind 0)=true:=by
   show(decide ((l.length:Int)=0)||decide (k=0))=true
   simp_all
  have e4:(V4 k l).Value=AO:=by
   by_cases hn:l=[]
   ·subst hn;rfl
   exact(PB _ rfl hn hl hv).c (hz.resolve_left hn)
  rw[A2 e3,e4];exact A0 (by simp[R8,L3,D8,GA,AO])
 have hn:l≠[]:=fun h=>hz (.inl h);have hk:k≠0:=fun h=>hz (.inr h);have hlen:l.length≠0:=fun h=>hn (HA h)
 have e3:¬(Ar.or (cmp .eql (V4 k l).Count 0) (cmp .eql (V4 k l).Kind 0)=true):=by
  show¬((decide ((l.length:Int)=0)||decide (k=0))=true)
  grind
 rw[A0 e3];have g:=PB _ rfl hn hl hv
 by_cases k1:k=1
 ·rw[A2 (show cmp .eql (V4 k l).Kind 1=true from J1 k1)];obtain⟨a,b,c,d⟩:=g.s k1;have ev:(V4 k l).Value=BB k l:=rfl;have ec:(V4 k l).Count=(l.length:Int):=rfl;have em:ar .mul .i64 (l.length:Int) 1099511627776=(l.length:Int)*1099511627776:=Bs (by omega) (by omega)
  have en:Ar.neg .i64 ((l.length:Int)*1099511627776)= - ((l.length:Int)*1099511627776):=by
   show IntKind.wrap .i64 (0-(l.length:Int)*1099511627776)=_
   rw[Bs (by omega) (by omega)];omega
  rw[ev,ec,em,en];rw[A0];rw[show scmp .neq (BB k l).Text ⟨#[]⟩= !(scmp .eql (BB k l).Text ⟨#[]⟩)from rfl,GA];simp only[P5,N0,D4,Br];rw[J1 a,J1 b,CC (show¬(BB k l).Num< -((l.length:Int)*1099511627776) by omega),CC (show¬(l.length:Int)*1099511627776<(BB k l).Num by omega)]
  decide
 rw[A0 (show¬(cmp .eql (V4 k l).Kind 1=true)from(by show¬decide (k=1)=true;grind))]
 have hvb:N8 (BB k l)=0:=by
  by_cases h23:k=2∨k=3
  ·exact(g.m h23).1
  exact g.f (by omega)
 have hsu:(BB k l).Kind=0∨(k≠1∧k≠2∧k≠3):=by
  by_cases h23:k=2∨k=3
  ·exact .inl (g.m h23).2
  omega
 show((BH N (BB k l)).bind _)=_
 rw[MN,hvb];simp only[A4];rw[A0 (show¬(cmp .neq 0 0=true) by decide)]
 show((AX N k (BB k l)).bind _)=_
 rw[Rb N h0 h5,J1 hsu];rfl
theorem AN1 {N:Nat} {k:Int} (h0:0≤k) (h5:k≤5) {l:List B1} (hl:l.length<4096) (hv:∀v∈l,S2 k v=0) (v:B1):
 ∃z,Hr N (V4 k l) v=some (if S2 k v=0 then(V4 k (l++[v]),0)else(z,S2 k v)):=by
 refine⟨⟨0,0,AO⟩,?_⟩;unfold Hr;rw[Pl h0 h5 (by omega) hv];simp only[A4];rw[A0 (show¬(cmp .neq 0 0=true) by decide)]
 show((Da N k v).bind _)=_
 rw[UQ N h0 h5];simp only[A4]
 by_cases hw:S2 k v=0
 ·rw[A0 (K8 hw),A2 hw];have ec:(V4 k l).Count=(l.length:Int):=rfl;have ek:(V4 k l).Kind=k:=rfl;have ev:(V4 k l).Value=BB k l:=rfl
  have ea:V4 k (l++[v])=⟨k,(l.length:Int)+1,if l=[]then DG k v else NO k (BB k l) (DG k v)⟩:=by
   unfold V4;rw[OA];simp
  rw[ec,ek,ev,ea,D3 (a:=(l.length:Int)) (by omega) (by omega)];rw[A0 (show¬(cmp .eql (l.length:Int) 4096=true) by rw[D8];simp;omega)]
  by_cases k0:k=0
  ·subst k0;rw[A2 (show cmp .eql 0 0=true by rfl)]
   have:(if l=[]then DG 0 v else NO 0 (BB 0 l) (DG 0 v))=AO:=by split<;>rfl
   rw[this];rfl
  rw[A0 (show¬(cmp .eql k 0=true) by rw[D8];grind)];have es:DG k v=v:=A0 k0;rw[es]
  by_cases hn:l=[]
  ·subst hn;rw[A0 (show¬(cmp .gtr (([]:List B1).length:Int) 0=true) by decide),A2 rfl]
  have:0<l.length:=List.length_pos_iff.2 hn;rw[A2 (show cmp .gtr (l.length:Int) 0=true from J1 (by omega)),XX,A0 hn];rfl
 rw[A2 (K9 hw),A0 hw];rfl
theorem Rd {N:Nat} {k:Int} (h0:0≤k) (h5:k≤5):∀(l p:List B1),p.length+l.length≤4096→(∀v∈p,S2 k v=0)→
 ∃z,K7 (fun(s:D0) v=>(Hr N s v).bind fun r=>if cmp .neq r.2 0=true then some (Sum.inr (Sum.inr (α:=D0) (r.2,s)))else some (.inl r.1)) l (V4 k p)=
  some (if Az (S2 k) l=0 then .inl (V4 k (p++l))else .inr (.inr (Az (S2 k) l,z)))
 |[],p,_,_=>⟨V4 k p,by simp[K7,Az]⟩
 |v::l,p,hl,hp=>by
  simp only[H7]at hl
  obtain⟨z,hz⟩:=AN1 (N:=N) h0 h5 (l:=p) (by omega) hp v;simp only[K7,hz,A4,Az]
  by_cases hw:S2 k v=0
  ·obtain⟨z',h'⟩:=Rd (N:=N) h0 h5 l (p++[v]) (by simp;omega) (by grind);refine⟨z',?_⟩;simp only[hw,D1,A0 (K8 (rfl:(0:Int)=0))];rw[h',E6];rfl
  refine⟨V4 k p,?_⟩;simp only[hw,G4,A2 (K9 hw)]
theorem AN0 {N:Nat} (hN:40000000≤N) (k:Int) (l:List B1) (o:B1):Pi N k l o=some (AJ7 k l o):=by
 unfold Pi AJ7;rw[XT];simp only[A4]
 by_cases h0:k<0∨5<k
 ·rw[A2 (by show(!(decide (0≤k)&&decide (k≤5)))=true;simp;omega),A2 h0];rfl
 rw[A0 (by show¬((!(decide (0≤k)&&decide (k≤5)))=true);simp;omega),A0 h0]
 by_cases h1:4096<l.length
 ·rw[A2 (Y4 (by rw[B4];omega)),A2 h1];rfl
 rw[A0 (T9 (by rw[B4];omega)),A0 h1];rw[L5 l (by omega) (mk:=fun(s:D0) i=>(i,s)) (body:=fun(s:D0) v=>(Hr N s v).bind fun r=>if cmp .neq r.2 0=true then some (Sum.inr (Sum.inr (α:=D0) (r.2,s)))else some (.inl r.1)) (fin:=fun s=>.inl s) (s:=⟨k,0,⟨0,0,⟨#[]⟩⟩⟩) (by omega) ?_ ?_]
 ·obtain⟨z,hz⟩:=Rd (N:=N) (k:=k) (by omega) (by omega) l [] (by simp_all) (by simp);rw[show(⟨k,0,⟨0,0,⟨#[]⟩⟩⟩:D0)=V4 k []from rfl,hz]
  by_cases h2:Az (S2 k) l=0
  ·rw[A2 h2,A0 (show¬Az (S2 k) l≠0 by omega)];have hv:=FM.1 h2;simp only[A4,K2];unfold Kq;rw[Pl (by omega) (by omega) (by omega) hv];simp only[A4];rw[A0 (show¬(cmp .neq 0 0=true) by decide)]
   show((Da N k o).bind _).bind _=_
   rw[UQ N (by omega) (by omega)];simp only[A4]
   by_cases h3:S2 k o=0
   ·rw[A0 (K8 h3),A0 (show¬S2 k o≠0 by omega)]
    by_cases h4:k=0
    ·rw[A2 (show cmp .eql (V4 k l).Kind 0=true from J1 h4),A2 h4];rfl
    rw[A0 (show¬(cmp .eql (V4 k l).Kind 0=true)from(by show¬decide (k=0)=true;grind)),A0 h4]
    by_cases h5:l=[]∧k≠1
    ·rw[A2 (show an (cmp .eql (V4 k l).Count 0) (cmp .neq (V4 k l).Kind 1)=true by show(decide ((l.length:Int)=0)&& !decide (k=1))=true;simp_all),A2 h5];rfl
    rw[A0 (show¬(an (cmp .eql (V4 k l).Count 0) (cmp .neq (V4 k l).Kind 1)=true) by show¬((decide ((l.length:Int)=0)&& !decide (k=1))=true);simpa using h5),A0 h5];rfl
   rw[A2 (K9 h3),A2 (show S2 k o≠0 from h3)];rfl
  rw[A0 h2,A2 (show Az (S2 k) l≠0 from h2)];rfl
 ·intro s i a ha hi;have e:ar .add .i64 (i:Int) 1=i+1:=D3 (by omega) (by omega);simp only[D4,B4,hi,G9,D1,F6,ha,A4,e]
  grind
 intro s;simp[D4,B4]
theorem SJ (N:Nat)(b:Bool):Ae N b=some (KS b):=by grind[Ae,KS]
theorem Wf (N:Nat)(env:Cz)(v:Int):Dq N env v=some (JA env v):=by
 unfold Dq JA
 by_cases h:v<0∨(env.cT.length:Int)≤v
 ·rw[A2 (by simp only[P5,D4,R4,B4];grind),A2 h]
 rw[A0 (by simp only[P5,D4,R4,B4];grind),A0 h]
 have hi:v.toNat<env.cT.length:=by omega
 have hv:v=(v.toNat:Int):=by omega
 rw[hv,F6]
 grind
theorem YM {l:List B1}{k:Int}(h0:0≤k)(h1:k<l.length):C3 l k=some (l.getD k.toNat AO):=by
 simp_all[C3]
theorem AB0 (N:Nat) {env:Cz} (he:JL env) (v own:Int) (ev:A8):Kn N env v own ev=some (match Ow (JA env v) own ev v with|some y=>(y,true)|none=>(⟨0,0,0,0,[]⟩,false)):=by
 have hl:=Sg he v;unfold Kn Ow
 by_cases hv:v=own
 ·rw[A2 (by rw[D8];simp_all),A0 (by omega)]
 rw[A0 (by rw[D8];grind),A2 hv,Wf];simp only[A4]
 generalize JA env v=rows at hl
 rcases Fs rows with rfl|⟨q,y,rfl⟩
 ·rfl
 rw[Fq]at *
 have e1:ar .sub .i64 (Ar.len (q++[y])) 1=(q.length:Int):=by
  have:ar .sub .i64 (Ar.len (q++[y])) 1=Ar.len (q++[y])-1:=Bs (by rw[B4];omega) (by rw[B4];omega);rw[this,B4];simp
 rw[A0 (by rw[D8,B4];simp;omega),e1,F6];simp
theorem AA9 {N:Nat} (hN:40000000≤N) {env:Cz} (he:JL env) (own:Int) (ev:A8) {x:B6} (hx:Bq x=0) (ha:x.cL=[]):Km N x env own ev=some (JS env own ev x):=by
 have hok:=AW6 hx
 have hop:0≤x.Op∧x.Op<5:=by
  have:=Ns hx
  rw[ha]at this
  grind
 have hl:=Sg he x.Var;unfold Km JS
 by_cases h0:x.Op=0
 ·rw[A2 (by rw[D8];simp_all),A2 h0]
 rw[A0 (by rw[D8];grind),A0 h0]
 by_cases h3:x.Op=3
 ·rw[A2 (by rw[D8];simp_all),A2 h3,Wf];rfl
 rw[A0 (by rw[D8];grind),A0 h3]
 by_cases h4:x.Op=4
 ·have hf:=(hok.1 (.inr h4)).1;rw[A2 (by rw[D8];simp_all),A2 h4,Wf];simp only[A4];unfold VQ
  generalize JA env x.Var=rows at hl
  rw[L5 rows (by omega) (mk:=fun(s:List B1) i=>(s,i)) (body:=fun s e=>if cmp .geq x.Field (Ar.len e.Values)=true then some (.inr (.inr ()))else(C3 e.Values x.Field).bind fun v=>(Q2 s [v]).bind fun l=>some (.inl l)) (fin:=fun s=>.inl s) (s:=[]) (by omega) ?_ ?_]
  ·rw[Oi (p:=fun e=>decide (x.Field<(e.Values.length:Int))) (g:=fun e=>e.Values.getD x.Field.toNat AO) (r:=.inr ()) (by simp;omega) (fun s e _ hs=>by
    by_cases h:(e.Values.length:Int)≤x.Field
    ·rw[A2 (by rw[R4,B4];simp_all),A0 (by grind)]
    rw[A0 (by rw[R4,B4];grind),A2 (by grind),YM hf (by omega)]
    grind[Q2])]
   by_cases h:(rows.all fun e=>decide (x.Field<(e.Values.length:Int)))=true
   ·rw[A2 h,A2 h];simp only[A4,K2];rw[AN0 hN];rfl
   rw[A0 h,A0 h];rfl
  ·intro s i a ha hi;have e:ar .add .i64 (i:Int) 1=i+1:=D3 (by omega) (by omega);simp only[D4,B4,hi,G9,D1,F6,ha,A4,e]
   grind
  intro s;simp[D4,B4]
 rw[A0 (by rw[D8];grind),A0 h4,AB0 N he];simp only[A4]
 cases hy:Ow (JA env x.Var) own ev x.Var with
 |none=>rfl
 |some y=>
  simp only[R8,AD,J7,G4];unfold AB4
  by_cases h2:x.Op=2
  ·rw[A2 (by rw[D8];simp_all),A2 h2]
  rw[A0 (by rw[D8];grind),A0 h2]
  have h1:x.Op=1:=by omega
  have hf:=(hok.1 (.inl h1)).1;unfold HV
  by_cases hb:(y.Values.length:Int)≤x.Field
  ·rw[A2 (by rw[R4,B4];simp_all),A2 hb];rfl
  rw[A0 (by rw[R4,B4];grind),A0 hb,YM hf (by omega)];simp only[A4];rw[MN];simp only[A4];rw[A0 (show¬((0:Int)≠0) by simp)]
  by_cases hc:N8 (y.Values.getD x.Field.toNat AO)=0
  ·rw[A0 (K8 hc),A0 (show¬N8 (y.Values.getD x.Field.toNat AO)≠0 by omega)]
  rw[A2 (K9 hc),A2 hc];rfl
theorem AM8 (N:Nat)(op:Int):EJ N op=some (if op=5∨op=6∨op=7∨op=8 then 0 else if op=10∨op=11∨op=12 then 1 else -1):=by
 unfold EJ;simp only[D8,H8]
 grind
theorem We {N:Nat} (hN:40000000≤N) (op:Int) {kinds:List Int} (hl:kinds.length<1000000):EI N op kinds=some (KR op kinds):=by
 unfold EI KR;rw[L5 kinds (by omega) (mk:=fun(_:Unit) i=>i) (body:=fun _ k=>some (if Ox op kinds k=true then .inl ()else .inr (.inr ()))) (fin:=fun _=>.inl ()) (s:=()) (by omega) ?_ ?_]
 ·rw[Oj (p:=Ox op kinds) (r:=.inr ()) fun x _=>rfl]
  grind
 ·intro s i k hk hi;have e:ar .add .i64 (i:Int) 1=i+1:=D3 (by omega) (by omega)
  have h0:C3 kinds 0=some (kinds.getD 0 0):=by
   have:C3 kinds 0=kinds[0]? :=F6 (i:=0);rw[this,X3,E0 (by omega)];rfl
  simp only[D4,B4,hi,G9,D1,F6,hk,A4,e,D8,h0,R8,AM8,N0,R4];unfold Ox
  grind
 intro s;simp[D4,B4]
theorem Ac3 {N:Nat} (hN:40000000≤N) {env:Cz} (he:JL env) (own:Int) (ev:A8):∀(n:Nat) (x:B6),x.dep≤n→x.bulk≤16777216→(∀y∈x.pre,Bq y=0)→CZ N n x env own ev=some (Jn (JS env own ev) x):=by
 intro n
 induction n with
 |zero=>intro x h;rw[B6.dep_eq]at h;omega
 | succ n ih=>
  intro x hd hb hbad;have hx:=hbad x (by rw[B6.pre_eq];simp);have hd':=B6.dep_eq x;unfold CZ;rw[YX]
  by_cases h0:x.cL.length=0
  ·rw[A2 (by rw[D8,B4];simp_all),A2 h0,AA9 hN he own ev hx (HA h0)];rfl
  rw[A0 (by rw[D8,B4];simp_all),A0 h0];obtain⟨a1,a2,a3⟩:=Ns hx
  have hlen:x.cL.length≤2:=by
   omega
  have hop5:5≤x.Op:=by
   omega
  have hF:∀a∈x.cL,CZ N n a env own ev=some (Jn (JS env own ev) a):=fun a ha=>ih a (by have:=TH ha;omega) (by have:=Bn ha;omega) fun y hy=>hbad y (by rw[B6.pre_eq];exact CI _ (Qy ha hy));rw[L5 x.cL (by omega) (mk:=fun(s:List B1×List Int) i=>(s.1,s.2,i)) (body:=fun(s:List B1×List Int) a=>(CZ N n a env own ev).bind fun r8=>if cmp .neq r8.2 0=true then some (.inr (.inr r8.2))else(Q2 s.1 [r8.1]).bind fun l9=>(Q2 s.2 [r8.1.Kind]).bind fun l12=>some (.inl (l9,l12))) (fin:=fun s=>.inl s) (s:=([],[])) (by omega) ?_ ?_]
  ·rw [Mg (R:=JS env own ev) rfl (by simp;omega) hF]
   cases hq:GN (JS env own ev) x.cL with
   |inr f=>rfl
   | inl q=>
    simp only[A4,K2];have hql:=OC hq;rw[We hN _ (by simp;omega)];simp only[A4]
    by_cases hz:KR x.Op (q.map (·.Kind))=0
    ·rw[A0 (K8 hz),A0 (show¬KR x.Op (q.map (·.Kind))≠0 by omega)]
     have hi0:C3 q 0=some (q.getD 0 AO):=by
      have:C3 q 0=q[0]? :=F6 (i:=0);rw[this,Mu (by omega)]
     unfold Mc
     by_cases h12:x.Op=12
     ·have e1:q.length-1=0:=by rw[A0 (by omega),A2 h12]at a3;omega
      rw[h12];simp only[D8,hi0,A4,SJ,N0];rfl
     have h2:q.length=2:=by rw[A0 (by omega),A0 h12]at a3;omega
     have hi1:C3 q 1=some (q.getD 1 AO):=by
      have:C3 q 1=q[1]? :=F6 (i:=1);rw[this,Mu (by omega)]
     have e1:q.length-1=1:=by omega
     unfold WR;rw[e1];simp only[D8,hi0,hi1,A4,SJ,N0,D4,BS];generalize q.getD 0 AO=v;generalize q.getD 1 AO=w
     have hop:x.Op=5∨x.Op=6∨x.Op=7∨x.Op=8∨x.Op=9∨x.Op=10∨x.Op=11:=by omega
     rcases hop with h|h|h|h|h|h|h
     ·simp[h]
     ·simp[h]
     ·simp[h]
     ·simp[h]
     ·simp only[h];have:=ZZ v w
      simp only[D8]at this
      rw[this];simp
     ·grind
     grind
    rw[A2 (K9 hz),A2 hz];rfl
  ·intro s i a ha hi;have e:ar .add .i64 (i:Int) 1=i+1:=D3 (by omega) (by omega);simp only[D4,B4,hi,G9,D1,F6,ha,A4,e]
   grind
  intro s;simp[D4,B4]
theorem AB2 {N:Nat}(hN:40000000≤N){env:Cz}(he:JL env)(own:Int)(ev:A8){x:B6}(hb:x.bulk≤16777216):Ko N x env own ev=some (Ro env own ev x):=by
 unfold Ko Ro;rw[TR hN hb];simp only[A4]
 by_cases h:R0 x=0
 ·rw[A0 (K8 h),A2 h];have hd:=OJ x;rw[Ac3 hN he own ev N x (by omega) hb (NM h)];rfl
 rw[A2 (K9 h),A0 h];rfl
theorem Qh {N:Nat} (hN:40000000≤N) {env:Cz} (he:JL env) (own:Int) (ev:A8) {x:B6} (hb:x.bulk≤16777216):EC N x env own ev=some (LR env own ev x):=by
 unfold EC LR;rw[AB2 hN he own ev hb];simp only[A4];rw[D8]
 by_cases h:(Ro env own ev x).2=0
 ·rw[A2 (J1 h),SJ];simp only[A4,J1 h,Es];rw[ZZ]
  grind[KS]
 simp_all
end
end Go.Ab
namespace Go.Ab
open Classical
noncomputable section
abbrev PR:=B5
def mrg:List PR→List PR→List PR
 |[],b=>b
 |x::a,[]=>x::a
 |x::a,y::b=>if x.At<y.At then x::mrg a (y::b)else y::mrg (x::a) b
 termination_by a b=>a.length+b.length
theorem Ds (b:List PR):mrg [] b=b:=by unfold mrg;rfl
theorem V8 (a:List PR):mrg a []=a:=by cases a<;>(unfold mrg;rfl)
theorem Pr (x y:PR)(a b:List PR):mrg (x::a) (y::b)=if x.At<y.At then x::mrg a (y::b)else y::mrg (x::a) b:=by rw[mrg]
theorem EO:∀(n:Nat) (a b:List PR),a.length+b.length≤n→(mrg a b).Perm (a++b)
 |_,[],b,_=>by rw[Ds];grind
 |_,x::a,[],_=>by rw[V8];simp
 |0,x::a,y::b,h=>by simp at h
 |n+1,x::a,y::b,h=>by
  simp only[H7]at h
  rw[Pr]
  split
  ·exact(EO n a (y::b) (by simp;omega)).cons x
  exact((EO n (x::a) b (by simp;omega)).cons y).trans (List.perm_middle.symm)
theorem M2 {a b:List PR}{x:PR}:x∈mrg a b↔x∈a∨x∈b:=by rw[(EO _ a b (B3 _)).mem_iff,CU]
theorem Kx (a b:List PR):(mrg a b).length=a.length+b.length:=by rw[(EO _ a b (B3 _)).length_eq,J2]
def Ui (a:List PR):Prop:=a.Pairwise fun x y=>x.At<y.At
def O1 (a b:List PR):Prop:=∀x∈a,∀y∈b,x.At≠y.At
theorem Jh:∀(n:Nat) {a b:List PR},a.length+b.length≤n→Ui a→Ui b→O1 a b→Ui (mrg a b)
 |_,[],b,_,_,hb,_=>by rw[Ds];exact hb
 |_,x::a,[],_,ha,_,_=>by rw[V8];exact ha
 |0,x::a,y::b,h,_,_,_=>by simp at h
 | n+1,x::a,y::b,h,ha,hb,hd=>by
  simp only[H7]at h
  unfold Ui at ha hb
  rw[DY]at ha hb
  rw[Pr];have hxy:=hd x (by simp) y (by simp)
  split
  ·rename_i hlt;refine List.pairwise_cons.2 ⟨fun z hz=>?_,Jh n (by simp;omega) ha.2 (List.pairwise_cons.2 hb) fun u hu v hv=>hd u (by simp[hu]) v hv⟩
   rcases M2.1 hz with hz|hz
   ·grind
   grind
  rename_i hlt;refine List.pairwise_cons.2 ⟨fun z hz=>?_,Jh n (by simp;omega) (List.pairwise_cons.2 ha) hb.2 fun u hu v hv=>hd u hu v (by simp[hv])⟩
  rcases M2.1 hz with hz|hz
  ·grind
  simp_all
theorem Th:∀{a b:List PR},(∀x∈a,∀y∈b,x.At<y.At)→mrg a b=a++b
 |[],b,_=>Ds b
 |x::a,[],_=>by rw[V8,H6]
 |x::a,y::b,h=>by
  rw[Pr,A2 (h x (by simp) y (by simp)),Th fun u hu v hv=>h u (by simp[hu]) v hv];rfl
theorem NX {α:Type}(x:α)(l:List α):Q0 (x::l) (some 1) none none=some l:=by
 unfold Q0;rw[A2 (by simp;omega)];simp
def InS (n:Int)(s:List PR):Prop:=∀x∈s,0≤x.At∧x.At<n
theorem Kh {a b:Int}(h0: -9223372036854775808≤a-b)(h1:a-b<9223372036854775808):ar .sub .i64 a b=a-b:=Bs h0 h1
def RG (s:List PR)(i:Int):Bool:=s.any fun x=>decide (x.At=i)
def S8 (a b:List PR):Bool:=a.any fun x=>RG b x.At
theorem Wv {s:List PR}{i:Int}:RG s i=true↔∃x∈s,x.At=i:=by simp[RG]
theorem T7 {a b:List PR}:S8 a b=false↔O1 a b:=by
 unfold S8 O1;rw[IA]
 constructor
 ·intro h x hx y hy e;exact h x hx (Wv.2 ⟨y,hy,e.symm⟩)
 intro h x hx hc;obtain⟨y,hy,e⟩:=Wv.1 hc
 grind
theorem X7 {α:Type}{l:List α}{i:Int}(h:i<l.length):cmp .lss i (Ar.len l)=true:=Z6 h
theorem FD {α:Type}{l:List α}:¬cmp .lss (l.length:Int) (Ar.len l)=true:=N4 (Li _)
theorem YF {α A B:Type} {N:Nat} {l:List α} (hl:l.length<N) (hN:l.length<1000000000) {step:Int→Option (Int⊕(A⊕B))} (P:α→Bool) (u:A) (r:Int→B)
 (hstep:∀(i:Nat) x,l[i]? =some x→(i:Int)<l.length→step i=some (if P x=true then .inr (.inr (r i))else .inl ((i:Int)+1)))
 (hend:step (l.length:Int)=some (.inr (.inl u))):∃i,loopN step N 0=some (if l.any P=true then .inr (r i)else .inl u)∧0≤i:=by
 have key:∀(k i n:Nat),i+k=l.length→k<n→∃j,loopN step n (i:Int)=some (if(l.drop i).any P=true then .inr (r j)else .inl u)∧0≤j:=by
  intro k
  induction k with
  |zero=>
   intro i n hi hn;obtain⟨n,rfl⟩:∃m,n=m+1:=⟨n-1,by omega⟩;refine⟨0,?_,by omega⟩;rw[DW (by omega),show(i:Int)=l.length by omega]
   grind[loopN]
  |succ k ih=>
   intro i n hi hn;obtain⟨n,rfl⟩:∃m,n=m+1:=⟨n-1,by omega⟩
   have hlt:i<l.length:=by omega
   obtain⟨j,h,hj⟩:=ih (i+1) n (by omega) (by omega);rw[R7 hlt,Er];have hs:=hstep i l[i] (by simp[hlt]) (by omega)
   grind[loopN]
 obtain⟨j,h,hj⟩:=key l.length 0 N (by omega) hl;exact⟨j,by grind,hj⟩
theorem Nf {α:Type}{N:Nat}{l:List α}{step:Int→Option (Int⊕(Unit⊕Unit))}(P:α→Bool)(hl:l.length<N)(hN:l.length<1000000000)
 (hstep:∀(i:Nat) x,l[i]? =some x→(i:Int)<l.length→step i=some (if P x=true then .inr (.inr ())else .inl ((i:Int)+1)))
 (hend:step (l.length:Int)=some (.inr (.inl ()))):loopN step N 0=some (if l.any P=true then .inr ()else .inl ()):=by
 obtain⟨_,h,_⟩:=YF hl hN P () (fun _=>()) hstep hend;exact h
def hdA (s:List PR):Int:=match s with|[]=>0|x::_=>x.At
def S4 (s:List PR):Int:=match s.getLast? with|none=>0|some x=>x.At
theorem PA {α:Type} {l:List α} (h:l≠[]) (hl:l.length≤1000000):C3 l (ar .sub .i64 (Ar.len l) 1)=l.getLast? :=by
 rcases Fs l with rfl|⟨q,y,rfl⟩
 ·simp_all
 rw[Fq]at *
 have e1:ar .sub .i64 (Ar.len (q++[y])) 1=(q.length:Int):=by
  have:ar .sub .i64 (Ar.len (q++[y])) 1=Ar.len (q++[y])-1:=Kh (by rw[B4];omega) (by rw[B4];omega);rw[this,B4];simp
 rw[e1,F6];simp
theorem FE {s:List PR}(h:s≠[]):∃x,s.getLast? =some x∧x∈s∧S4 s=x.At:=by
 cases hs:s.getLast? with
 |none=>simp_all
 |some x=>exact⟨x,rfl,List.mem_of_getLast? hs,by simp[S4,hs]⟩
theorem Tx {α:Type}(x:α)(l:List α):C3 (x::l) 0=some x:=rfl
theorem Ie {s:List PR}(ha:Ui s):∀x∈s,x.At≤S4 s:=by
 intro x hx
 rcases Fs s with rfl|⟨q,y,rfl⟩
 ·cases hx
 rw[Fq]at *
 have e:S4 (q++[y])=y.At:=by simp[S4]
 rw[e]
 unfold Ui at ha
 rw[LD]at ha
 rcases List.mem_append.1 hx with h|h
 ·have:=ha.2.2 x h y (by simp);omega
 simp_all
theorem Ao5:∀{s:List PR} {k:Int} {m:Nat},Ui s→(∀x∈s,k≤x.At∧x.At<k+m)→s.length≤m
 |[],_,_,_,_=>CR _
 |x::s,k,m,ha,h=>by
  unfold Ui at ha
  rw[DY]at ha
  have hx:=h x (by simp);obtain⟨m,rfl⟩:∃q,m=q+1:=⟨m-1,by omega⟩
  have:=Ao5 (s:=s) (k:=x.At+1) (m:=m) ha.2 fun y hy=>by have:=ha.1 y hy;have:=h y (by simp[hy]);omega
  simp;omega
def Ur (l:List A8)(s:List PR)(b v:Int):List A8:=s.filterMap fun x=>if x.At<b∧x.Var=v then l[x.At.toNat]? else none
def Uw (l:List A8)(s:List PR)(b:Int):Cz:=⟨(List.range 16).map fun(v:Nat)=>Ur l s b (v:Int)⟩
def WfS (l:List A8)(s:List PR):Prop:=∀x∈s,(0≤x.Var∧x.Var<16)∧(0≤x.At∧x.At<l.length)
theorem WfS.ins {l:List A8}{s:List PR}(h:WfS l s):InS l.length s:=fun x hx=>(h x hx).2
theorem XP (l:List A8)(s:List PR)(b v:Int):(Ur l s b v).length≤s.length:=List.length_filterMap_le ..
theorem JX (l:List A8){s:List PR}(hs:s.length<1000000)(b:Int):JL (Uw l s b):=by
 constructor
 ·simp[Uw]
 intro r hr
 simp only[Uw,Ge]at hr
 obtain⟨v,_,rfl⟩:=hr;have:=XP l s b v;omega
theorem US (l:List A8)(p:List PR)(x:PR)(b v:Int):Ur l (p++[x]) b v=Ur l p b v++(if x.At<b∧x.Var=v then(l[x.At.toNat]?).toList else[]):=by
 unfold Ur;rw[List.filterMap_append]
 grind
theorem SQ {α R:Type} (f:α→PR) (l:List A8) (b:Int) {s:List α} (hs:s.length≤1000000) (hw:WfS l (s.map f)):
 K7 (R:=R) (fun rows x=>if cmp .lss (f x).At b=true then(C3 rows (f x).Var).bind fun x9=>(C3 l (f x).At).bind fun x14=>(Q2 x9 [x14]).bind fun l15=>(HE rows (f x).Var (fun _=>l15)).bind fun l13=>some (.inl l13)else some (.inl rows)) s (List.replicate 16 [])=
  some (.inl ((List.range 16).map fun(v:Nat)=>Ur l (s.map f) b (v:Int))):=by
 obtain⟨s',h1,p,h2,h3⟩:=Dr (R:=R) (step:=fun rows x=>if cmp .lss (f x).At b=true then(C3 rows (f x).Var).bind fun x9=>(C3 l (f x).At).bind fun x14=>(Q2 x9 [x14]).bind fun l15=>(HE rows (f x).Var (fun _=>l15)).bind fun l13=>some (.inl l13)else some (.inl rows))
  (fun r rows=>∃p,p++r=s∧rows=(List.range 16).map fun(v:Nat)=>Ur l (p.map f) b (v:Int)) (fun x r rows ⟨p,e1,e2⟩=>by
   subst e2
   have hx:x∈s:=by rw[←e1];simp
   obtain⟨⟨v0,v1⟩,a0,a1⟩:=hw (f x) (List.mem_map.2 ⟨x,hx,rfl⟩)
   have hpl:p.length≤1000000:=by have:=J6 List.length e1;grind
   by_cases hb:(f x).At<b
   ·rw[A2 (by rw[D4];simp_all)]
    generalize hv:(f x).Var=vv at *
    generalize ha:(f x).At=aa at *
    obtain⟨v,rfl⟩:=Ft v0;obtain⟨a,rfl⟩:=Ft a0
    have hva:v<16:=by omega
    have haa:a<l.length:=by omega
    have e1':C3 ((List.range 16).map fun(v:Nat)=>Ur l (p.map f) b (v:Int)) (v:Int)=some (Ur l (p.map f) b v):=by
     rw[F6];simp[hva]
    have e2':C3 l (a:Int)=some l[a]:=by rw[F6];simp[haa]
    have hpl':=XP l (p.map f) b v;simp only[e1',e2',A4];rw[S3 (by grind)];simp only[A4];refine⟨_,by unfold HE;rw[e1'];rfl,p++[x],by grind,?_⟩;apply Bg;intro j;rw[Ad]
    by_cases hj:j<16
    ·simp only[R6,II hj,O3,D5,H5,US,hv,ha,CG,D6,DS,I6]
     grind
    simp_all
   rw[A0 (by rw[D4];grind)];refine⟨_,rfl,p++[x],by grind,?_⟩;apply V6;intro v _
   rw[O3,D5,H5,US,A0 (by omega),H6]) (l:=s) (s:=List.replicate 16 []) ⟨[],rfl,by simp[Ur];rfl⟩
 rw[h1]
 rw[H6]at h2
 rw[h3,h2]
theorem Wg {N:Nat} (hN:40000000≤N) {l:List A8} {s:List PR} (hs:s.length≤1000000) (hw:WfS l s) (b:Int):Hp N l s b=some (Uw l s b):=by
 unfold Hp;have h1:mkL 16 16 ([]:List A8)=some (List.replicate 16 []):=rfl;rw[h1];simp only[A4];rw[L5 s (by omega) (mk:=fun(rows:List (List A8)) i=>(i,rows)) (body:=fun rows x=>if cmp .lss x.At b=true then(C3 rows x.Var).bind fun x9=>(C3 l x.At).bind fun x14=>(Q2 x9 [x14]).bind fun l15=>(HE rows x.Var (fun _=>l15)).bind fun l13=>some (.inl l13)else some (.inl rows)) (fin:=fun s=>s) (s:=List.replicate 16 []) (by omega) ?_ ?_]
 ·have h:=SQ (R:=List (List A8)) (fun x:PR=>x) l b hs (by simpa using hw);rw[h];simp[Uw]
 ·intro rows i x hx hi;have e:ar .add .i64 (i:Int) 1=i+1:=D3 (by omega) (by omega);have c1:cmp .lss (i:Int) (s.length:Int)=true:=Z6 hi
  by_cases hb:x.At<b
  ·have c2:cmp .lss x.At b=true:=Z6 hb;simp only[c1,c2,B4,D1,F6,hx,A4,e]
   cases C3 rows x.Var with
   |none=>rfl
   |some r=>
    simp only[A4]
    grind
  have c2:cmp .lss x.At b=false:=by simpa using N4 hb
  simp only[c1,c2,B4,D1,F6,hx,A4,e,J7,G4]
 intro s;simp[D4,B4]
theorem OM {l:List A8}{i:Nat}(h:i<l.length):C3 l (i:Int)=some l[i]:=by rw[F6];simp[h]
def WZ {β:Type}(T:Nat→Bool)(g:Nat→β):Nat→Nat→List β
 |0,_=>[]
 |k+1,i=>if T i=true then g i::WZ T g k (i+1)else WZ T g k (i+1)
theorem JF {β:Type}(T:Nat→Bool)(g:Nat→β)(k i:Nat):WZ T g (k+1) i=if T i=true then g i::WZ T g k (i+1)else WZ T g k (i+1):=rfl
theorem Ps {β:Type} {T:Nat→Bool} {g:Nat→β} {x:β}:∀{k i:Nat},x∈WZ T g k i↔∃j,i≤j∧j<i+k∧T j=true∧x=g j
 |0,i=>by grind[WZ]
 |k+1,i=>by
  rw[JF];have ih:=Ps (T:=T) (g:=g) (x:=x) (k:=k) (i:=i+1)
  grind
theorem Qo {β:Type} {T:Nat→Bool} {g:Nat→β} (hg:∀i j,g i=g j→i=j):∀{k i:Nat},(WZ T g k i).Nodup
 |0,i=>by simp[WZ]
 |k+1,i=>by
  rw[JF]
  split
  ·refine List.nodup_cons.2 ⟨fun h=>?_,Qo hg⟩;obtain⟨j,a,b,c,d⟩:=Ps.1 h;have:=hg _ _ d;omega
  exact Qo hg
theorem YG {β A:Type} {n:Nat} {step:Int→Option (List β×(Int⊕A))} {T:Nat→Bool} {g:Nat→β} {u:A} (hs:∀i,i<n→step (i:Int)=some (if T i=true then[g i]else[],.inl ((i:Int)+1))) (he:step (n:Int)=some ([],.inr u)):
 ∀(k i N:Nat),i+k=n→k<N→De step N (i:Int)=some (WZ T g k i,u)
 |0,i,N,h,hN=>by
  obtain⟨N,rfl⟩:∃m,N=m+1:=⟨N-1,by omega⟩;rw[show(i:Int)=n by omega]
  grind[De,WZ]
 |k+1,i,N,h,hN=>by
  obtain⟨N,rfl⟩:∃m,N=m+1:=⟨N-1,by omega⟩;have ih:=YG hs he k (i+1) N (by omega) (by omega)
  grind[De,WZ]
theorem Ot {A:Type} {n:Nat} {step:Int→Option (Int⊕(A⊕Unit))} {P:Nat→Bool} {u:A} (m:Nat) (hs:∀i,m≤i→i<n→step (i:Int)=some (if P i=true then .inr (.inr ())else .inl ((i:Int)+1))) (he:∀i:Nat,n≤i→step (i:Int)=some (.inr (.inl u))):
 ∀(k i N:Nat),n≤i+k→m≤i→k<N→loopN step N (i:Int)=some (if(List.range' i (n-i)).any P=true then .inr ()else .inl u)
 |0,i,N,h,_,hN=>by
  obtain⟨N,rfl⟩:∃m,N=m+1:=⟨N-1,by omega⟩;rw[show n-i=0 by omega]
  simp_all[loopN]
 | k+1,i,N,h,hm,hN=>by
  obtain⟨N,rfl⟩:∃m,N=m+1:=⟨N-1,by omega⟩
  by_cases hi:i<n
  ·have ih:=Ot m hs he k (i+1) N (by omega) (by omega) (by omega);simp only[loopN,hs i hm hi];rw[show n-i=(n-(i+1))+1 by omega,DO,Er]
   grind
  simp_all[loopN]
def Ai6 (l:List A8)(i:Int):Int:=match l[i.toNat]? with|some e=>e.Time|none=>0
def Ud (l:List A8)(p:A1)(b s:List PR)(i:Nat):Bool:=match l[i]? with|some e=>decide (e.Typ=p.Typ)&&(!RG s i)&&LR (Uw l (mrg b s) i) p.Var e p.cN|none=>false
def TQ (l:List A8)(p:A1)(b s:List PR):Bool:= !((List.range l.length).any fun i=>decide (hdA s<(i:Int))&&decide ((i:Int)<S4 s)&&Ud l p b s i)
def Bz (l:List A8)(p:A1)(b s:List PR):Bool:=
 if p.Op=6 then decide (ar .sub .i64 (Ai6 l (S4 s)) (Ai6 l (hdA s))≤p.Span)else if p.Op=7 then LR (Uw l (mrg b s) l.length) (-1) ⟨0,0,0,0,[]⟩ p.cN else TQ l p b s
structure Gd (l:List A8) (s:List PR):Prop where
 wf:WfS l s
 asc:Ui s
theorem Gd.len {l:List A8}{s:List PR}(h:Gd l s):s.length≤l.length:=Ao5 (k:=0) h.asc fun x hx=>by have:=(h.wf x hx).2;omega
theorem Gd.nil (l:List A8):Gd l []:=⟨fun _ h=>absurd h List.not_mem_nil,List.Pairwise.nil⟩
theorem Gd.mrg {l:List A8}{a b:List PR}(ha:Gd l a)(hb:Gd l b)(h:O1 a b):Gd l (mrg a b):=⟨fun x hx=>(M2.1 hx).elim (ha.wf x) (hb.wf x),Jh _ (Nat.le_refl _) ha.asc hb.asc h⟩
theorem Gd.lst {l:List A8}{s:List PR}(h:Gd l s)(hn:s≠[]):0≤S4 s∧S4 s<l.length:=by
 obtain⟨x,_,hx,e⟩:=FE hn;rw[e];exact(h.wf x hx).2
theorem Gd.hd {l:List A8} {s:List PR} (h:Gd l s) (hn:s≠[]):0≤hdA s∧hdA s<l.length∧hdA s≤S4 s∧RG s (hdA s)=true:=by
 cases s with
 |nil=>simp_all
 |cons x s=>
  have:=(h.wf x (by simp)).2;exact⟨this.1,this.2,Ie h.asc x (by simp),Wv.2 ⟨x,by simp,rfl⟩⟩
theorem RP {l:List A8}{i:Int}(h0:0≤i)(h1:i<l.length):∃e,C3 l i=some e∧e.Time=Ai6 l i:=by
 simp_all[C3,Ai6]
theorem AZ7 {s:List PR}(h:s≠[]):∃x,C3 s 0=some x∧x.At=hdA s:=by
 cases s with
 |nil=>simp_all
 |cons x s=>simp[C3,hdA]
theorem Vh {l:List A8}{p:A1}{b s:List PR}{a n:Nat}(h1:(a:Int)≤hdA s+1)(h2:hdA s≤(a:Int))(hn:(n:Int)=S4 s)(hh:RG s (hdA s)=true)(hl:S4 s<l.length):
 (List.range' a (n-a)).any (Ud l p b s)= !TQ l p b s:=by
 grind[Ud,TQ]
def AU9 (l:List A8)(p:A1)(b:List PR)(i:Nat):Bool:=match l[i]? with|some e=>decide (e.Typ=p.Typ)&&LR (Uw l b i) p.Var e p.cN|none=>false
end
end Go.Ab
