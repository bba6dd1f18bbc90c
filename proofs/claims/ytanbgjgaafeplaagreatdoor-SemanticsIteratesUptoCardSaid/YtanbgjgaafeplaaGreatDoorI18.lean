/- GTD4 GTD5 GTD6 GTR1 GTR2 GTV0 GTV1 GTV2 GTV3 GTV5 GTV6 GTV7 -/
import Derived.Test.YtanbgjgaafeplaaGreatDoorI17
set_option linter.all false
open Go.Ab.Ar (an ar cmp)
namespace Go.Ab
structure TN (B:Nat) (R:Nat) (y:Pr):Prop where
 from0:y.1.From=0
 to0:y.1.To=0
 done:y.2.done=true→y.2.p=zP
 cond:y.1.cP.bulk≤B
 checks:∀c∈y.1.Checks,c.bulk≤B
 rest:y.2.p.bulk≤R
theorem TN.mono {B R B' R':Nat}{y:Pr}(h:TN B R y)(hB:B≤B')(hR:R≤R'):TN B' R' y:=⟨h.from0,h.to0,h.done,Nat.le_trans h.cond hB,fun c hc=>Nat.le_trans (h.checks c hc) hB,Nat.le_trans h.rest hR⟩
def wth {α:Type}[DecidableEq α](l:List α)(x:α):List α:=if x∈l then l else l++[x]
def dd {α:Type}[DecidableEq α](l:List α):List α:=l.foldl wth []
section
variable {α:Type}[DecidableEq α]
theorem Aj8 (l m:List α):dd (l++m)=m.foldl wth (dd l):=by simp[dd,List.foldl_append]
end
end Go.Ab
namespace Go.Ab
def idxI {α:Type}(P:α→Bool)(l:List α):Int:=match l.findIdx? P with|none=> -1|some i=>(i:Int)
noncomputable abbrev idxP (l:List A0)(p:A0):Int:=idxI (fun q=>decide (p=q)) l
noncomputable def An8 (l:List A0)(y:Pr):List A0:=if y.2.done=true then l else wth l y.2.p
noncomputable def Xs (w:List Pr):List A0:=w.foldl An8 []
noncomputable def toOf (l:List A0)(r:J7):Int:=if r.done=true then -1 else idxP l r.p
noncomputable def eg (l:List A0)(y:Pr):JK:={y.1 with To:=toOf l y.2}
def YY (N:Nat)(w:List Pr):Prop:=2048<(dd w).length∨∃y∈w,y.2.done=false∧I4 N y.2.p≠0
noncomputable instance (N:Nat)(w:List Pr):Decidable (YY N w):=Classical.propDecidable _
theorem RJ (w v:List Pr):(dd w).length≤(dd (w++v)).length:=by
 rw[Aj8]
 have key:∀(v l:List Pr),l.length≤(v.foldl wth l).length:=fun v=>by
  induction v with
  |nil=>intro l;exact Nat.le_refl _
  |cons x v ih=>
   intro l;refine Nat.le_trans ?_ (ih (wth l x));unfold wth;split<;>simp
 exact key v _
theorem YY.mono {N:Nat}{w v:List Pr}(h:YY N w):YY N (w++v):=by
 rcases h with h|⟨y,hy,h⟩
 ·left;have:=RJ w v;omega
 right;exact⟨y,by simp[hy],h⟩
structure DerInv (N:Nat) (w:List Pr) (s:List A0×List JK):Prop where
 rs:s.1=Xs w
 es:s.2=(dd w).map (eg (Xs w))
 ok:¬YY N w
 len:(Xs w).length≤(dd w).length
end Go.Ab
namespace Go.Ab
theorem It {α R:Type} (P:α→Bool) (r:R):∀l:List α,H7 (fun(_:Unit) y=>if P y=true then some (Sum.inr r)else some (.inl ())) l ()=some (if l.any P=true then .inr r else .inl ())
 |[]=>rfl
 | y::l=>by
  unfold H7
  cases h:P y with
  |true=>simp[h]
  |false=>
   simp only[Bool.false_eq_true,if_false,List.any_cons,h,Bool.false_or];exact It P r l
theorem Good.sub {N:Nat}{x y:A0}(h:Good N x)(hy:y∈x.pre):Q9 N y=0:=h y hy
theorem WT {N:Nat} (hN:40000000≤N) {x:A0} (hb:x.bulk≤16777216):Bt N x=some (if I4 N x≠0 then I4 N x else if x.pre.any (fun y=>cmp .geq y.Op 8)=true then 1 else 0):=by
 unfold Bt;rw[Zy hN hb];simp only[Option.bind_some]
 by_cases h:I4 N x=0
 ·rw[if_neg (N2 h),if_neg (by simpa using h),GQ hN hb];simp only[Option.bind_some];rw[It (fun y:A0=>cmp .geq y.Op 8) (1:Int) x.pre]
  by_cases h2:x.pre.any (fun y=>cmp .geq y.Op 8)=true
  ·rw[if_pos h2,if_pos h2];rfl
  rw[if_neg h2,if_neg h2];rfl
 rw[if_pos (S5 h),if_pos h]
theorem Fd {N:Nat} {x:A0} (hz:I4 N x=0):x.pre.length≤64∧x.dep≤12∧Good N x:=by
 have hp:x.pre.length≤64:=by
  by_cases h:64<x.pre.length
  ·rw[I4,if_pos h]at hz;cases hz
  omega
 have hd:¬12<x.dep:=fun h=>by rw[I4,if_neg (by omega),if_pos h]at hz;cases hz
 rw[I4,if_neg (by omega),if_neg hd]at hz
 exact⟨hp,by omega,Z3.1 hz⟩
theorem Am (x:A0):x∈x.pre:=by rw[A0.pre_eq];simp
theorem UQ {α β:Type}{m:Option α}{F:α→Option β}{a:α}{r:Option β}(h1:m=some a)(h2:F a=r):m.bind F=r:=by rw[h1];exact h2
end Go.Ab
namespace Go.Ab
mutual
theorem MZ :∀x:A3,(∀y∈x.pre,y.Value.Text.size≤64)→x.bulk≤74*x.pre.length
 |⟨op,args,var,field,kind,v⟩,h=>by
  have h1:=KT args fun y hy=>h y (by rw[A3.pre];exact List.mem_cons_of_mem _ hy);have h2:v.Text.size≤64:=h ⟨op,args,var,field,kind,v⟩ (by rw[A3.pre];exact List.mem_cons_self ..);simp only[A3.bulk,A3.pre,List.length_cons];omega
theorem KT :∀l:List A3,(∀y∈A3.pres l,y.Value.Text.size≤64)→A3.bulks l≤1+74*(A3.pres l).length
 |[],_=>by simp[A3.bulks]
 |a::l,h=>by
  have h1:=MZ a fun y hy=>h y (by rw[A3.pres];exact List.mem_append_left _ hy);have h2:=KT l fun y hy=>h y (by rw[A3.pres];exact List.mem_append_right _ hy);simp only[A3.bulks,A3.pres,List.length_append];omega
end
theorem Il :(⟨#[]⟩:ByteArray).size=0:=rfl
theorem Sn {v:A5}(h:Nv v=true):v.Text.size≤64:=by
 simp only[Nv,L4,C4,Fc,Bool.and_eq_true,decide_eq_true_eq]at h
 rw[h.2.2.1,Il];omega
theorem Qb {v:A5} (h:I9 v=0):v.Text.size≤64:=by
 unfold I9 at h
 by_cases h1:v.Kind=0∨v.Kind=1
 ·rw[if_pos h1]at h
  by_cases h2:v.Text≠⟨#[]⟩
  ·rw[if_pos h2]at h;cases h
  have:v.Text=⟨#[]⟩:=Classical.not_not.1 h2;rw[this,Il];omega
 rw[if_neg h1]at h
 by_cases h2:v.Kind=2
 ·rw[if_pos h2]at h
  by_cases h3:v.Num≠0
  ·rw[if_pos h3]at h;cases h
  rw[if_neg h3]at h
  by_cases h4:64<(v.Text.size:Int)
  ·rw[if_pos h4]at h;cases h
  omega
 rw[if_neg h2]at h;cases h
theorem PC {x:A3} (h:R3 x=0):x.Value.Text.size≤64:=by
 unfold R3 at h
 by_cases h0:x.Op<0∨12<x.Op
 ·rw[if_pos h0]at h;cases h
 rw[if_neg h0]at h
 by_cases h1:(x.cO.length:Int)≠(if x.Op<5 then 0 else if x.Op=12 then 1 else 2)
 ·rw[if_pos h1]at h;cases h
 rw[if_neg h1]at h
 by_cases h2:Jf x=true
 ·rw[if_pos h2]at h;cases h
 rw[if_neg h2]at h
 by_cases h3:Jp x=true
 ·rw[if_pos h3]at h;cases h
 rw[if_neg h3]at h
 by_cases h4:x.Op=4∨x.Op=0
 ·by_cases h5:I9 x.Value=0
  ·exact Qb h5
  rw[if_pos ⟨h4,h5⟩]at h;exact absurd h h5
 rw[if_neg (fun e=>h4 e.1),if_neg (fun e=>h4 (.inl e.1))]at h
 by_cases h6:Cx x=true
 ·rw[if_pos h6]at h;cases h
 have h7:Nv x.Value=true:=by
  have n4:¬x.Op=4:=fun e=>h4 (.inl e);have n0:¬x.Op=0:=fun e=>h4 (.inr e)
  cases hz:Nv x.Value with
  |true=>rfl
  |false=>
   refine absurd ?_ h6;simp[Cx,M9,L4,U3,C4,n4,n0,hz]
 exact Sn h7
theorem La {c:A3}(h:E7 c=0):c.bulk≤4736:=by
 have hp:¬64<c.pre.length:=fun e=>by rw[E7,if_pos e]at h;cases h
 have hd:¬12<c.dep:=fun e=>by rw[E7,if_neg hp,if_pos e]at h;cases h
 rw[E7,if_neg hp,if_neg hd]at h
 have:=MZ c fun y hy=>PC (Z3.1 h y hy);omega
theorem Ml {N:Nat} (hN:40000000≤N) {y:A0} (hb:y.bulk≤16777216) (hl:y.cO.length≤64) (h:Q9 N y=0):(0≤y.Op∧y.Op≤10)∧∃s ng,Ge N y s ng∧y.cP.bulk≤4736:=by
 have hc:y.cP.bulk≤16777216:=by have:=A0.bulk_eq y;omega
 have hop:0≤y.Op∧y.Op≤10:=by
  by_cases ho:0≤y.Op∧y.Op≤10
  ·exact ho
  have h1:=(CE hN hb hl).1
  unfold Q8 at h1
  rw[if_pos (Ae7 ho).1,h]at h1
  cases h1
 obtain⟨s,ng,hs⟩:=Ja N y hop.1 hop.2 hl;have hz:=Xq hN N y.cP (⟨0,[],0,0,0,(⟨0,0,⟨#[]⟩⟩:A5)⟩:A3) (by omega) hc;have h1:=El hN hc hop.1 hop.2 hs hz
 rw[(CE hN hb hl).2,h]at h1
 have h1:=Option.some.inj h1;refine⟨hop,s,ng,hs,?_⟩
 by_cases ha:s.cU≤y.cO.length∧(y.cO.length:Int)≤s.most
 ·rw[if_pos ha]at h1
  unfold ET at h1
  by_cases e1:BC s.cS y.Typ 15=true
  ·rw[if_pos e1]at h1;cases h1
  rw[if_neg e1]at h1
  by_cases e2:BC s.cS y.Var 15=true
  ·rw[if_pos e2]at h1;cases h1
  rw[if_neg e2]at h1
  by_cases e3:BC s.scope y.cR 63=true
  ·rw[if_pos e3]at h1;cases h1
  rw[if_neg e3]at h1
  by_cases e4:BC s.span y.Span 1099511627776=true
  ·rw[if_pos e4]at h1;cases h1
  rw[if_neg e4]at h1
  by_cases e5:s.cond=true
  ·by_cases e6:E7 y.cP=0
   ·exact La e6
   rw[if_pos ⟨e5,e6⟩]at h1;exact absurd h1.symm e6
  rw[if_neg (fun e=>e5 e.1)]at h1
  by_cases e6:y.cP=(⟨0,[],0,0,0,(⟨0,0,⟨#[]⟩⟩:A5)⟩:A3)
  ·rw[e6];simp only[A3.bulk,A3.bulks,Il];omega
  rw[if_neg (fun e=>by
   have:=e.1
   rw[decide_eq_false e6]at this
   simp[e5]at this)]at h1
  cases h1
 rw[if_neg ha]at h1;cases h1
end Go.Ab
namespace Go.Ab
def cnt :List (Bool×Bool×A0)→Int→Int→Bool
 |[],_,_=>true
 |y::l,v,s=>(if y.1=true then decide (y.2.2.Var=v)else true)&&(if y.2.1=true then decide (y.2.2.cR=s)else true)&&cnt l (if y.1=true then v+1 else v) (if y.2.1=true then s+1 else s)
noncomputable def CP (y:A0):Bool:=match B7 D0 y.Op with|some s=>s.cS|none=>false
noncomputable def CR (y:A0):Bool:=match B7 D0 y.Op with|some s=>s.scope|none=>false
noncomputable def MV (l:List A0):Bool:=cnt (l.map fun y=>(CP y,CR y,y)) 0 0
def YX (N:Nat)(y:A0):Prop:=∃s ng,Ge N y s ng
theorem ME {N:Nat}(hN:40000000≤N){x:A0}(hb:x.bulk≤16777216)(hz:I4 N x=0):∀y∈x.pre,YX N y:=fun y hy=>by
 obtain⟨hp,hd,hg⟩:=Fd hz;have h1:=EE x y hy;have h2:=Dh y;obtain⟨_,s,ng,h,_⟩:=Ml hN (by omega) (by omega) (hg y hy);exact⟨s,ng,h⟩
theorem FN {a b:Int}(h:a<b):cmp .lss a b=true:=by rw[C1];exact decide_eq_true h
theorem Dd {a b:Int}(h:¬a<b):¬(cmp .lss a b=true):=by rw[C1];simpa using h
noncomputable def MU (s7:Bool×Int×Int)(y6:A0):Option ((Bool×Int×Int) ⊕ Unit):=
 (B7 D0 y6.Op).bind fun x11=>((if x11.cS=true then some (an s7.1 (cmp .eql y6.Var s7.2.2),ar .add .i64 s7.2.2 1)else some (s7.1,s7.2.2)):Option (Bool×Int)).bind fun s12=>if x11.scope=true then some (.inl (an s12.1 (cmp .eql y6.cR s7.2.1),ar .add .i64 s7.2.1 1,s12.2))else some (.inl (s12.1,s7.2.1,s12.2))
theorem Oo {N:Nat}:∀(l:List A0),(∀y∈l,YX N y)→∀(b:Bool) (v s:Int),0≤v→0≤s→v+l.length≤1000000→s+l.length≤1000000→
 ∃v' s',H7 MU l (b,s,v)=some (.inl (b&&cnt (l.map fun y=>(CP y,CR y,y)) v s,s',v'))
 |[],_,b,v,s,_,_,_,_=>⟨v,s,by simp[H7,cnt]⟩
 |y::l,h,b,v,s,hv,hs,hv2,hs2=>by
  simp only[List.length_cons]at hv2 hs2
  obtain⟨sh,ng,ok⟩:=h y (by simp)
  have et:CP y=sh.cS:=by unfold CP;rw[ok.tab]
  have es:CR y=sh.scope:=by unfold CR;rw[ok.tab]
  have ev:ar .add .i64 v 1=v+1:=C5 (by omega) (by omega);have ess:ar .add .i64 s 1=s+1:=C5 (by omega) (by omega);have hr:=fun b v' s' h1 h2 h3 h4=>Oo l (fun z hz=>h z (by simp[hz])) b v' s' h1 h2 h3 h4;simp only[List.map_cons,cnt,et,es]
  have step:∀b' v2 s2,MU (b,s,v) y=some (.inl (b',s2,v2))→H7 MU (y::l) (b,s,v)=H7 MU l (b',s2,v2):=fun b' v2 s2 h=>by simp only[H7,h]
  have hst:∀b' v2 s2,(some (.inl (b',s2,v2)):Option ((Bool×Int×Int) ⊕ Unit))=(((if sh.cS=true then some (an b (cmp .eql y.Var v),ar .add .i64 v 1)else some (b,v)):Option (Bool×Int)).bind fun s12=>if sh.scope=true then some (.inl (an s12.1 (cmp .eql y.cR s),ar .add .i64 s 1,s12.2))else some (.inl (s12.1,s,s12.2)))→H7 MU (y::l) (b,s,v)=H7 MU l (b',s2,v2):=fun b' v2 s2 h=>step b' v2 s2 (by rw[h];unfold MU;rw[ok.tab];rfl);cases ht:sh.cS<;>cases hc:sh.scope
  ·obtain⟨v',s',h1⟩:=hr b v s hv hs (by omega) (by omega);exact⟨v',s',by rw[hst b v s (by rw[ht,hc];rfl)];simpa using h1⟩
  ·obtain⟨v',s',h1⟩:=hr (b&&decide (y.cR=s)) v (s+1) hv (by omega) (by omega) (by omega);exact⟨v',s',by rw[hst (b&&decide (y.cR=s)) v (s+1) (by simp[ht,hc,ess,C4,L4])];simpa[Bool.and_assoc]using h1⟩
  ·obtain⟨v',s',h1⟩:=hr (b&&decide (y.Var=v)) (v+1) s (by omega) hs (by omega) (by omega);exact⟨v',s',by rw[hst (b&&decide (y.Var=v)) (v+1) s (by rw[ht,hc,ev,C4,L4];rfl)];simpa[Bool.and_assoc]using h1⟩
  obtain⟨v',s',h1⟩:=hr (b&&decide (y.Var=v)&&decide (y.cR=s)) (v+1) (s+1) (by omega) (by omega) (by omega) (by omega);exact⟨v',s',by rw[hst (b&&decide (y.Var=v)&&decide (y.cR=s)) (v+1) (s+1) (by rw[ht,hc,ev,ess,C4,C4,L4];rfl)];simpa[Bool.and_assoc]using h1⟩
theorem VL {N:Nat}(hN:40000000≤N){x:A0}(hb:x.bulk≤16777216)(hz:I4 N x=0):∃v s,Bu N x=some (v,s,MV x.pre):=by
 obtain⟨hp,hd,hg⟩:=Fd hz;obtain⟨v,s,h⟩:=Oo (N:=N) x.pre (ME hN hb hz) true 0 0 (by omega) (by omega) (by omega) (by omega);unfold Bu;rw[GQ hN hb];simp only[Option.bind_some];refine⟨v,s,UQ h ?_⟩;simp[MV]
noncomputable def Gt (N:Nat)(x:A0):Int:=if I4 N x≠0 then I4 N x else if x.pre.any (fun y=>cmp .geq y.Op 8)=true then 1 else if MV x.pre=true then 0 else 14
theorem VM {N:Nat} (hN:40000000≤N) {x:A0} (hb:x.bulk≤16777216):Bv N x=some (Gt N x):=by
 unfold Bv Gt;rw[WT hN hb];simp only[Option.bind_some]
 by_cases h:I4 N x=0
 ·rw[if_neg (show¬(I4 N x≠0) by simpa using h),if_neg (show¬(I4 N x≠0) by simpa using h)]
  by_cases h2:x.pre.any (fun y=>cmp .geq y.Op 8)=true
  ·rw[if_pos h2,if_pos h2,if_pos (S5 (by omega))]
  rw[if_neg h2,if_neg h2,if_neg (N2 rfl)];obtain⟨v,s,hr⟩:=VL hN hb h;rw[hr];simp only[Option.bind_some];cases MV x.pre<;>simp[U3]
 rw[if_pos h,if_pos (S5 h),if_pos h]
theorem VK {N:Nat}(l:List A0)(hl:l.length<N)(hs:l.length≤1000000):AY N l=some (!(l.any fun y=>cmp .geq y.Op 8)):=by
 unfold AY;rw[I7 l (by omega) (mk:=fun(_:Unit) i=>i) (body:=fun(_:Unit) a=>if cmp .geq a.Op 8=true then some (.inr (.inr ()))else some (.inl ())) (fin:=fun _=>.inl ()) (s:=()) (by omega) ?_ ?_]
 ·rw[It (fun y:A0=>cmp .geq y.Op 8) (Sum.inr ():Unit ⊕ Unit) l];cases h:l.any fun y=>cmp .geq y.Op 8<;>simp
 ·intro s i a ha hi;have e:ar .add .i64 (i:Int) 1=i+1:=C5 (by omega) (by omega);simp only[C1,B5,hi,decide_true,if_true,D9,ha,Option.bind_some,e];cases cmp .geq a.Op 8<;>rfl
 intro s;simp[C1,B5]
theorem VI {N:Nat} (hN:40000000≤N) {x:A0} (hb:x.bulk≤16777216):Z9 N x=some (Gt N x):=by
 unfold Z9 Gt;rw[Xt hN hb];simp only[Option.bind_some]
 by_cases h:I4 N x=0
 ·rw [if_neg (show¬(I4 N x≠0) by simpa using h),if_neg (N2 h),Mk hN N x (by omega) hb];have hpb:=DY x;obtain⟨hp,hd,hg⟩:=Fd h;simp only[Option.bind_some];rw[VK x.pre (by omega) (by omega)];simp only[Option.bind_some]
  by_cases h2:x.pre.any (fun y=>cmp .geq y.Op 8)=true
  ·rw[if_pos h2,h2,if_pos (show Ar.nt (!true)=true from rfl)]
  rw[if_neg h2,if_neg (by simp[U3,h2])];have hk:=ME hN hb h
  obtain ⟨r,k1,k2⟩:=Jl (S:=Int×Int×Int) (R:=Unit ⊕ Unit) (step:=fun(s4:Int×Int×Int)=>((if cmp .lss s4.2.2 (Ar.len x.pre)=true then(B7 x.pre s4.2.2).bind fun x6=>(O4 N x6).bind fun r7=>((if r7=true then(B7 x.pre s4.2.2).bind fun x9=>if cmp .neq x9.Var s4.1=true then some (.inr ())else some (.inl (ar .add .i64 s4.1 1))else some (.inl s4.1)):Option (Int ⊕ Unit)).bind fun s8=>match s8 with
          | .inl y10=>(B7 x.pre s4.2.2).bind fun x11=>(N7 N x11).bind fun r12=>if r12=true then(B7 x.pre s4.2.2).bind fun x13=>if cmp .neq x13.cR s4.2.1=true then some (.inr (.inr ()))else some (.inl (y10,ar .add .i64 s4.2.1 1,ar .add .i64 s4.2.2 1))else(B7 x.pre s4.2.2).bind fun x14=>(N1 N x14).bind fun r15=>if r15=true then(B7 x.pre s4.2.2).bind fun x16=>if cmp .neq x16.cR s4.2.1=true then some (.inr (.inr ()))else some (.inl (y10,ar .add .i64 s4.2.1 1,ar .add .i64 s4.2.2 1))else some (.inl (y10,s4.2.1,ar .add .i64 s4.2.2 1))
          | .inr y17=>some (.inr (.inr ()))
   else some (.inr (.inl ())))
   :Option ((Int×Int×Int) ⊕ (Unit ⊕ Unit))))
   (fun j s=>s.2.2=(j:Int)∧0≤s.1∧s.1≤j∧0≤s.2.1∧s.2.1≤j∧MV x.pre=cnt ((x.pre.drop j).map fun y=>(CP y,CR y,y)) s.1 s.2.1)
   (fun r=>r=if MV x.pre=true then .inl ()else .inr ()) x.pre.length 0 (0,0,0) N (by omega) ⟨rfl,by simp,by simp,by simp,by simp,rfl⟩
   (fun j s _ hj ⟨e,b1,b2,b3,b4,hc⟩=>by
    obtain⟨v,sc,i⟩:=s
    simp only at e b1 b2 b3 b4 hc
    subst e
    simp only[Nat.zero_add]at hj
    have e1:B7 x.pre (j:Int)=some x.pre[j]:=by rw[D9,List.getElem?_eq_getElem hj]
    obtain⟨sh,ng,ok⟩:=hk _ (List.getElem_mem hj)
    have et:CP x.pre[j]=sh.cS:=by unfold CP;rw[ok.tab]
    have es:CR x.pre[j]=sh.scope:=by unfold CR;rw[ok.tab]
    have ev:ar .add .i64 v 1=v+1:=C5 (by omega) (by omega);have ess:ar .add .i64 sc 1=sc+1:=C5 (by omega) (by omega);have ei:ar .add .i64 (j:Int) 1=((j+1:Nat):Int):=EI (by omega)
    rw[List.drop_eq_getElem_cons hj,List.map_cons,cnt]at hc
    simp only[et,es]at hc
    have sco:=ok.sco;rw[if_pos (FN (by simp only[B5];omega))];simp only[e1,Option.bind_some,ok.var,ok.neg,ok.tim,ev,ess,ei]
    by_cases hv:sh.cS=true∧x.pre[j].Var≠v
    ·rw[if_pos hv.1,if_pos (S5 hv.2)];refine⟨_,rfl,?_⟩;rw[hc];simp[hv.1,hv.2]
    have hv1:((if sh.cS=true then if cmp .neq x.pre[j].Var v=true then some (.inr ())else some (.inl (v+1))else some (.inl v)):Option (Int ⊕ Unit))=some (.inl (if sh.cS=true then v+1 else v)):=by
     by_cases ht:sh.cS=true
     ·rw[if_pos ht,if_pos ht,if_neg (N2 (Classical.not_not.1 fun e=>hv ⟨ht,e⟩))]
     rw[if_neg ht,if_neg ht]
    rw[hv1];simp only[Option.bind_some]
    have hcv:(if sh.cS=true then decide (x.pre[j].Var=v)else true)=true:=by
     by_cases ht:sh.cS=true
     ·rw[if_pos ht];exact decide_eq_true (Classical.not_not.1 fun e=>hv ⟨ht,e⟩)
     rw[if_neg ht]
    rw[hcv,Bool.true_and]at hc
    have hvb:0≤(if sh.cS=true then v+1 else v)∧(if sh.cS=true then v+1 else v)≤((j+1:Nat):Int):=by split<;>omega
    generalize (if sh.cS=true then v+1 else v)=v' at hc hvb ⊢
    by_cases hs:sh.scope=true
    ·rw[if_pos hs,if_pos hs]at hc
     by_cases hsc:x.pre[j].cR=sc
     ·have hgo:0≤sc+1∧sc+1≤((j+1:Nat):Int)∧MV x.pre=cnt ((x.pre.drop (j+1)).map fun y=>(CP y,CR y,y)) v' (sc+1):=by
       refine⟨?_,?_,?_⟩
       ·omega
       ·omega
       rw[hc,decide_eq_true hsc,Bool.true_and]
      by_cases hng:ng=true
      ·rw[if_pos hng,if_neg (N2 hsc)];exact⟨_,rfl,rfl,hvb.1,hvb.2,hgo⟩
      have hsp:sh.span=true:=by rw[hs]at sco;simpa[hng]using sco.symm
      rw[if_neg hng,if_pos hsp,if_neg (N2 hsc)];exact⟨_,rfl,rfl,hvb.1,hvb.2,hgo⟩
     have hno:MV x.pre=false:=by rw[hc,decide_eq_false hsc,Bool.false_and]
     by_cases hng:ng=true
     ·rw[if_pos hng,if_pos (S5 hsc)];exact⟨_,rfl,by rw[hno];rfl⟩
     have hsp:sh.span=true:=by rw[hs]at sco;simpa[hng]using sco.symm
     rw[if_neg hng,if_pos hsp,if_pos (S5 hsc)];exact⟨_,rfl,by rw[hno];rfl⟩
    rw[if_neg hs,if_neg hs,Bool.true_and]at hc
    have hs0:sh.scope=false:=by simpa using hs
    rw[hs0]at sco
    have hng:¬ng=true:=fun e=>by rw[e]at sco;cases sco
    have hsp:¬sh.span=true:=fun e=>by rw[e]at sco;simp at sco
    rw[if_neg hng,if_neg hsp];refine⟨_,rfl,rfl,hvb.1,hvb.2,b3,?_,hc⟩
    show sc≤_;omega)
   (fun s ⟨e,_,_,_,_,hc⟩=>by
    obtain⟨v,sc,i⟩:=s
    simp only[Nat.zero_add]at e hc
    subst e
    rw[List.drop_length]at hc
    rw[if_neg (Dd (by simp only[B5];omega))];refine⟨_,rfl,?_⟩
    rw[hc];rfl)
  refine UQ k1 ?_;subst k2;cases MV x.pre<;>rfl
 rw[if_pos h,if_pos (S5 h)]
end Go.Ab
namespace Go.Ab
theorem RG :∀{l:List A3} {a:A3},a∈l→a.dep≤A3.deps l
 |b::l,a,h=>by
  simp only[A3.deps]
  rcases List.mem_cons.1 h with rfl|h
  ·exact Nat.le_max_left _ _
  exact Nat.le_trans (RG h) (Nat.le_max_right _ _)
theorem Oh :∀{l:List A3} {a y:A3},a∈l→y∈a.pre→y∈A3.pres l
 |b::l,a,y,h,hy=>by
  simp only[A3.pres,List.mem_append]
  rcases List.mem_cons.1 h with rfl|h
  ·exact .inl hy
  exact .inr (Oh h hy)
theorem LZ {α R:Type} {body:Unit→α→Option (Unit ⊕ R)} {p:α→Bool} {r:R}:∀{l:List α},(∀x∈l,body () x=some (if p x=true then .inl ()else .inr r))→H7 body l ()=some (if l.all p=true then .inl ()else .inr r)
 |[],_=>rfl
 | x::l,h=>by
  unfold H7;rw[h x (by simp),List.all_cons]
  by_cases hx:p x=true
  ·rw[if_pos hx,hx]
   dsimp only
   rw[LZ fun y hy=>h y (by simp[hy])];rfl
  rw[if_neg hx]
  dsimp only
  rw[Bool.not_eq_true]at hx
  rw[hx];rfl
theorem Ap7 {x:A3} (h:R3 x=0):(x.Op=1∨x.Op=4→0≤x.Field∧x.Field<8)∧(1≤x.Op∧x.Op≤4→0≤x.Var∧x.Var<16):=by
 have h3:Jf x=false:=by
  cases hh:Jf x with
  |false=>rfl
  |true=>
   exfalso
   unfold R3 at h
   by_cases a:x.Op<0∨12<x.Op
   ·rw[if_pos a]at h;cases h
   rw[if_neg a]at h
   by_cases b:(x.cO.length:Int)≠(if x.Op<5 then 0 else if x.Op=12 then 1 else 2)
   ·rw[if_pos b]at h;cases h
   rw[if_neg b,if_pos hh]at h
   cases h
 unfold Jf at h3
 simp only[M9,L4,C1,K2,Bool.or_eq_false_iff,Bool.and_eq_false_iff,decide_eq_false_iff_not]at h3
 obtain⟨hv,hf⟩:=h3
 constructor
 ·intro e
  rcases hf with hf|hf
  ·exfalso
   unfold WV at hf
   rcases e with e|e<;>simp[e,C4,M9]at hf
  omega
 intro e
 rcases hv with hv|hv
 ·exfalso
  have h4:x.Op=1∨x.Op=2∨x.Op=3∨x.Op=4:=by omega
  unfold Bs at hv
  rcases h4 with e|e|e|e<;>simp[e,C4,M9]at hv
 omega
end Go.Ab
namespace Go.Ab
noncomputable section
def Br :A5:=⟨0,0,⟨#[]⟩⟩
def AJ (k:Int)(v:A5):Int:=if I9 v≠0 then I9 v else if v.Kind=0∨(k≠1∧k≠2∧k≠3)then 0 else 9
def Ou (k:Int)(a b:A5):A5:=
 if k=1 then⟨0,ar .add .i64 a.Num b.Num,⟨#[]⟩⟩else if k=2 then⟨0,Ar.mn a.Num b.Num,⟨#[]⟩⟩else if k=3 then⟨0,Ar.mx a.Num b.Num,⟨#[]⟩⟩else if k=4 then a else if k=5 then b else Br
def Dt (k:Int)(v:A5):A5:=if k=0 then Br else v
def Ed (k:Int):List A5→A5
 |[]=>Br
 |v::l=>l.foldl (fun a b=>Ou k a (Dt k b)) (Dt k v)
def Al2 (k:Int)(l:List A5)(o:A5):A5×Int:=
 if k<0∨5<k then(Br,1)else if 4096<l.length then(Br,5)else if V5 (AJ k) l≠0 then(Br,V5 (AJ k) l)else if AJ k o≠0 then(Br,AJ k o)
 else if k=0 then(⟨0,l.length,⟨#[]⟩⟩,0)else if l=[]∧k≠1 then(o,0)else(Ed k l,0)
theorem LE (N:Nat)(k:Int)(v:A5):T3 N k v=some (decide (v.Kind=0∨(k≠1∧k≠2∧k≠3))):=by
 unfold T3;simp only[M9,L4,C4,H9,Option.some.injEq]
 by_cases h0:v.Kind=0<;>by_cases h1:k=1<;>by_cases h2:k=2<;>by_cases h3:k=3<;>simp[h0,h1,h2,h3]
theorem Qa (N:Nat) (k:Int) (v:A5):M8 N k v=some (AJ k v):=by
 unfold M8 AJ;rw[IU,LE];simp only[Option.bind_some]
 by_cases h:I9 v=0
 ·rw[if_neg (N2 h),if_neg (show¬I9 v≠0 by simpa using h)]
  by_cases h2:v.Kind=0∨(k≠1∧k≠2∧k≠3)
  ·rw[if_neg (by rw[U3,decide_eq_true h2];decide),if_pos h2]
  rw[if_pos (by rw[U3,decide_eq_false h2];rfl),if_neg h2]
 rw[if_pos (S5 h),if_pos h]
theorem PZ {k:Int}{v:A5}(h:AJ k v=0):I9 v=0∧(v.Kind=0∨(k≠1∧k≠2∧k≠3)):=by
 unfold AJ at h
 split at h
 ·rename_i h1;exact absurd h h1
 rename_i h1
 split at h
 ·rename_i h2;exact⟨by simpa using h1,h2⟩
 cases h
theorem Hs {v:A5}(h:I9 v=0)(hk:v.Kind=0):v.Text=⟨#[]⟩∧ -1099511627776≤v.Num∧v.Num≤1099511627776:=by
 unfold I9 at h
 rw[if_pos (.inl hk)]at h
 split at h
 ·cases h
 rename_i h1
 split at h
 ·cases h
 rename_i h2;refine⟨by simpa using h1,?_⟩
 simp only[hk,true_and]at h2
 omega
theorem Ul {n:Int}(h0: -1099511627776≤n)(h1:n≤1099511627776):I9 ⟨0,n,⟨#[]⟩⟩=0:=by
 unfold I9;simp only[true_or,if_true,ne_eq,not_true_eq_false,if_false];rw[if_neg (by simp;omega)]
structure UX (k:Int) (n:Nat) (v:A5):Prop where
 c:k=0→v=Br
 s:k=1→v.Kind=0∧v.Text=⟨#[]⟩∧ -(1099511627776*(n:Int))≤v.Num∧v.Num≤1099511627776*(n:Int)
 m:k=2∨k=3→I9 v=0∧v.Kind=0
 f:k=4∨k=5→I9 v=0
theorem Yq {k:Int}{v:A5}(h:AJ k v=0):UX k 1 (Dt k v):=by
 obtain⟨h1,h2⟩:=PZ h;unfold Dt
 by_cases k0:k=0
 ·rw[if_pos k0];exact⟨fun _=>rfl,by omega,by omega,by omega⟩
 rw[if_neg k0];refine⟨by omega,fun e=>?_,fun e=>⟨h1,by omega⟩,fun _=>h1⟩
 have hk:v.Kind=0:=by omega
 obtain⟨a,b,c⟩:=Hs h1 hk;exact⟨hk,a,by omega,by omega⟩
theorem Wf {k:Int} {n:Nat} {a v:A5} (ha:UX k n a) (hn:n≤4096) (h:AJ k v=0):UX k (n+1) (Ou k a (Dt k v)):=by
 obtain⟨h1,h2⟩:=PZ h;unfold Ou
 by_cases k1:k=1
 ·rw[if_pos k1]
  have hk:v.Kind=0:=by omega
  obtain⟨_,b,c⟩:=Hs h1 hk;obtain⟨_,_,d,e⟩:=ha.s k1;have e1:Dt k v=v:=if_neg (by omega);rw[e1];have e2:ar .add .i64 a.Num v.Num=a.Num+v.Num:=C5 (by omega) (by omega);rw[e2];exact⟨by omega,fun _=>⟨rfl,rfl,by simp only;omega,by simp only;omega⟩,by omega,by omega⟩
 rw[if_neg k1]
 by_cases k2:k=2
 ·rw[if_pos k2]
  have hk:v.Kind=0:=by omega
  obtain⟨_,b,c⟩:=Hs h1 hk;obtain⟨d,e⟩:=ha.m (.inl k2);obtain⟨_,d1,d2⟩:=Hs d e;have e1:Dt k v=v:=if_neg (by omega);rw[e1];refine⟨by omega,by omega,fun _=>⟨?_,rfl⟩,by omega⟩
  show I9 ⟨0,if v.Num<a.Num then v.Num else a.Num,⟨#[]⟩⟩=0
  split<;>exact Ul (by omega) (by omega)
 rw[if_neg k2]
 by_cases k3:k=3
 ·rw[if_pos k3]
  have hk:v.Kind=0:=by omega
  obtain⟨_,b,c⟩:=Hs h1 hk;obtain⟨d,e⟩:=ha.m (.inr k3);obtain⟨_,d1,d2⟩:=Hs d e;have e1:Dt k v=v:=if_neg (by omega);rw[e1];refine⟨by omega,by omega,fun _=>⟨?_,rfl⟩,by omega⟩
  show I9 ⟨0,if a.Num<v.Num then v.Num else a.Num,⟨#[]⟩⟩=0
  split<;>exact Ul (by omega) (by omega)
 rw[if_neg k3]
 by_cases k4:k=4
 ·rw[if_pos k4];exact⟨by omega,by omega,by omega,fun _=>ha.f (.inl k4)⟩
 rw[if_neg k4]
 by_cases k5:k=5
 ·rw[if_pos k5];have e1:Dt k v=v:=if_neg (by omega);rw[e1];exact⟨by omega,by omega,by omega,fun _=>h1⟩
 rw[if_neg k5];exact⟨fun _=>rfl,by omega,by omega,by omega⟩
theorem TI {N:Nat}{k:Int}(h0:0≤k)(h5:k≤5)(a b:A5):Y0 N k a b=some (Ou k a b):=by
 have h:k=0∨k=1∨k=2∨k=3∨k=4∨k=5:=by omega
 rcases h with rfl|rfl|rfl|rfl|rfl|rfl<;>rfl
theorem Vo (N:Nat)(k:Int)(v:A5):Z4 N k v=some (Dt k v):=by
 unfold Z4 Dt;rw[C4]
 by_cases h:k=0
 ·rw[if_pos (decide_eq_true h),if_pos h];rfl
 rw[if_neg (by simpa using h),if_neg h]
def Ct (k:Int)(l:List A5):C8:=⟨k,l.length,Ed k l⟩
theorem MK (k:Int)(l:List A5)(v:A5):Ed k (l++[v])=if l=[]then Dt k v else Ou k (Ed k l) (Dt k v):=by
 cases l with
 |nil=>rfl
 |cons a l=>simp[Ed,List.foldl_append]
theorem Zm {N:Nat} {k:Int} (h0:0≤k) (h5:k≤5) (l:List A5) (hl:l.length≤4096) (v:A5):M6 N (Ct k l) v k=some (Ct k (l++[v])):=by
 unfold M6;rw[Vo];simp only[Option.bind_some];unfold Bh;rw[C4,C4]
 have e:Ct k (l++[v])=⟨k,(l.length:Int)+1,if l=[]then Dt k v else Ou k (Ed k l) (Dt k v)⟩:=by
  unfold Ct;rw[MK];simp
 rw[e]
 cases l with
 |nil=>rfl
 | cons a l=>
  have hc:¬(decide ((Ct k (a::l)).Count=0)=true):=by
   show¬decide (((a::l).length:Int)=0)=true
   simp only[List.length_cons,decide_eq_true_eq];omega
  rw[if_neg hc,if_neg (by simp)]
  show((Y0 N k (Ed k (a::l)) (Dt k v)).bind _).bind _=_
  rw[TI h0 h5];simp only[Option.bind_some,Ct,reduceCtorEq,if_false];rw[C5 (by simp at hl ⊢;omega) (by simp at hl ⊢;omega)]
theorem Rv {k:Int}:∀(n:Nat) {l:List A5},l.length=n→l≠[]→l.length≤4096→(∀v∈l,AJ k v=0)→UX k l.length (Ed k l):=by
 intro n
 induction n with
 |zero=>intro l h0 h;exact absurd (List.eq_nil_of_length_eq_zero h0) h
 |succ n ih=>
  intro l h0 h hn hv
  rcases List.eq_nil_or_concat l with rfl|⟨q,v,rfl⟩
  ·exact absurd rfl h
  rw[List.concat_eq_append]at *
  rw[MK,List.length_append];have hw:=hv v (by simp)
  simp only[List.length_append,List.length_cons,List.length_nil]at hn h0
  by_cases h:q=[]
  ·subst h;rw[if_pos rfl];exact Yq hw
  rw[if_neg h];exact Wf (ih (by omega) h (by omega) fun x hx=>hv x (by simp[hx])) (by omega) hw
theorem RZ {N:Nat} {k:Int} (h0:0≤k) (h5:k≤5) {l:List A5} (hl:l.length≤4096) (hv:∀v∈l,AJ k v=0):Aq N (Ct k l)=some 0:=by
 unfold Aq X0;simp only[Option.bind_some]
 have e1:¬(Ar.nt (an (cmp .geq (Ct k l).Kind 0) (cmp .leq (Ct k l).Kind 5))=true):=by
  show¬((!(decide (0≤k)&&decide (k≤5)))=true)
  simp;omega
 have e2:¬(Ar.or (cmp .lss (Ct k l).Count 0) (cmp .gtr (Ct k l).Count 4096)=true):=by
  show¬((decide ((l.length:Int)<0)||decide (4096<(l.length:Int)))=true)
  simp;omega
 rw[if_neg e1,if_neg e2]
 by_cases hz:l=[]∨k=0
 ·have e3:Ar.or (cmp .eql (Ct k l).Count 0) (cmp .eql (Ct k l).Kind 0)=true:=by
   show(decide ((l.length:Int)=0)||decide (k=0))=true
   rcases hz with rfl|h
   ·rfl
   simp[h]
  have e4:(Ct k l).Value=Br:=by
   by_cases hn:l=[]
   ·subst hn;rfl
   exact(Rv _ rfl hn hl hv).c (hz.resolve_left hn)
  rw[if_pos e3,e4];exact if_neg (by simp[U3,L4,C4,Fc,Br])
 have hn:l≠[]:=fun h=>hz (.inl h);have hk:k≠0:=fun h=>hz (.inr h);have hlen:l.length≠0:=fun h=>hn (List.eq_nil_of_length_eq_zero h)
 have e3:¬(Ar.or (cmp .eql (Ct k l).Count 0) (cmp .eql (Ct k l).Kind 0)=true):=by
  show¬((decide ((l.length:Int)=0)||decide (k=0))=true)
  simp[hk,hn]
 rw[if_neg e3];have g:=Rv _ rfl hn hl hv
 by_cases k1:k=1
 ·rw[if_pos (show cmp .eql (Ct k l).Kind 1=true from decide_eq_true k1)];obtain⟨a,b,c,d⟩:=g.s k1;have ev:(Ct k l).Value=Ed k l:=rfl;have ec:(Ct k l).Count=(l.length:Int):=rfl;have em:ar .mul .i64 (l.length:Int) 1099511627776=(l.length:Int)*1099511627776:=CV (by omega) (by omega)
  have en:Ar.neg .i64 ((l.length:Int)*1099511627776)= - ((l.length:Int)*1099511627776):=by
   show IntKind.wrap .i64 (0 - (l.length:Int)*1099511627776)=_
   rw[CV (by omega) (by omega)];omega
  rw[ev,ec,em,en];rw[if_neg];simp only[U3,L4,C4,K2,DF,Fc];rw[decide_eq_true a,decide_eq_true b,decide_eq_true (show -((l.length:Int)*1099511627776)≤(Ed k l).Num by omega),decide_eq_true (show(Ed k l).Num≤(l.length:Int)*1099511627776 by omega)]
  decide
 rw[if_neg (show¬(cmp .eql (Ct k l).Kind 1=true)from(by show¬decide (k=1)=true;simpa using k1))]
 have hvb:I9 (Ed k l)=0:=by
  by_cases h23:k=2∨k=3
  ·exact(g.m h23).1
  exact g.f (by omega)
 have hsu:(Ed k l).Kind=0∨(k≠1∧k≠2∧k≠3):=by
  by_cases h23:k=2∨k=3
  ·exact .inl (g.m h23).2
  exact .inr (by omega)
 show((U5 N (Ed k l)).bind _)=_
 rw[IU,hvb];simp only[Option.bind_some];rw[if_pos (show cmp .eql 0 0=true from rfl)]
 show((T3 N k (Ed k l)).bind _)=_
 rw[LE,decide_eq_true hsu];rfl
theorem Al1 {N:Nat} (hN:40000000≤N) (k:Int) {l:List A5} (hl:l.length<1000000) (o:A5):Cp N k l o=some (Al2 k l o):=by
 unfold Cp Al2 X0;simp only[Option.bind_some]
 by_cases h0:k<0∨5<k
 ·rw[if_pos (by show(!(decide (0≤k)&&decide (k≤5)))=true;simp;omega),if_pos h0];rfl
 rw[if_neg (by show¬((!(decide (0≤k)&&decide (k≤5)))=true);simp;omega),if_neg h0]
 by_cases h1:4096<l.length
 ·rw[if_pos (Be (by rw[B5];omega)),if_pos h1];rfl
 rw[if_neg (X7 (by rw[B5];omega)),if_neg h1];rw[I7 l (by omega) (mk:=fun(_:Unit) i=>i) (body:=Ax fun v=>M8 N k v) (fin:=fun _=>.inl ()) (s:=()) (by omega) ?_ ?_]
 ·rw [Y1 (f:=AJ k) fun v _=>Qa N k v]
  by_cases h2:V5 (AJ k) l=0
  ·rw [if_pos h2,if_neg (show¬V5 (AJ k) l≠0 by simpa using h2)];have hv:=Z3.1 h2;simp only[Option.bind_some]
   have hf:G2 N (⟨k,0,⟨0,0,⟨#[]⟩⟩⟩:C8) l (fun y1 y2=>M6 N y1 y2 k)=some (Ct k l):=by
    unfold G2;rw[I7 l (by omega) (mk:=fun(s:C8) i=>(i,s)) (body:=fun s v=>(M6 N s v k).bind fun r=>some (.inl r)) (fin:=fun s=>s) (s:=⟨k,0,⟨0,0,⟨#[]⟩⟩⟩) (by omega) ?_ ?_]
    ·obtain⟨s',k1,p,k2,k3⟩:=Z0 (R:=C8) (step:=fun s v=>(M6 N s v k).bind fun r=>some (.inl r)) (fun r s=>∃p,p++r=l∧s=Ct k p) (fun v r s ⟨p,e1,e2⟩=>by
      subst e2
      refine⟨_,by rw[Zm (by omega) (by omega) p (by have:=congrArg List.length e1;simp at this;omega)];rfl,p++[v],by simpa using e1,rfl⟩) (l:=l) (s:=⟨k,0,⟨0,0,⟨#[]⟩⟩⟩) ⟨[],rfl,rfl⟩
     simp only[k1,Option.bind_some]
     rw[List.append_nil]at k2
     rw[k3,k2]
    ·intro s i a ha hi;have e:ar .add .i64 (i:Int) 1=i+1:=C5 (by omega) (by omega);simp only[C1,B5,hi,decide_true,if_true,D9,ha,Option.bind_some,e];cases M6 N s a k<;>rfl
    intro s;simp[C1,B5]
   rw[hf];simp only[Option.bind_some];unfold Bi;rw[RZ (by omega) (by omega) (by omega) hv];simp only[Option.bind_some];rw[if_neg (show¬(cmp .neq 0 0=true) by decide)]
   show((M8 N k o).bind _).bind _=_
   rw[Qa];simp only[Option.bind_some]
   by_cases h3:AJ k o=0
   ·rw[if_neg (N2 h3),if_neg (show¬AJ k o≠0 by simpa using h3)]
    by_cases h4:k=0
    ·rw[if_pos (show cmp .eql (Ct k l).Kind 0=true from decide_eq_true h4),if_pos h4];rfl
    rw[if_neg (show¬(cmp .eql (Ct k l).Kind 0=true)from(by show¬decide (k=0)=true;simpa using h4)),if_neg h4]
    by_cases h5:l=[]∧k≠1
    ·rw[if_pos (show an (cmp .eql (Ct k l).Count 0) (cmp .neq (Ct k l).Kind 1)=true by show(decide ((l.length:Int)=0)&& !decide (k=1))=true;simp[h5.1,h5.2]),if_pos h5];rfl
    rw[if_neg (show¬(an (cmp .eql (Ct k l).Count 0) (cmp .neq (Ct k l).Kind 1)=true) by show¬((decide ((l.length:Int)=0)&& !decide (k=1))=true);simpa using h5),if_neg h5];rfl
   rw[if_pos (S5 h3),if_pos h3];rfl
  rw[if_neg h2,if_pos h2];rfl
 ·intro s i a ha hi;have e:ar .add .i64 (i:Int) 1=i+1:=C5 (by omega) (by omega);simp only[C1,B5,hi,decide_true,if_true,D9,ha,Option.bind_some,e,Ax,H9]
  cases M8 N k a with
  |none=>rfl
  |some r=>by_cases h:r=0<;>simp[h]
 intro s;simp[C1,B5]
end
end Go.Ab
namespace Go.Ab
noncomputable section
def Ft (env:Cu)(v:Int):List A6:=if v<0∨(env.cV.length:Int)≤v then[]else env.cV.getD v.toNat []
def EW (e:A6)(k:Int):A5×Int:=if(e.Values.length:Int)≤k then(Br,6)else(e.Values.getD k.toNat Br,0)
def Sz (rows:List A6)(x:A3):A5×Int:=
 if(rows.all fun e=>decide (x.Field<(e.Values.length:Int)))=true then Al2 x.Kind (rows.map fun e=>e.Values.getD x.Field.toNat Br) x.Value else(Br,6)
def Kh (rows:List A6)(own:Int)(ev:A6)(v:Int):Option A6:=if v≠own then rows.getLast? else some ev
def Ae4 (y:A6)(x:A3):A5×Int:=
 if x.Op=2 then(⟨0,y.Time,⟨#[]⟩⟩,0)else if(EW y x.Field).2≠0 then(Br,(EW y x.Field).2)else if I9 (EW y x.Field).1≠0 then(Br,I9 (EW y x.Field).1)else((EW y x.Field).1,0)
def Fk (env:Cu)(own:Int)(ev:A6)(x:A3):A5×Int:=
 if x.Op=0 then(x.Value,0)else if x.Op=3 then(⟨0,(Ft env x.Var).length,⟨#[]⟩⟩,0)else if x.Op=4 then Sz (Ft env x.Var) x
 else match Kh (Ft env x.Var) own ev x.Var with|none=>(Br,10)|some y=>Ae4 y x
theorem HK {x:A3}(hx:R3 x=0):0≤x.Op∧x.Op≤12∧(x.cO.length:Int)=(if x.Op<5 then 0 else if x.Op=12 then 1 else 2):=by
 unfold R3 at hx
 by_cases h1:x.Op<0∨12<x.Op
 ·rw[if_pos h1]at hx;cases hx
 rw[if_neg h1]at hx
 by_cases h2:(x.cO.length:Int)≠(if x.Op<5 then 0 else if x.Op=12 then 1 else 2)
 ·rw[if_pos h2]at hx;cases hx
 exact⟨by omega,by omega,by simpa using h2⟩
def LS (e:Cu):Prop:=e.cV.length<1000000∧∀l∈e.cV,l.length<1000000
theorem UL {env:Cu}(h:LS env)(v:Int):(Ft env v).length<1000000:=by
 unfold Ft
 split
 ·simp
 rename_i hv
 have hi:v.toNat<env.cV.length:=by omega
 rw[List.getD_eq_getElem?_getD,List.getElem?_eq_getElem hi];exact h.2 _ (List.getElem_mem hi)
theorem KL (N:Nat)(env:Cu)(own:Int)(ev:A6)(u:Unit)(v:Int):M5 N ⟨env,own,ev,u⟩ v=some (Ft env v):=by
 unfold M5 Ft
 by_cases h:v<0∨(env.cV.length:Int)≤v
 ·rw[if_pos (by simp only[M9,C1,K2,B5];simpa using h),if_pos h]
 rw[if_neg (by simp only[M9,C1,K2,B5];simpa using h),if_neg h]
 have hi:v.toNat<env.cV.length:=by omega
 have hv:v=(v.toNat:Int):=by omega
 rw[hv,D9];simp only[List.getD_eq_getElem?_getD,Int.toNat_natCast,List.getElem?_eq_getElem hi,Option.bind_some,Option.getD_some]
theorem MN (N:Nat)(e:A6){k:Int}(hk:0≤k):Ah N e k=some (EW e k):=by
 unfold Ah EW
 by_cases h:(e.Values.length:Int)≤k
 ·rw[if_pos (by rw[K2,B5];exact decide_eq_true h),if_pos h];rfl
 rw[if_neg (by rw[K2,B5];simpa using h),if_neg h]
 have hi:k.toNat<e.Values.length:=by omega
 have hv:k=(k.toNat:Int):=by omega
 rw[hv,D9];simp only[List.getD_eq_getElem?_getD,Int.toNat_natCast,List.getElem?_eq_getElem hi,Option.bind_some,Option.getD_some]
theorem LY {α β R:Type} {body:List β→α→Option (List β ⊕ R)} {p:α→Bool} {g:α→β} {r:R}:∀{l:List α} {s:List β},s.length+l.length≤1000000→(∀(s:List β) x,x∈l→s.length≤1000000→body s x=some (if p x=true then .inl (s++[g x])else .inr r))→
 H7 body l s=some (if l.all p=true then .inl (s++l.map g)else .inr r)
 |[],s,_,_=>by simp[H7]
 |x::l,s,hl,h=>by
  simp only[H7,h s x (by simp) (by simp at hl;omega)]
  by_cases hp:p x=true
  ·simp only[hp,if_true];rw[LY (by simp at hl ⊢;omega) fun s y hy=>h s y (by simp[hy])];simp[hp]
  simp[hp]
theorem Tz {N:Nat} (hN:40000000≤N) {env:Cu} (he:LS env) (own:Int) (ev:A6) (u:Unit) {x:A3} (hf:0≤x.Field):S1 N ⟨env,own,ev,u⟩ x=some (Sz (Ft env x.Var) x):=by
 have hl:=UL he x.Var;unfold S1 Sz;rw[KL];simp only[Option.bind_some]
 generalize Ft env x.Var=rows at hl
 rw[I7 rows (by omega) (mk:=fun(s:List A5) i=>(s,i)) (body:=fun s e=>(Ah N e x.Field).bind fun r=>if cmp .neq r.2 0=true then some (.inr (.inr r.2))else(N6 s [r.1]).bind fun l=>some (.inl l)) (fin:=fun s=>.inl s) (s:=[]) (by omega) ?_ ?_]
 ·rw[LY (p:=fun e=>decide (x.Field<(e.Values.length:Int))) (g:=fun e=>e.Values.getD x.Field.toNat Br) (r:=.inr 6) (by simp;omega) (fun s e _ hs=>by
   rw[MN N e hf];unfold EW
   by_cases h:(e.Values.length:Int)≤x.Field
   ·rw[if_pos h,if_neg (by simpa using h)];rfl
   rw[if_neg h,if_pos (by simpa using h)];simp only[Option.bind_some]
   rw[if_neg (by decide),Y6 (by simp;omega)];rfl)]
  by_cases h:(rows.all fun e=>decide (x.Field<(e.Values.length:Int)))=true
  ·rw[if_pos h,if_pos h];simp only[Option.bind_some,List.nil_append];rw[Al1 hN _ (by simpa using hl)];rfl
  rw[if_neg h,if_neg h];rfl
 ·intro s i a ha hi;have e:ar .add .i64 (i:Int) 1=i+1:=C5 (by omega) (by omega);simp only[C1,B5,hi,decide_true,if_true,D9,ha,Option.bind_some,e]
  cases Ah N a x.Field with
  |none=>rfl
  |some r=>
   simp only[Option.bind_some]
   split
   ·rfl
   cases N6 s [r.1]<;>rfl
 intro s;simp[C1,B5]
theorem Wo {N:Nat} (hN:40000000≤N) {env:Cu} (he:LS env) (own:Int) (ev:A6) (u:Unit) {x:A3} (hx:R3 x=0) (ha:x.cO=[]):T7 N ⟨env,own,ev,u⟩ x=some (Fk env own ev x):=by
 have hok:=Ap7 hx
 have hop:0≤x.Op∧x.Op<5:=by
  have:=HK hx
  rw[ha]at this
  simp only[List.length_nil]at this
  obtain⟨h1,h2,h3⟩:=this
  by_cases h5:x.Op<5
  ·exact⟨h1,h5⟩
  rw[if_neg h5]at h3
  split at h3<;>omega
 have hl:=UL he x.Var;unfold T7 Fk;rw[KL];simp only[Option.bind_some]
 by_cases h0:x.Op=0
 ·rw[if_pos (by rw[C4];exact decide_eq_true h0),if_pos h0]
 rw[if_neg (by rw[C4];simpa using h0),if_neg h0]
 by_cases h3:x.Op=3
 ·rw[if_pos (by rw[C4];exact decide_eq_true h3),if_pos h3];rfl
 rw[if_neg (by rw[C4];simpa using h3),if_neg h3]
 by_cases h4:x.Op=4
 ·rw[if_pos (by rw[C4];exact decide_eq_true h4),if_pos h4,Tz hN he own ev u (hok.1 (.inr h4)).1];rfl
 rw[if_neg (by rw[C4];simpa using h4),if_neg h4]
 have key:((if cmp .neq x.Var own=true then if cmp .eql (Ar.len (Ft env x.Var)) 0=true then some (.inr ())else(B7 (Ft env x.Var) (ar .sub .i64 (Ar.len (Ft env x.Var)) 1)).bind fun x6=>some (.inl x6)else some (.inl ev)):Option (A6 ⊕ Unit))=some (match Kh (Ft env x.Var) own ev x.Var with|some y=>.inl y|none=>.inr ()):=by
  unfold Kh
  by_cases hv:x.Var=own
  ·rw[if_neg (N2 hv),if_neg (by simpa using hv)]
  rw[if_pos (S5 hv),if_pos hv]
  generalize Ft env x.Var=rows at hl
  rcases List.eq_nil_or_concat rows with rfl|⟨q,y,rfl⟩
  ·rfl
  rw[List.concat_eq_append]at *
  have e1:ar .sub .i64 (Ar.len (q++[y])) 1=(q.length:Int):=by
   have:ar .sub .i64 (Ar.len (q++[y])) 1=Ar.len (q++[y]) - 1:=CV (by rw[B5];omega) (by rw[B5];omega);rw[this,B5];simp
  rw[if_neg (by rw[C4,B5];simp;omega),e1,D9];simp
 have key2:=congrArg (fun o=>o.bind fun s5=>match s5 with
  | .inl y7=>
   if cmp .eql x.Op 2=true then
    some ((⟨0,y7.Time,⟨#[]⟩⟩:A5),(0:Int))
   else
    (Ah N y7 x.Field).bind fun r8=>
    ((
     if cmp .eql r8.2 0=true then
      (U5 N r8.1).bind fun r10=>
      some r10
     else
      some r8.2
    ):Option (Int)).bind fun s9=>
    if cmp .neq s9 0=true then
     some ((⟨0,0,⟨#[]⟩⟩:A5),s9)
    else
     some (r8.1,0)
  | .inr y11=>
   some ((⟨0,0,⟨#[]⟩⟩:A5),10)) key
 refine key2.trans ?_
 cases hy:Kh (Ft env x.Var) own ev x.Var with
 |none=>rfl
 | some y=>
  simp only[Option.bind_some];unfold Ae4
  by_cases h2:x.Op=2
  ·rw[if_pos (by rw[C4];exact decide_eq_true h2),if_pos h2]
  rw[if_neg (by rw[C4];simpa using h2),if_neg h2]
  have h1:x.Op=1:=by omega
  rw[MN N y (hok.1 (.inl h1)).1];simp only[Option.bind_some]
  by_cases hb:(EW y x.Field).2=0
  ·rw[if_pos (by rw[C4];exact decide_eq_true hb),IU,if_neg (by simpa using hb)];simp only[Option.bind_some]
   by_cases hc:I9 (EW y x.Field).1=0
   ·rw[if_neg (N2 hc),if_neg (by simpa using hc)]
   rw[if_pos (S5 hc),if_pos hc];rfl
  rw[if_neg (by rw[C4];simpa using hb),if_pos hb];simp only[Option.bind_some];rw[if_pos (S5 hb)];rfl
end
end Go.Ab
namespace Go.Ab
noncomputable section
def KK (b:Bool):A5:=if b=true then⟨1,1,⟨#[]⟩⟩else⟨1,0,⟨#[]⟩⟩
def MA (op:Int)(kinds:List Int)(k:Int):Bool:=
 if op=5∨op=6∨op=7∨op=8 then decide (k=0)else if op=10∨op=11∨op=12 then decide (k=1)else if op=9 then decide (k=kinds.getD 0 0)else true
def KD (op:Int)(kinds:List Int):Int:=if kinds.all (MA op kinds)=true then 0 else 9
instance (x y:A5):Decidable (x=y):=by
 obtain⟨a,b,c⟩:=x;obtain⟨d,e,f⟩:=y;exact decidable_of_iff (a=d∧b=e∧c=f) (by simp)
def TM (op:Int)(l:List A5):A5:=
 let a:=l.getD 0 Br
 let b:=l.getD (l.length - 1) Br
 if op=9 then KK (decide (a=l.getD 1 Br))else if op=5 then⟨0,ar .add .i64 a.Num b.Num,⟨#[]⟩⟩else if op=6 then⟨0,ar .sub .i64 a.Num b.Num,⟨#[]⟩⟩
 else if op=7 then KK (decide (a.Num<b.Num))else if op=8 then KK (decide (a.Num≤b.Num))else if op=10 then KK (decide (a.Num=1)&&decide (b.Num=1))else if op=11 then KK (decide (a.Num=1)||decide (b.Num=1))else KK (!decide (a.Num=1))
mutual
def Cy (R:A3→A5×Int):A3→A5×Int
 |⟨op,args,var,field,kind,val⟩=>
  if args.length=0 then R ⟨op,args,var,field,kind,val⟩else
  match Ai R args with
  | .inr f=>(Br,f)
  | .inl l=>if KD op (l.map (·.Kind))≠0 then(Br,KD op (l.map (·.Kind)))else(TM op l,0)
def Ai (R:A3→A5×Int):List A3→List A5 ⊕ Int
 |[]=>.inl []
 |a::r=>if(Cy R a).2≠0 then .inr (Cy R a).2 else match Ai R r with| .inr f=>.inr f| .inl l=>.inl ((Cy R a).1::l)
end
theorem Hi (R:A3→A5×Int)(x:A3):Cy R x=if x.cO.length=0 then R x else
 match Ai R x.cO with
 | .inr f=>(Br,f)
 | .inl l=>if KD x.Op (l.map (·.Kind))≠0 then(Br,KD x.Op (l.map (·.Kind)))else(TM x.Op l,0):=by cases x;simp only[Cy]
theorem MO {R:A3→A5×Int}:∀{l:List A3} {r:List A5},Ai R l= .inl r→r.length=l.length
 |[],r,h=>by simp only[Ai,Sum.inl.injEq]at h;subst h;rfl
 |a::l,r,h=>by
  simp only[Ai]at h
  split at h
  ·cases h
  cases hr:Ai R l with
  |inr f=>rw[hr]at h;cases h
  |inl q=>rw[hr]at h;simp only[Sum.inl.injEq]at h;subst h;simp[MO hr]
def An0 (R S:A3→A5×Int)(x:A3):Prop:=∀y∈x.pre,y.cO=[]→R y=S y
mutual
theorem Hj {R S:A3→A5×Int}:∀x:A3,An0 R S x→Cy R x=Cy S x
 |⟨op,args,var,field,kind,val⟩,h=>by
  rw[Hi,Hi]
  by_cases h0:args.length=0
  ·simp only[h0,if_true];exact h _ (by rw[A3.pre_eq];simp) (List.eq_nil_of_length_eq_zero h0)
  simp only[h0,if_false];rw[Ju args fun y hy=>h y (by rw[A3.pre_eq];exact List.mem_cons_of_mem _ hy)]
theorem Ju {R S:A3→A5×Int}:∀l:List A3,(∀y∈A3.pres l,y.cO=[]→R y=S y)→Ai R l=Ai S l
 |[],_=>rfl
 |a::l,h=>by
  simp only[Ai];rw[Hj a fun y hy=>h y (by simp[A3.pres,hy]),Ju l fun y hy=>h y (by simp[A3.pres,hy])]
end
theorem PB (N:Nat)(b:Bool):Z2 N b=some (KK b):=by
 unfold Z2 FB KK;cases b<;>rfl
theorem PD {N:Nat} (hN:40000000≤N) (op:Int) {kinds:List Int} (hl:kinds.length<1000000):Bx N op kinds=some (KD op kinds):=by
 unfold Bx KD;rw[I7 kinds (by omega) (mk:=fun(_:Unit) i=>i) (body:=fun _ k=>some (if MA op kinds k=true then .inl ()else .inr (.inr ()))) (fin:=fun _=>.inl ()) (s:=()) (by omega) ?_ ?_]
 ·rw[LZ (p:=MA op kinds) (r:=.inr ()) fun x _=>rfl]
  by_cases h:kinds.all (MA op kinds)=true
  ·rw[if_pos h,if_pos h];rfl
  rw[if_neg h,if_neg h];rfl
 ·intro s i k hk hi;have e:ar .add .i64 (i:Int) 1=i+1:=C5 (by omega) (by omega)
  have h0:B7 kinds 0=some (kinds.getD 0 0):=by
   have:B7 kinds 0=kinds[0]? :=D9 (i:=0);rw[this,List.getD_eq_getElem?_getD,List.getElem?_eq_getElem (by omega)];rfl
  simp only[C1,B5,hi,decide_true,if_true,D9,hk,Option.bind_some,e,C4,h0,U3];unfold MA
  by_cases a5:op=5
  ·subst a5;by_cases hz:k=0<;>simp[hz]
  by_cases a6:op=6
  ·subst a6;by_cases hz:k=0<;>simp[hz]
  by_cases a7:op=7
  ·subst a7;by_cases hz:k=0<;>simp[hz]
  by_cases a8:op=8
  ·subst a8;by_cases hz:k=0<;>simp[hz]
  by_cases a10:op=10
  ·subst a10;by_cases hz:k=1<;>simp[hz]
  by_cases a11:op=11
  ·subst a11;by_cases hz:k=1<;>simp[hz]
  by_cases a12:op=12
  ·subst a12;by_cases hz:k=1<;>simp[hz]
  by_cases a9:op=9
  ·subst a9;generalize kinds.getD 0 0=z
   by_cases hz:k=z<;>simp[hz]
  simp[a5,a6,a7,a8,a9,a10,a11,a12]
 intro s;simp[C1,B5]
theorem KB {α:Type} {F:A3→Option (A5×Int)} {R:A3→A5×Int}:∀{l:List A3} {s:List A5×List Int},s.2=s.1.map (·.Kind)→s.1.length+l.length≤1000000→(∀a∈l,F a=some (Cy R a))→
 H7 (fun(s:List A5×List Int) a=>(F a).bind fun r8=>if cmp .neq r8.2 0=true then some (Sum.inr (Sum.inr (α:=α) r8.2))else(N6 s.1 [r8.1]).bind fun l9=>(N6 s.2 [r8.1.Kind]).bind fun l12=>some (.inl (l9,l12))) l s=
  some (match Ai R l with| .inr f=>.inr (.inr f)| .inl q=>.inl (s.1++q,(s.1++q).map (·.Kind)))
 |[],s,h,_,_=>by obtain⟨a,b⟩:=s;dsimp only at h;subst h;simp[H7,Ai]
 | a::l,s,h,hl,hF=>by
  obtain⟨s1,s2⟩:=s
  dsimp only at h;subst h
  simp only[List.length_cons]at hl
  simp only[H7,Ai,hF a (by simp),Option.bind_some,H9]
  by_cases hz:(Cy R a).2=0
  ·simp only[hz,decide_true,Bool.not_true,Bool.false_eq_true,if_false,ne_eq,not_true_eq_false];rw[Y6 (by simp;omega),Y6 (by simp;omega)];simp only[Option.bind_some];have ih:=KB (α:=α) (F:=F) (R:=R) (l:=l) (s:=(s1++[(Cy R a).1],s1.map (·.Kind)++[(Cy R a).1.Kind])) (by simp) (by simp;omega) fun b hb=>hF b (by simp[hb])
   simp only[H9]at ih
   rw[ih]
   cases Ai R l with
   |inr f=>rfl
   |inl q=>simp
  simp[hz]
theorem MG {l:List A5}{i:Nat}(h:i<l.length):l[i]? =some (l.getD i Br):=by
 rw[List.getD_eq_getElem?_getD,List.getElem?_eq_getElem h];rfl
theorem Wq {N:Nat} (hN:40000000≤N) {env:Cu} (he:LS env) (own:Int) (ev:A6) (u:Unit):∀(n:Nat) (x:A3),x.dep≤n→x.bulk≤16777216→(∀y∈x.pre,R3 y=0)→H8 N n ⟨env,own,ev,u⟩ x=some (Cy (Fk env own ev) x):=by
 intro n
 induction n with
 |zero=>intro x h;rw[A3.dep_eq]at h;omega
 | succ n ih=>
  intro x hd hb hbad;have hx:=hbad x (by rw[A3.pre_eq];simp);have hd':=A3.dep_eq x;unfold H8;rw[Hi]
  by_cases h0:x.cO.length=0
  ·rw[if_pos (by rw[C4,B5];exact decide_eq_true (by omega)),if_pos h0,Wo hN he own ev u hx (List.eq_nil_of_length_eq_zero h0)];rfl
  rw[if_neg (by rw[C4,B5];simpa using(show¬(x.cO.length:Int)=0 by omega)),if_neg h0];obtain⟨a1,a2,a3⟩:=HK hx
  have hlen:x.cO.length≤2:=by
   split at a3
   ·omega
   split at a3<;>omega
  have hop5:5≤x.Op:=by
   by_cases h5:x.Op<5
   ·rw[if_pos h5]at a3;omega
   omega
  have hF:∀a∈x.cO,H8 N n ⟨env,own,ev,u⟩ a=some (Cy (Fk env own ev) a):=fun a ha=>ih a (by have:=RG ha;omega) (by have:=Q5 ha;omega) fun y hy=>hbad y (by rw[A3.pre_eq];exact List.mem_cons_of_mem _ (Oh ha hy));rw[I7 x.cO (by omega) (mk:=fun(s:List A5×List Int) i=>(s.1,s.2,i)) (body:=fun(s:List A5×List Int) a=>(H8 N n ⟨env,own,ev,u⟩ a).bind fun r8=>if cmp .neq r8.2 0=true then some (.inr (.inr r8.2))else(N6 s.1 [r8.1]).bind fun l9=>(N6 s.2 [r8.1.Kind]).bind fun l12=>some (.inl (l9,l12))) (fin:=fun s=>.inl s) (s:=([],[])) (by omega) ?_ ?_]
  ·rw [KB (R:=Fk env own ev) rfl (by simp;omega) hF]
   cases hq:Ai (Fk env own ev) x.cO with
   |inr f=>rfl
   | inl q=>
    simp only[Option.bind_some,List.nil_append];have hql:=MO hq;rw[PD hN _ (by simp;omega)];simp only[Option.bind_some]
    by_cases hz:KD x.Op (q.map (·.Kind))=0
    ·rw[if_neg (N2 hz),if_neg (show¬KD x.Op (q.map (·.Kind))≠0 by simpa using hz)]
     have hi0:B7 q 0=some (q.getD 0 Br):=by
      have:B7 q 0=q[0]? :=D9 (i:=0);rw[this,MG (by omega)]
     have hiL:B7 q (ar .sub .i64 (Ar.len q) 1)=some (q.getD (q.length - 1) Br):=by
      have e:ar .sub .i64 (Ar.len q) 1=((q.length - 1:Nat):Int):=by
       have:ar .sub .i64 (Ar.len q) 1=Ar.len q - 1:=CV (by rw[B5];omega) (by rw[B5];omega);rw[this,B5];omega
      rw[e,D9,MG (by omega)]
     unfold TM
     by_cases h9:x.Op=9
     ·rw[if_pos (by rw[C4];exact decide_eq_true h9)]
      have h2:x.cO.length=2:=by rw[if_neg (by omega),if_neg (by omega)]at a3;omega
      have hi1:B7 q 1=some (q.getD 1 Br):=by
       have:B7 q 1=q[1]? :=D9 (i:=1);rw[this,MG (by omega)]
      rw[hi0,hi1];simp only[Option.bind_some];rw[PB];simp only[Option.bind_some,h9,if_true,Option.some.injEq,Prod.mk.injEq,and_true]
      congr 1
      generalize q.getD 0 Br=v;generalize q.getD 1 Br=w;obtain⟨v1,v2,v3⟩:=v;obtain⟨w1,w2,w3⟩:=w;simp only[L4,C4,Fc,A5.mk.injEq,Bool.and_true,Bool.decide_and]
     rw[if_neg (by rw[C4];simpa using h9)];rw[hi0,hiL];simp only[Option.bind_some,O9,AF,AE,AD,AC,AB,AA,Az,PB,C4,C1,DF,L4,M9,H9,if_neg h9]
     have hop:x.Op=5∨x.Op=6∨x.Op=7∨x.Op=8∨x.Op=10∨x.Op=11∨x.Op=12:=by omega
     rcases hop with h|h|h|h|h|h|h<;>simp[h]
    rw[if_pos (S5 hz),if_pos hz];rfl
  ·intro s i a ha hi;have e:ar .add .i64 (i:Int) 1=i+1:=C5 (by omega) (by omega);simp only[C1,B5,hi,decide_true,if_true,D9,ha,Option.bind_some,e]
   cases H8 N n ⟨env,own,ev,u⟩ a with
   |none=>rfl
   | some r=>
    simp only[Option.bind_some]
    split
    ·rfl
    cases N6 s.1 [r.1]with
    |none=>rfl
    |some l=>
     simp only[Option.bind_some];cases N6 s.2 [r.1.Kind]<;>rfl
  intro s;simp[C1,B5]
def MP (env:Cu)(own:Int)(ev:A6)(x:A3):A5×Int:=if E7 x=0 then Cy (Fk env own ev) x else(Br,E7 x)
theorem Bz {x:A3}(h:E7 x=0):∀y∈x.pre,R3 y=0:=by
 unfold E7 at h
 split at h
 ·omega
 split at h
 ·omega
 exact Z3.1 h
theorem Ab6 {N:Nat}(hN:40000000≤N){env:Cu}(he:LS env)(own:Int)(ev:A6){x:A3}(hb:x.bulk≤16777216):Fs N x env own ev=some (MP env own ev x):=by
 unfold Fs MP;rw[Ox hN hb];simp only[Option.bind_some]
 by_cases h:E7 x=0
 ·rw[if_neg (N2 h),if_pos h];have hd:=MT x;rw[Wq hN he own ev () N x (by omega) hb (Bz h)];rfl
 rw[if_pos (S5 h),if_neg h];rfl
end
end Go.Ab
namespace Go.Ab
noncomputable section
open Classical
theorem Ag6 (x y:A5):an (cmp .eql x.Kind y.Kind) (an (cmp .eql x.Num y.Num) (an (Ar.scmp .eql x.Text y.Text) true))=decide (x=y):=by
 rw[Fc];simp only[L4,C4,Bool.and_true];cases x;cases y;simp only[A5.mk.injEq];rw[Bool.eq_iff_iff];simp
def T9 (env:Cu)(own:Int)(ev:A6)(x:A3):Bool:=decide ((MP env own ev x).2=0)&&decide ((MP env own ev x).1=⟨1,1,⟨#[]⟩⟩)
theorem Qg {N:Nat}(hN:40000000≤N){env:Cu}(he:LS env)(own:Int)(ev:A6){x:A3}(hb:x.bulk≤16777216):CG N x env own ev=some (T9 env own ev x):=by
 unfold CG T9;rw[Ab6 hN he own ev hb];simp only[Option.bind_some];rw[C4]
 by_cases h:(MP env own ev x).2=0
 ·rw[if_pos (decide_eq_true h),PB];simp only[Option.bind_some,decide_eq_true h,Bool.true_and];rw[Ag6];exact congrArg some (decide_eq_decide.2 Iff.rfl)
 rw[if_neg (by simpa using h),decide_eq_false h];rfl
end
end Go.Ab
namespace Go.Ab
noncomputable section
end
end Go.Ab
namespace Go.Ab
noncomputable section
end
end Go.Ab
