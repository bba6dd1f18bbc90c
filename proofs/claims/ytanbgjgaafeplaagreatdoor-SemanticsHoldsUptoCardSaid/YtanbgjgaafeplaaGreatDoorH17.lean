/- GTD5 GTD6 GTR1 GTR2 GTV0 GTV1 GTV2 GTV3 GTV5 GTV6 GTV7 GTW0 -/
import Derived.Test.YtanbgjgaafeplaaGreatDoorH16
set_option linter.all false
open List (concat_eq_append)
open Go.Ab.Ar (an ar cmp nt scmp)
namespace Go.Ab
def idxI {α:Type}(P:α→Bool)(l:List α):Int:=match l.findIdx? P with|none=> -1|some i=>(i:Int)
noncomputable abbrev idxP (l:List A1)(p:A1):Int:=idxI (fun q=>decide (p=q)) l
noncomputable def Am0 (l:List A1)(y:Pr):List A1:=if y.2.done=true then l else wth l y.2.p
noncomputable def Xi (w:List Pr):List A1:=w.foldl Am0 []
noncomputable def toOf (l:List A1)(r:J8):Int:=if r.done=true then -1 else idxP l r.p
noncomputable def eg (l:List A1)(y:Pr):Ke:={y.1 with To:=toOf l y.2}
def YH (N:Nat)(w:List Pr):Prop:=2048<(dd w).length∨∃y∈w,y.2.done=false∧O6 N y.2.p≠0
noncomputable instance (N:Nat)(w:List Pr):Decidable (YH N w):=Classical.propDecidable _
theorem RG (w v:List Pr):(dd w).length≤(dd (w++v)).length:=by
 rw[Ai1]
 have key:∀(v l:List Pr),l.length≤(v.foldl wth l).length:=fun v=>by
  induction v with
  |nil=>intro l;exact Nat.le_refl _
  |cons x v ih=>
   intro l;refine Nat.le_trans ?_ (ih (wth l x));unfold wth;split<;>simp
 exact key v _
theorem YH.mono {N:Nat}{w v:List Pr}(h:YH N w):YH N (w++v):=by
 rcases h with h|⟨y,hy,h⟩
 ·left;have:=RG w v;omega
 right;exact⟨y,by simp[hy],h⟩
structure DerInv (N:Nat) (w:List Pr) (s:List A1×List Ke):Prop where
 rs:s.1=Xi w
 es:s.2=(dd w).map (eg (Xi w))
 ok:¬YH N w
 len:(Xi w).length≤(dd w).length
end Go.Ab
namespace Go.Ab
theorem II {α R:Type} (P:α→Bool) (r:R):∀l:List α,H5 (fun(_:Unit) y=>if P y=true then some (Sum.inr r)else some (.inl ())) l ()=some (if l.any P=true then .inr r else .inl ())
 |[]=>rfl
 | y::l=>by
  unfold H5
  cases h:P y with
  |true=>simp[h]
  |false=>
   simp only[Bool.false_eq_true,if_false,List.any_cons,h,Bool.false_or];exact II P r l
theorem Good.sub {N:Nat}{x y:A1}(h:Good N x)(hy:y∈x.pre):Bc N y=0:=h y hy
theorem WI {N:Nat} (hN:40000000≤N) {x:A1} (hb:x.bulk≤16777216):Bv N x=some (if O6 N x≠0 then O6 N x else if x.pre.any (fun y=>cmp .geq y.Op 8)=true then 1 else 0):=by
 unfold Bv;rw[Ze hN hb];simp only[Option.bind_some]
 by_cases h:O6 N x=0
 ·rw[if_neg (H9 h),if_neg (by simpa using h),Hi hN hb];simp only[Option.bind_some];rw[II (fun y:A1=>cmp .geq y.Op 8) (1:Int) x.pre]
  by_cases h2:x.pre.any (fun y=>cmp .geq y.Op 8)=true
  ·rw[if_pos h2,if_pos h2];rfl
  rw[if_neg h2,if_neg h2];rfl
 rw[if_pos (I7 h),if_pos h]
theorem HP {N:Nat} {x:A1} (hz:O6 N x=0):x.pre.length≤64∧x.dep≤12∧Good N x:=by
 have hp:x.pre.length≤64:=by
  by_cases h:64<x.pre.length
  ·rw[O6,if_pos h]at hz;cases hz
  omega
 have hd:¬12<x.dep:=fun h=>by rw[O6,if_neg (by omega),if_pos h]at hz;cases hz
 rw[O6,if_neg (by omega),if_neg hd]at hz
 exact⟨hp,by omega,CO.1 hz⟩
theorem Jx (x:A1):x∈x.pre:=by rw[A1.pre_eq];simp
theorem UH {α β:Type}{m:Option α}{F:α→Option β}{a:α}{r:Option β}(h1:m=some a)(h2:F a=r):m.bind F=r:=by rw[h1];exact h2
end Go.Ab
namespace Go.Ab
mutual
theorem Nh :∀x:B1,(∀y∈x.pre,y.Value.Text.size≤64)→x.bulk≤74*x.pre.length
 |⟨op,args,var,field,kind,v⟩,h=>by
  have h1:=Ll args fun y hy=>h y (by rw[B1.pre];exact List.mem_cons_of_mem _ hy);have h2:v.Text.size≤64:=h ⟨op,args,var,field,kind,v⟩ (by rw[B1.pre];exact List.mem_cons_self ..);simp only[B1.bulk,B1.pre,List.length_cons];omega
theorem Ll :∀l:List B1,(∀y∈B1.pres l,y.Value.Text.size≤64)→B1.bulks l≤1+74*(B1.pres l).length
 |[],_=>by simp[B1.bulks]
 |a::l,h=>by
  have h1:=Nh a fun y hy=>h y (by rw[B1.pres];exact List.mem_append_left _ hy);have h2:=Ll l fun y hy=>h y (by rw[B1.pres];exact List.mem_append_right _ hy);simp only[B1.bulks,B1.pres,List.length_append];omega
end
theorem IE :(⟨#[]⟩:ByteArray).size=0:=rfl
theorem Sc {v:A5}(h:ND v=true):v.Text.size≤64:=by
 simp only[ND,K1,B8,CX,Bool.and_eq_true,decide_eq_true_eq]at h
 rw[h.2.2.1,IE];omega
theorem Qa {v:A5} (h:I0 v=0):v.Text.size≤64:=by
 unfold I0 at h
 by_cases h1:v.Kind=0∨v.Kind=1
 ·rw[if_pos h1]at h
  by_cases h2:v.Text≠⟨#[]⟩
  ·rw[if_pos h2]at h;cases h
  have:v.Text=⟨#[]⟩:=Classical.not_not.1 h2;rw[this,IE];omega
 rw[if_neg h1]at h
 by_cases h2:v.Kind=2
 ·rw[if_pos h2]at h
  by_cases h3:v.Num≠0
  ·rw[if_pos h3]at h;cases h
  rw[if_neg h3]at h
  by_cases h4:64<(v.Text.size:Int)
  ·rw[if_pos h4]at h;cases h
  omega
 rw[if_neg h2]at h;cases h
theorem Pz {x:B1} (h:Y4 x=0):x.Value.Text.size≤64:=by
 unfold Y4 at h
 by_cases h0:x.Op<0∨12<x.Op
 ·rw[if_pos h0]at h;cases h
 rw[if_neg h0]at h
 by_cases h1:(x.cP.length:Int)≠(if x.Op<5 then 0 else if x.Op=12 then 1 else 2)
 ·rw[if_pos h1]at h;cases h
 rw[if_neg h1]at h
 by_cases h2:Pc x=true
 ·rw[if_pos h2]at h;cases h
 rw[if_neg h2]at h
 by_cases h3:MJ x=true
 ·rw[if_pos h3]at h;cases h
 rw[if_neg h3]at h
 by_cases h4:x.Op=4∨x.Op=0
 ·by_cases h5:I0 x.Value=0
  ·exact Qa h5
  rw[if_pos ⟨h4,h5⟩]at h;exact absurd h h5
 rw[if_neg (fun e=>h4 e.1),if_neg (fun e=>h4 (.inl e.1))]at h
 by_cases h6:Eu x=true
 ·rw[if_pos h6]at h;cases h
 have h7:ND x.Value=true:=by
  have n4:¬x.Op=4:=fun e=>h4 (.inl e);have n0:¬x.Op=0:=fun e=>h4 (.inr e)
  cases hz:ND x.Value with
  |true=>rfl
  |false=>
   refine absurd ?_ h6;simp[Eu,I9,K1,N5,B8,n4,n0,hz]
 exact Sc h7
theorem Ls {c:B1}(h:K5 c=0):c.bulk≤4736:=by
 have hp:¬64<c.pre.length:=fun e=>by rw[K5,if_pos e]at h;cases h
 have hd:¬12<c.dep:=fun e=>by rw[K5,if_neg hp,if_pos e]at h;cases h
 rw[K5,if_neg hp,if_neg hd]at h
 have:=Nh c fun y hy=>Pz (CO.1 h y hy);omega
theorem Mx {N:Nat} (hN:40000000≤N) {y:A1} (hb:y.bulk≤16777216) (hl:y.cP.length≤64) (h:Bc N y=0):(0≤y.Op∧y.Op≤10)∧∃s ng,Kc N y s ng∧y.cR.bulk≤4736:=by
 have hc:y.cR.bulk≤16777216:=by have:=A1.bulk_eq y;omega
 have hop:0≤y.Op∧y.Op≤10:=by
  by_cases ho:0≤y.Op∧y.Op≤10
  ·exact ho
  have h1:=(DX hN hb hl).1
  unfold Q9 at h1
  rw[if_pos (Ac9 ho).1,h]at h1
  cases h1
 obtain⟨s,ng,hs⟩:=Me N y hop.1 hop.2 hl;have hz:=Ac5 hN N y.cR (⟨0,[],0,0,0,(⟨0,0,⟨#[]⟩⟩:A5)⟩:B1) (by omega) hc;have h1:=Gs hN hc hop.1 hop.2 hs hz
 rw[(DX hN hb hl).2,h]at h1
 have h1:=Option.some.inj h1;refine⟨hop,s,ng,hs,?_⟩
 by_cases ha:s.cV≤y.cP.length∧(y.cP.length:Int)≤s.most
 ·rw[if_pos ha]at h1
  unfold IL at h1
  by_cases e1:Dn s.cS y.Typ 15=true
  ·rw[if_pos e1]at h1;cases h1
  rw[if_neg e1]at h1
  by_cases e2:Dn s.cS y.Var 15=true
  ·rw[if_pos e2]at h1;cases h1
  rw[if_neg e2]at h1
  by_cases e3:Dn s.scope y.cT 63=true
  ·rw[if_pos e3]at h1;cases h1
  rw[if_neg e3]at h1
  by_cases e4:Dn s.span y.Span 1099511627776=true
  ·rw[if_pos e4]at h1;cases h1
  rw[if_neg e4]at h1
  by_cases e5:s.cond=true
  ·by_cases e6:K5 y.cR=0
   ·exact Ls e6
   rw[if_pos ⟨e5,e6⟩]at h1;exact absurd h1.symm e6
  rw[if_neg (fun e=>e5 e.1)]at h1
  by_cases e6:y.cR=(⟨0,[],0,0,0,(⟨0,0,⟨#[]⟩⟩:A5)⟩:B1)
  ·rw[e6];simp only[B1.bulk,B1.bulks,IE];omega
  rw[if_neg (fun e=>by
   have:=e.1
   rw[decide_eq_false e6]at this
   simp[e5]at this)]at h1
  cases h1
 rw[if_neg ha]at h1;cases h1
end Go.Ab
namespace Go.Ab
def cnt :List (Bool×Bool×A1)→Int→Int→Bool
 |[],_,_=>true
 |y::l,v,s=>(if y.1=true then decide (y.2.2.Var=v)else true)&&(if y.2.1=true then decide (y.2.2.cT=s)else true)&&cnt l (if y.1=true then v+1 else v) (if y.2.1=true then s+1 else s)
noncomputable def EL (y:A1):Bool:=match B6 G3 y.Op with|some s=>s.cS|none=>false
noncomputable def EP (y:A1):Bool:=match B6 G3 y.Op with|some s=>s.scope|none=>false
noncomputable def PB (l:List A1):Bool:=cnt (l.map fun y=>(EL y,EP y,y)) 0 0
def YG (N:Nat)(y:A1):Prop:=∃s ng,Kc N y s ng
theorem MO {N:Nat}(hN:40000000≤N){x:A1}(hb:x.bulk≤16777216)(hz:O6 N x=0):∀y∈x.pre,YG N y:=fun y hy=>by
 obtain⟨hp,hd,hg⟩:=HP hz;have h1:=EW x y hy;have h2:=BF y;obtain⟨_,s,ng,h,_⟩:=Mx hN (by omega) (by omega) (hg y hy);exact⟨s,ng,h⟩
theorem U2 {a b:Int}(h:a<b):cmp .lss a b=true:=by rw[C1];exact decide_eq_true h
theorem P1 {a b:Int}(h:¬a<b):¬(cmp .lss a b=true):=by rw[C1];simpa using h
noncomputable def Na (s7:Bool×Int×Int)(y6:A1):Option ((Bool×Int×Int) ⊕ Unit):=
 (B6 G3 y6.Op).bind fun x11=>((if x11.cS=true then some (an s7.1 (cmp .eql y6.Var s7.2.2),ar .add .i64 s7.2.2 1)else some (s7.1,s7.2.2)):Option (Bool×Int)).bind fun s12=>if x11.scope=true then some (.inl (an s12.1 (cmp .eql y6.cT s7.2.1),ar .add .i64 s7.2.1 1,s12.2))else some (.inl (s12.1,s7.2.1,s12.2))
theorem On {N:Nat}:∀(l:List A1),(∀y∈l,YG N y)→∀(b:Bool) (v s:Int),0≤v→0≤s→v+l.length≤1000000→s+l.length≤1000000→
 ∃v' s',H5 Na l (b,s,v)=some (.inl (b&&cnt (l.map fun y=>(EL y,EP y,y)) v s,s',v'))
 |[],_,b,v,s,_,_,_,_=>⟨v,s,by simp[H5,cnt]⟩
 |y::l,h,b,v,s,hv,hs,hv2,hs2=>by
  simp only[List.length_cons]at hv2 hs2
  obtain⟨sh,ng,ok⟩:=h y (by simp)
  have et:EL y=sh.cS:=by unfold EL;rw[ok.tab]
  have es:EP y=sh.scope:=by unfold EP;rw[ok.tab]
  have ev:ar .add .i64 v 1=v+1:=C4 (by omega) (by omega);have ess:ar .add .i64 s 1=s+1:=C4 (by omega) (by omega);have hr:=fun b v' s' h1 h2 h3 h4=>On l (fun z hz=>h z (by simp[hz])) b v' s' h1 h2 h3 h4;simp only[List.map_cons,cnt,et,es]
  have step:∀b' v2 s2,Na (b,s,v) y=some (.inl (b',s2,v2))→H5 Na (y::l) (b,s,v)=H5 Na l (b',s2,v2):=fun b' v2 s2 h=>by simp only[H5,h]
  have hst:∀b' v2 s2,(some (.inl (b',s2,v2)):Option ((Bool×Int×Int) ⊕ Unit))=(((if sh.cS=true then some (an b (cmp .eql y.Var v),ar .add .i64 v 1)else some (b,v)):Option (Bool×Int)).bind fun s12=>if sh.scope=true then some (.inl (an s12.1 (cmp .eql y.cT s),ar .add .i64 s 1,s12.2))else some (.inl (s12.1,s,s12.2)))→H5 Na (y::l) (b,s,v)=H5 Na l (b',s2,v2):=fun b' v2 s2 h=>step b' v2 s2 (by rw[h];unfold Na;rw[ok.tab];rfl);cases ht:sh.cS<;>cases hc:sh.scope
  ·obtain⟨v',s',h1⟩:=hr b v s hv hs (by omega) (by omega);exact⟨v',s',by rw[hst b v s (by rw[ht,hc];rfl)];simpa using h1⟩
  ·obtain⟨v',s',h1⟩:=hr (b&&decide (y.cT=s)) v (s+1) hv (by omega) (by omega) (by omega);exact⟨v',s',by rw[hst (b&&decide (y.cT=s)) v (s+1) (by simp[ht,hc,ess,B8,K1])];simpa[Bool.and_assoc]using h1⟩
  ·obtain⟨v',s',h1⟩:=hr (b&&decide (y.Var=v)) (v+1) s (by omega) hs (by omega) (by omega);exact⟨v',s',by rw[hst (b&&decide (y.Var=v)) (v+1) s (by rw[ht,hc,ev,B8,K1];rfl)];simpa[Bool.and_assoc]using h1⟩
  obtain⟨v',s',h1⟩:=hr (b&&decide (y.Var=v)&&decide (y.cT=s)) (v+1) (s+1) (by omega) (by omega) (by omega) (by omega);exact⟨v',s',by rw[hst (b&&decide (y.Var=v)&&decide (y.cT=s)) (v+1) (s+1) (by rw[ht,hc,ev,ess,B8,B8,K1];rfl)];simpa[Bool.and_assoc]using h1⟩
theorem VC {N:Nat}(hN:40000000≤N){x:A1}(hb:x.bulk≤16777216)(hz:O6 N x=0):∃v s,Bw N x=some (v,s,PB x.pre):=by
 obtain⟨hp,hd,hg⟩:=HP hz;obtain⟨v,s,h⟩:=On (N:=N) x.pre (MO hN hb hz) true 0 0 (by omega) (by omega) (by omega) (by omega);unfold Bw;rw[Hi hN hb];simp only[Option.bind_some];refine⟨v,s,UH h ?_⟩;simp[PB]
noncomputable def RI (N:Nat)(x:A1):Int:=if O6 N x≠0 then O6 N x else if x.pre.any (fun y=>cmp .geq y.Op 8)=true then 1 else if PB x.pre=true then 0 else 14
theorem VD {N:Nat} (hN:40000000≤N) {x:A1} (hb:x.bulk≤16777216):Bx N x=some (RI N x):=by
 unfold Bx RI;rw[WI hN hb];simp only[Option.bind_some]
 by_cases h:O6 N x=0
 ·rw[if_neg (show¬(O6 N x≠0) by simpa using h),if_neg (show¬(O6 N x≠0) by simpa using h)]
  by_cases h2:x.pre.any (fun y=>cmp .geq y.Op 8)=true
  ·rw[if_pos h2,if_pos h2,if_pos (I7 (by omega))]
  rw[if_neg h2,if_neg h2,if_neg (H9 rfl)];obtain⟨v,s,hr⟩:=VC hN hb h;rw[hr];simp only[Option.bind_some];cases PB x.pre<;>simp[N5]
 rw[if_pos h,if_pos (I7 h),if_pos h]
theorem VB {N:Nat}(l:List A1)(hl:l.length<N)(hs:l.length≤1000000):Ch N l=some (!(l.any fun y=>cmp .geq y.Op 8)):=by
 unfold Ch;rw[F2 l (by omega) (mk:=fun(_:Unit) i=>i) (body:=fun(_:Unit) a=>if cmp .geq a.Op 8=true then some (.inr (.inr ()))else some (.inl ())) (fin:=fun _=>.inl ()) (s:=()) (by omega) ?_ ?_]
 ·rw[II (fun y:A1=>cmp .geq y.Op 8) (Sum.inr ():Unit ⊕ Unit) l];cases h:l.any fun y=>cmp .geq y.Op 8<;>simp
 ·intro s i a ha hi;have e:ar .add .i64 (i:Int) 1=i+1:=C4 (by omega) (by omega);simp only[C1,A9,hi,decide_true,if_true,C5,ha,Option.bind_some,e];cases cmp .geq a.Op 8<;>rfl
 intro s;simp[C1,A9]
theorem Vy {N:Nat} (hN:40000000≤N) {x:A1} (hb:x.bulk≤16777216):Dg N x=some (RI N x):=by
 unfold Dg RI;rw[Xj hN hb];simp only[Option.bind_some]
 by_cases h:O6 N x=0
 ·rw [if_neg (show¬(O6 N x≠0) by simpa using h),if_neg (H9 h),Mw hN N x (by omega) hb];have hpb:=El x;obtain⟨hp,hd,hg⟩:=HP h;simp only[Option.bind_some];rw[VB x.pre (by omega) (by omega)];simp only[Option.bind_some]
  by_cases h2:x.pre.any (fun y=>cmp .geq y.Op 8)=true
  ·rw[if_pos h2,h2,if_pos (show nt (!true)=true from rfl)]
  rw[if_neg h2,if_neg (by simp[N5,h2])];have hk:=MO hN hb h
  obtain ⟨r,k1,k2⟩:=MH (S:=Int×Int×Int) (R:=Unit ⊕ Unit) (step:=fun(s4:Int×Int×Int)=>((if cmp .lss s4.2.2 (Ar.len x.pre)=true then(B6 x.pre s4.2.2).bind fun x6=>(V8 N x6).bind fun r7=>((if r7=true then(B6 x.pre s4.2.2).bind fun x9=>if cmp .neq x9.Var s4.1=true then some (.inr ())else some (.inl (ar .add .i64 s4.1 1))else some (.inl s4.1)):Option (Int ⊕ Unit)).bind fun s8=>match s8 with
          | .inl y10=>(B6 x.pre s4.2.2).bind fun x11=>(X8 N x11).bind fun r12=>if r12=true then(B6 x.pre s4.2.2).bind fun x13=>if cmp .neq x13.cT s4.2.1=true then some (.inr (.inr ()))else some (.inl (y10,ar .add .i64 s4.2.1 1,ar .add .i64 s4.2.2 1))else(B6 x.pre s4.2.2).bind fun x14=>(U5 N x14).bind fun r15=>if r15=true then(B6 x.pre s4.2.2).bind fun x16=>if cmp .neq x16.cT s4.2.1=true then some (.inr (.inr ()))else some (.inl (y10,ar .add .i64 s4.2.1 1,ar .add .i64 s4.2.2 1))else some (.inl (y10,s4.2.1,ar .add .i64 s4.2.2 1))
          | .inr y17=>some (.inr (.inr ()))
   else some (.inr (.inl ())))
   :Option ((Int×Int×Int) ⊕ (Unit ⊕ Unit))))
   (fun j s=>s.2.2=(j:Int)∧0≤s.1∧s.1≤j∧0≤s.2.1∧s.2.1≤j∧PB x.pre=cnt ((x.pre.drop j).map fun y=>(EL y,EP y,y)) s.1 s.2.1)
   (fun r=>r=if PB x.pre=true then .inl ()else .inr ()) x.pre.length 0 (0,0,0) N (by omega) ⟨rfl,by simp,by simp,by simp,by simp,rfl⟩
   (fun j s _ hj ⟨e,b1,b2,b3,b4,hc⟩=>by
    obtain⟨v,sc,i⟩:=s
    simp only at e b1 b2 b3 b4 hc
    subst e
    simp only[Nat.zero_add]at hj
    have e1:B6 x.pre (j:Int)=some x.pre[j]:=by rw[C5,List.getElem?_eq_getElem hj]
    obtain⟨sh,ng,ok⟩:=hk _ (List.getElem_mem hj)
    have et:EL x.pre[j]=sh.cS:=by unfold EL;rw[ok.tab]
    have es:EP x.pre[j]=sh.scope:=by unfold EP;rw[ok.tab]
    have ev:ar .add .i64 v 1=v+1:=C4 (by omega) (by omega);have ess:ar .add .i64 sc 1=sc+1:=C4 (by omega) (by omega);have ei:ar .add .i64 (j:Int) 1=((j+1:Nat):Int):=Ux (by omega)
    rw[List.drop_eq_getElem_cons hj,List.map_cons,cnt]at hc
    simp only[et,es]at hc
    have sco:=ok.sco;rw[if_pos (U2 (by simp only[A9];omega))];simp only[e1,Option.bind_some,ok.var,ok.neg,ok.tim,ev,ess,ei]
    by_cases hv:sh.cS=true∧x.pre[j].Var≠v
    ·rw[if_pos hv.1,if_pos (I7 hv.2)];refine⟨_,rfl,?_⟩;rw[hc];simp[hv.1,hv.2]
    have hv1:((if sh.cS=true then if cmp .neq x.pre[j].Var v=true then some (.inr ())else some (.inl (v+1))else some (.inl v)):Option (Int ⊕ Unit))=some (.inl (if sh.cS=true then v+1 else v)):=by
     by_cases ht:sh.cS=true
     ·rw[if_pos ht,if_pos ht,if_neg (H9 (Classical.not_not.1 fun e=>hv ⟨ht,e⟩))]
     rw[if_neg ht,if_neg ht]
    rw[hv1];simp only[Option.bind_some]
    have hcv:(if sh.cS=true then decide (x.pre[j].Var=v)else true)=true:=by
     by_cases ht:sh.cS=true
     ·rw[if_pos ht];exact decide_eq_true (Classical.not_not.1 fun e=>hv ⟨ht,e⟩)
     rw[if_neg ht]
    rw[hcv,Bool.true_and]at hc
    have hvb:0≤(if sh.cS=true then v+1 else v)∧(if sh.cS=true then v+1 else v)≤((j+1:Nat):Int):=by split<;>omega
    generalize (if sh.cS=true then v+1 else v)=v' at hc hvb ⊢
    by_cases hs:sh.scope=true
    ·rw[if_pos hs,if_pos hs]at hc
     by_cases hsc:x.pre[j].cT=sc
     ·have hgo:0≤sc+1∧sc+1≤((j+1:Nat):Int)∧PB x.pre=cnt ((x.pre.drop (j+1)).map fun y=>(EL y,EP y,y)) v' (sc+1):=by
       refine⟨?_,?_,?_⟩
       ·omega
       ·omega
       rw[hc,decide_eq_true hsc,Bool.true_and]
      by_cases hng:ng=true
      ·rw[if_pos hng,if_neg (H9 hsc)];exact⟨_,rfl,rfl,hvb.1,hvb.2,hgo⟩
      have hsp:sh.span=true:=by rw[hs]at sco;simpa[hng]using sco.symm
      rw[if_neg hng,if_pos hsp,if_neg (H9 hsc)];exact⟨_,rfl,rfl,hvb.1,hvb.2,hgo⟩
     have hno:PB x.pre=false:=by rw[hc,decide_eq_false hsc,Bool.false_and]
     by_cases hng:ng=true
     ·rw[if_pos hng,if_pos (I7 hsc)];exact⟨_,rfl,by rw[hno];rfl⟩
     have hsp:sh.span=true:=by rw[hs]at sco;simpa[hng]using sco.symm
     rw[if_neg hng,if_pos hsp,if_pos (I7 hsc)];exact⟨_,rfl,by rw[hno];rfl⟩
    rw[if_neg hs,if_neg hs,Bool.true_and]at hc
    have hs0:sh.scope=false:=by simpa using hs
    rw[hs0]at sco
    have hng:¬ng=true:=fun e=>by rw[e]at sco;cases sco
    have hsp:¬sh.span=true:=fun e=>by rw[e]at sco;simp at sco
    rw[if_neg hng,if_neg hsp];refine⟨_,rfl,rfl,hvb.1,hvb.2,b3,?_,hc⟩
    show sc≤_;omega)
   (fun s ⟨e,_,_,_,_,hc⟩=>by
    obtain⟨v,sc,i⟩:=s
    simp only[Nat.zero_add]at e hc
    subst e
    rw[List.drop_length]at hc
    rw[if_neg (P1 (by simp only[A9];omega))];refine⟨_,rfl,?_⟩
    rw[hc];rfl)
  refine UH k1 ?_;subst k2;cases PB x.pre<;>rfl
 rw[if_pos h,if_pos (I7 h)]
end Go.Ab
namespace Go.Ab
theorem MW :∀{l:List B1} {a:B1},a∈l→a.dep≤B1.deps l
 |b::l,a,h=>by
  simp only[B1.deps]
  rcases List.mem_cons.1 h with rfl|h
  ·exact Nat.le_max_left _ _
  exact Nat.le_trans (MW h) (Nat.le_max_right _ _)
theorem KA :∀{l:List B1} {a y:B1},a∈l→y∈a.pre→y∈B1.pres l
 |b::l,a,y,h,hy=>by
  simp only[B1.pres,List.mem_append]
  rcases List.mem_cons.1 h with rfl|h
  ·exact .inl hy
  exact .inr (KA h hy)
theorem IK {α R:Type} {body:Unit→α→Option (Unit ⊕ R)} {p:α→Bool} {r:R}:∀{l:List α},(∀x∈l,body () x=some (if p x=true then .inl ()else .inr r))→H5 body l ()=some (if l.all p=true then .inl ()else .inr r)
 |[],_=>rfl
 | x::l,h=>by
  unfold H5;rw[h x (by simp),List.all_cons]
  by_cases hx:p x=true
  ·rw[if_pos hx,hx]
   dsimp only
   rw[IK fun y hy=>h y (by simp[hy])];rfl
  rw[if_neg hx]
  dsimp only
  rw[Bool.not_eq_true]at hx
  rw[hx];rfl
theorem Ad8 {x:B1} (h:Y4 x=0):(x.Op=1∨x.Op=4→0≤x.Field∧x.Field<8)∧(1≤x.Op∧x.Op≤4→0≤x.Var∧x.Var<16):=by
 have h3:Pc x=false:=by
  cases hh:Pc x with
  |false=>rfl
  |true=>
   exfalso
   unfold Y4 at h
   by_cases a:x.Op<0∨12<x.Op
   ·rw[if_pos a]at h;cases h
   rw[if_neg a]at h
   by_cases b:(x.cP.length:Int)≠(if x.Op<5 then 0 else if x.Op=12 then 1 else 2)
   ·rw[if_pos b]at h;cases h
   rw[if_neg b,if_pos hh]at h
   cases h
 unfold Pc at h3
 simp only[I9,K1,C1,J1,Bool.or_eq_false_iff,Bool.and_eq_false_iff,decide_eq_false_iff_not]at h3
 obtain⟨hv,hf⟩:=h3
 constructor
 ·intro e
  rcases hf with hf|hf
  ·exfalso
   unfold WL at hf
   rcases e with e|e<;>simp[e,B8,I9]at hf
  omega
 intro e
 rcases hv with hv|hv
 ·exfalso
  have h4:x.Op=1∨x.Op=2∨x.Op=3∨x.Op=4:=by omega
  unfold WK at hv
  rcases h4 with e|e|e|e<;>simp[e,B8,I9]at hv
 omega
end Go.Ab
namespace Go.Ab
noncomputable section
def W8 :A5:=⟨0,0,⟨#[]⟩⟩
def L7 (k:Int)(v:A5):Int:=if I0 v≠0 then I0 v else if v.Kind=0∨(k≠1∧k≠2∧k≠3)then 0 else 9
def Ir (k:Int)(a b:A5):A5:=
 if k=1 then⟨0,ar .add .i64 a.Num b.Num,⟨#[]⟩⟩else if k=2 then⟨0,Ar.mn a.Num b.Num,⟨#[]⟩⟩else if k=3 then⟨0,Ar.mx a.Num b.Num,⟨#[]⟩⟩else if k=4 then a else if k=5 then b else W8
def Bt (k:Int)(v:A5):A5:=if k=0 then W8 else v
def Z2 (k:Int):List A5→A5
 |[]=>W8
 |v::l=>l.foldl (fun a b=>Ir k a (Bt k b)) (Bt k v)
def YC (k:Int)(l:List A5)(o:A5):A5×Int:=
 if k<0∨5<k then(W8,1)else if 4096<l.length then(W8,5)else if P5 (L7 k) l≠0 then(W8,P5 (L7 k) l)else if L7 k o≠0 then(W8,L7 k o)
 else if k=0 then(⟨0,l.length,⟨#[]⟩⟩,0)else if l=[]∧k≠1 then(o,0)else(Z2 k l,0)
theorem LU (N:Nat)(k:Int)(v:A5):T3 N k v=some (decide (v.Kind=0∨(k≠1∧k≠2∧k≠3))):=by
 unfold T3;simp only[I9,K1,B8,G2,Option.some.injEq]
 by_cases h0:v.Kind=0<;>by_cases h1:k=1<;>by_cases h2:k=2<;>by_cases h3:k=3<;>simp[h0,h1,h2,h3]
theorem PZ (N:Nat) (k:Int) (v:A5):N1 N k v=some (L7 k v):=by
 unfold N1 L7;rw[Jr,LU];simp only[Option.bind_some]
 by_cases h:I0 v=0
 ·rw[if_neg (H9 h),if_neg (show¬I0 v≠0 by simpa using h)]
  by_cases h2:v.Kind=0∨(k≠1∧k≠2∧k≠3)
  ·rw[if_neg (by rw[N5,decide_eq_true h2];decide),if_pos h2]
  rw[if_pos (by rw[N5,decide_eq_false h2];rfl),if_neg h2]
 rw[if_pos (I7 h),if_pos h]
theorem PY {k:Int}{v:A5}(h:L7 k v=0):I0 v=0∧(v.Kind=0∨(k≠1∧k≠2∧k≠3)):=by
 unfold L7 at h
 split at h
 ·rename_i h1;exact absurd h h1
 rename_i h1
 split at h
 ·rename_i h2;exact⟨by simpa using h1,h2⟩
 cases h
theorem HK {v:A5}(h:I0 v=0)(hk:v.Kind=0):v.Text=⟨#[]⟩∧ -1099511627776≤v.Num∧v.Num≤1099511627776:=by
 unfold I0 at h
 rw[if_pos (.inl hk)]at h
 split at h
 ·cases h
 rename_i h1
 split at h
 ·cases h
 rename_i h2;refine⟨by simpa using h1,?_⟩
 simp only[hk,true_and]at h2
 omega
theorem Uf {n:Int}(h0: -1099511627776≤n)(h1:n≤1099511627776):I0 ⟨0,n,⟨#[]⟩⟩=0:=by
 unfold I0;simp only[true_or,if_true,ne_eq,not_true_eq_false,if_false];rw[if_neg (by simp;omega)]
structure UM (k:Int) (n:Nat) (v:A5):Prop where
 c:k=0→v=W8
 s:k=1→v.Kind=0∧v.Text=⟨#[]⟩∧ -(1099511627776*(n:Int))≤v.Num∧v.Num≤1099511627776*(n:Int)
 m:k=2∨k=3→I0 v=0∧v.Kind=0
 f:k=4∨k=5→I0 v=0
theorem XY {k:Int}{v:A5}(h:L7 k v=0):UM k 1 (Bt k v):=by
 obtain⟨h1,h2⟩:=PY h;unfold Bt
 by_cases k0:k=0
 ·rw[if_pos k0];exact⟨fun _=>rfl,by omega,by omega,by omega⟩
 rw[if_neg k0];refine⟨by omega,fun e=>?_,fun e=>⟨h1,by omega⟩,fun _=>h1⟩
 have hk:v.Kind=0:=by omega
 obtain⟨a,b,c⟩:=HK h1 hk;exact⟨hk,a,by omega,by omega⟩
theorem VU {k:Int} {n:Nat} {a v:A5} (ha:UM k n a) (hn:n≤4096) (h:L7 k v=0):UM k (n+1) (Ir k a (Bt k v)):=by
 obtain⟨h1,h2⟩:=PY h;unfold Ir
 by_cases k1:k=1
 ·rw[if_pos k1]
  have hk:v.Kind=0:=by omega
  obtain⟨_,b,c⟩:=HK h1 hk;obtain⟨_,_,d,e⟩:=ha.s k1;have e1:Bt k v=v:=if_neg (by omega);rw[e1];have e2:ar .add .i64 a.Num v.Num=a.Num+v.Num:=C4 (by omega) (by omega);rw[e2];exact⟨by omega,fun _=>⟨rfl,rfl,by simp only;omega,by simp only;omega⟩,by omega,by omega⟩
 rw[if_neg k1]
 by_cases k2:k=2
 ·rw[if_pos k2]
  have hk:v.Kind=0:=by omega
  obtain⟨_,b,c⟩:=HK h1 hk;obtain⟨d,e⟩:=ha.m (.inl k2);obtain⟨_,d1,d2⟩:=HK d e;have e1:Bt k v=v:=if_neg (by omega);rw[e1];refine⟨by omega,by omega,fun _=>⟨?_,rfl⟩,by omega⟩
  show I0 ⟨0,if v.Num<a.Num then v.Num else a.Num,⟨#[]⟩⟩=0
  split<;>exact Uf (by omega) (by omega)
 rw[if_neg k2]
 by_cases k3:k=3
 ·rw[if_pos k3]
  have hk:v.Kind=0:=by omega
  obtain⟨_,b,c⟩:=HK h1 hk;obtain⟨d,e⟩:=ha.m (.inr k3);obtain⟨_,d1,d2⟩:=HK d e;have e1:Bt k v=v:=if_neg (by omega);rw[e1];refine⟨by omega,by omega,fun _=>⟨?_,rfl⟩,by omega⟩
  show I0 ⟨0,if a.Num<v.Num then v.Num else a.Num,⟨#[]⟩⟩=0
  split<;>exact Uf (by omega) (by omega)
 rw[if_neg k3]
 by_cases k4:k=4
 ·rw[if_pos k4];exact⟨by omega,by omega,by omega,fun _=>ha.f (.inl k4)⟩
 rw[if_neg k4]
 by_cases k5:k=5
 ·rw[if_pos k5];have e1:Bt k v=v:=if_neg (by omega);rw[e1];exact⟨by omega,by omega,by omega,fun _=>h1⟩
 rw[if_neg k5];exact⟨fun _=>rfl,by omega,by omega,by omega⟩
theorem Tw {N:Nat}{k:Int}(h0:0≤k)(h5:k≤5)(a b:A5):X7 N k a b=some (Ir k a b):=by
 have h:k=0∨k=1∨k=2∨k=3∨k=4∨k=5:=by omega
 rcases h with rfl|rfl|rfl|rfl|rfl|rfl<;>rfl
theorem Va (N:Nat)(k:Int)(v:A5):Z4 N k v=some (Bt k v):=by
 unfold Z4 Bt;rw[B8]
 by_cases h:k=0
 ·rw[if_pos (decide_eq_true h),if_pos h];rfl
 rw[if_neg (by simpa using h),if_neg h]
def N7 (k:Int)(l:List A5):C0:=⟨k,l.length,Z2 k l⟩
theorem Jc (k:Int)(l:List A5)(v:A5):Z2 k (l++[v])=if l=[]then Bt k v else Ir k (Z2 k l) (Bt k v):=by
 cases l with
 |nil=>rfl
 |cons a l=>simp[Z2,List.foldl_append]
theorem YU {N:Nat} {k:Int} (h0:0≤k) (h5:k≤5) (l:List A5) (hl:l.length≤4096) (v:A5):M9 N (N7 k l) v k=some (N7 k (l++[v])):=by
 unfold M9;rw[Va];simp only[Option.bind_some];unfold Bi;rw[B8,B8]
 have e:N7 k (l++[v])=⟨k,(l.length:Int)+1,if l=[]then Bt k v else Ir k (Z2 k l) (Bt k v)⟩:=by
  unfold N7;rw[Jc];simp
 rw[e]
 cases l with
 |nil=>rfl
 | cons a l=>
  have hc:¬(decide ((N7 k (a::l)).Count=0)=true):=by
   show¬decide (((a::l).length:Int)=0)=true
   simp only[List.length_cons,decide_eq_true_eq];omega
  rw[if_neg hc,if_neg (by simp)]
  show((X7 N k (Z2 k (a::l)) (Bt k v)).bind _).bind _=_
  rw[Tw h0 h5];simp only[Option.bind_some,N7,reduceCtorEq,if_false];rw[C4 (by simp at hl ⊢;omega) (by simp at hl ⊢;omega)]
theorem JL {k:Int}:∀(n:Nat) {l:List A5},l.length=n→l≠[]→l.length≤4096→(∀v∈l,L7 k v=0)→UM k l.length (Z2 k l):=by
 intro n
 induction n with
 |zero=>intro l h0 h;exact absurd (List.eq_nil_of_length_eq_zero h0) h
 |succ n ih=>
  intro l h0 h hn hv
  rcases List.eq_nil_or_concat l with rfl|⟨q,v,rfl⟩
  ·exact absurd rfl h
  rw[concat_eq_append]at *
  rw[Jc,List.length_append];have hw:=hv v (by simp)
  simp only[List.length_append,List.length_cons,List.length_nil]at hn h0
  by_cases h:q=[]
  ·subst h;rw[if_pos rfl];exact XY hw
  rw[if_neg h];exact VU (ih (by omega) h (by omega) fun x hx=>hv x (by simp[hx])) (by omega) hw
theorem RV {N:Nat} {k:Int} (h0:0≤k) (h5:k≤5) {l:List A5} (hl:l.length≤4096) (hv:∀v∈l,L7 k v=0):Au N (N7 k l)=some 0:=by
 unfold Au W7;simp only[Option.bind_some]
 have e1:¬(nt (an (cmp .geq (N7 k l).Kind 0) (cmp .leq (N7 k l).Kind 5))=true):=by
  show¬((!(decide (0≤k)&&decide (k≤5)))=true)
  simp;omega
 have e2:¬(Ar.or (cmp .lss (N7 k l).Count 0) (cmp .gtr (N7 k l).Count 4096)=true):=by
  show¬((decide ((l.length:Int)<0)||decide (4096<(l.length:Int)))=true)
  simp;omega
 rw[if_neg e1,if_neg e2]
 by_cases hz:l=[]∨k=0
 ·have e3:Ar.or (cmp .eql (N7 k l).Count 0) (cmp .eql (N7 k l).Kind 0)=true:=by
   show(decide ((l.length:Int)=0)||decide (k=0))=true
   rcases hz with rfl|h
   ·rfl
   simp[h]
  have e4:(N7 k l).Value=W8:=by
   by_cases hn:l=[]
   ·subst hn;rfl
   exact(JL _ rfl hn hl hv).c (hz.resolve_left hn)
  rw[if_pos e3,e4];exact if_neg (by simp[N5,K1,B8,CX,W8])
 have hn:l≠[]:=fun h=>hz (.inl h);have hk:k≠0:=fun h=>hz (.inr h);have hlen:l.length≠0:=fun h=>hn (List.eq_nil_of_length_eq_zero h)
 have e3:¬(Ar.or (cmp .eql (N7 k l).Count 0) (cmp .eql (N7 k l).Kind 0)=true):=by
  show¬((decide ((l.length:Int)=0)||decide (k=0))=true)
  simp[hk,hn]
 rw[if_neg e3];have g:=JL _ rfl hn hl hv
 by_cases k1:k=1
 ·rw[if_pos (show cmp .eql (N7 k l).Kind 1=true from decide_eq_true k1)];obtain⟨a,b,c,d⟩:=g.s k1;have ev:(N7 k l).Value=Z2 k l:=rfl;have ec:(N7 k l).Count=(l.length:Int):=rfl;have em:ar .mul .i64 (l.length:Int) 1099511627776=(l.length:Int)*1099511627776:=An (by omega) (by omega)
  have en:Ar.neg .i64 ((l.length:Int)*1099511627776)= - ((l.length:Int)*1099511627776):=by
   show IntKind.wrap .i64 (0 - (l.length:Int)*1099511627776)=_
   rw[An (by omega) (by omega)];omega
  rw[ev,ec,em,en];rw[if_neg];simp only[N5,K1,B8,J1,Bg,CX];rw[decide_eq_true a,decide_eq_true b,decide_eq_true (show -((l.length:Int)*1099511627776)≤(Z2 k l).Num by omega),decide_eq_true (show(Z2 k l).Num≤(l.length:Int)*1099511627776 by omega)]
  decide
 rw[if_neg (show¬(cmp .eql (N7 k l).Kind 1=true)from(by show¬decide (k=1)=true;simpa using k1))]
 have hvb:I0 (Z2 k l)=0:=by
  by_cases h23:k=2∨k=3
  ·exact(g.m h23).1
  exact g.f (by omega)
 have hsu:(Z2 k l).Kind=0∨(k≠1∧k≠2∧k≠3):=by
  by_cases h23:k=2∨k=3
  ·exact .inl (g.m h23).2
  exact .inr (by omega)
 show((U3 N (Z2 k l)).bind _)=_
 rw[Jr,hvb];simp only[Option.bind_some];rw[if_pos (show cmp .eql 0 0=true from rfl)]
 show((T3 N k (Z2 k l)).bind _)=_
 rw[LU,decide_eq_true hsu];rfl
theorem Aj1 {N:Nat} (hN:40000000≤N) (k:Int) {l:List A5} (hl:l.length<1000000) (o:A5):Cr N k l o=some (YC k l o):=by
 unfold Cr YC W7;simp only[Option.bind_some]
 by_cases h0:k<0∨5<k
 ·rw[if_pos (by show(!(decide (0≤k)&&decide (k≤5)))=true;simp;omega),if_pos h0];rfl
 rw[if_neg (by show¬((!(decide (0≤k)&&decide (k≤5)))=true);simp;omega),if_neg h0]
 by_cases h1:4096<l.length
 ·rw[if_pos (R3 (by rw[A9];omega)),if_pos h1];rfl
 rw[if_neg (N2 (by rw[A9];omega)),if_neg h1];rw[F2 l (by omega) (mk:=fun(_:Unit) i=>i) (body:=Y3 fun v=>N1 N k v) (fin:=fun _=>.inl ()) (s:=()) (by omega) ?_ ?_]
 ·rw [V0 (f:=L7 k) fun v _=>PZ N k v]
  by_cases h2:P5 (L7 k) l=0
  ·rw [if_pos h2,if_neg (show¬P5 (L7 k) l≠0 by simpa using h2)];have hv:=CO.1 h2;simp only[Option.bind_some]
   have hf:G6 N (⟨k,0,⟨0,0,⟨#[]⟩⟩⟩:C0) l (fun y1 y2=>M9 N y1 y2 k)=some (N7 k l):=by
    unfold G6;rw[F2 l (by omega) (mk:=fun(s:C0) i=>(i,s)) (body:=fun s v=>(M9 N s v k).bind fun r=>some (.inl r)) (fin:=fun s=>s) (s:=⟨k,0,⟨0,0,⟨#[]⟩⟩⟩) (by omega) ?_ ?_]
    ·obtain⟨s',k1,p,k2,k3⟩:=W5 (R:=C0) (step:=fun s v=>(M9 N s v k).bind fun r=>some (.inl r)) (fun r s=>∃p,p++r=l∧s=N7 k p) (fun v r s ⟨p,e1,e2⟩=>by
      subst e2
      refine⟨_,by rw[YU (by omega) (by omega) p (by have:=congrArg List.length e1;simp at this;omega)];rfl,p++[v],by simpa using e1,rfl⟩) (l:=l) (s:=⟨k,0,⟨0,0,⟨#[]⟩⟩⟩) ⟨[],rfl,rfl⟩
     simp only[k1,Option.bind_some]
     rw[List.append_nil]at k2
     rw[k3,k2]
    ·intro s i a ha hi;have e:ar .add .i64 (i:Int) 1=i+1:=C4 (by omega) (by omega);simp only[C1,A9,hi,decide_true,if_true,C5,ha,Option.bind_some,e];cases M9 N s a k<;>rfl
    intro s;simp[C1,A9]
   rw[hf];simp only[Option.bind_some];unfold Bj;rw[RV (by omega) (by omega) (by omega) hv];simp only[Option.bind_some];rw[if_neg (show¬(cmp .neq 0 0=true) by decide)]
   show((N1 N k o).bind _).bind _=_
   rw[PZ];simp only[Option.bind_some]
   by_cases h3:L7 k o=0
   ·rw[if_neg (H9 h3),if_neg (show¬L7 k o≠0 by simpa using h3)]
    by_cases h4:k=0
    ·rw[if_pos (show cmp .eql (N7 k l).Kind 0=true from decide_eq_true h4),if_pos h4];rfl
    rw[if_neg (show¬(cmp .eql (N7 k l).Kind 0=true)from(by show¬decide (k=0)=true;simpa using h4)),if_neg h4]
    by_cases h5:l=[]∧k≠1
    ·rw[if_pos (show an (cmp .eql (N7 k l).Count 0) (cmp .neq (N7 k l).Kind 1)=true by show(decide ((l.length:Int)=0)&& !decide (k=1))=true;simp[h5.1,h5.2]),if_pos h5];rfl
    rw[if_neg (show¬(an (cmp .eql (N7 k l).Count 0) (cmp .neq (N7 k l).Kind 1)=true) by show¬((decide ((l.length:Int)=0)&& !decide (k=1))=true);simpa using h5),if_neg h5];rfl
   rw[if_pos (I7 h3),if_pos h3];rfl
  rw[if_neg h2,if_pos h2];rfl
 ·intro s i a ha hi;have e:ar .add .i64 (i:Int) 1=i+1:=C4 (by omega) (by omega);simp only[C1,A9,hi,decide_true,if_true,C5,ha,Option.bind_some,e,Y3,G2]
  cases N1 N k a with
  |none=>rfl
  |some r=>by_cases h:r=0<;>simp[h]
 intro s;simp[C1,A9]
end
end Go.Ab
namespace Go.Ab
noncomputable section
def Fq (env:Bk)(v:Int):List A8:=if v<0∨(env.cX.length:Int)≤v then[]else env.cX.getD v.toNat []
def Ey (e:A8)(k:Int):A5×Int:=if(e.Values.length:Int)≤k then(W8,6)else(e.Values.getD k.toNat W8,0)
def OE (rows:List A8)(x:B1):A5×Int:=
 if(rows.all fun e=>decide (x.Field<(e.Values.length:Int)))=true then YC x.Kind (rows.map fun e=>e.Values.getD x.Field.toNat W8) x.Value else(W8,6)
def IV (rows:List A8)(own:Int)(ev:A8)(v:Int):Option A8:=if v≠own then rows.getLast? else some ev
def Xl (y:A8)(x:B1):A5×Int:=
 if x.Op=2 then(⟨0,y.Time,⟨#[]⟩⟩,0)else if(Ey y x.Field).2≠0 then(W8,(Ey y x.Field).2)else if I0 (Ey y x.Field).1≠0 then(W8,I0 (Ey y x.Field).1)else((Ey y x.Field).1,0)
def FF (env:Bk)(own:Int)(ev:A8)(x:B1):A5×Int:=
 if x.Op=0 then(x.Value,0)else if x.Op=3 then(⟨0,(Fq env x.Var).length,⟨#[]⟩⟩,0)else if x.Op=4 then OE (Fq env x.Var) x
 else match IV (Fq env x.Var) own ev x.Var with|none=>(W8,10)|some y=>Xl y x
theorem Ic {x:B1}(hx:Y4 x=0):0≤x.Op∧x.Op≤12∧(x.cP.length:Int)=(if x.Op<5 then 0 else if x.Op=12 then 1 else 2):=by
 unfold Y4 at hx
 by_cases h1:x.Op<0∨12<x.Op
 ·rw[if_pos h1]at hx;cases hx
 rw[if_neg h1]at hx
 by_cases h2:(x.cP.length:Int)≠(if x.Op<5 then 0 else if x.Op=12 then 1 else 2)
 ·rw[if_pos h2]at hx;cases hx
 exact⟨by omega,by omega,by simpa using h2⟩
def GA (e:Bk):Prop:=e.cX.length<1000000∧∀l∈e.cX,l.length<1000000
theorem LL {env:Bk}(h:GA env)(v:Int):(Fq env v).length<1000000:=by
 unfold Fq
 split
 ·simp
 rename_i hv
 have hi:v.toNat<env.cX.length:=by omega
 rw[List.getD_eq_getElem?_getD,List.getElem?_eq_getElem hi];exact h.2 _ (List.getElem_mem hi)
theorem Lc (N:Nat)(env:Bk)(own:Int)(ev:A8)(u:Unit)(v:Int):M7 N ⟨env,own,ev,u⟩ v=some (Fq env v):=by
 unfold M7 Fq
 by_cases h:v<0∨(env.cX.length:Int)≤v
 ·rw[if_pos (by simp only[I9,C1,J1,A9];simpa using h),if_pos h]
 rw[if_neg (by simp only[I9,C1,J1,A9];simpa using h),if_neg h]
 have hi:v.toNat<env.cX.length:=by omega
 have hv:v=(v.toNat:Int):=by omega
 rw[hv,C5];simp only[List.getD_eq_getElem?_getD,Int.toNat_natCast,List.getElem?_eq_getElem hi,Option.bind_some,Option.getD_some]
theorem MU (N:Nat)(e:A8){k:Int}(hk:0≤k):Ak N e k=some (Ey e k):=by
 unfold Ak Ey
 by_cases h:(e.Values.length:Int)≤k
 ·rw[if_pos (by rw[J1,A9];exact decide_eq_true h),if_pos h];rfl
 rw[if_neg (by rw[J1,A9];simpa using h),if_neg h]
 have hi:k.toNat<e.Values.length:=by omega
 have hv:k=(k.toNat:Int):=by omega
 rw[hv,C5];simp only[List.getD_eq_getElem?_getD,Int.toNat_natCast,List.getElem?_eq_getElem hi,Option.bind_some,Option.getD_some]
theorem IJ {α β R:Type} {body:List β→α→Option (List β ⊕ R)} {p:α→Bool} {g:α→β} {r:R}:∀{l:List α} {s:List β},s.length+l.length≤1000000→(∀(s:List β) x,x∈l→s.length≤1000000→body s x=some (if p x=true then .inl (s++[g x])else .inr r))→
 H5 body l s=some (if l.all p=true then .inl (s++l.map g)else .inr r)
 |[],s,_,_=>by simp[H5]
 |x::l,s,hl,h=>by
  simp only[H5,h s x (by simp) (by simp at hl;omega)]
  by_cases hp:p x=true
  ·simp only[hp,if_true];rw[IJ (by simp at hl ⊢;omega) fun s y hy=>h s y (by simp[hy])];simp[hp]
  simp[hp]
theorem Tm {N:Nat} (hN:40000000≤N) {env:Bk} (he:GA env) (own:Int) (ev:A8) (u:Unit) {x:B1} (hf:0≤x.Field):S0 N ⟨env,own,ev,u⟩ x=some (OE (Fq env x.Var) x):=by
 have hl:=LL he x.Var;unfold S0 OE;rw[Lc];simp only[Option.bind_some]
 generalize Fq env x.Var=rows at hl
 rw[F2 rows (by omega) (mk:=fun(s:List A5) i=>(s,i)) (body:=fun s e=>(Ak N e x.Field).bind fun r=>if cmp .neq r.2 0=true then some (.inr (.inr r.2))else(I3 s [r.1]).bind fun l=>some (.inl l)) (fin:=fun s=>.inl s) (s:=[]) (by omega) ?_ ?_]
 ·rw[IJ (p:=fun e=>decide (x.Field<(e.Values.length:Int))) (g:=fun e=>e.Values.getD x.Field.toNat W8) (r:=.inr 6) (by simp;omega) (fun s e _ hs=>by
   rw[MU N e hf];unfold Ey
   by_cases h:(e.Values.length:Int)≤x.Field
   ·rw[if_pos h,if_neg (by simpa using h)];rfl
   rw[if_neg h,if_pos (by simpa using h)];simp only[Option.bind_some]
   rw[if_neg (by decide),M6 (by simp;omega)];rfl)]
  by_cases h:(rows.all fun e=>decide (x.Field<(e.Values.length:Int)))=true
  ·rw[if_pos h,if_pos h];simp only[Option.bind_some,List.nil_append];rw[Aj1 hN _ (by simpa using hl)];rfl
  rw[if_neg h,if_neg h];rfl
 ·intro s i a ha hi;have e:ar .add .i64 (i:Int) 1=i+1:=C4 (by omega) (by omega);simp only[C1,A9,hi,decide_true,if_true,C5,ha,Option.bind_some,e]
  cases Ak N a x.Field with
  |none=>rfl
  |some r=>
   simp only[Option.bind_some]
   split
   ·rfl
   cases I3 s [r.1]<;>rfl
 intro s;simp[C1,A9]
theorem Wc {N:Nat} (hN:40000000≤N) {env:Bk} (he:GA env) (own:Int) (ev:A8) (u:Unit) {x:B1} (hx:Y4 x=0) (ha:x.cP=[]):T7 N ⟨env,own,ev,u⟩ x=some (FF env own ev x):=by
 have hok:=Ad8 hx
 have hop:0≤x.Op∧x.Op<5:=by
  have:=Ic hx
  rw[ha]at this
  simp only[List.length_nil]at this
  obtain⟨h1,h2,h3⟩:=this
  by_cases h5:x.Op<5
  ·exact⟨h1,h5⟩
  rw[if_neg h5]at h3
  split at h3<;>omega
 have hl:=LL he x.Var;unfold T7 FF;rw[Lc];simp only[Option.bind_some]
 by_cases h0:x.Op=0
 ·rw[if_pos (by rw[B8];exact decide_eq_true h0),if_pos h0]
 rw[if_neg (by rw[B8];simpa using h0),if_neg h0]
 by_cases h3:x.Op=3
 ·rw[if_pos (by rw[B8];exact decide_eq_true h3),if_pos h3];rfl
 rw[if_neg (by rw[B8];simpa using h3),if_neg h3]
 by_cases h4:x.Op=4
 ·rw[if_pos (by rw[B8];exact decide_eq_true h4),if_pos h4,Tm hN he own ev u (hok.1 (.inr h4)).1];rfl
 rw[if_neg (by rw[B8];simpa using h4),if_neg h4]
 have key:((if cmp .neq x.Var own=true then if cmp .eql (Ar.len (Fq env x.Var)) 0=true then some (.inr ())else(B6 (Fq env x.Var) (ar .sub .i64 (Ar.len (Fq env x.Var)) 1)).bind fun x6=>some (.inl x6)else some (.inl ev)):Option (A8 ⊕ Unit))=some (match IV (Fq env x.Var) own ev x.Var with|some y=>.inl y|none=>.inr ()):=by
  unfold IV
  by_cases hv:x.Var=own
  ·rw[if_neg (H9 hv),if_neg (by simpa using hv)]
  rw[if_pos (I7 hv),if_pos hv]
  generalize Fq env x.Var=rows at hl
  rcases List.eq_nil_or_concat rows with rfl|⟨q,y,rfl⟩
  ·rfl
  rw[concat_eq_append]at *
  have e1:ar .sub .i64 (Ar.len (q++[y])) 1=(q.length:Int):=by
   have:ar .sub .i64 (Ar.len (q++[y])) 1=Ar.len (q++[y]) - 1:=An (by rw[A9];omega) (by rw[A9];omega);rw[this,A9];simp
  rw[if_neg (by rw[B8,A9];simp;omega),e1,C5];simp
 have key2:=congrArg (fun o=>o.bind fun s5=>match s5 with
  | .inl y7=>
   if cmp .eql x.Op 2=true then
    some ((⟨0,y7.Time,⟨#[]⟩⟩:A5),(0:Int))
   else
    (Ak N y7 x.Field).bind fun r8=>
    ((
     if cmp .eql r8.2 0=true then
      (U3 N r8.1).bind fun r10=>
      some r10
     else
      some r8.2
    ):Option (Int)).bind fun s9=>
    if cmp .neq s9 0=true then
     some ((⟨0,0,⟨#[]⟩⟩:A5),s9)
    else
     some (r8.1,0)
  | .inr y11=>
   some ((⟨0,0,⟨#[]⟩⟩:A5),10)) key
 refine key2.trans ?_
 cases hy:IV (Fq env x.Var) own ev x.Var with
 |none=>rfl
 | some y=>
  simp only[Option.bind_some];unfold Xl
  by_cases h2:x.Op=2
  ·rw[if_pos (by rw[B8];exact decide_eq_true h2),if_pos h2]
  rw[if_neg (by rw[B8];simpa using h2),if_neg h2]
  have h1:x.Op=1:=by omega
  rw[MU N y (hok.1 (.inl h1)).1];simp only[Option.bind_some]
  by_cases hb:(Ey y x.Field).2=0
  ·rw[if_pos (by rw[B8];exact decide_eq_true hb),Jr,if_neg (by simpa using hb)];simp only[Option.bind_some]
   by_cases hc:I0 (Ey y x.Field).1=0
   ·rw[if_neg (H9 hc),if_neg (by simpa using hc)]
   rw[if_pos (I7 hc),if_pos hc];rfl
  rw[if_neg (by rw[B8];simpa using hb),if_pos hb];simp only[Option.bind_some];rw[if_pos (I7 hb)];rfl
end
end Go.Ab
namespace Go.Ab
noncomputable section
def Io (b:Bool):A5:=if b=true then⟨1,1,⟨#[]⟩⟩else⟨1,0,⟨#[]⟩⟩
def Gl (op:Int)(kinds:List Int)(k:Int):Bool:=
 if op=5∨op=6∨op=7∨op=8 then decide (k=0)else if op=10∨op=11∨op=12 then decide (k=1)else if op=9 then decide (k=kinds.getD 0 0)else true
def GB (op:Int)(kinds:List Int):Int:=if kinds.all (Gl op kinds)=true then 0 else 9
instance (x y:A5):Decidable (x=y):=by
 obtain⟨a,b,c⟩:=x;obtain⟨d,e,f⟩:=y;exact decidable_of_iff (a=d∧b=e∧c=f) (by simp)
def PF (op:Int)(l:List A5):A5:=
 let a:=l.getD 0 W8
 let b:=l.getD (l.length - 1) W8
 if op=9 then Io (decide (a=l.getD 1 W8))else if op=5 then⟨0,ar .add .i64 a.Num b.Num,⟨#[]⟩⟩else if op=6 then⟨0,ar .sub .i64 a.Num b.Num,⟨#[]⟩⟩
 else if op=7 then Io (decide (a.Num<b.Num))else if op=8 then Io (decide (a.Num≤b.Num))else if op=10 then Io (decide (a.Num=1)&&decide (b.Num=1))else if op=11 then Io (decide (a.Num=1)||decide (b.Num=1))else Io (!decide (a.Num=1))
mutual
def Fb (R:B1→A5×Int):B1→A5×Int
 |⟨op,args,var,field,kind,val⟩=>
  if args.length=0 then R ⟨op,args,var,field,kind,val⟩else
  match CK R args with
  | .inr f=>(W8,f)
  | .inl l=>if GB op (l.map (·.Kind))≠0 then(W8,GB op (l.map (·.Kind)))else(PF op l,0)
def CK (R:B1→A5×Int):List B1→List A5 ⊕ Int
 |[]=>.inl []
 |a::r=>if(Fb R a).2≠0 then .inr (Fb R a).2 else match CK R r with| .inr f=>.inr f| .inl l=>.inl ((Fb R a).1::l)
end
theorem RA (R:B1→A5×Int)(x:B1):Fb R x=if x.cP.length=0 then R x else
 match CK R x.cP with
 | .inr f=>(W8,f)
 | .inl l=>if GB x.Op (l.map (·.Kind))≠0 then(W8,GB x.Op (l.map (·.Kind)))else(PF x.Op l,0):=by cases x;simp only[Fb]
theorem Je {R:B1→A5×Int}:∀{l:List B1} {r:List A5},CK R l= .inl r→r.length=l.length
 |[],r,h=>by simp only[CK,Sum.inl.injEq]at h;subst h;rfl
 |a::l,r,h=>by
  simp only[CK]at h
  split at h
  ·cases h
  cases hr:CK R l with
  |inr f=>rw[hr]at h;cases h
  |inl q=>rw[hr]at h;simp only[Sum.inl.injEq]at h;subst h;simp[Je hr]
theorem Px (N:Nat)(b:Bool):Z3 N b=some (Io b):=by
 unfold Z3 FX Io;cases b<;>rfl
theorem PA {N:Nat} (hN:40000000≤N) (op:Int) {kinds:List Int} (hl:kinds.length<1000000):BB N op kinds=some (GB op kinds):=by
 unfold BB GB;rw[F2 kinds (by omega) (mk:=fun(_:Unit) i=>i) (body:=fun _ k=>some (if Gl op kinds k=true then .inl ()else .inr (.inr ()))) (fin:=fun _=>.inl ()) (s:=()) (by omega) ?_ ?_]
 ·rw[IK (p:=Gl op kinds) (r:=.inr ()) fun x _=>rfl]
  by_cases h:kinds.all (Gl op kinds)=true
  ·rw[if_pos h,if_pos h];rfl
  rw[if_neg h,if_neg h];rfl
 ·intro s i k hk hi;have e:ar .add .i64 (i:Int) 1=i+1:=C4 (by omega) (by omega)
  have h0:B6 kinds 0=some (kinds.getD 0 0):=by
   have:B6 kinds 0=kinds[0]? :=C5 (i:=0);rw[this,List.getD_eq_getElem?_getD,List.getElem?_eq_getElem (by omega)];rfl
  simp only[C1,A9,hi,decide_true,if_true,C5,hk,Option.bind_some,e,B8,h0,N5];unfold Gl
  by_cases a5:op=5
  ·subst a5;by_cases hz:k=0<;>simp[hz]
  by_cases a6:op=6
  ·subst a6;by_cases hz:k=0<;>simp[hz]
  by_cases a7:op=7
  ·subst a7;by_cases hz:k=0<;>simp[hz]
  by_cases a8:op=8
  ·subst a8;by_cases hz:k=0<;>simp[hz]
  by_cases a10:op=10
  ·subst a10;by_cases hz:k=1<;>simp[hz]
  by_cases a11:op=11
  ·subst a11;by_cases hz:k=1<;>simp[hz]
  by_cases a12:op=12
  ·subst a12;by_cases hz:k=1<;>simp[hz]
  by_cases a9:op=9
  ·subst a9;generalize kinds.getD 0 0=z
   by_cases hz:k=z<;>simp[hz]
  simp[a5,a6,a7,a8,a9,a10,a11,a12]
 intro s;simp[C1,A9]
theorem Hg {α:Type} {F:B1→Option (A5×Int)} {R:B1→A5×Int}:∀{l:List B1} {s:List A5×List Int},s.2=s.1.map (·.Kind)→s.1.length+l.length≤1000000→(∀a∈l,F a=some (Fb R a))→
 H5 (fun(s:List A5×List Int) a=>(F a).bind fun r8=>if cmp .neq r8.2 0=true then some (Sum.inr (Sum.inr (α:=α) r8.2))else(I3 s.1 [r8.1]).bind fun l9=>(I3 s.2 [r8.1.Kind]).bind fun l12=>some (.inl (l9,l12))) l s=
  some (match CK R l with| .inr f=>.inr (.inr f)| .inl q=>.inl (s.1++q,(s.1++q).map (·.Kind)))
 |[],s,h,_,_=>by obtain⟨a,b⟩:=s;dsimp only at h;subst h;simp[H5,CK]
 | a::l,s,h,hl,hF=>by
  obtain⟨s1,s2⟩:=s
  dsimp only at h;subst h
  simp only[List.length_cons]at hl
  simp only[H5,CK,hF a (by simp),Option.bind_some,G2]
  by_cases hz:(Fb R a).2=0
  ·simp only[hz,decide_true,Bool.not_true,Bool.false_eq_true,if_false,ne_eq,not_true_eq_false];rw[M6 (by simp;omega),M6 (by simp;omega)];simp only[Option.bind_some];have ih:=Hg (α:=α) (F:=F) (R:=R) (l:=l) (s:=(s1++[(Fb R a).1],s1.map (·.Kind)++[(Fb R a).1.Kind])) (by simp) (by simp;omega) fun b hb=>hF b (by simp[hb])
   simp only[G2]at ih
   rw[ih]
   cases CK R l with
   |inr f=>rfl
   |inl q=>simp
  simp[hz]
theorem Hy {l:List A5}{i:Nat}(h:i<l.length):l[i]? =some (l.getD i W8):=by
 rw[List.getD_eq_getElem?_getD,List.getElem?_eq_getElem h];rfl
theorem We {N:Nat} (hN:40000000≤N) {env:Bk} (he:GA env) (own:Int) (ev:A8) (u:Unit):∀(n:Nat) (x:B1),x.dep≤n→x.bulk≤16777216→(∀y∈x.pre,Y4 y=0)→I8 N n ⟨env,own,ev,u⟩ x=some (Fb (FF env own ev) x):=by
 intro n
 induction n with
 |zero=>intro x h;rw[B1.dep_eq]at h;omega
 | succ n ih=>
  intro x hd hb hbad;have hx:=hbad x (by rw[B1.pre_eq];simp);have hd':=B1.dep_eq x;unfold I8;rw[RA]
  by_cases h0:x.cP.length=0
  ·rw[if_pos (by rw[B8,A9];exact decide_eq_true (by omega)),if_pos h0,Wc hN he own ev u hx (List.eq_nil_of_length_eq_zero h0)];rfl
  rw[if_neg (by rw[B8,A9];simpa using(show¬(x.cP.length:Int)=0 by omega)),if_neg h0];obtain⟨a1,a2,a3⟩:=Ic hx
  have hlen:x.cP.length≤2:=by
   split at a3
   ·omega
   split at a3<;>omega
  have hop5:5≤x.Op:=by
   by_cases h5:x.Op<5
   ·rw[if_pos h5]at a3;omega
   omega
  have hF:∀a∈x.cP,I8 N n ⟨env,own,ev,u⟩ a=some (Fb (FF env own ev) a):=fun a ha=>ih a (by have:=MW ha;omega) (by have:=X9 ha;omega) fun y hy=>hbad y (by rw[B1.pre_eq];exact List.mem_cons_of_mem _ (KA ha hy));rw[F2 x.cP (by omega) (mk:=fun(s:List A5×List Int) i=>(s.1,s.2,i)) (body:=fun(s:List A5×List Int) a=>(I8 N n ⟨env,own,ev,u⟩ a).bind fun r8=>if cmp .neq r8.2 0=true then some (.inr (.inr r8.2))else(I3 s.1 [r8.1]).bind fun l9=>(I3 s.2 [r8.1.Kind]).bind fun l12=>some (.inl (l9,l12))) (fin:=fun s=>.inl s) (s:=([],[])) (by omega) ?_ ?_]
  ·rw [Hg (R:=FF env own ev) rfl (by simp;omega) hF]
   cases hq:CK (FF env own ev) x.cP with
   |inr f=>rfl
   | inl q=>
    simp only[Option.bind_some,List.nil_append];have hql:=Je hq;rw[PA hN _ (by simp;omega)];simp only[Option.bind_some]
    by_cases hz:GB x.Op (q.map (·.Kind))=0
    ·rw[if_neg (H9 hz),if_neg (show¬GB x.Op (q.map (·.Kind))≠0 by simpa using hz)]
     have hi0:B6 q 0=some (q.getD 0 W8):=by
      have:B6 q 0=q[0]? :=C5 (i:=0);rw[this,Hy (by omega)]
     have hiL:B6 q (ar .sub .i64 (Ar.len q) 1)=some (q.getD (q.length - 1) W8):=by
      have e:ar .sub .i64 (Ar.len q) 1=((q.length - 1:Nat):Int):=by
       have:ar .sub .i64 (Ar.len q) 1=Ar.len q - 1:=An (by rw[A9];omega) (by rw[A9];omega);rw[this,A9];omega
      rw[e,C5,Hy (by omega)]
     unfold PF
     by_cases h9:x.Op=9
     ·rw[if_pos (by rw[B8];exact decide_eq_true h9)]
      have h2:x.cP.length=2:=by rw[if_neg (by omega),if_neg (by omega)]at a3;omega
      have hi1:B6 q 1=some (q.getD 1 W8):=by
       have:B6 q 1=q[1]? :=C5 (i:=1);rw[this,Hy (by omega)]
      rw[hi0,hi1];simp only[Option.bind_some];rw[Px];simp only[Option.bind_some,h9,if_true,Option.some.injEq,Prod.mk.injEq,and_true]
      congr 1
      generalize q.getD 0 W8=v;generalize q.getD 1 W8=w;obtain⟨v1,v2,v3⟩:=v;obtain⟨w1,w2,w3⟩:=w;simp only[K1,B8,CX,A5.mk.injEq,Bool.and_true,Bool.decide_and]
     rw[if_neg (by rw[B8];simpa using h9)];rw[hi0,hiL];simp only[Option.bind_some,P2,AJ,AI,AH,AF,AE,AD,AC,Px,B8,C1,Bg,K1,I9,G2,if_neg h9]
     have hop:x.Op=5∨x.Op=6∨x.Op=7∨x.Op=8∨x.Op=10∨x.Op=11∨x.Op=12:=by omega
     rcases hop with h|h|h|h|h|h|h<;>simp[h]
    rw[if_pos (I7 hz),if_pos hz];rfl
  ·intro s i a ha hi;have e:ar .add .i64 (i:Int) 1=i+1:=C4 (by omega) (by omega);simp only[C1,A9,hi,decide_true,if_true,C5,ha,Option.bind_some,e]
   cases I8 N n ⟨env,own,ev,u⟩ a with
   |none=>rfl
   | some r=>
    simp only[Option.bind_some]
    split
    ·rfl
    cases I3 s.1 [r.1]with
    |none=>rfl
    |some l=>
     simp only[Option.bind_some];cases I3 s.2 [r.1.Kind]<;>rfl
  intro s;simp[C1,A9]
def Ld (env:Bk)(own:Int)(ev:A8)(x:B1):A5×Int:=if K5 x=0 then Fb (FF env own ev) x else(W8,K5 x)
theorem Ip {x:B1}(h:K5 x=0):∀y∈x.pre,Y4 y=0:=by
 unfold K5 at h
 split at h
 ·omega
 split at h
 ·omega
 exact CO.1 h
theorem Aa0 {N:Nat}(hN:40000000≤N){env:Bk}(he:GA env)(own:Int)(ev:A8){x:B1}(hb:x.bulk≤16777216):FL N x env own ev=some (Ld env own ev x):=by
 unfold FL Ld;rw[Ot hN hb];simp only[Option.bind_some]
 by_cases h:K5 x=0
 ·rw[if_neg (H9 h),if_pos h];have hd:=Jh x;rw[We hN he own ev () N x (by omega) hb (Ip h)];rfl
 rw[if_pos (I7 h),if_neg h];rfl
end
end Go.Ab
namespace Go.Ab
noncomputable section
open Classical
theorem So (x y:A5):an (cmp .eql x.Kind y.Kind) (an (cmp .eql x.Num y.Num) (an (scmp .eql x.Text y.Text) true))=decide (x=y):=by
 rw[CX];simp only[K1,B8,Bool.and_true];cases x;cases y;simp only[A5.mk.injEq];rw[Bool.eq_iff_iff];simp
def Dt (env:Bk)(own:Int)(ev:A8)(x:B1):Bool:=decide ((Ld env own ev x).2=0)&&decide ((Ld env own ev x).1=⟨1,1,⟨#[]⟩⟩)
theorem Qd {N:Nat}(hN:40000000≤N){env:Bk}(he:GA env)(own:Int)(ev:A8){x:B1}(hb:x.bulk≤16777216):CH N x env own ev=some (Dt env own ev x):=by
 unfold CH Dt;rw[Aa0 hN he own ev hb];simp only[Option.bind_some];rw[B8]
 by_cases h:(Ld env own ev x).2=0
 ·rw[if_pos (decide_eq_true h),Px];simp only[Option.bind_some,decide_eq_true h,Bool.true_and];rw[So];exact congrArg some (decide_eq_decide.2 Iff.rfl)
 rw[if_neg (by simpa using h),decide_eq_false h];rfl
end
end Go.Ab
namespace Go.Ab
noncomputable section
theorem KT (N:Nat){k:Int}(h0:0≤k)(h5:k≤5)(v:A5):U9 N k v=some (decide (v.Kind=0∨(k≠1∧k≠2∧k≠3))):=by
 unfold U9;simp only[I9,B8,Option.some.injEq]
 have h:k=0∨k=1∨k=2∨k=3∨k=4∨k=5:=by omega
 by_cases hz:v.Kind=0<;>rcases h with rfl|rfl|rfl|rfl|rfl|rfl<;>simp[hz]
theorem NO (N:Nat) {k:Int} (h0:0≤k) (h5:k≤5) (v:A5):Z7 N k v=some (L7 k v):=by
 unfold Z7 L7;rw[HJ];simp only[Option.bind_some]
 by_cases h:I0 v=0
 ·rw[if_neg (H9 h),if_neg (show¬I0 v≠0 by simpa using h),KT N h0 h5];simp only[Option.bind_some]
  by_cases h2:v.Kind=0∨(k≠1∧k≠2∧k≠3)
  ·rw[if_neg (by rw[N5,decide_eq_true h2];decide),if_pos h2]
  rw[if_pos (by rw[N5,decide_eq_false h2];rfl),if_neg h2]
 rw[if_pos (I7 h),if_pos h]
theorem QI (N:Nat)(k:Int)(a b:A5):Bu N k a b=some (Ir k a b):=by
 unfold Bu Ir;simp only[B8,decide_eq_true_eq]
 repeat (split;rfl)
 rfl
theorem QC (N:Nat)(k:Int):Ej N k=some (decide (0≤k)&&decide (k≤5)):=rfl
theorem Jz {N:Nat} {k:Int} (h0:0≤k) (h5:k≤5) {l:List A5} (hl:l.length≤4096) (hv:∀v∈l,L7 k v=0):BU N (N7 k l)=some 0:=by
 unfold BU;rw[QC];simp only[Option.bind_some]
 have e1:¬(nt (decide (0≤(N7 k l).Kind)&&decide ((N7 k l).Kind≤5))=true):=by
  show¬((!(decide (0≤k)&&decide (k≤5)))=true)
  simp;omega
 have e2:¬(Ar.or (cmp .lss (N7 k l).Count 0) (cmp .gtr (N7 k l).Count 4096)=true):=by
  show¬((decide ((l.length:Int)<0)||decide (4096<(l.length:Int)))=true)
  simp;omega
 rw[if_neg e1,if_neg e2]
 by_cases hz:l=[]∨k=0
 ·have e3:Ar.or (cmp .eql (N7 k l).Count 0) (cmp .eql (N7 k l).Kind 0)=true:=by
   show(decide ((l.length:Int)=0)||decide (k=0))=true
   rcases hz with rfl|h
   ·rfl
   simp[h]
  have e4:(N7 k l).Value=W8:=by
   by_cases hn:l=[]
   ·subst hn;rfl
   exact(JL _ rfl hn hl hv).c (hz.resolve_left hn)
  rw[if_pos e3,e4];exact if_neg (by simp[N5,K1,B8,CX,W8])
 have hn:l≠[]:=fun h=>hz (.inl h);have hk:k≠0:=fun h=>hz (.inr h);have hlen:l.length≠0:=fun h=>hn (List.eq_nil_of_length_eq_zero h)
 have e3:¬(Ar.or (cmp .eql (N7 k l).Count 0) (cmp .eql (N7 k l).Kind 0)=true):=by
  show¬((decide ((l.length:Int)=0)||decide (k=0))=true)
  simp[hk,hn]
 rw[if_neg e3];have g:=JL _ rfl hn hl hv
 by_cases k1:k=1
 ·rw[if_pos (show cmp .eql (N7 k l).Kind 1=true from decide_eq_true k1)];obtain⟨a,b,c,d⟩:=g.s k1;have ev:(N7 k l).Value=Z2 k l:=rfl;have ec:(N7 k l).Count=(l.length:Int):=rfl;have em:ar .mul .i64 (l.length:Int) 1099511627776=(l.length:Int)*1099511627776:=An (by omega) (by omega)
  have en:Ar.neg .i64 ((l.length:Int)*1099511627776)= - ((l.length:Int)*1099511627776):=by
   show IntKind.wrap .i64 (0 - (l.length:Int)*1099511627776)=_
   rw[An (by omega) (by omega)];omega
  rw[ev,ec,em,en];rw[if_neg];rw[show scmp .neq (Z2 k l).Text ⟨#[]⟩= !(scmp .eql (Z2 k l).Text ⟨#[]⟩)from rfl,CX];simp only[I9,G2,C1,Q2];rw[decide_eq_true a,decide_eq_true b,decide_eq_false (show¬(Z2 k l).Num< -((l.length:Int)*1099511627776) by omega),decide_eq_false (show¬(l.length:Int)*1099511627776<(Z2 k l).Num by omega)]
  decide
 rw[if_neg (show¬(cmp .eql (N7 k l).Kind 1=true)from(by show¬decide (k=1)=true;simpa using k1))]
 have hvb:I0 (Z2 k l)=0:=by
  by_cases h23:k=2∨k=3
  ·exact(g.m h23).1
  exact g.f (by omega)
 have hsu:(Z2 k l).Kind=0∨(k≠1∧k≠2∧k≠3):=by
  by_cases h23:k=2∨k=3
  ·exact .inl (g.m h23).2
  exact .inr (by omega)
 show((X3 N (Z2 k l)).bind _)=_
 rw[HJ,hvb];simp only[Option.bind_some];rw[if_neg (show¬(cmp .neq 0 0=true) by decide)]
 show((U9 N k (Z2 k l)).bind _)=_
 rw[KT N h0 h5,decide_eq_true hsu];rfl
theorem Zm {N:Nat} {k:Int} (h0:0≤k) (h5:k≤5) {l:List A5} (hl:l.length<4096) (hv:∀v∈l,L7 k v=0) (v:A5):
 ∃z,BV N (N7 k l) v=some (if L7 k v=0 then(N7 k (l++[v]),0)else(z,L7 k v)):=by
 refine⟨⟨0,0,W8⟩,?_⟩;unfold BV;rw[Jz h0 h5 (by omega) hv];simp only[Option.bind_some];rw[if_neg (show¬(cmp .neq 0 0=true) by decide)]
 show((Z7 N k v).bind _)=_
 rw[NO N h0 h5];simp only[Option.bind_some]
 by_cases hw:L7 k v=0
 ·rw[if_neg (H9 hw),if_pos hw];have ec:(N7 k l).Count=(l.length:Int):=rfl;have ek:(N7 k l).Kind=k:=rfl;have ev:(N7 k l).Value=Z2 k l:=rfl
  have ea:N7 k (l++[v])=⟨k,(l.length:Int)+1,if l=[]then Bt k v else Ir k (Z2 k l) (Bt k v)⟩:=by
   unfold N7;rw[Jc];simp
  rw[ec,ek,ev,ea,C4 (a:=(l.length:Int)) (by omega) (by omega)];rw[if_neg (show¬(cmp .eql (l.length:Int) 4096=true) by rw[B8];simp;omega)]
  by_cases k0:k=0
  ·subst k0;rw[if_pos (show cmp .eql 0 0=true by rfl)]
   have:(if l=[]then Bt 0 v else Ir 0 (Z2 0 l) (Bt 0 v))=W8:=by split<;>rfl
   rw[this];rfl
  rw[if_neg (show¬(cmp .eql k 0=true) by rw[B8];simpa using k0)];have es:Bt k v=v:=if_neg k0;rw[es]
  by_cases hn:l=[]
  ·subst hn;rw[if_neg (show¬(cmp .gtr (([]:List A5).length:Int) 0=true) by decide),if_pos rfl]
  have:0<l.length:=List.length_pos_iff.2 hn;rw[if_pos (show cmp .gtr (l.length:Int) 0=true from decide_eq_true (by omega)),QI,if_neg hn];rfl
 rw[if_pos (I7 hw),if_neg hw];rfl
theorem KV {N:Nat} {k:Int} (h0:0≤k) (h5:k≤5):∀(l p:List A5),p.length+l.length≤4096→(∀v∈p,L7 k v=0)→
 ∃z,H5 (fun(s:C0) v=>(BV N s v).bind fun r=>if cmp .neq r.2 0=true then some (Sum.inr (Sum.inr (α:=C0) (r.2,s)))else some (.inl r.1)) l (N7 k p)=
  some (if P5 (L7 k) l=0 then .inl (N7 k (p++l))else .inr (.inr (P5 (L7 k) l,z)))
 |[],p,_,_=>⟨N7 k p,by simp[H5,P5]⟩
 |v::l,p,hl,hp=>by
  simp only[List.length_cons]at hl
  obtain⟨z,hz⟩:=Zm (N:=N) h0 h5 (l:=p) (by omega) hp v;simp only[H5,hz,Option.bind_some,P5]
  by_cases hw:L7 k v=0
  ·obtain⟨z',h'⟩:=KV (N:=N) h0 h5 l (p++[v]) (by simp;omega) (by intro x hx;rcases List.mem_append.1 hx with h|h;exact hp x h;rw[List.mem_singleton.1 h];exact hw);refine⟨z',?_⟩;simp only[hw,if_true,if_neg (H9 (rfl:(0:Int)=0))];rw[h',List.append_assoc];rfl
  refine⟨N7 k p,?_⟩;simp only[hw,if_false,if_pos (I7 hw)]
theorem Zl {N:Nat} (hN:40000000≤N) (k:Int) (l:List A5) (o:A5):Hc N k l o=some (YC k l o):=by
 unfold Hc YC;rw[QC];simp only[Option.bind_some]
 by_cases h0:k<0∨5<k
 ·rw[if_pos (by show(!(decide (0≤k)&&decide (k≤5)))=true;simp;omega),if_pos h0];rfl
 rw[if_neg (by show¬((!(decide (0≤k)&&decide (k≤5)))=true);simp;omega),if_neg h0]
 by_cases h1:4096<l.length
 ·rw[if_pos (R3 (by rw[A9];omega)),if_pos h1];rfl
 rw[if_neg (N2 (by rw[A9];omega)),if_neg h1];rw[F2 l (by omega) (mk:=fun(s:C0) i=>(i,s)) (body:=fun(s:C0) v=>(BV N s v).bind fun r=>if cmp .neq r.2 0=true then some (Sum.inr (Sum.inr (α:=C0) (r.2,s)))else some (.inl r.1)) (fin:=fun s=>.inl s) (s:=⟨k,0,⟨0,0,⟨#[]⟩⟩⟩) (by omega) ?_ ?_]
 ·obtain⟨z,hz⟩:=KV (N:=N) (k:=k) (by omega) (by omega) l [] (by simpa using by omega) (by simp);rw[show(⟨k,0,⟨0,0,⟨#[]⟩⟩⟩:C0)=N7 k []from rfl,hz]
  by_cases h2:P5 (L7 k) l=0
  ·rw[if_pos h2,if_neg (show¬P5 (L7 k) l≠0 by simpa using h2)];have hv:=CO.1 h2;simp only[Option.bind_some,List.nil_append];unfold DH;rw[Jz (by omega) (by omega) (by omega) hv];simp only[Option.bind_some];rw[if_neg (show¬(cmp .neq 0 0=true) by decide)]
   show((Z7 N k o).bind _).bind _=_
   rw[NO N (by omega) (by omega)];simp only[Option.bind_some]
   by_cases h3:L7 k o=0
   ·rw[if_neg (H9 h3),if_neg (show¬L7 k o≠0 by simpa using h3)]
    by_cases h4:k=0
    ·rw[if_pos (show cmp .eql (N7 k l).Kind 0=true from decide_eq_true h4),if_pos h4];rfl
    rw[if_neg (show¬(cmp .eql (N7 k l).Kind 0=true)from(by show¬decide (k=0)=true;simpa using h4)),if_neg h4]
    by_cases h5:l=[]∧k≠1
    ·rw[if_pos (show an (cmp .eql (N7 k l).Count 0) (cmp .neq (N7 k l).Kind 1)=true by show(decide ((l.length:Int)=0)&& !decide (k=1))=true;simp[h5.1,h5.2]),if_pos h5];rfl
    rw[if_neg (show¬(an (cmp .eql (N7 k l).Count 0) (cmp .neq (N7 k l).Kind 1)=true) by show¬((decide ((l.length:Int)=0)&& !decide (k=1))=true);simpa using h5),if_neg h5];rfl
   rw[if_pos (I7 h3),if_pos (show L7 k o≠0 from h3)];rfl
  rw[if_neg h2,if_pos (show P5 (L7 k) l≠0 from h2)];rfl
 ·intro s i a ha hi;have e:ar .add .i64 (i:Int) 1=i+1:=C4 (by omega) (by omega);simp only[C1,A9,hi,decide_true,if_true,C5,ha,Option.bind_some,e]
  cases BV N s a with
  |none=>rfl
  |some r=>simp only[Option.bind_some];split<;>rfl
 intro s;simp[C1,A9]
end
end Go.Ab
namespace Go.Ab
noncomputable section
theorem Mh (N:Nat)(b:Bool):O7 N b=some (Io b):=by unfold O7 Io;cases b<;>rfl
theorem OV (N:Nat)(env:Bk)(v:Int):Ae N env v=some (Fq env v):=by
 unfold Ae Fq
 by_cases h:v<0∨(env.cX.length:Int)≤v
 ·rw[if_pos (by simp only[I9,C1,J1,A9];simpa using h),if_pos h]
 rw[if_neg (by simp only[I9,C1,J1,A9];simpa using h),if_neg h]
 have hi:v.toNat<env.cX.length:=by omega
 have hv:v=(v.toNat:Int):=by omega
 rw[hv,C5];simp only[List.getD_eq_getElem?_getD,Int.toNat_natCast,List.getElem?_eq_getElem hi,Option.bind_some,Option.getD_some]
theorem Rr {l:List A5}{k:Int}(h0:0≤k)(h1:k<l.length):B6 l k=some (l.getD k.toNat W8):=by
 obtain⟨i,rfl⟩:=Int.eq_ofNat_of_zero_le h0
 have hi:i<l.length:=by omega
 rw[C5];simp[List.getD_eq_getElem?_getD,List.getElem?_eq_getElem hi]
theorem Xf (N:Nat) {env:Bk} (he:GA env) (v own:Int) (ev:A8):Eh N env v own ev=some (match IV (Fq env v) own ev v with|some y=>(y,true)|none=>(⟨0,0,0,0,[]⟩,false)):=by
 have hl:=LL he v;unfold Eh IV
 by_cases hv:v=own
 ·rw[if_pos (by rw[B8];exact decide_eq_true hv),if_neg (by simpa using hv)]
 rw[if_neg (by rw[B8];simpa using hv),if_pos hv,OV];simp only[Option.bind_some]
 generalize Fq env v=rows at hl
 rcases List.eq_nil_or_concat rows with rfl|⟨q,y,rfl⟩
 ·rfl
 rw[concat_eq_append]at *
 have e1:ar .sub .i64 (Ar.len (q++[y])) 1=(q.length:Int):=by
  have:ar .sub .i64 (Ar.len (q++[y])) 1=Ar.len (q++[y]) - 1:=An (by rw[A9];omega) (by rw[A9];omega);rw[this,A9];simp
 rw[if_neg (by rw[B8,A9];simp;omega),e1,C5];simp
theorem Xd {N:Nat} (hN:40000000≤N) {env:Bk} (he:GA env) (own:Int) (ev:A8) {x:B1} (hx:Y4 x=0) (ha:x.cP=[]):Eg N x env own ev=some (FF env own ev x):=by
 have hok:=Ad8 hx
 have hop:0≤x.Op∧x.Op<5:=by
  have:=Ic hx
  rw[ha]at this
  simp only[List.length_nil]at this
  obtain⟨h1,h2,h3⟩:=this
  by_cases h5:x.Op<5
  ·exact⟨h1,h5⟩
  rw[if_neg h5]at h3
  split at h3<;>omega
 have hl:=LL he x.Var;unfold Eg FF
 by_cases h0:x.Op=0
 ·rw[if_pos (by rw[B8];exact decide_eq_true h0),if_pos h0]
 rw[if_neg (by rw[B8];simpa using h0),if_neg h0]
 by_cases h3:x.Op=3
 ·rw[if_pos (by rw[B8];exact decide_eq_true h3),if_pos h3,OV];rfl
 rw[if_neg (by rw[B8];simpa using h3),if_neg h3]
 by_cases h4:x.Op=4
 ·have hf:=(hok.1 (.inr h4)).1;rw[if_pos (by rw[B8];exact decide_eq_true h4),if_pos h4,OV];simp only[Option.bind_some];unfold OE
  generalize Fq env x.Var=rows at hl
  rw[F2 rows (by omega) (mk:=fun(s:List A5) i=>(s,i)) (body:=fun s e=>if cmp .geq x.Field (Ar.len e.Values)=true then some (.inr (.inr ()))else(B6 e.Values x.Field).bind fun v=>(I3 s [v]).bind fun l=>some (.inl l)) (fin:=fun s=>.inl s) (s:=[]) (by omega) ?_ ?_]
  ·rw[IJ (p:=fun e=>decide (x.Field<(e.Values.length:Int))) (g:=fun e=>e.Values.getD x.Field.toNat W8) (r:=.inr ()) (by simp;omega) (fun s e _ hs=>by
    by_cases h:(e.Values.length:Int)≤x.Field
    ·rw[if_pos (by rw[J1,A9];exact decide_eq_true h),if_neg (by simpa using h)]
    rw[if_neg (by rw[J1,A9];simpa using h),if_pos (by simpa using h),Rr hf (by omega)];simp only[Option.bind_some]
    rw[M6 (by simp;omega)];rfl)]
   by_cases h:(rows.all fun e=>decide (x.Field<(e.Values.length:Int)))=true
   ·rw[if_pos h,if_pos h];simp only[Option.bind_some,List.nil_append];rw[Zl hN];rfl
   rw[if_neg h,if_neg h];rfl
  ·intro s i a ha hi;have e:ar .add .i64 (i:Int) 1=i+1:=C4 (by omega) (by omega);simp only[C1,A9,hi,decide_true,if_true,C5,ha,Option.bind_some,e]
   split
   ·rfl
   cases B6 a.Values x.Field with
   |none=>rfl
   |some v=>
    simp only[Option.bind_some];cases I3 s [v]<;>rfl
  intro s;simp[C1,A9]
 rw[if_neg (by rw[B8];simpa using h4),if_neg h4,Xf N he];simp only[Option.bind_some]
 cases hy:IV (Fq env x.Var) own ev x.Var with
 |none=>rfl
 |some y=>
  simp only[N5,Bool.not_true,Bool.false_eq_true,if_false];unfold Xl
  by_cases h2:x.Op=2
  ·rw[if_pos (by rw[B8];exact decide_eq_true h2),if_pos h2]
  rw[if_neg (by rw[B8];simpa using h2),if_neg h2]
  have h1:x.Op=1:=by omega
  have hf:=(hok.1 (.inl h1)).1;unfold Ey
  by_cases hb:(y.Values.length:Int)≤x.Field
  ·rw[if_pos (by rw[J1,A9];exact decide_eq_true hb),if_pos hb];rfl
  rw[if_neg (by rw[J1,A9];simpa using hb),if_neg hb,Rr hf (by omega)];simp only[Option.bind_some];rw[HJ];simp only[Option.bind_some];rw[if_neg (show¬((0:Int)≠0) by simp)]
  by_cases hc:I0 (y.Values.getD x.Field.toNat W8)=0
  ·rw[if_neg (H9 hc),if_neg (show¬I0 (y.Values.getD x.Field.toNat W8)≠0 by simpa using hc)]
  rw[if_pos (I7 hc),if_pos hc];rfl
theorem Zi (N:Nat)(op:Int):AO N op=some (if op=5∨op=6∨op=7∨op=8 then 0 else if op=10∨op=11∨op=12 then 1 else -1):=by
 unfold AO;simp only[B8,decide_eq_true_eq]
 by_cases h5:op=5
 ·simp[h5]
 by_cases h6:op=6
 ·simp[h6]
 by_cases h7:op=7
 ·simp[h7]
 by_cases h8:op=8
 ·simp[h8]
 simp only[h5,h6,h7,h8,if_false,Option.bind_some,decide_false,Bool.false_eq_true,or_self,false_or]
 by_cases h10:op=10
 ·simp[h10]
 by_cases h11:op=11
 ·simp[h11]
 by_cases h12:op=12
 ·simp[h12]
 simp[h10,h11,h12]
theorem OU {N:Nat} (hN:40000000≤N) (op:Int) {kinds:List Int} (hl:kinds.length<1000000):AN N op kinds=some (GB op kinds):=by
 unfold AN GB;rw[F2 kinds (by omega) (mk:=fun(_:Unit) i=>i) (body:=fun _ k=>some (if Gl op kinds k=true then .inl ()else .inr (.inr ()))) (fin:=fun _=>.inl ()) (s:=()) (by omega) ?_ ?_]
 ·rw[IK (p:=Gl op kinds) (r:=.inr ()) fun x _=>rfl]
  by_cases h:kinds.all (Gl op kinds)=true
  ·rw[if_pos h,if_pos h];rfl
  rw[if_neg h,if_neg h];rfl
 ·intro s i k hk hi;have e:ar .add .i64 (i:Int) 1=i+1:=C4 (by omega) (by omega)
  have h0:B6 kinds 0=some (kinds.getD 0 0):=by
   have:B6 kinds 0=kinds[0]? :=C5 (i:=0);rw[this,List.getD_eq_getElem?_getD,List.getElem?_eq_getElem (by omega)];rfl
  simp only[C1,A9,hi,decide_true,if_true,C5,hk,Option.bind_some,e,B8,h0,N5,Zi,G2,J1];unfold Gl
  by_cases a5:op=5
  ·subst a5;by_cases hz:k=0<;>simp[hz]
  by_cases a6:op=6
  ·subst a6;by_cases hz:k=0<;>simp[hz]
  by_cases a7:op=7
  ·subst a7;by_cases hz:k=0<;>simp[hz]
  by_cases a8:op=8
  ·subst a8;by_cases hz:k=0<;>simp[hz]
  by_cases a10:op=10
  ·subst a10;by_cases hz:k=1<;>simp[hz]
  by_cases a11:op=11
  ·subst a11;by_cases hz:k=1<;>simp[hz]
  by_cases a12:op=12
  ·subst a12;by_cases hz:k=1<;>simp[hz]
  by_cases a9:op=9
  ·subst a9;generalize kinds.getD 0 0=z
   by_cases hz:k=z<;>simp[hz]
  simp[a5,a6,a7,a8,a9,a10,a11,a12]
 intro s;simp[C1,A9]
theorem SI {N:Nat} (hN:40000000≤N) {env:Bk} (he:GA env) (own:Int) (ev:A8):∀(n:Nat) (x:B1),x.dep≤n→x.bulk≤16777216→(∀y∈x.pre,Y4 y=0)→Ad N n x env own ev=some (Fb (FF env own ev) x):=by
 intro n
 induction n with
 |zero=>intro x h;rw[B1.dep_eq]at h;omega
 | succ n ih=>
  intro x hd hb hbad;have hx:=hbad x (by rw[B1.pre_eq];simp);have hd':=B1.dep_eq x;unfold Ad;rw[RA]
  by_cases h0:x.cP.length=0
  ·rw[if_pos (by rw[B8,A9];exact decide_eq_true (by omega)),if_pos h0,Xd hN he own ev hx (List.eq_nil_of_length_eq_zero h0)];rfl
  rw[if_neg (by rw[B8,A9];simpa using(show¬(x.cP.length:Int)=0 by omega)),if_neg h0];obtain⟨a1,a2,a3⟩:=Ic hx
  have hlen:x.cP.length≤2:=by
   split at a3
   ·omega
   split at a3<;>omega
  have hop5:5≤x.Op:=by
   by_cases h5:x.Op<5
   ·rw[if_pos h5]at a3;omega
   omega
  have hF:∀a∈x.cP,Ad N n a env own ev=some (Fb (FF env own ev) a):=fun a ha=>ih a (by have:=MW ha;omega) (by have:=X9 ha;omega) fun y hy=>hbad y (by rw[B1.pre_eq];exact List.mem_cons_of_mem _ (KA ha hy));rw[F2 x.cP (by omega) (mk:=fun(s:List A5×List Int) i=>(s.1,s.2,i)) (body:=fun(s:List A5×List Int) a=>(Ad N n a env own ev).bind fun r8=>if cmp .neq r8.2 0=true then some (.inr (.inr r8.2))else(I3 s.1 [r8.1]).bind fun l9=>(I3 s.2 [r8.1.Kind]).bind fun l12=>some (.inl (l9,l12))) (fin:=fun s=>.inl s) (s:=([],[])) (by omega) ?_ ?_]
  ·rw [Hg (R:=FF env own ev) rfl (by simp;omega) hF]
   cases hq:CK (FF env own ev) x.cP with
   |inr f=>rfl
   | inl q=>
    simp only[Option.bind_some,List.nil_append];have hql:=Je hq;rw[OU hN _ (by simp;omega)];simp only[Option.bind_some]
    by_cases hz:GB x.Op (q.map (·.Kind))=0
    ·rw[if_neg (H9 hz),if_neg (show¬GB x.Op (q.map (·.Kind))≠0 by simpa using hz)]
     have hi0:B6 q 0=some (q.getD 0 W8):=by
      have:B6 q 0=q[0]? :=C5 (i:=0);rw[this,Hy (by omega)]
     unfold ET
     by_cases h12:x.Op=12
     ·have e1:q.length - 1=0:=by rw[if_neg (by omega),if_pos h12]at a3;omega
      rw[h12];simp only[B8,hi0,Option.bind_some,Mh,G2];rfl
     have h2:q.length=2:=by rw[if_neg (by omega),if_neg h12]at a3;omega
     have hi1:B6 q 1=some (q.getD 1 W8):=by
      have:B6 q 1=q[1]? :=C5 (i:=1);rw[this,Hy (by omega)]
     have e1:q.length - 1=1:=by omega
     unfold PF;rw[e1];simp only[B8,hi0,hi1,Option.bind_some,Mh,G2,C1,Bg];generalize q.getD 0 W8=v;generalize q.getD 1 W8=w
     have hop:x.Op=5∨x.Op=6∨x.Op=7∨x.Op=8∨x.Op=9∨x.Op=10∨x.Op=11:=by omega
     rcases hop with h|h|h|h|h|h|h
     ·simp[h]
     ·simp[h]
     ·simp[h]
     ·simp[h]
     ·simp only[h];have:=So v w
      simp only[B8]at this
      rw[this];simp
     ·simp only[h]
      by_cases hv:v.Num=1<;>simp[hv]
     simp only[h]
     by_cases hv:v.Num=1<;>simp[hv]
    rw[if_pos (I7 hz),if_pos hz];rfl
  ·intro s i a ha hi;have e:ar .add .i64 (i:Int) 1=i+1:=C4 (by omega) (by omega);simp only[C1,A9,hi,decide_true,if_true,C5,ha,Option.bind_some,e]
   cases Ad N n a env own ev with
   |none=>rfl
   | some r=>
    simp only[Option.bind_some]
    split
    ·rfl
    cases I3 s.1 [r.1]with
    |none=>rfl
    |some l=>
     simp only[Option.bind_some];cases I3 s.2 [r.1.Kind]<;>rfl
  intro s;simp[C1,A9]
theorem Xh {N:Nat}(hN:40000000≤N){env:Bk}(he:GA env)(own:Int)(ev:A8){x:B1}(hb:x.bulk≤16777216):Ei N x env own ev=some (Ld env own ev x):=by
 unfold Ei Ld;rw[Nf hN hb];simp only[Option.bind_some]
 by_cases h:K5 x=0
 ·rw[if_neg (H9 h),if_pos h];have hd:=Jh x;rw[SI hN he own ev N x (by omega) hb (Ip h)];rfl
 rw[if_pos (I7 h),if_neg h];rfl
theorem Ko {N:Nat}(hN:40000000≤N){env:Bk}(he:GA env)(own:Int)(ev:A8){x:B1}(hb:x.bulk≤16777216):AP N x env own ev=some (Dt env own ev x):=by
 unfold AP Dt;rw[Xh hN he own ev hb];simp only[Option.bind_some];rw[B8]
 by_cases h:(Ld env own ev x).2=0
 ·rw[if_pos (decide_eq_true h),Mh];simp only[Option.bind_some,decide_eq_true h,Bool.true_and];rw[So];exact congrArg some (decide_eq_decide.2 Iff.rfl)
 rw[if_neg (by simpa using h),decide_eq_false h];rfl
end
end Go.Ab
namespace Go.Ab
open Classical
noncomputable section
abbrev BD :=A0
abbrev PR :=A2
def pr (b:BD):PR:=⟨b.cU,b.at_⟩
def Ju (b:PR):BD:=⟨b.Var,b.At⟩
theorem Zq (b:PR):pr (Ju b)=b:=rfl
theorem TM (b:BD):Ju (pr b)=b:=rfl
abbrev H6 (s:List BD):List PR:=s.map pr
theorem P7 (s:List PR):H6 (s.map Ju)=s:=by rw[H6,List.map_map];exact(List.map_congr_left fun x _=>Zq x).trans (List.map_id s)
theorem Ag0 {a b:BD}(h:pr a=pr b):a=b:=by have:=congrArg Ju h;simpa[TM]using this
theorem HQ {a b:List BD}(h:H6 a=H6 b):a=b:=(List.map_inj_right (fun _ _ h=>Ag0 h)).1 h
def mrg :List PR→List PR→List PR
 |[],b=>b
 |x::a,[]=>x::a
 |x::a,y::b=>if x.At<y.At then x::mrg a (y::b)else y::mrg (x::a) b
 termination_by a b=>a.length+b.length
theorem Gj (b:List PR):mrg [] b=b:=by unfold mrg;rfl
theorem Mz (a:List PR):mrg a []=a:=by cases a<;>(unfold mrg;rfl)
theorem MA (x y:PR)(a b:List PR):mrg (x::a) (y::b)=if x.At<y.At then x::mrg a (y::b)else y::mrg (x::a) b:=by rw[mrg]
theorem Ho :∀(n:Nat) (a b:List PR),a.length+b.length≤n→(mrg a b).Perm (a++b)
 |_,[],b,_=>by rw[Gj];exact .refl _
 |_,x::a,[],_=>by rw[Mz];simp
 |0,x::a,y::b,h=>by simp at h
 |n+1,x::a,y::b,h=>by
  simp only[List.length_cons]at h
  rw[MA]
  split
  ·exact(Ho n a (y::b) (by simp;omega)).cons x
  exact((Ho n (x::a) b (by simp;omega)).cons y).trans (List.perm_middle.symm)
theorem CV {a b:List PR}{x:PR}:x∈mrg a b↔x∈a∨x∈b:=by rw[(Ho _ a b (Nat.le_refl _)).mem_iff,List.mem_append]
theorem Ul (a b:List PR):(mrg a b).length=a.length+b.length:=by rw[(Ho _ a b (Nat.le_refl _)).length_eq,List.length_append]
def Wu (a:List PR):Prop:=a.Pairwise fun x y=>x.At<y.At
def Cb (a b:List PR):Prop:=∀x∈a,∀y∈b,x.At≠y.At
theorem LF :∀(n:Nat) {a b:List PR},a.length+b.length≤n→Wu a→Wu b→Cb a b→Wu (mrg a b)
 |_,[],b,_,_,hb,_=>by rw[Gj];exact hb
 |_,x::a,[],_,ha,_,_=>by rw[Mz];exact ha
 |0,x::a,y::b,h,_,_,_=>by simp at h
 | n+1,x::a,y::b,h,ha,hb,hd=>by
  simp only[List.length_cons]at h
  unfold Wu at ha hb
  rw[List.pairwise_cons]at ha hb
  rw[MA];have hxy:=hd x (by simp) y (by simp)
  split
  ·rename_i hlt;refine List.pairwise_cons.2 ⟨fun z hz=>?_,LF n (by simp;omega) ha.2 (List.pairwise_cons.2 hb) fun u hu v hv=>hd u (by simp[hu]) v hv⟩
   rcases CV.1 hz with hz|hz
   ·exact ha.1 z hz
   rcases List.mem_cons.1 hz with rfl|hz
   ·exact hlt
   have:=hb.1 z hz;omega
  rename_i hlt;refine List.pairwise_cons.2 ⟨fun z hz=>?_,LF n (by simp;omega) (List.pairwise_cons.2 ha) hb.2 fun u hu v hv=>hd u hu v (by simp[hv])⟩
  rcases CV.1 hz with hz|hz
  ·rcases List.mem_cons.1 hz with rfl|hz
   ·omega
   have:=ha.1 z hz;omega
  exact hb.1 z hz
theorem Cx {α:Type}(x:α)(l:List α):N4 (x::l) (some 1) none none=some l:=by
 unfold N4;rw[if_pos (by simp;omega)];simp
theorem OF {N:Nat}:∀(k:Nat) (a b out:List PR),a.length+b.length≤k→out.length+a.length+b.length≤1000000→∀n,k<n→loopN
 (fun (s1:(List A2)×(List A2)×(List A2))=>
  (
   if Ar.or (cmp .gtr (Ar.len s1.1) 0) (cmp .gtr (Ar.len s1.2.1) 0)=true then
    if cmp .eql (Ar.len s1.2.1) 0=true then
     ((
      (B6 s1.1 0).bind fun x85=>
      (I3 s1.2.2 ([x85])).bind fun l206=>
      (N4 s1.1 (some 1) none none).bind fun l285=>
      some (l285,l206)
     ):Option (((List A2)×(List A2)))).bind fun s4=>
     some (.inl (s4.1,s1.2.1,s4.2))
    else
     if cmp .gtr (Ar.len s1.1) 0=true then
      (B6 s1.1 0).bind fun x446=>
      (B6 s1.2.1 0).bind fun x447=>
      if cmp .lss x446.At x447.At=true then
       ((
        (B6 s1.1 0).bind fun x529=>
        (I3 s1.2.2 ([x529])).bind fun l650=>
        (N4 s1.1 (some 1) none none).bind fun l729=>
        some (l729,l650)
       ):Option (((List A2)×(List A2)))).bind fun s448=>
       some (.inl (s448.1,s1.2.1,s448.2))
      else
       ((
        (B6 s1.2.1 0).bind fun x971=>
        (I3 s1.2.2 ([x971])).bind fun l1092=>
        (N4 s1.2.1 (some 1) none none).bind fun l1171=>
        some (l1171,l1092)
       ):Option (((List A2)×(List A2)))).bind fun s890=>
       some (.inl (s1.1,s890.1,s890.2))
     else
      ((
       (B6 s1.2.1 0).bind fun x1413=>
       (I3 s1.2.2 ([x1413])).bind fun l1534=>
       (N4 s1.2.1 (some 1) none none).bind fun l1613=>
       some (l1613,l1534)
      ):Option (((List A2)×(List A2)))).bind fun s1332=>
      some (.inl (s1.1,s1332.1,s1332.2))
   else
    some (.inr s1.2.2)
   :Option (((List A2)×(List A2)×(List A2)) ⊕ (((List A2))))))
 n (a,b,out)=some (out++mrg a b):=by
 intro k;have h0:∀(x:PR) l,B6 (x::l) 0=some x:=fun x l=>rfl
 induction k with
 |zero=>
  intro a b out h _ n hn;obtain⟨n,rfl⟩:∃m,n=m+1:=⟨n - 1,by omega⟩
  cases a<;>cases b<;>simp at h
  simp[loopN,Gj,A9,Q2,I9]
 | succ k ih=>
  intro a b out h ho n hn;obtain⟨n,rfl⟩:∃m,n=m+1:=⟨n - 1,by omega⟩
  cases a with
  | nil=>
   cases b with
   |nil=>simp[loopN,Gj,A9,Q2,I9]
   |cons y b=>
    simp only[List.length_cons,List.length_nil]at h ho
    have:=ih [] b (out++[y]) (by simp;omega) (by simp;omega) n (by omega)
    rw[Gj]at this ⊢
    unfold loopN;simp only[A9,Q2,B8,I9,List.length_nil,List.length_cons,h0,Option.bind_some,Cx];rw[if_pos (by simp<;>omega),if_neg (by simp<;>omega),if_neg (by simp),M6 (by simp<;>omega)];simp only[Option.bind_some]
    simp only[A9,Q2,B8,I9]at this
    rw[this];simp
  | cons x a=>
   cases b with
   |nil=>
    simp only[List.length_cons,List.length_nil]at h ho
    have:=ih a [] (out++[x]) (by simp;omega) (by simp;omega) n (by omega)
    rw[Mz]at this ⊢
    unfold loopN;simp only[A9,Q2,B8,I9,List.length_nil,List.length_cons,h0,Option.bind_some,Cx];rw[if_pos (by simp<;>omega),if_pos (by simp),M6 (by simp<;>omega)];simp only[Option.bind_some]
    simp only[A9,Q2,B8,I9]at this
    rw[this];simp
   |cons y b=>
    simp only[List.length_cons]at h ho
    have h1:=ih a (y::b) (out++[x]) (by simp;omega) (by simp;omega) n (by omega);have h2:=ih (x::a) b (out++[y]) (by simp;omega) (by simp;omega) n (by omega);rw[MA];unfold loopN
    simp only[A9,Q2,B8,C1,I9,List.length_cons,h0,Option.bind_some,Cx]at h1 h2 ⊢
    rw[if_pos (by simp<;>omega),if_neg (by simp<;>omega),if_pos (by simp<;>omega),M6 (by simp<;>omega),M6 (by simp<;>omega)]
    by_cases hlt:x.At<y.At
    ·rw[if_pos (decide_eq_true hlt),if_pos hlt];simp only[Option.bind_some];rw[h1];simp
    rw[if_neg (by simpa using hlt),if_neg hlt];simp only[Option.bind_some];rw[h2];simp
theorem EM {N:Nat}(hN:40000000≤N){a b:List PR}(h:a.length+b.length≤1000000):G5 N a b=some (mrg a b):=by
 unfold G5;rw[OF (N:=N) _ a b [] (Nat.le_refl _) (by simpa using h) N (by omega)];rfl
def InS (n:Int)(s:List PR):Prop:=∀x∈s,0≤x.At∧x.At<n
theorem DG {a b:Int}(h0: -9223372036854775808≤a - b)(h1:a - b<9223372036854775808):ar .sub .i64 a b=a - b:=An h0 h1
theorem LJ {N:Nat} {a b:List BD} {n:Int} (hn:n≤1000000) (hla:a.length≤1000000) (hlb:b.length≤1000000) (ha:Wu (H6 a)) (hb:Wu (H6 b)) (hd:Cb (H6 a) (H6 b)) (ia:InS n (H6 a)) (ib:InS n (H6 b)):
 ∃c,L4 N a b=some c∧H6 c=mrg (H6 a) (H6 b):=by
 refine⟨(mrg (H6 a) (H6 b)).map Ju,?_,P7 _⟩;unfold L4
 have h1:Um 0 (ar .add .i64 (Ar.len a) (Ar.len b)) (⟨0,0⟩:BD)=some []:=by
  rw[A9,A9,C4 (by omega) (by omega)];unfold Um;rw[if_pos (by omega)];rfl
 rw[h1];simp only[Option.bind_some];rw[M6 (by simp;omega)];simp only[Option.bind_some,List.nil_append];rw[M6 (by omega)];simp only[Option.bind_some];have hm:=LF _ (Nat.le_refl _) ha hb hd;have hin:∀x∈mrg (H6 a) (H6 b),0≤x.At∧x.At<n:=fun x hx=>(CV.1 hx).elim (ia x) (ib x)
 have hs:GV (fun y1 y2=>AZ N y1 y2) (a++b)=some ((mrg (H6 a) (H6 b)).map Ju):=by
  refine Ql ?_ (BP.2 ⟨?_,?_⟩) (by simp;omega)
  ·have:=(Ho _ (H6 a) (H6 b) (Nat.le_refl _)).map Ju;refine this.trans (List.Perm.of_eq ?_);rw[←List.map_append,List.map_map];exact(List.map_congr_left fun x _=>TM x).trans (List.map_id _)
  ·intro x _
   show(match some (ar .sub .i64 x.at_ x.at_)with|some c=>decide (0≤c)|none=>false)=true
   rw[DG (by omega) (by omega)];simp
  rw[List.pairwise_map];refine List.Pairwise.imp_of_mem (fun{x y} hx hy hlt=>?_) hm;have:=hin x hx;have:=hin y hy
  constructor
  ·show(match some (ar .sub .i64 x.At y.At)with|some c=>decide (c<0)|none=>false)=true
   rw[DG (by omega) (by omega)];simp;omega
  show(match some (ar .sub .i64 y.At x.At)with|some c=>decide (0≤c)|none=>false)=true
  rw[DG (by omega) (by omega)];simp;omega
 rw[hs];rfl
def IZ (s:List PR)(i:Int):Bool:=s.any fun x=>decide (x.At=i)
def CF (a b:List PR):Bool:=a.any fun x=>IZ b x.At
theorem Pq {s:List PR}{i:Int}:IZ s i=true↔∃x∈s,x.At=i:=by simp[IZ]
theorem Ku {a b:List PR}:CF a b=false↔Cb a b:=by
 unfold CF Cb;rw[List.any_eq_false]
 constructor
 ·intro h x hx y hy e;exact h x hx (Pq.2 ⟨y,hy,e.symm⟩)
 intro h x hx hc;obtain⟨y,hy,e⟩:=Pq.1 hc;exact h x hx y hy e.symm
theorem P9 {α:Type}{l:List α}{i:Int}(h:i<l.length):cmp .lss i (Ar.len l)=true:=U2 h
theorem S9 {α:Type}{l:List α}:¬cmp .lss (l.length:Int) (Ar.len l)=true:=P1 (Int.lt_irrefl _)
theorem Rj {α A B:Type} {N:Nat} {l:List α} (hl:l.length<N) (hN:l.length<1000000000) {step:Int→Option (Int ⊕ (A ⊕ B))} (P:α→Bool) (u:A) (r:Int→B)
 (hstep:∀(i:Nat) x,l[i]? =some x→(i:Int)<l.length→step i=some (if P x=true then .inr (.inr (r i))else .inl ((i:Int)+1)))
 (hend:step (l.length:Int)=some (.inr (.inl u))):∃i,loopN step N 0=some (if l.any P=true then .inr (r i)else .inl u)∧0≤i:=by
 have key:∀(k i n:Nat),i+k=l.length→k<n→∃j,loopN step n (i:Int)=some (if(l.drop i).any P=true then .inr (r j)else .inl u)∧0≤j:=by
  intro k
  induction k with
  |zero=>
   intro i n hi hn;obtain⟨n,rfl⟩:∃m,n=m+1:=⟨n - 1,by omega⟩;refine⟨0,?_,by omega⟩;rw[List.drop_eq_nil_of_le (by omega),show(i:Int)=l.length by omega];simp[loopN,hend]
  | succ k ih=>
   intro i n hi hn;obtain⟨n,rfl⟩:∃m,n=m+1:=⟨n - 1,by omega⟩
   have hlt:i<l.length:=by omega
   obtain⟨j,h,hj⟩:=ih (i+1) n (by omega) (by omega);rw[List.drop_eq_getElem_cons hlt,List.any_cons];have hs:=hstep i l[i] (by simp[hlt]) (by omega)
   by_cases hp:P l[i]=true
   ·refine⟨i,?_,by omega⟩
    rw[if_pos hp]at hs
    simp[loopN,hs,hp]
   refine⟨j,?_,hj⟩
   rw[if_neg hp]at hs
   simp only[loopN,hs];rw[show((i:Int)+1)=((i+1:Nat):Int) by omega,h];simp[hp]
 obtain⟨j,h,hj⟩:=key l.length 0 N (by omega) hl;exact⟨j,by simpa using h,hj⟩
theorem BY {α:Type}{N:Nat}{l:List α}{step:Int→Option (Int ⊕ (Unit ⊕ Unit))}(P:α→Bool)(hl:l.length<N)(hN:l.length<1000000000)
 (hstep:∀(i:Nat) x,l[i]? =some x→(i:Int)<l.length→step i=some (if P x=true then .inr (.inr ())else .inl ((i:Int)+1)))
 (hend:step (l.length:Int)=some (.inr (.inl ()))):loopN step N 0=some (if l.any P=true then .inr ()else .inl ()):=by
 obtain⟨_,h,_⟩:=Rj hl hN P () (fun _=>()) hstep hend;exact h
theorem FD {α S σ R:Type} {L:List α} {N:Nat} {step:S→Option (S ⊕ R)} (mk:σ→Int→S) (g:σ→α→σ) (fin:σ→R) (Inv:Nat→σ→Prop) {s0:σ} (hN:L.length<N) (hl:L.length<1000000000) (h0:Inv 0 s0)
 (hs:∀s (i:Nat) x,L[i]? =some x→(i:Int)<L.length→x∈L→ar .add .i64 (i:Int) 1=i+1→Inv i s→step (mk s i)=some (.inl (mk (g s x) ((i:Int)+1)))∧Inv (i+1) (g s x)) (he:∀s,step (mk s L.length)=some (.inr (fin s))):loopN step N (mk s0 0)=some (fin (L.foldl g s0))∧Inv L.length (L.foldl g s0):=by
 have key:∀(k i N:Nat) (s:σ),i+k=L.length→k<N→Inv i s→loopN step N (mk s (i:Int))=some (fin ((L.drop i).foldl g s))∧Inv L.length ((L.drop i).foldl g s):=by
  intro k
  induction k with
  |zero=>
   intro i N s hi hN ho;obtain⟨N,rfl⟩:∃m,N=m+1:=⟨N - 1,by omega⟩
   have e:i=L.length:=by omega
   subst e;rw[List.drop_length];exact⟨by simp[loopN,he],ho⟩
  |succ k ih=>
   intro i N s hi hN ho;obtain⟨N,rfl⟩:∃m,N=m+1:=⟨N - 1,by omega⟩
   have hlt:i<L.length:=by omega
   obtain⟨h1,h2⟩:=hs s i L[i] (by simp[hlt]) (by omega) (List.getElem_mem hlt) (C4 (by omega) (by omega)) ho;rw[List.drop_eq_getElem_cons hlt];simp only[loopN,h1];exact ih (i+1) N _ (by omega) (by omega) h2
 simpa using key L.length 0 N s0 (by omega) hN h0
theorem JS {N:Nat} (hN:40000000≤N) {s:List BD} (hl:s.length≤1000000) {f:BD→Option Bool} {P:BD→Bool} (hf:∀x∈s,f x=some (P x)):G8 N s f=some (s.any P):=by
 unfold G8 O2
 obtain⟨j,h,hj⟩:=Rj (N:=N) (l:=s) (by omega) (by omega) (A:=Unit) (B:=Int) (step:=(fun(s1:Int)=>
  (
   if cmp .lss s1 (Ar.len s)=true then
    (B6 s s1).bind fun x3=>
    (f x3).bind fun r4=>
    if r4=true then
     some (.inr (.inr s1))
    else
     some (.inl (ar .add .i64 s1 1))
   else
    some (.inr (.inl ()))
   :Option ((Int) ⊕ (Unit ⊕ Int))))) P () (fun i=>i) (fun i x hx hi=>by
  have e:ar .add .i64 (i:Int) 1=i+1:=C4 (by omega) (by omega);simp only[C1,A9,hi,decide_true,if_true,C5,hx,Option.bind_some,e,hf x (List.mem_of_getElem? hx)]
  split<;>rfl) (by simp[C1,A9])
 rw[h]
 by_cases ha:s.any P=true
 ·rw[if_pos ha,ha];simp only[Option.bind_some,J1,decide_eq_true hj]
 rw[if_neg ha];simp only[Option.bind_some,J1]
 rw[Bool.not_eq_true]at ha
 rw[ha];rfl
theorem TU {N:Nat}(hN:40000000≤N){s:List BD}(hl:s.length≤1000000)(i:Int):S2 N s i=some (IZ (H6 s) i):=by
 unfold S2;rw[JS hN hl (f:=fun y1=>T5 N y1 i) (P:=fun x=>decide (x.at_=i)) fun x _=>rfl];simp only[Option.bind_some,IZ,H6,List.any_map];rfl
theorem UV {N:Nat}(hN:40000000≤N){a b:List BD}(ha:a.length≤1000000)(hb:b.length≤1000000):Ao N a b=some (CF (H6 a) (H6 b)):=by
 unfold Ao;rw[JS hN ha (P:=fun x=>IZ (H6 b) x.at_) fun x _=>by unfold X1;rw[TU hN hb];rfl];simp only[Option.bind_some,CF,H6,List.any_map];rfl
theorem TX {N:Nat} (hN:40000000≤N) {s:List PR} (hl:s.length≤1000000) (i:Int):DS N s i=some (IZ s i):=by
 unfold DS
 rw [BY (l:=s) (fun x=>decide (x.At=i)) (by omega) (by omega) (fun i x hx hi=>by
     have e:ar .add .i64 (i:Int) 1=i+1:=C4 (by omega) (by omega);simp only[C1,A9,hi,decide_true,if_true,C5,hx,Option.bind_some,e,B8]
     split<;>rfl) (by simp[C1,A9])]
 unfold IZ
 by_cases ha:(s.any fun x=>decide (x.At=i))=true
 ·rw[if_pos ha,ha];rfl
 rw[if_neg ha]
 rw[Bool.not_eq_true]at ha
 rw[ha];rfl
theorem Vz {N:Nat} (hN:40000000≤N) {a b:List PR} (ha:a.length≤1000000) (hb:b.length≤1000000):BR N a b=some (!CF a b):=by
 unfold BR
 rw [BY (l:=a) (fun x=>IZ b x.At) (by omega) (by omega) (fun i x hx hi=>by
     have e:ar .add .i64 (i:Int) 1=i+1:=C4 (by omega) (by omega);simp only[C1,A9,hi,decide_true,if_true,C5,hx,Option.bind_some,e,TX hN hb]
     split<;>rfl) (by simp[C1,A9])]
 unfold CF
 by_cases ha:(a.any fun x=>IZ b x.At)=true
 ·rw[if_pos ha,ha];rfl
 rw[if_neg ha]
 rw[Bool.not_eq_true]at ha
 rw[ha];rfl
def Ww (s:List PR):Int:=match s with|[]=>0|x::_=>x.At
def Z0 (s:List PR):Int:=match s.getLast? with|none=>0|some x=>x.At
theorem Hu {α:Type} {l:List α} (h:l≠[]) (hl:l.length≤1000000):B6 l (ar .sub .i64 (Ar.len l) 1)=l.getLast? :=by
 rcases List.eq_nil_or_concat l with rfl|⟨q,y,rfl⟩
 ·exact absurd rfl h
 rw[concat_eq_append]at *
 have e1:ar .sub .i64 (Ar.len (q++[y])) 1=(q.length:Int):=by
  have:ar .sub .i64 (Ar.len (q++[y])) 1=Ar.len (q++[y]) - 1:=DG (by rw[A9];omega) (by rw[A9];omega);rw[this,A9];simp
 rw[e1,C5];simp
theorem DY {s:List PR}(h:s≠[]):∃x,s.getLast? =some x∧x∈s∧Z0 s=x.At:=by
 cases hs:s.getLast? with
 |none=>exact absurd (List.getLast?_eq_none_iff.1 hs) h
 |some x=>exact⟨x,rfl,List.mem_of_getLast? hs,by simp[Z0,hs]⟩
theorem Qo {N:Nat}{s:List BD}(h:s≠[])(hl:s.length≤1000000):K7 N s=some (Z0 (H6 s)):=by
 unfold K7;rw[Hu h hl];unfold Z0;rw[H6,List.getLast?_map]
 cases hs:s.getLast? with
 |none=>exact absurd (List.getLast?_eq_none_iff.1 hs) h
 |some x=>rfl
theorem Hv {α:Type}(x:α)(l:List α):B6 (x::l) 0=some x:=rfl
theorem Nl {s:List PR}(ha:Wu s):∀x∈s,x.At≤Z0 s:=by
 intro x hx
 rcases List.eq_nil_or_concat s with rfl|⟨q,y,rfl⟩
 ·cases hx
 rw[concat_eq_append]at *
 have e:Z0 (q++[y])=y.At:=by simp[Z0]
 rw[e]
 unfold Wu at ha
 rw[List.pairwise_append]at ha
 rcases List.mem_append.1 hx with h|h
 ·have:=ha.2.2 x h y (by simp);omega
 rw[List.mem_singleton.1 h];exact Int.le_refl _
theorem UI :∀{s:List PR} {k:Int} {m:Nat},Wu s→(∀x∈s,k≤x.At∧x.At<k+m)→s.length≤m
 |[],_,_,_,_=>Nat.zero_le _
 |x::s,k,m,ha,h=>by
  unfold Wu at ha
  rw[List.pairwise_cons]at ha
  have hx:=h x (by simp);obtain⟨m,rfl⟩:∃q,m=q+1:=⟨m - 1,by omega⟩
  have:=UI (s:=s) (k:=x.At+1) (m:=m) ha.2 fun y hy=>by have:=ha.1 y hy;have:=h y (by simp[hy]);omega
  simp;omega
end
end Go.Ab
