/- GTD2 GTD3 GTD4 GTD5 GTD6 GTR1 GTR2 GTV0 GTV1 GTV2 GTV3 GTV5 GTV6 -/
import Derived.Test.YtanbgjgaafeplaaGreatDoorS16
set_option linter.all false
open Go.Ab.Ar (an ar cmp)
namespace Go.Ab
abbrev Pr :=IN×I9
def zE :A5:=⟨0,[],0,0,0,⟨0,0,⟨#[]⟩⟩⟩
def zP :A0:=⟨0,[],0,0,0,0,zE⟩
def nd (op:Int)(args:List A0):A0:=⟨op,args,0,0,0,0,zE⟩
def ZC :I9:=⟨true,zP⟩
def Zw (op:Int)(l:List A0):A0:=match l with|[x]=>x|l=>nd op l
def Ai4 (r:I9)(more:List A0):I9:=
 match(if r.done=true then more else r.p::more)with
 |[]=>ZC
 |l=>⟨false,Zw 1 l⟩
def Ah8 (args:List A0)(i:Nat)(r:I9):I9:=
 ⟨false,Zw 3 (if r.done=true then args.take i++args.drop (i+1)else args.set i r.p)⟩
def Esz (e:IN)(k:Nat):Prop:=e.Opens.length≤k∧e.Closes.length≤k∧e.Checks.length≤k∧e.Limits.length≤k∧e.Inside.length≤k
def Ag2 (p:A0) (x:IN) (done opens:Bool):IN:=
 {x with
  Opens:=if opens=true then p.cR::x.Opens else x.Opens
  Inside:=if p.Op=5∨p.Op=9 then p.cR::x.Inside else x.Inside
  Limits:=if p.Op=5∨p.Op=9 then x.Limits else⟨p.cR,p.Span⟩::x.Limits
  Closes:=if done=true then x.Closes++[p.cR]else x.Closes}
def rep (again:A0)(y:Pr):List Pr:=
 if y.2.done=true then[y,(y.1,⟨false,again⟩)]else match again.cN with|b::_=>[(y.1,⟨false,nd 8 [y.2.p,b]⟩)]|[]=>[]
def innE (x:A0)(y:Pr):IN:=
 if x.Op=7 then(if y.2.done=true then{y.1 with Checks:=y.1.Checks++[x.cO]}else y.1)
 else Ag2 x y.1 y.2.done (if x.Op=5∨x.Op=9 then decide (x.Op=5)else decide (x.Op=6))
def Ai0 (x:A0):Int:=if x.Op=7 then 7 else if x.Op=5∨x.Op=9 then 9 else 10
def innR (x:A0)(r:I9):I9:=if r.done=true then r else{r with p:={x with Op:=Ai0 x,cN:=[r.p]}}
def inn (x:A0)(y:Pr):Pr:=(innE x y,innR x y.2)
def comb (x:A0)(ls:List (List Pr)):List Pr:=
 if x.Op=0 then[(⟨0,0,x.Var,x.Typ,x.cO,[],[],[],[],[]⟩,ZC)]
 else if x.Op=1 then(ls.headD []).map fun y=>(y.1,Ai4 y.2 (x.cN.drop 1))
 else if x.Op=2 then(List.range x.cN.length).flatMap fun i=>ls.getD i []
 else if x.Op=3 then(List.range x.cN.length).flatMap fun i=>(ls.getD i []).map fun y=>(y.1,Ah8 x.cN i y.2)
 else if x.Op=4 then(ls.headD []).flatMap (rep x)
 else if x.Op=8 then(ls.headD []).flatMap (rep (nd 4 (x.cN.drop 1)))
 else(ls.headD []).map (inn x)
mutual
def raw :A0→List Pr
 |⟨op,args,typ,var,scope,span,c⟩=>comb ⟨op,args,typ,var,scope,span,c⟩ (raws args)
def raws :List A0→List (List Pr)
 |[]=>[]
 |a::l=>raw a::raws l
end
theorem Esz.mono {e:IN}{k m:Nat}(h:Esz e k)(hm:k≤m):Esz e m:=by obtain⟨h1,h2,h3,h4,h5⟩:=h;exact⟨by omega,by omega,by omega,by omega,by omega⟩
end Go.Ab
namespace Go.Ab
end Go.Ab
namespace Go.Ab
structure Ss (B:Nat) (R:Nat) (y:Pr):Prop where
 from0:y.1.From=0
 to0:y.1.To=0
 done:y.2.done=true→y.2.p=zP
 cond:y.1.cO.bulk≤B
 checks:∀c∈y.1.Checks,c.bulk≤B
 rest:y.2.p.bulk≤R
theorem Ss.mono {B R B' R':Nat}{y:Pr}(h:Ss B R y)(hB:B≤B')(hR:R≤R'):Ss B' R' y:=⟨h.from0,h.to0,h.done,Nat.le_trans h.cond hB,fun c hc=>Nat.le_trans (h.checks c hc) hB,Nat.le_trans h.rest hR⟩
def wth {α:Type}[DecidableEq α](l:List α)(x:α):List α:=if x∈l then l else l++[x]
def dd {α:Type}[DecidableEq α](l:List α):List α:=l.foldl wth []
section
variable {α:Type}[DecidableEq α]
theorem Ac2 (l m:List α):dd (l++m)=m.foldl wth (dd l):=by simp[dd,List.foldl_append]
end
end Go.Ab
namespace Go.Ab
def idxI {α:Type}(P:α→Bool)(l:List α):Int:=match l.findIdx? P with|none=> -1|some i=>(i:Int)
noncomputable abbrev idxP (l:List A0)(p:A0):Int:=idxI (fun q=>decide (p=q)) l
noncomputable def Ag3 (l:List A0)(y:Pr):List A0:=if y.2.done=true then l else wth l y.2.p
noncomputable def VY (w:List Pr):List A0:=w.foldl Ag3 []
noncomputable def toOf (l:List A0)(r:I9):Int:=if r.done=true then -1 else idxP l r.p
noncomputable def eg (l:List A0)(y:Pr):IN:={y.1 with To:=toOf l y.2}
def XA (N:Nat)(w:List Pr):Prop:=2048<(dd w).length∨∃y∈w,y.2.done=false∧N1 N y.2.p≠0
noncomputable instance (N:Nat)(w:List Pr):Decidable (XA N w):=Classical.propDecidable _
theorem Qv (w v:List Pr):(dd w).length≤(dd (w++v)).length:=by
 rw[Ac2]
 have key:∀(v l:List Pr),l.length≤(v.foldl wth l).length:=fun v=>by
  induction v with
  |nil=>intro l;exact Nat.le_refl _
  |cons x v ih=>
   intro l;refine Nat.le_trans ?_ (ih (wth l x));unfold wth;split<;>simp
 exact key v _
theorem XA.mono {N:Nat}{w v:List Pr}(h:XA N w):XA N (w++v):=by
 rcases h with h|⟨y,hy,h⟩
 ·left;have:=Qv w v;omega
 right;exact⟨y,by simp[hy],h⟩
structure DerInv (N:Nat) (w:List Pr) (s:List A0×List IN):Prop where
 rs:s.1=VY w
 es:s.2=(dd w).map (eg (VY w))
 ok:¬XA N w
 len:(VY w).length≤(dd w).length
end Go.Ab
namespace Go.Ab
theorem HD {α R:Type} (P:α→Bool) (r:R):∀l:List α,G6 (fun(_:Unit) y=>if P y=true then some (Sum.inr r)else some (.inl ())) l ()=some (if l.any P=true then .inr r else .inl ())
 |[]=>rfl
 | y::l=>by
  unfold G6
  cases h:P y with
  |true=>simp[h]
  |false=>
   simp only[Bool.false_eq_true,if_false,List.any_cons,h,Bool.false_or];exact HD P r l
theorem Good.sub {N:Nat}{x y:A0}(h:Good N x)(hy:y∈x.pre):AE N y=0:=h y hy
theorem Vy {N:Nat} (hN:40000000≤N) {x:A0} (hb:x.bulk≤16777216):AW N x=some (if N1 N x≠0 then N1 N x else if x.pre.any (fun y=>cmp .geq y.Op 8)=true then 1 else 0):=by
 unfold AW;rw[XY hN hb];simp only[Option.bind_some]
 by_cases h:N1 N x=0
 ·rw[if_neg (O9 h),if_neg (by simpa using h),Ge hN hb];simp only[Option.bind_some];rw[HD (fun y:A0=>cmp .geq y.Op 8) (1:Int) x.pre]
  by_cases h2:x.pre.any (fun y=>cmp .geq y.Op 8)=true
  ·rw[if_pos h2,if_pos h2];rfl
  rw[if_neg h2,if_neg h2];rfl
 rw[if_pos (Q9 h),if_pos h]
theorem GK {N:Nat} {x:A0} (hz:N1 N x=0):x.pre.length≤64∧x.dep≤12∧Good N x:=by
 have hp:x.pre.length≤64:=by
  by_cases h:64<x.pre.length
  ·rw[N1,if_pos h]at hz;cases hz
  omega
 have hd:¬12<x.dep:=fun h=>by rw[N1,if_neg (by omega),if_pos h]at hz;cases hz
 rw[N1,if_neg (by omega),if_neg hd]at hz
 exact⟨hp,by omega,Bx.1 hz⟩
theorem BE (x:A0):x∈x.pre:=by rw[A0.pre_eq];simp
theorem Tx {α β:Type}{m:Option α}{F:α→Option β}{a:α}{r:Option β}(h1:m=some a)(h2:F a=r):m.bind F=r:=by rw[h1];exact h2
end Go.Ab
namespace Go.Ab
mutual
theorem LQ :∀x:A5,(∀y∈x.pre,y.Value.Text.size≤64)→x.bulk≤74*x.pre.length
 |⟨op,args,var,field,kind,v⟩,h=>by
  have h1:=JT args fun y hy=>h y (by rw[A5.pre];exact List.mem_cons_of_mem _ hy);have h2:v.Text.size≤64:=h ⟨op,args,var,field,kind,v⟩ (by rw[A5.pre];exact List.mem_cons_self ..);simp only[A5.bulk,A5.pre,List.length_cons];omega
theorem JT :∀l:List A5,(∀y∈A5.pres l,y.Value.Text.size≤64)→A5.bulks l≤1+74*(A5.pres l).length
 |[],_=>by simp[A5.bulks]
 |a::l,h=>by
  have h1:=LQ a fun y hy=>h y (by rw[A5.pres];exact List.mem_append_left _ hy);have h2:=JT l fun y hy=>h y (by rw[A5.pres];exact List.mem_append_right _ hy);simp only[A5.bulks,A5.pres,List.length_append];omega
end
theorem Hy :(⟨#[]⟩:ByteArray).size=0:=rfl
theorem QQ {v:A7}(h:Mm v=true):v.Text.size≤64:=by
 simp only[Mm,M1,C2,EA,Bool.and_eq_true,decide_eq_true_eq]at h
 rw[h.2.2.1,Hy];omega
theorem ON {v:A7} (h:I1 v=0):v.Text.size≤64:=by
 unfold I1 at h
 by_cases h1:v.Kind=0∨v.Kind=1
 ·rw[if_pos h1]at h
  by_cases h2:v.Text≠⟨#[]⟩
  ·rw[if_pos h2]at h;cases h
  have:v.Text=⟨#[]⟩:=Classical.not_not.1 h2;rw[this,Hy];omega
 rw[if_neg h1]at h
 by_cases h2:v.Kind=2
 ·rw[if_pos h2]at h
  by_cases h3:v.Num≠0
  ·rw[if_pos h3]at h;cases h
  rw[if_neg h3]at h
  by_cases h4:64<(v.Text.size:Int)
  ·rw[if_pos h4]at h;cases h
  omega
 rw[if_neg h2]at h;cases h
theorem Ok {x:A5} (h:Ak x=0):x.Value.Text.size≤64:=by
 unfold Ak at h
 by_cases h0:x.Op<0∨12<x.Op
 ·rw[if_pos h0]at h;cases h
 rw[if_neg h0]at h
 by_cases h1:(x.cN.length:Int)≠(if x.Op<5 then 0 else if x.Op=12 then 1 else 2)
 ·rw[if_pos h1]at h;cases h
 rw[if_neg h1]at h
 by_cases h2:NM x=true
 ·rw[if_pos h2]at h;cases h
 rw[if_neg h2]at h
 by_cases h3:Ls x=true
 ·rw[if_pos h3]at h;cases h
 rw[if_neg h3]at h
 by_cases h4:x.Op=4∨x.Op=0
 ·by_cases h5:I1 x.Value=0
  ·exact ON h5
  rw[if_pos ⟨h4,h5⟩]at h;exact absurd h h5
 rw[if_neg (fun e=>h4 e.1),if_neg (fun e=>h4 (.inl e.1))]at h
 by_cases h6:Dv x=true
 ·rw[if_pos h6]at h;cases h
 have h7:Mm x.Value=true:=by
  have n4:¬x.Op=4:=fun e=>h4 (.inl e);have n0:¬x.Op=0:=fun e=>h4 (.inr e)
  cases hz:Mm x.Value with
  |true=>rfl
  |false=>
   refine absurd ?_ h6;simp[Dv,O0,M1,W2,C2,n4,n0,hz]
 exact QQ h7
theorem JZ {c:A5}(h:J4 c=0):c.bulk≤4736:=by
 have hp:¬64<c.pre.length:=fun e=>by rw[J4,if_pos e]at h;cases h
 have hd:¬12<c.dep:=fun e=>by rw[J4,if_neg hp,if_pos e]at h;cases h
 rw[J4,if_neg hp,if_neg hd]at h
 have:=LQ c fun y hy=>Ok (Bx.1 h y hy);omega
theorem Ld {N:Nat} (hN:40000000≤N) {y:A0} (hb:y.bulk≤16777216) (hl:y.cN.length≤64) (h:AE N y=0):(0≤y.Op∧y.Op≤10)∧∃s ng,GY N y s ng∧y.cO.bulk≤4736:=by
 have hc:y.cO.bulk≤16777216:=by have:=A0.bulk_eq y;omega
 have hop:0≤y.Op∧y.Op≤10:=by
  by_cases ho:0≤y.Op∧y.Op≤10
  ·exact ho
  have h1:=(Dh hN hb hl).1
  unfold P5 at h1
  rw[if_pos (Zq ho).1,h]at h1
  cases h1
 obtain⟨s,ng,hs⟩:=KJ N y hop.1 hop.2 hl;have hz:=Zm hN N y.cO (⟨0,[],0,0,0,(⟨0,0,⟨#[]⟩⟩:A7)⟩:A5) (by omega) hc;have h1:=Fm hN hc hop.1 hop.2 hs hz
 rw[(Dh hN hb hl).2,h]at h1
 have h1:=Option.some.inj h1;refine⟨hop,s,ng,hs,?_⟩
 by_cases ha:s.cT≤y.cN.length∧(y.cN.length:Int)≤s.most
 ·rw[if_pos ha]at h1
  unfold HE at h1
  by_cases e1:CE s.cQ y.Typ 15=true
  ·rw[if_pos e1]at h1;cases h1
  rw[if_neg e1]at h1
  by_cases e2:CE s.cQ y.Var 15=true
  ·rw[if_pos e2]at h1;cases h1
  rw[if_neg e2]at h1
  by_cases e3:CE s.scope y.cR 63=true
  ·rw[if_pos e3]at h1;cases h1
  rw[if_neg e3]at h1
  by_cases e4:CE s.span y.Span 1099511627776=true
  ·rw[if_pos e4]at h1;cases h1
  rw[if_neg e4]at h1
  by_cases e5:s.cond=true
  ·by_cases e6:J4 y.cO=0
   ·exact JZ e6
   rw[if_pos ⟨e5,e6⟩]at h1;exact absurd h1.symm e6
  rw[if_neg (fun e=>e5 e.1)]at h1
  by_cases e6:y.cO=(⟨0,[],0,0,0,(⟨0,0,⟨#[]⟩⟩:A7)⟩:A5)
  ·rw[e6];simp only[A5.bulk,A5.bulks,Hy];omega
  rw[if_neg (fun e=>by
   have:=e.1
   rw[decide_eq_false e6]at this
   simp[e5]at this)]at h1
  cases h1
 rw[if_neg ha]at h1;cases h1
end Go.Ab
namespace Go.Ab
def cnt :List (Bool×Bool×A0)→Int→Int→Bool
 |[],_,_=>true
 |y::l,v,s=>(if y.1=true then decide (y.2.2.Var=v)else true)&&(if y.2.1=true then decide (y.2.2.cR=s)else true)&&cnt l (if y.1=true then v+1 else v) (if y.2.1=true then s+1 else s)
noncomputable def DL (y:A0):Bool:=match B9 F2 y.Op with|some s=>s.cQ|none=>false
noncomputable def DP (y:A0):Bool:=match B9 F2 y.Op with|some s=>s.scope|none=>false
noncomputable def Om (l:List A0):Bool:=cnt (l.map fun y=>(DL y,DP y,y)) 0 0
def Xz (N:Nat)(y:A0):Prop:=∃s ng,GY N y s ng
theorem Lw {N:Nat}(hN:40000000≤N){x:A0}(hb:x.bulk≤16777216)(hz:N1 N x=0):∀y∈x.pre,Xz N y:=fun y hy=>by
 obtain⟨hp,hd,hg⟩:=GK hz;have h1:=DV x y hy;have h2:=CF y;obtain⟨_,s,ng,h,_⟩:=Ld hN (by omega) (by omega) (hg y hy);exact⟨s,ng,h⟩
theorem DW {a b:Int}(h:a<b):cmp .lss a b=true:=by rw[B8];exact decide_eq_true h
theorem BJ {a b:Int}(h:¬a<b):¬(cmp .lss a b=true):=by rw[B8];simpa using h
noncomputable def LN (s7:Bool×Int×Int)(y6:A0):Option ((Bool×Int×Int) ⊕ Unit):=
 (B9 F2 y6.Op).bind fun x11=>((if x11.cQ=true then some (an s7.1 (cmp .eql y6.Var s7.2.2),ar .add .i64 s7.2.2 1)else some (s7.1,s7.2.2)):Option (Bool×Int)).bind fun s12=>if x11.scope=true then some (.inl (an s12.1 (cmp .eql y6.cR s7.2.1),ar .add .i64 s7.2.1 1,s12.2))else some (.inl (s12.1,s7.2.1,s12.2))
theorem Nb {N:Nat}:∀(l:List A0),(∀y∈l,Xz N y)→∀(b:Bool) (v s:Int),0≤v→0≤s→v+l.length≤1000000→s+l.length≤1000000→
 ∃v' s',G6 LN l (b,s,v)=some (.inl (b&&cnt (l.map fun y=>(DL y,DP y,y)) v s,s',v'))
 |[],_,b,v,s,_,_,_,_=>⟨v,s,by simp[G6,cnt]⟩
 |y::l,h,b,v,s,hv,hs,hv2,hs2=>by
  simp only[List.length_cons]at hv2 hs2
  obtain⟨sh,ng,ok⟩:=h y (by simp)
  have et:DL y=sh.cQ:=by unfold DL;rw[ok.tab]
  have es:DP y=sh.scope:=by unfold DP;rw[ok.tab]
  have ev:ar .add .i64 v 1=v+1:=C0 (by omega) (by omega);have ess:ar .add .i64 s 1=s+1:=C0 (by omega) (by omega);have hr:=fun b v' s' h1 h2 h3 h4=>Nb l (fun z hz=>h z (by simp[hz])) b v' s' h1 h2 h3 h4;simp only[List.map_cons,cnt,et,es]
  have step:∀b' v2 s2,LN (b,s,v) y=some (.inl (b',s2,v2))→G6 LN (y::l) (b,s,v)=G6 LN l (b',s2,v2):=fun b' v2 s2 h=>by simp only[G6,h]
  have hst:∀b' v2 s2,(some (.inl (b',s2,v2)):Option ((Bool×Int×Int) ⊕ Unit))=(((if sh.cQ=true then some (an b (cmp .eql y.Var v),ar .add .i64 v 1)else some (b,v)):Option (Bool×Int)).bind fun s12=>if sh.scope=true then some (.inl (an s12.1 (cmp .eql y.cR s),ar .add .i64 s 1,s12.2))else some (.inl (s12.1,s,s12.2)))→G6 LN (y::l) (b,s,v)=G6 LN l (b',s2,v2):=fun b' v2 s2 h=>step b' v2 s2 (by rw[h];unfold LN;rw[ok.tab];rfl);cases ht:sh.cQ<;>cases hc:sh.scope
  ·obtain⟨v',s',h1⟩:=hr b v s hv hs (by omega) (by omega);exact⟨v',s',by rw[hst b v s (by rw[ht,hc];rfl)];simpa using h1⟩
  ·obtain⟨v',s',h1⟩:=hr (b&&decide (y.cR=s)) v (s+1) hv (by omega) (by omega) (by omega);exact⟨v',s',by rw[hst (b&&decide (y.cR=s)) v (s+1) (by simp[ht,hc,ess,C2,M1])];simpa[Bool.and_assoc]using h1⟩
  ·obtain⟨v',s',h1⟩:=hr (b&&decide (y.Var=v)) (v+1) s (by omega) hs (by omega) (by omega);exact⟨v',s',by rw[hst (b&&decide (y.Var=v)) (v+1) s (by rw[ht,hc,ev,C2,M1];rfl)];simpa[Bool.and_assoc]using h1⟩
  obtain⟨v',s',h1⟩:=hr (b&&decide (y.Var=v)&&decide (y.cR=s)) (v+1) (s+1) (by omega) (by omega) (by omega) (by omega);exact⟨v',s',by rw[hst (b&&decide (y.Var=v)&&decide (y.cR=s)) (v+1) (s+1) (by rw[ht,hc,ev,ess,C2,C2,M1];rfl)];simpa[Bool.and_assoc]using h1⟩
theorem Us {N:Nat}(hN:40000000≤N){x:A0}(hb:x.bulk≤16777216)(hz:N1 N x=0):∃v s,AX N x=some (v,s,Om x.pre):=by
 obtain⟨hp,hd,hg⟩:=GK hz;obtain⟨v,s,h⟩:=Nb (N:=N) x.pre (Lw hN hb hz) true 0 0 (by omega) (by omega) (by omega) (by omega);unfold AX;rw[Ge hN hb];simp only[Option.bind_some];refine⟨v,s,Tx h ?_⟩;simp[Om]
noncomputable def Mg (N:Nat)(x:A0):Int:=if N1 N x≠0 then N1 N x else if x.pre.any (fun y=>cmp .geq y.Op 8)=true then 1 else if Om x.pre=true then 0 else 14
theorem Ut {N:Nat} (hN:40000000≤N) {x:A0} (hb:x.bulk≤16777216):AY N x=some (Mg N x):=by
 unfold AY Mg;rw[Vy hN hb];simp only[Option.bind_some]
 by_cases h:N1 N x=0
 ·rw[if_neg (show¬(N1 N x≠0) by simpa using h),if_neg (show¬(N1 N x≠0) by simpa using h)]
  by_cases h2:x.pre.any (fun y=>cmp .geq y.Op 8)=true
  ·rw[if_pos h2,if_pos h2,if_pos (Q9 (by omega))]
  rw[if_neg h2,if_neg h2,if_neg (O9 rfl)];obtain⟨v,s,hr⟩:=Us hN hb h;rw[hr];simp only[Option.bind_some];cases Om x.pre<;>simp[W2]
 rw[if_pos h,if_pos (Q9 h),if_pos h]
theorem Ur {N:Nat}(l:List A0)(hl:l.length<N)(hs:l.length≤1000000):BF N l=some (!(l.any fun y=>cmp .geq y.Op 8)):=by
 unfold BF;rw[I0 l (by omega) (mk:=fun(_:Unit) i=>i) (body:=fun(_:Unit) a=>if cmp .geq a.Op 8=true then some (.inr (.inr ()))else some (.inl ())) (fin:=fun _=>.inl ()) (s:=()) (by omega) ?_ ?_]
 ·rw[HD (fun y:A0=>cmp .geq y.Op 8) (Sum.inr ():Unit ⊕ Unit) l];cases h:l.any fun y=>cmp .geq y.Op 8<;>simp
 ·intro s i a ha hi;have e:ar .add .i64 (i:Int) 1=i+1:=C0 (by omega) (by omega);simp only[B8,B3,hi,decide_true,if_true,D5,ha,Option.bind_some,e];cases cmp .geq a.Op 8<;>rfl
 intro s;simp[B8,B3]
theorem Uo {N:Nat} (hN:40000000≤N) {x:A0} (hb:x.bulk≤16777216):Cx N x=some (Mg N x):=by
 unfold Cx Mg;rw[VZ hN hb];simp only[Option.bind_some]
 by_cases h:N1 N x=0
 ·rw [if_neg (show¬(N1 N x≠0) by simpa using h),if_neg (O9 h),Lc hN N x (by omega) hb];have hpb:=Dr x;obtain⟨hp,hd,hg⟩:=GK h;simp only[Option.bind_some];rw[Ur x.pre (by omega) (by omega)];simp only[Option.bind_some]
  by_cases h2:x.pre.any (fun y=>cmp .geq y.Op 8)=true
  ·rw[if_pos h2,h2,if_pos (show Ar.nt (!true)=true from rfl)]
  rw[if_neg h2,if_neg (by simp[W2,h2])];have hk:=Lw hN hb h
  obtain ⟨r,k1,k2⟩:=Iv (S:=Int×Int×Int) (R:=Unit ⊕ Unit) (step:=fun(s4:Int×Int×Int)=>((if cmp .lss s4.2.2 (Ar.len x.pre)=true then(B9 x.pre s4.2.2).bind fun x6=>(U0 N x6).bind fun r7=>((if r7=true then(B9 x.pre s4.2.2).bind fun x9=>if cmp .neq x9.Var s4.1=true then some (.inr ())else some (.inl (ar .add .i64 s4.1 1))else some (.inl s4.1)):Option (Int ⊕ Unit)).bind fun s8=>match s8 with
          | .inl y10=>(B9 x.pre s4.2.2).bind fun x11=>(W0 N x11).bind fun r12=>if r12=true then(B9 x.pre s4.2.2).bind fun x13=>if cmp .neq x13.cR s4.2.1=true then some (.inr (.inr ()))else some (.inl (y10,ar .add .i64 s4.2.1 1,ar .add .i64 s4.2.2 1))else(B9 x.pre s4.2.2).bind fun x14=>(S7 N x14).bind fun r15=>if r15=true then(B9 x.pre s4.2.2).bind fun x16=>if cmp .neq x16.cR s4.2.1=true then some (.inr (.inr ()))else some (.inl (y10,ar .add .i64 s4.2.1 1,ar .add .i64 s4.2.2 1))else some (.inl (y10,s4.2.1,ar .add .i64 s4.2.2 1))
          | .inr y17=>some (.inr (.inr ()))
   else some (.inr (.inl ())))
   :Option ((Int×Int×Int) ⊕ (Unit ⊕ Unit))))
   (fun j s=>s.2.2=(j:Int)∧0≤s.1∧s.1≤j∧0≤s.2.1∧s.2.1≤j∧Om x.pre=cnt ((x.pre.drop j).map fun y=>(DL y,DP y,y)) s.1 s.2.1)
   (fun r=>r=if Om x.pre=true then .inl ()else .inr ()) x.pre.length 0 (0,0,0) N (by omega) ⟨rfl,by simp,by simp,by simp,by simp,rfl⟩
   (fun j s _ hj ⟨e,b1,b2,b3,b4,hc⟩=>by
    obtain⟨v,sc,i⟩:=s
    simp only at e b1 b2 b3 b4 hc
    subst e
    simp only[Nat.zero_add]at hj
    have e1:B9 x.pre (j:Int)=some x.pre[j]:=by rw[D5,List.getElem?_eq_getElem hj]
    obtain⟨sh,ng,ok⟩:=hk _ (List.getElem_mem hj)
    have et:DL x.pre[j]=sh.cQ:=by unfold DL;rw[ok.tab]
    have es:DP x.pre[j]=sh.scope:=by unfold DP;rw[ok.tab]
    have ev:ar .add .i64 v 1=v+1:=C0 (by omega) (by omega);have ess:ar .add .i64 sc 1=sc+1:=C0 (by omega) (by omega);have ei:ar .add .i64 (j:Int) 1=((j+1:Nat):Int):=Ob (by omega)
    rw[List.drop_eq_getElem_cons hj,List.map_cons,cnt]at hc
    simp only[et,es]at hc
    have sco:=ok.sco;rw[if_pos (DW (by simp only[B3];omega))];simp only[e1,Option.bind_some,ok.var,ok.neg,ok.tim,ev,ess,ei]
    by_cases hv:sh.cQ=true∧x.pre[j].Var≠v
    ·rw[if_pos hv.1,if_pos (Q9 hv.2)];refine⟨_,rfl,?_⟩;rw[hc];simp[hv.1,hv.2]
    have hv1:((if sh.cQ=true then if cmp .neq x.pre[j].Var v=true then some (.inr ())else some (.inl (v+1))else some (.inl v)):Option (Int ⊕ Unit))=some (.inl (if sh.cQ=true then v+1 else v)):=by
     by_cases ht:sh.cQ=true
     ·rw[if_pos ht,if_pos ht,if_neg (O9 (Classical.not_not.1 fun e=>hv ⟨ht,e⟩))]
     rw[if_neg ht,if_neg ht]
    rw[hv1];simp only[Option.bind_some]
    have hcv:(if sh.cQ=true then decide (x.pre[j].Var=v)else true)=true:=by
     by_cases ht:sh.cQ=true
     ·rw[if_pos ht];exact decide_eq_true (Classical.not_not.1 fun e=>hv ⟨ht,e⟩)
     rw[if_neg ht]
    rw[hcv,Bool.true_and]at hc
    have hvb:0≤(if sh.cQ=true then v+1 else v)∧(if sh.cQ=true then v+1 else v)≤((j+1:Nat):Int):=by split<;>omega
    generalize (if sh.cQ=true then v+1 else v)=v' at hc hvb ⊢
    by_cases hs:sh.scope=true
    ·rw[if_pos hs,if_pos hs]at hc
     by_cases hsc:x.pre[j].cR=sc
     ·have hgo:0≤sc+1∧sc+1≤((j+1:Nat):Int)∧Om x.pre=cnt ((x.pre.drop (j+1)).map fun y=>(DL y,DP y,y)) v' (sc+1):=by
       refine⟨?_,?_,?_⟩
       ·omega
       ·omega
       rw[hc,decide_eq_true hsc,Bool.true_and]
      by_cases hng:ng=true
      ·rw[if_pos hng,if_neg (O9 hsc)];exact⟨_,rfl,rfl,hvb.1,hvb.2,hgo⟩
      have hsp:sh.span=true:=by rw[hs]at sco;simpa[hng]using sco.symm
      rw[if_neg hng,if_pos hsp,if_neg (O9 hsc)];exact⟨_,rfl,rfl,hvb.1,hvb.2,hgo⟩
     have hno:Om x.pre=false:=by rw[hc,decide_eq_false hsc,Bool.false_and]
     by_cases hng:ng=true
     ·rw[if_pos hng,if_pos (Q9 hsc)];exact⟨_,rfl,by rw[hno];rfl⟩
     have hsp:sh.span=true:=by rw[hs]at sco;simpa[hng]using sco.symm
     rw[if_neg hng,if_pos hsp,if_pos (Q9 hsc)];exact⟨_,rfl,by rw[hno];rfl⟩
    rw[if_neg hs,if_neg hs,Bool.true_and]at hc
    have hs0:sh.scope=false:=by simpa using hs
    rw[hs0]at sco
    have hng:¬ng=true:=fun e=>by rw[e]at sco;cases sco
    have hsp:¬sh.span=true:=fun e=>by rw[e]at sco;simp at sco
    rw[if_neg hng,if_neg hsp];refine⟨_,rfl,rfl,hvb.1,hvb.2,b3,?_,hc⟩
    show sc≤_;omega)
   (fun s ⟨e,_,_,_,_,hc⟩=>by
    obtain⟨v,sc,i⟩:=s
    simp only[Nat.zero_add]at e hc
    subst e
    rw[List.drop_length]at hc
    rw[if_neg (BJ (by simp only[B3];omega))];refine⟨_,rfl,?_⟩
    rw[hc];rfl)
  refine Tx k1 ?_;subst k2;cases Om x.pre<;>rfl
 rw[if_pos h,if_pos (Q9 h)]
end Go.Ab
namespace Go.Ab
theorem Qs :∀{l:List A5} {a:A5},a∈l→a.dep≤A5.deps l
 |b::l,a,h=>by
  simp only[A5.deps]
  rcases List.mem_cons.1 h with rfl|h
  ·exact Nat.le_max_left _ _
  exact Nat.le_trans (Qs h) (Nat.le_max_right _ _)
theorem MU :∀{l:List A5} {a y:A5},a∈l→y∈a.pre→y∈A5.pres l
 |b::l,a,y,h,hy=>by
  simp only[A5.pres,List.mem_append]
  rcases List.mem_cons.1 h with rfl|h
  ·exact .inl hy
  exact .inr (MU h hy)
theorem KS {α R:Type} {body:Unit→α→Option (Unit ⊕ R)} {p:α→Bool} {r:R}:∀{l:List α},(∀x∈l,body () x=some (if p x=true then .inl ()else .inr r))→G6 body l ()=some (if l.all p=true then .inl ()else .inr r)
 |[],_=>rfl
 | x::l,h=>by
  unfold G6;rw[h x (by simp),List.all_cons]
  by_cases hx:p x=true
  ·rw[if_pos hx,hx]
   dsimp only
   rw[KS fun y hy=>h y (by simp[hy])];rfl
  rw[if_neg hx]
  dsimp only
  rw[Bool.not_eq_true]at hx
  rw[hx];rfl
theorem Ai3 {x:A5} (h:Ak x=0):(x.Op=1∨x.Op=4→0≤x.Field∧x.Field<8)∧(1≤x.Op∧x.Op≤4→0≤x.Var∧x.Var<16):=by
 have h3:NM x=false:=by
  cases hh:NM x with
  |false=>rfl
  |true=>
   exfalso
   unfold Ak at h
   by_cases a:x.Op<0∨12<x.Op
   ·rw[if_pos a]at h;cases h
   rw[if_neg a]at h
   by_cases b:(x.cN.length:Int)≠(if x.Op<5 then 0 else if x.Op=12 then 1 else 2)
   ·rw[if_pos b]at h;cases h
   rw[if_neg b,if_pos hh]at h
   cases h
 unfold NM at h3
 simp only[O0,M1,B8,O4,Bool.or_eq_false_iff,Bool.and_eq_false_iff,decide_eq_false_iff_not]at h3
 obtain⟨hv,hf⟩:=h3
 constructor
 ·intro e
  rcases hf with hf|hf
  ·exfalso
   unfold VC at hf
   rcases e with e|e<;>simp[e,C2,O0]at hf
  omega
 intro e
 rcases hv with hv|hv
 ·exfalso
  have h4:x.Op=1∨x.Op=2∨x.Op=3∨x.Op=4:=by omega
  unfold VB at hv
  rcases h4 with e|e|e|e<;>simp[e,C2,O0]at hv
 omega
end Go.Ab
namespace Go.Ab
noncomputable section
def AV :A7:=⟨0,0,⟨#[]⟩⟩
def An (k:Int)(v:A7):Int:=if I1 v≠0 then I1 v else if v.Kind=0∨(k≠1∧k≠2∧k≠3)then 0 else 9
def Ng (k:Int)(a b:A7):A7:=
 if k=1 then⟨0,ar .add .i64 a.Num b.Num,⟨#[]⟩⟩else if k=2 then⟨0,Ar.mn a.Num b.Num,⟨#[]⟩⟩else if k=3 then⟨0,Ar.mx a.Num b.Num,⟨#[]⟩⟩else if k=4 then a else if k=5 then b else AV
def CO (k:Int)(v:A7):A7:=if k=0 then AV else v
def Dx (k:Int):List A7→A7
 |[]=>AV
 |v::l=>l.foldl (fun a b=>Ng k a (CO k b)) (CO k v)
def Ad4 (k:Int)(l:List A7)(o:A7):A7×Int:=
 if k<0∨5<k then(AV,1)else if 4096<l.length then(AV,5)else if S4 (An k) l≠0 then(AV,S4 (An k) l)else if An k o≠0 then(AV,An k o)
 else if k=0 then(⟨0,l.length,⟨#[]⟩⟩,0)else if l=[]∧k≠1 then(o,0)else(Dx k l,0)
theorem Ky (N:Nat)(k:Int)(v:A7):R5 N k v=some (decide (v.Kind=0∨(k≠1∧k≠2∧k≠3))):=by
 unfold R5;simp only[O0,M1,C2,G9,Option.some.injEq]
 by_cases h0:v.Kind=0<;>by_cases h1:k=1<;>by_cases h2:k=2<;>by_cases h3:k=3<;>simp[h0,h1,h2,h3]
theorem OM (N:Nat) (k:Int) (v:A7):M0 N k v=some (An k v):=by
 unfold M0 An;rw[Ie,Ky];simp only[Option.bind_some]
 by_cases h:I1 v=0
 ·rw[if_neg (O9 h),if_neg (show¬I1 v≠0 by simpa using h)]
  by_cases h2:v.Kind=0∨(k≠1∧k≠2∧k≠3)
  ·rw[if_neg (by rw[W2,decide_eq_true h2];decide),if_pos h2]
  rw[if_pos (by rw[W2,decide_eq_false h2];rfl),if_neg h2]
 rw[if_pos (Q9 h),if_pos h]
theorem OL {k:Int}{v:A7}(h:An k v=0):I1 v=0∧(v.Kind=0∨(k≠1∧k≠2∧k≠3)):=by
 unfold An at h
 split at h
 ·rename_i h1;exact absurd h h1
 rename_i h1
 split at h
 ·rename_i h2;exact⟨by simpa using h1,h2⟩
 cases h
theorem GH {v:A7}(h:I1 v=0)(hk:v.Kind=0):v.Text=⟨#[]⟩∧ -1099511627776≤v.Num∧v.Num≤1099511627776:=by
 unfold I1 at h
 rw[if_pos (.inl hk)]at h
 split at h
 ·cases h
 rename_i h1
 split at h
 ·cases h
 rename_i h2;refine⟨by simpa using h1,?_⟩
 simp only[hk,true_and]at h2
 omega
theorem ST {n:Int}(h0: -1099511627776≤n)(h1:n≤1099511627776):I1 ⟨0,n,⟨#[]⟩⟩=0:=by
 unfold I1;simp only[true_or,if_true,ne_eq,not_true_eq_false,if_false];rw[if_neg (by simp;omega)]
structure TF (k:Int) (n:Nat) (v:A7):Prop where
 c:k=0→v=AV
 s:k=1→v.Kind=0∧v.Text=⟨#[]⟩∧ -(1099511627776*(n:Int))≤v.Num∧v.Num≤1099511627776*(n:Int)
 m:k=2∨k=3→I1 v=0∧v.Kind=0
 f:k=4∨k=5→I1 v=0
theorem WP {k:Int}{v:A7}(h:An k v=0):TF k 1 (CO k v):=by
 obtain⟨h1,h2⟩:=OL h;unfold CO
 by_cases k0:k=0
 ·rw[if_pos k0];exact⟨fun _=>rfl,by omega,by omega,by omega⟩
 rw[if_neg k0];refine⟨by omega,fun e=>?_,fun e=>⟨h1,by omega⟩,fun _=>h1⟩
 have hk:v.Kind=0:=by omega
 obtain⟨a,b,c⟩:=GH h1 hk;exact⟨hk,a,by omega,by omega⟩
theorem UK {k:Int} {n:Nat} {a v:A7} (ha:TF k n a) (hn:n≤4096) (h:An k v=0):TF k (n+1) (Ng k a (CO k v)):=by
 obtain⟨h1,h2⟩:=OL h;unfold Ng
 by_cases k1:k=1
 ·rw[if_pos k1]
  have hk:v.Kind=0:=by omega
  obtain⟨_,b,c⟩:=GH h1 hk;obtain⟨_,_,d,e⟩:=ha.s k1;have e1:CO k v=v:=if_neg (by omega);rw[e1];have e2:ar .add .i64 a.Num v.Num=a.Num+v.Num:=C0 (by omega) (by omega);rw[e2];exact⟨by omega,fun _=>⟨rfl,rfl,by simp only;omega,by simp only;omega⟩,by omega,by omega⟩
 rw[if_neg k1]
 by_cases k2:k=2
 ·rw[if_pos k2]
  have hk:v.Kind=0:=by omega
  obtain⟨_,b,c⟩:=GH h1 hk;obtain⟨d,e⟩:=ha.m (.inl k2);obtain⟨_,d1,d2⟩:=GH d e;have e1:CO k v=v:=if_neg (by omega);rw[e1];refine⟨by omega,by omega,fun _=>⟨?_,rfl⟩,by omega⟩
  show I1 ⟨0,if v.Num<a.Num then v.Num else a.Num,⟨#[]⟩⟩=0
  split<;>exact ST (by omega) (by omega)
 rw[if_neg k2]
 by_cases k3:k=3
 ·rw[if_pos k3]
  have hk:v.Kind=0:=by omega
  obtain⟨_,b,c⟩:=GH h1 hk;obtain⟨d,e⟩:=ha.m (.inr k3);obtain⟨_,d1,d2⟩:=GH d e;have e1:CO k v=v:=if_neg (by omega);rw[e1];refine⟨by omega,by omega,fun _=>⟨?_,rfl⟩,by omega⟩
  show I1 ⟨0,if a.Num<v.Num then v.Num else a.Num,⟨#[]⟩⟩=0
  split<;>exact ST (by omega) (by omega)
 rw[if_neg k3]
 by_cases k4:k=4
 ·rw[if_pos k4];exact⟨by omega,by omega,by omega,fun _=>ha.f (.inl k4)⟩
 rw[if_neg k4]
 by_cases k5:k=5
 ·rw[if_pos k5];have e1:CO k v=v:=if_neg (by omega);rw[e1];exact⟨by omega,by omega,by omega,fun _=>h1⟩
 rw[if_neg k5];exact⟨fun _=>rfl,by omega,by omega,by omega⟩
theorem Sk {N:Nat}{k:Int}(h0:0≤k)(h5:k≤5)(a b:A7):V9 N k a b=some (Ng k a b):=by
 have h:k=0∨k=1∨k=2∨k=3∨k=4∨k=5:=by omega
 rcases h with rfl|rfl|rfl|rfl|rfl|rfl<;>rfl
theorem TW (N:Nat)(k:Int)(v:A7):X5 N k v=some (CO k v):=by
 unfold X5 CO;rw[C2]
 by_cases h:k=0
 ·rw[if_pos (decide_eq_true h),if_pos h];rfl
 rw[if_neg (by simpa using h),if_neg h]
def BT (k:Int)(l:List A7):C7:=⟨k,l.length,Dx k l⟩
theorem LD (k:Int)(l:List A7)(v:A7):Dx k (l++[v])=if l=[]then CO k v else Ng k (Dx k l) (CO k v):=by
 cases l with
 |nil=>rfl
 |cons a l=>simp[Dx,List.foldl_append]
theorem XN {N:Nat} {k:Int} (h0:0≤k) (h5:k≤5) (l:List A7) (hl:l.length≤4096) (v:A7):L9 N (BT k l) v k=some (BT k (l++[v])):=by
 unfold L9;rw[TW];simp only[Option.bind_some];unfold AM;rw[C2,C2]
 have e:BT k (l++[v])=⟨k,(l.length:Int)+1,if l=[]then CO k v else Ng k (Dx k l) (CO k v)⟩:=by
  unfold BT;rw[LD];simp
 rw[e]
 cases l with
 |nil=>rfl
 | cons a l=>
  have hc:¬(decide ((BT k (a::l)).Count=0)=true):=by
   show¬decide (((a::l).length:Int)=0)=true
   simp only[List.length_cons,decide_eq_true_eq];omega
  rw[if_neg hc,if_neg (by simp)]
  show((V9 N k (Dx k (a::l)) (CO k v)).bind _).bind _=_
  rw[Sk h0 h5];simp only[Option.bind_some,BT,reduceCtorEq,if_false];rw[C0 (by simp at hl ⊢;omega) (by simp at hl ⊢;omega)]
theorem Qg {k:Int}:∀(n:Nat) {l:List A7},l.length=n→l≠[]→l.length≤4096→(∀v∈l,An k v=0)→TF k l.length (Dx k l):=by
 intro n
 induction n with
 |zero=>intro l h0 h;exact absurd (List.eq_nil_of_length_eq_zero h0) h
 |succ n ih=>
  intro l h0 h hn hv
  rcases List.eq_nil_or_concat l with rfl|⟨q,v,rfl⟩
  ·exact absurd rfl h
  rw[List.concat_eq_append]at *
  rw[LD,List.length_append];have hw:=hv v (by simp)
  simp only[List.length_append,List.length_cons,List.length_nil]at hn h0
  by_cases h:q=[]
  ·subst h;rw[if_pos rfl];exact WP hw
  rw[if_neg h];exact UK (ih (by omega) h (by omega) fun x hx=>hv x (by simp[hx])) (by omega) hw
theorem QG {N:Nat} {k:Int} (h0:0≤k) (h5:k≤5) {l:List A7} (hl:l.length≤4096) (hv:∀v∈l,An k v=0):Z2 N (BT k l)=some 0:=by
 unfold Z2 V0;simp only[Option.bind_some]
 have e1:¬(Ar.nt (an (cmp .geq (BT k l).Kind 0) (cmp .leq (BT k l).Kind 5))=true):=by
  show¬((!(decide (0≤k)&&decide (k≤5)))=true)
  simp;omega
 have e2:¬(Ar.or (cmp .lss (BT k l).Count 0) (cmp .gtr (BT k l).Count 4096)=true):=by
  show¬((decide ((l.length:Int)<0)||decide (4096<(l.length:Int)))=true)
  simp;omega
 rw[if_neg e1,if_neg e2]
 by_cases hz:l=[]∨k=0
 ·have e3:Ar.or (cmp .eql (BT k l).Count 0) (cmp .eql (BT k l).Kind 0)=true:=by
   show(decide ((l.length:Int)=0)||decide (k=0))=true
   rcases hz with rfl|h
   ·rfl
   simp[h]
  have e4:(BT k l).Value=AV:=by
   by_cases hn:l=[]
   ·subst hn;rfl
   exact(Qg _ rfl hn hl hv).c (hz.resolve_left hn)
  rw[if_pos e3,e4];exact if_neg (by simp[W2,M1,C2,EA,AV])
 have hn:l≠[]:=fun h=>hz (.inl h);have hk:k≠0:=fun h=>hz (.inr h);have hlen:l.length≠0:=fun h=>hn (List.eq_nil_of_length_eq_zero h)
 have e3:¬(Ar.or (cmp .eql (BT k l).Count 0) (cmp .eql (BT k l).Kind 0)=true):=by
  show¬((decide ((l.length:Int)=0)||decide (k=0))=true)
  simp[hk,hn]
 rw[if_neg e3];have g:=Qg _ rfl hn hl hv
 by_cases k1:k=1
 ·rw[if_pos (show cmp .eql (BT k l).Kind 1=true from decide_eq_true k1)];obtain⟨a,b,c,d⟩:=g.s k1;have ev:(BT k l).Value=Dx k l:=rfl;have ec:(BT k l).Count=(l.length:Int):=rfl;have em:ar .mul .i64 (l.length:Int) 1099511627776=(l.length:Int)*1099511627776:=Ct (by omega) (by omega)
  have en:Ar.neg .i64 ((l.length:Int)*1099511627776)= - ((l.length:Int)*1099511627776):=by
   show IntKind.wrap .i64 (0 - (l.length:Int)*1099511627776)=_
   rw[Ct (by omega) (by omega)];omega
  rw[ev,ec,em,en];rw[if_neg];simp only[W2,M1,C2,O4,Cr,EA];rw[decide_eq_true a,decide_eq_true b,decide_eq_true (show -((l.length:Int)*1099511627776)≤(Dx k l).Num by omega),decide_eq_true (show(Dx k l).Num≤(l.length:Int)*1099511627776 by omega)]
  decide
 rw[if_neg (show¬(cmp .eql (BT k l).Kind 1=true)from(by show¬decide (k=1)=true;simpa using k1))]
 have hvb:I1 (Dx k l)=0:=by
  by_cases h23:k=2∨k=3
  ·exact(g.m h23).1
  exact g.f (by omega)
 have hsu:(Dx k l).Kind=0∨(k≠1∧k≠2∧k≠3):=by
  by_cases h23:k=2∨k=3
  ·exact .inl (g.m h23).2
  exact .inr (by omega)
 show((S5 N (Dx k l)).bind _)=_
 rw[Ie,hvb];simp only[Option.bind_some];rw[if_pos (show cmp .eql 0 0=true from rfl)]
 show((R5 N k (Dx k l)).bind _)=_
 rw[Ky,decide_eq_true hsu];rfl
theorem Ad3 {N:Nat} (hN:40000000≤N) (k:Int) {l:List A7} (hl:l.length<1000000) (o:A7):BQ N k l o=some (Ad4 k l o):=by
 unfold BQ Ad4 V0;simp only[Option.bind_some]
 by_cases h0:k<0∨5<k
 ·rw[if_pos (by show(!(decide (0≤k)&&decide (k≤5)))=true;simp;omega),if_pos h0];rfl
 rw[if_neg (by show¬((!(decide (0≤k)&&decide (k≤5)))=true);simp;omega),if_neg h0]
 by_cases h1:4096<l.length
 ·rw[if_pos (Ac (by rw[B3];omega)),if_pos h1];rfl
 rw[if_neg (U3 (by rw[B3];omega)),if_neg h1];rw[I0 l (by omega) (mk:=fun(_:Unit) i=>i) (body:=Z9 fun v=>M0 N k v) (fin:=fun _=>.inl ()) (s:=()) (by omega) ?_ ?_]
 ·rw [W1 (f:=An k) fun v _=>OM N k v]
  by_cases h2:S4 (An k) l=0
  ·rw [if_pos h2,if_neg (show¬S4 (An k) l≠0 by simpa using h2)];have hv:=Bx.1 h2;simp only[Option.bind_some]
   have hf:F4 N (⟨k,0,⟨0,0,⟨#[]⟩⟩⟩:C7) l (fun y1 y2=>L9 N y1 y2 k)=some (BT k l):=by
    unfold F4;rw[I0 l (by omega) (mk:=fun(s:C7) i=>(i,s)) (body:=fun s v=>(L9 N s v k).bind fun r=>some (.inl r)) (fin:=fun s=>s) (s:=⟨k,0,⟨0,0,⟨#[]⟩⟩⟩) (by omega) ?_ ?_]
    ·obtain⟨s',k1,p,k2,k3⟩:=X1 (R:=C7) (step:=fun s v=>(L9 N s v k).bind fun r=>some (.inl r)) (fun r s=>∃p,p++r=l∧s=BT k p) (fun v r s ⟨p,e1,e2⟩=>by
      subst e2
      refine⟨_,by rw[XN (by omega) (by omega) p (by have:=congrArg List.length e1;simp at this;omega)];rfl,p++[v],by simpa using e1,rfl⟩) (l:=l) (s:=⟨k,0,⟨0,0,⟨#[]⟩⟩⟩) ⟨[],rfl,rfl⟩
     simp only[k1,Option.bind_some]
     rw[List.append_nil]at k2
     rw[k3,k2]
    ·intro s i a ha hi;have e:ar .add .i64 (i:Int) 1=i+1:=C0 (by omega) (by omega);simp only[B8,B3,hi,decide_true,if_true,D5,ha,Option.bind_some,e];cases L9 N s a k<;>rfl
    intro s;simp[B8,B3]
   rw[hf];simp only[Option.bind_some];unfold AN;rw[QG (by omega) (by omega) (by omega) hv];simp only[Option.bind_some];rw[if_neg (show¬(cmp .neq 0 0=true) by decide)]
   show((M0 N k o).bind _).bind _=_
   rw[OM];simp only[Option.bind_some]
   by_cases h3:An k o=0
   ·rw[if_neg (O9 h3),if_neg (show¬An k o≠0 by simpa using h3)]
    by_cases h4:k=0
    ·rw[if_pos (show cmp .eql (BT k l).Kind 0=true from decide_eq_true h4),if_pos h4];rfl
    rw[if_neg (show¬(cmp .eql (BT k l).Kind 0=true)from(by show¬decide (k=0)=true;simpa using h4)),if_neg h4]
    by_cases h5:l=[]∧k≠1
    ·rw[if_pos (show an (cmp .eql (BT k l).Count 0) (cmp .neq (BT k l).Kind 1)=true by show(decide ((l.length:Int)=0)&& !decide (k=1))=true;simp[h5.1,h5.2]),if_pos h5];rfl
    rw[if_neg (show¬(an (cmp .eql (BT k l).Count 0) (cmp .neq (BT k l).Kind 1)=true) by show¬((decide ((l.length:Int)=0)&& !decide (k=1))=true);simpa using h5),if_neg h5];rfl
   rw[if_pos (Q9 h3),if_pos h3];rfl
  rw[if_neg h2,if_pos h2];rfl
 ·intro s i a ha hi;have e:ar .add .i64 (i:Int) 1=i+1:=C0 (by omega) (by omega);simp only[B8,B3,hi,decide_true,if_true,D5,ha,Option.bind_some,e,Z9,G9]
  cases M0 N k a with
  |none=>rfl
  |some r=>by_cases h:r=0<;>simp[h]
 intro s;simp[B8,B3]
end
end Go.Ab
namespace Go.Ab
noncomputable section
def Fg (env:CH)(v:Int):List A3:=if v<0∨(env.cU.length:Int)≤v then[]else env.cU.getD v.toNat []
def Es (e:A3)(k:Int):A7×Int:=if(e.Values.length:Int)≤k then(AV,6)else(e.Values.getD k.toNat AV,0)
def Nw (rows:List A3)(x:A5):A7×Int:=
 if(rows.all fun e=>decide (x.Field<(e.Values.length:Int)))=true then Ad4 x.Kind (rows.map fun e=>e.Values.getD x.Field.toNat AV) x.Value else(AV,6)
def Lq (rows:List A3)(own:Int)(ev:A3)(v:Int):Option A3:=if v≠own then rows.getLast? else some ev
def Pw (y:A3)(x:A5):A7×Int:=
 if x.Op=2 then(⟨0,y.Time,⟨#[]⟩⟩,0)else if(Es y x.Field).2≠0 then(AV,(Es y x.Field).2)else if I1 (Es y x.Field).1≠0 then(AV,I1 (Es y x.Field).1)else((Es y x.Field).1,0)
def Hl (env:CH)(own:Int)(ev:A3)(x:A5):A7×Int:=
 if x.Op=0 then(x.Value,0)else if x.Op=3 then(⟨0,(Fg env x.Var).length,⟨#[]⟩⟩,0)else if x.Op=4 then Nw (Fg env x.Var) x
 else match Lq (Fg env x.Var) own ev x.Var with|none=>(AV,10)|some y=>Pw y x
theorem Nk {x:A5}(hx:Ak x=0):0≤x.Op∧x.Op≤12∧(x.cN.length:Int)=(if x.Op<5 then 0 else if x.Op=12 then 1 else 2):=by
 unfold Ak at hx
 by_cases h1:x.Op<0∨12<x.Op
 ·rw[if_pos h1]at hx;cases hx
 rw[if_neg h1]at hx
 by_cases h2:(x.cN.length:Int)≠(if x.Op<5 then 0 else if x.Op=12 then 1 else 2)
 ·rw[if_pos h2]at hx;cases hx
 exact⟨by omega,by omega,by simpa using h2⟩
def KM (e:CH):Prop:=e.cU.length<1000000∧∀l∈e.cU,l.length<1000000
theorem Ts {env:CH}(h:KM env)(v:Int):(Fg env v).length<1000000:=by
 unfold Fg
 split
 ·simp
 rename_i hv
 have hi:v.toNat<env.cU.length:=by omega
 rw[List.getD_eq_getElem?_getD,List.getElem?_eq_getElem hi];exact h.2 _ (List.getElem_mem hi)
theorem JK (N:Nat)(env:CH)(own:Int)(ev:A3)(u:Unit)(v:Int):L8 N ⟨env,own,ev,u⟩ v=some (Fg env v):=by
 unfold L8 Fg
 by_cases h:v<0∨(env.cU.length:Int)≤v
 ·rw[if_pos (by simp only[O0,B8,O4,B3];simpa using h),if_pos h]
 rw[if_neg (by simp only[O0,B8,O4,B3];simpa using h),if_neg h]
 have hi:v.toNat<env.cU.length:=by omega
 have hv:v=(v.toNat:Int):=by omega
 rw[hv,D5];simp only[List.getD_eq_getElem?_getD,Int.toNat_natCast,List.getElem?_eq_getElem hi,Option.bind_some,Option.getD_some]
theorem LG (N:Nat)(e:A3){k:Int}(hk:0≤k):Y7 N e k=some (Es e k):=by
 unfold Y7 Es
 by_cases h:(e.Values.length:Int)≤k
 ·rw[if_pos (by rw[O4,B3];exact decide_eq_true h),if_pos h];rfl
 rw[if_neg (by rw[O4,B3];simpa using h),if_neg h]
 have hi:k.toNat<e.Values.length:=by omega
 have hv:k=(k.toNat:Int):=by omega
 rw[hv,D5];simp only[List.getD_eq_getElem?_getD,Int.toNat_natCast,List.getElem?_eq_getElem hi,Option.bind_some,Option.getD_some]
theorem KR {α β R:Type} {body:List β→α→Option (List β ⊕ R)} {p:α→Bool} {g:α→β} {r:R}:∀{l:List α} {s:List β},s.length+l.length≤1000000→(∀(s:List β) x,x∈l→s.length≤1000000→body s x=some (if p x=true then .inl (s++[g x])else .inr r))→
 G6 body l s=some (if l.all p=true then .inl (s++l.map g)else .inr r)
 |[],s,_,_=>by simp[G6]
 |x::l,s,hl,h=>by
  simp only[G6,h s x (by simp) (by simp at hl;omega)]
  by_cases hp:p x=true
  ·simp only[hp,if_true];rw[KR (by simp at hl ⊢;omega) fun s y hy=>h s y (by simp[hy])];simp[hp]
  simp[hp]
theorem Sc {N:Nat} (hN:40000000≤N) {env:CH} (he:KM env) (own:Int) (ev:A3) (u:Unit) {x:A5} (hf:0≤x.Field):Q4 N ⟨env,own,ev,u⟩ x=some (Nw (Fg env x.Var) x):=by
 have hl:=Ts he x.Var;unfold Q4 Nw;rw[JK];simp only[Option.bind_some]
 generalize Fg env x.Var=rows at hl
 rw[I0 rows (by omega) (mk:=fun(s:List A7) i=>(s,i)) (body:=fun s e=>(Y7 N e x.Field).bind fun r=>if cmp .neq r.2 0=true then some (.inr (.inr r.2))else(P3 s [r.1]).bind fun l=>some (.inl l)) (fin:=fun s=>.inl s) (s:=[]) (by omega) ?_ ?_]
 ·rw[KR (p:=fun e=>decide (x.Field<(e.Values.length:Int))) (g:=fun e=>e.Values.getD x.Field.toNat AV) (r:=.inr 6) (by simp;omega) (fun s e _ hs=>by
   rw[LG N e hf];unfold Es
   by_cases h:(e.Values.length:Int)≤x.Field
   ·rw[if_pos h,if_neg (by simpa using h)];rfl
   rw[if_neg h,if_pos (by simpa using h)];simp only[Option.bind_some]
   rw[if_neg (by decide),W7 (by simp;omega)];rfl)]
  by_cases h:(rows.all fun e=>decide (x.Field<(e.Values.length:Int)))=true
  ·rw[if_pos h,if_pos h];simp only[Option.bind_some,List.nil_append];rw[Ad3 hN _ (by simpa using hl)];rfl
  rw[if_neg h,if_neg h];rfl
 ·intro s i a ha hi;have e:ar .add .i64 (i:Int) 1=i+1:=C0 (by omega) (by omega);simp only[B8,B3,hi,decide_true,if_true,D5,ha,Option.bind_some,e]
  cases Y7 N a x.Field with
  |none=>rfl
  |some r=>
   simp only[Option.bind_some]
   split
   ·rfl
   cases P3 s [r.1]<;>rfl
 intro s;simp[B8,B3]
theorem US {N:Nat} (hN:40000000≤N) {env:CH} (he:KM env) (own:Int) (ev:A3) (u:Unit) {x:A5} (hx:Ak x=0) (ha:x.cN=[]):R9 N ⟨env,own,ev,u⟩ x=some (Hl env own ev x):=by
 have hok:=Ai3 hx
 have hop:0≤x.Op∧x.Op<5:=by
  have:=Nk hx
  rw[ha]at this
  simp only[List.length_nil]at this
  obtain⟨h1,h2,h3⟩:=this
  by_cases h5:x.Op<5
  ·exact⟨h1,h5⟩
  rw[if_neg h5]at h3
  split at h3<;>omega
 have hl:=Ts he x.Var;unfold R9 Hl;rw[JK];simp only[Option.bind_some]
 by_cases h0:x.Op=0
 ·rw[if_pos (by rw[C2];exact decide_eq_true h0),if_pos h0]
 rw[if_neg (by rw[C2];simpa using h0),if_neg h0]
 by_cases h3:x.Op=3
 ·rw[if_pos (by rw[C2];exact decide_eq_true h3),if_pos h3];rfl
 rw[if_neg (by rw[C2];simpa using h3),if_neg h3]
 by_cases h4:x.Op=4
 ·rw[if_pos (by rw[C2];exact decide_eq_true h4),if_pos h4,Sc hN he own ev u (hok.1 (.inr h4)).1];rfl
 rw[if_neg (by rw[C2];simpa using h4),if_neg h4]
 have key:((if cmp .neq x.Var own=true then if cmp .eql (Ar.len (Fg env x.Var)) 0=true then some (.inr ())else(B9 (Fg env x.Var) (ar .sub .i64 (Ar.len (Fg env x.Var)) 1)).bind fun x6=>some (.inl x6)else some (.inl ev)):Option (A3 ⊕ Unit))=some (match Lq (Fg env x.Var) own ev x.Var with|some y=>.inl y|none=>.inr ()):=by
  unfold Lq
  by_cases hv:x.Var=own
  ·rw[if_neg (O9 hv),if_neg (by simpa using hv)]
  rw[if_pos (Q9 hv),if_pos hv]
  generalize Fg env x.Var=rows at hl
  rcases List.eq_nil_or_concat rows with rfl|⟨q,y,rfl⟩
  ·rfl
  rw[List.concat_eq_append]at *
  have e1:ar .sub .i64 (Ar.len (q++[y])) 1=(q.length:Int):=by
   have:ar .sub .i64 (Ar.len (q++[y])) 1=Ar.len (q++[y]) - 1:=Ct (by rw[B3];omega) (by rw[B3];omega);rw[this,B3];simp
  rw[if_neg (by rw[C2,B3];simp;omega),e1,D5];simp
 have key2:=congrArg (fun o=>o.bind fun s5=>match s5 with
  | .inl y7=>
   if cmp .eql x.Op 2=true then
    some ((⟨0,y7.Time,⟨#[]⟩⟩:A7),(0:Int))
   else
    (Y7 N y7 x.Field).bind fun r8=>
    ((
     if cmp .eql r8.2 0=true then
      (S5 N r8.1).bind fun r10=>
      some r10
     else
      some r8.2
    ):Option (Int)).bind fun s9=>
    if cmp .neq s9 0=true then
     some ((⟨0,0,⟨#[]⟩⟩:A7),s9)
    else
     some (r8.1,0)
  | .inr y11=>
   some ((⟨0,0,⟨#[]⟩⟩:A7),10)) key
 refine key2.trans ?_
 cases hy:Lq (Fg env x.Var) own ev x.Var with
 |none=>rfl
 | some y=>
  simp only[Option.bind_some];unfold Pw
  by_cases h2:x.Op=2
  ·rw[if_pos (by rw[C2];exact decide_eq_true h2),if_pos h2]
  rw[if_neg (by rw[C2];simpa using h2),if_neg h2]
  have h1:x.Op=1:=by omega
  rw[LG N y (hok.1 (.inl h1)).1];simp only[Option.bind_some]
  by_cases hb:(Es y x.Field).2=0
  ·rw[if_pos (by rw[C2];exact decide_eq_true hb),Ie,if_neg (by simpa using hb)];simp only[Option.bind_some]
   by_cases hc:I1 (Es y x.Field).1=0
   ·rw[if_neg (O9 hc),if_neg (by simpa using hc)]
   rw[if_pos (Q9 hc),if_pos hc];rfl
  rw[if_neg (by rw[C2];simpa using hb),if_pos hb];simp only[Option.bind_some];rw[if_pos (Q9 hb)];rfl
end
end Go.Ab
namespace Go.Ab
noncomputable section
def JJ (b:Bool):A7:=if b=true then⟨1,1,⟨#[]⟩⟩else⟨1,0,⟨#[]⟩⟩
def Lr (op:Int)(kinds:List Int)(k:Int):Bool:=
 if op=5∨op=6∨op=7∨op=8 then decide (k=0)else if op=10∨op=11∨op=12 then decide (k=1)else if op=9 then decide (k=kinds.getD 0 0)else true
def JC (op:Int)(kinds:List Int):Int:=if kinds.all (Lr op kinds)=true then 0 else 9
instance (x y:A7):Decidable (x=y):=by
 obtain⟨a,b,c⟩:=x;obtain⟨d,e,f⟩:=y;exact decidable_of_iff (a=d∧b=e∧c=f) (by simp)
def Sr (op:Int)(l:List A7):A7:=
 let a:=l.getD 0 AV
 let b:=l.getD (l.length - 1) AV
 if op=9 then JJ (decide (a=l.getD 1 AV))else if op=5 then⟨0,ar .add .i64 a.Num b.Num,⟨#[]⟩⟩else if op=6 then⟨0,ar .sub .i64 a.Num b.Num,⟨#[]⟩⟩
 else if op=7 then JJ (decide (a.Num<b.Num))else if op=8 then JJ (decide (a.Num≤b.Num))else if op=10 then JJ (decide (a.Num=1)&&decide (b.Num=1))else if op=11 then JJ (decide (a.Num=1)||decide (b.Num=1))else JJ (!decide (a.Num=1))
mutual
def Ea (R:A5→A7×Int):A5→A7×Int
 |⟨op,args,var,field,kind,val⟩=>
  if args.length=0 then R ⟨op,args,var,field,kind,val⟩else
  match Bk R args with
  | .inr f=>(AV,f)
  | .inl l=>if JC op (l.map (·.Kind))≠0 then(AV,JC op (l.map (·.Kind)))else(Sr op l,0)
def Bk (R:A5→A7×Int):List A5→List A7 ⊕ Int
 |[]=>.inl []
 |a::r=>if(Ea R a).2≠0 then .inr (Ea R a).2 else match Bk R r with| .inr f=>.inr f| .inl l=>.inl ((Ea R a).1::l)
end
theorem LI (R:A5→A7×Int)(x:A5):Ea R x=if x.cN.length=0 then R x else
 match Bk R x.cN with
 | .inr f=>(AV,f)
 | .inl l=>if JC x.Op (l.map (·.Kind))≠0 then(AV,JC x.Op (l.map (·.Kind)))else(Sr x.Op l,0):=by cases x;simp only[Ea]
theorem LH {R:A5→A7×Int}:∀{l:List A5} {r:List A7},Bk R l= .inl r→r.length=l.length
 |[],r,h=>by simp only[Bk,Sum.inl.injEq]at h;subst h;rfl
 |a::l,r,h=>by
  simp only[Bk]at h
  split at h
  ·cases h
  cases hr:Bk R l with
  |inr f=>rw[hr]at h;cases h
  |inl q=>rw[hr]at h;simp only[Sum.inl.injEq]at h;subst h;simp[LH hr]
def Af2 (R S:A5→A7×Int)(x:A5):Prop:=∀y∈x.pre,y.cN=[]→R y=S y
mutual
theorem JL {R S:A5→A7×Int}:∀x:A5,Af2 R S x→Ea R x=Ea S x
 |⟨op,args,var,field,kind,val⟩,h=>by
  rw[LI,LI]
  by_cases h0:args.length=0
  ·simp only[h0,if_true];exact h _ (by rw[A5.pre_eq];simp) (List.eq_nil_of_length_eq_zero h0)
  simp only[h0,if_false];rw[IB args fun y hy=>h y (by rw[A5.pre_eq];exact List.mem_cons_of_mem _ hy)]
theorem IB {R S:A5→A7×Int}:∀l:List A5,(∀y∈A5.pres l,y.cN=[]→R y=S y)→Bk R l=Bk S l
 |[],_=>rfl
 |a::l,h=>by
  simp only[Bk];rw[JL a fun y hy=>h y (by simp[A5.pres,hy]),IB l fun y hy=>h y (by simp[A5.pres,hy])]
end
theorem Oi (N:Nat)(b:Bool):X4 N b=some (JJ b):=by
 unfold X4 EU JJ;cases b<;>rfl
theorem Ol {N:Nat} (hN:40000000≤N) (op:Int) {kinds:List Int} (hl:kinds.length<1000000):Ba N op kinds=some (JC op kinds):=by
 unfold Ba JC;rw[I0 kinds (by omega) (mk:=fun(_:Unit) i=>i) (body:=fun _ k=>some (if Lr op kinds k=true then .inl ()else .inr (.inr ()))) (fin:=fun _=>.inl ()) (s:=()) (by omega) ?_ ?_]
 ·rw[KS (p:=Lr op kinds) (r:=.inr ()) fun x _=>rfl]
  by_cases h:kinds.all (Lr op kinds)=true
  ·rw[if_pos h,if_pos h];rfl
  rw[if_neg h,if_neg h];rfl
 ·intro s i k hk hi;have e:ar .add .i64 (i:Int) 1=i+1:=C0 (by omega) (by omega)
  have h0:B9 kinds 0=some (kinds.getD 0 0):=by
   have:B9 kinds 0=kinds[0]? :=D5 (i:=0);rw[this,List.getD_eq_getElem?_getD,List.getElem?_eq_getElem (by omega)];rfl
  simp only[B8,B3,hi,decide_true,if_true,D5,hk,Option.bind_some,e,C2,h0,W2];unfold Lr
  by_cases a5:op=5
  ·subst a5;by_cases hz:k=0<;>simp[hz]
  by_cases a6:op=6
  ·subst a6;by_cases hz:k=0<;>simp[hz]
  by_cases a7:op=7
  ·subst a7;by_cases hz:k=0<;>simp[hz]
  by_cases a8:op=8
  ·subst a8;by_cases hz:k=0<;>simp[hz]
  by_cases a10:op=10
  ·subst a10;by_cases hz:k=1<;>simp[hz]
  by_cases a11:op=11
  ·subst a11;by_cases hz:k=1<;>simp[hz]
  by_cases a12:op=12
  ·subst a12;by_cases hz:k=1<;>simp[hz]
  by_cases a9:op=9
  ·subst a9;generalize kinds.getD 0 0=z
   by_cases hz:k=z<;>simp[hz]
  simp[a5,a6,a7,a8,a9,a10,a11,a12]
 intro s;simp[B8,B3]
theorem Jz {α:Type} {F:A5→Option (A7×Int)} {R:A5→A7×Int}:∀{l:List A5} {s:List A7×List Int},s.2=s.1.map (·.Kind)→s.1.length+l.length≤1000000→(∀a∈l,F a=some (Ea R a))→
 G6 (fun(s:List A7×List Int) a=>(F a).bind fun r8=>if cmp .neq r8.2 0=true then some (Sum.inr (Sum.inr (α:=α) r8.2))else(P3 s.1 [r8.1]).bind fun l9=>(P3 s.2 [r8.1.Kind]).bind fun l12=>some (.inl (l9,l12))) l s=
  some (match Bk R l with| .inr f=>.inr (.inr f)| .inl q=>.inl (s.1++q,(s.1++q).map (·.Kind)))
 |[],s,h,_,_=>by obtain⟨a,b⟩:=s;dsimp only at h;subst h;simp[G6,Bk]
 | a::l,s,h,hl,hF=>by
  obtain⟨s1,s2⟩:=s
  dsimp only at h;subst h
  simp only[List.length_cons]at hl
  simp only[G6,Bk,hF a (by simp),Option.bind_some,G9]
  by_cases hz:(Ea R a).2=0
  ·simp only[hz,decide_true,Bool.not_true,Bool.false_eq_true,if_false,ne_eq,not_true_eq_false];rw[W7 (by simp;omega),W7 (by simp;omega)];simp only[Option.bind_some];have ih:=Jz (α:=α) (F:=F) (R:=R) (l:=l) (s:=(s1++[(Ea R a).1],s1.map (·.Kind)++[(Ea R a).1.Kind])) (by simp) (by simp;omega) fun b hb=>hF b (by simp[hb])
   simp only[G9]at ih
   rw[ih]
   cases Bk R l with
   |inr f=>rfl
   |inl q=>simp
  simp[hz]
theorem Lz {l:List A7}{i:Nat}(h:i<l.length):l[i]? =some (l.getD i AV):=by
 rw[List.getD_eq_getElem?_getD,List.getElem?_eq_getElem h];rfl
theorem UU {N:Nat} (hN:40000000≤N) {env:CH} (he:KM env) (own:Int) (ev:A3) (u:Unit):∀(n:Nat) (x:A5),x.dep≤n→x.bulk≤16777216→(∀y∈x.pre,Ak y=0)→G7 N n ⟨env,own,ev,u⟩ x=some (Ea (Hl env own ev) x):=by
 intro n
 induction n with
 |zero=>intro x h;rw[A5.dep_eq]at h;omega
 | succ n ih=>
  intro x hd hb hbad;have hx:=hbad x (by rw[A5.pre_eq];simp);have hd':=A5.dep_eq x;unfold G7;rw[LI]
  by_cases h0:x.cN.length=0
  ·rw[if_pos (by rw[C2,B3];exact decide_eq_true (by omega)),if_pos h0,US hN he own ev u hx (List.eq_nil_of_length_eq_zero h0)];rfl
  rw[if_neg (by rw[C2,B3];simpa using(show¬(x.cN.length:Int)=0 by omega)),if_neg h0];obtain⟨a1,a2,a3⟩:=Nk hx
  have hlen:x.cN.length≤2:=by
   split at a3
   ·omega
   split at a3<;>omega
  have hop5:5≤x.Op:=by
   by_cases h5:x.Op<5
   ·rw[if_pos h5]at a3;omega
   omega
  have hF:∀a∈x.cN,G7 N n ⟨env,own,ev,u⟩ a=some (Ea (Hl env own ev) a):=fun a ha=>ih a (by have:=Qs ha;omega) (by have:=W3 ha;omega) fun y hy=>hbad y (by rw[A5.pre_eq];exact List.mem_cons_of_mem _ (MU ha hy));rw[I0 x.cN (by omega) (mk:=fun(s:List A7×List Int) i=>(s.1,s.2,i)) (body:=fun(s:List A7×List Int) a=>(G7 N n ⟨env,own,ev,u⟩ a).bind fun r8=>if cmp .neq r8.2 0=true then some (.inr (.inr r8.2))else(P3 s.1 [r8.1]).bind fun l9=>(P3 s.2 [r8.1.Kind]).bind fun l12=>some (.inl (l9,l12))) (fin:=fun s=>.inl s) (s:=([],[])) (by omega) ?_ ?_]
  ·rw [Jz (R:=Hl env own ev) rfl (by simp;omega) hF]
   cases hq:Bk (Hl env own ev) x.cN with
   |inr f=>rfl
   | inl q=>
    simp only[Option.bind_some,List.nil_append];have hql:=LH hq;rw[Ol hN _ (by simp;omega)];simp only[Option.bind_some]
    by_cases hz:JC x.Op (q.map (·.Kind))=0
    ·rw[if_neg (O9 hz),if_neg (show¬JC x.Op (q.map (·.Kind))≠0 by simpa using hz)]
     have hi0:B9 q 0=some (q.getD 0 AV):=by
      have:B9 q 0=q[0]? :=D5 (i:=0);rw[this,Lz (by omega)]
     have hiL:B9 q (ar .sub .i64 (Ar.len q) 1)=some (q.getD (q.length - 1) AV):=by
      have e:ar .sub .i64 (Ar.len q) 1=((q.length - 1:Nat):Int):=by
       have:ar .sub .i64 (Ar.len q) 1=Ar.len q - 1:=Ct (by rw[B3];omega) (by rw[B3];omega);rw[this,B3];omega
      rw[e,D5,Lz (by omega)]
     unfold Sr
     by_cases h9:x.Op=9
     ·rw[if_pos (by rw[C2];exact decide_eq_true h9)]
      have h2:x.cN.length=2:=by rw[if_neg (by omega),if_neg (by omega)]at a3;omega
      have hi1:B9 q 1=some (q.getD 1 AV):=by
       have:B9 q 1=q[1]? :=D5 (i:=1);rw[this,Lz (by omega)]
      rw[hi0,hi1];simp only[Option.bind_some];rw[Oi];simp only[Option.bind_some,h9,if_true,Option.some.injEq,Prod.mk.injEq,and_true]
      congr 1
      generalize q.getD 0 AV=v;generalize q.getD 1 AV=w;obtain⟨v1,v2,v3⟩:=v;obtain⟨w1,w2,w3⟩:=w;simp only[M1,C2,EA,A7.mk.injEq,Bool.and_true,Bool.decide_and]
     rw[if_neg (by rw[C2];simpa using h9)];rw[hi0,hiL];simp only[Option.bind_some,N4,Aj,Ai,Ah,Ag,Af,Ae,Ad,Oi,C2,B8,Cr,M1,O0,G9,if_neg h9]
     have hop:x.Op=5∨x.Op=6∨x.Op=7∨x.Op=8∨x.Op=10∨x.Op=11∨x.Op=12:=by omega
     rcases hop with h|h|h|h|h|h|h<;>simp[h]
    rw[if_pos (Q9 hz),if_pos hz];rfl
  ·intro s i a ha hi;have e:ar .add .i64 (i:Int) 1=i+1:=C0 (by omega) (by omega);simp only[B8,B3,hi,decide_true,if_true,D5,ha,Option.bind_some,e]
   cases G7 N n ⟨env,own,ev,u⟩ a with
   |none=>rfl
   | some r=>
    simp only[Option.bind_some]
    split
    ·rfl
    cases P3 s.1 [r.1]with
    |none=>rfl
    |some l=>
     simp only[Option.bind_some];cases P3 s.2 [r.1.Kind]<;>rfl
  intro s;simp[B8,B3]
def MT (env:CH)(own:Int)(ev:A3)(x:A5):A7×Int:=if J4 x=0 then Ea (Hl env own ev) x else(AV,J4 x)
theorem Me {x:A5}(h:J4 x=0):∀y∈x.pre,Ak y=0:=by
 unfold J4 at h
 split at h
 ·omega
 split at h
 ·omega
 exact Bx.1 h
theorem YR {N:Nat}(hN:40000000≤N){env:CH}(he:KM env)(own:Int)(ev:A3){x:A5}(hb:x.bulk≤16777216):EL N x env own ev=some (MT env own ev x):=by
 unfold EL MT;rw[Ni hN hb];simp only[Option.bind_some]
 by_cases h:J4 x=0
 ·rw[if_neg (O9 h),if_pos h];have hd:=LM x;rw[UU hN he own ev () N x (by omega) hb (Me h)];rfl
 rw[if_pos (Q9 h),if_neg h];rfl
end
end Go.Ab
namespace Go.Ab
noncomputable section
open Classical
theorem ZL (x y:A7):an (cmp .eql x.Kind y.Kind) (an (cmp .eql x.Num y.Num) (an (Ar.scmp .eql x.Text y.Text) true))=decide (x=y):=by
 rw[EA];simp only[M1,C2,Bool.and_true];cases x;cases y;simp only[A7.mk.injEq];rw[Bool.eq_iff_iff];simp
def Y2 (env:CH)(own:Int)(ev:A3)(x:A5):Bool:=decide ((MT env own ev x).2=0)&&decide ((MT env own ev x).1=⟨1,1,⟨#[]⟩⟩)
theorem OR {N:Nat}(hN:40000000≤N){env:CH}(he:KM env)(own:Int)(ev:A3){x:A5}(hb:x.bulk≤16777216):Cd N x env own ev=some (Y2 env own ev x):=by
 unfold Cd Y2;rw[YR hN he own ev hb];simp only[Option.bind_some];rw[C2]
 by_cases h:(MT env own ev x).2=0
 ·rw[if_pos (decide_eq_true h),Oi];simp only[Option.bind_some,decide_eq_true h,Bool.true_and];rw[ZL];exact congrArg some (decide_eq_decide.2 Iff.rfl)
 rw[if_neg (by simpa using h),decide_eq_false h];rfl
end
end Go.Ab
namespace Go.Ab
noncomputable section
end
end Go.Ab
