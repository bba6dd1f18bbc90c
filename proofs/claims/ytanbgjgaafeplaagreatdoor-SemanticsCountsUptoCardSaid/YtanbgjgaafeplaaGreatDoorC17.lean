/- GTN1 GTD1 GTD2 GTD3 GTD4 GTD5 GTD6 GTR1 GTR2 GTV0 GTV1 GTV2 GTV3 GTV5 -/
import Derived.Test.YtanbgjgaafeplaaGreatDoorC16
set_option linter.all false
open Go.Ab.Ar (an ar cmp nt)
namespace Go.Ab
def Good (N:Nat)(x:A0):Prop:=∀y∈x.pre,Bw N y=0
theorem IV {a y:A0} (hy:y∈a.pre):∀l:List A0,a∈l→y∈A0.pres l
 |[],h=>by simp at h
 |b::l,h=>by
  rcases List.mem_cons.1 h with rfl|h
  ·simp[A0.pres,hy]
  simp[A0.pres,IV hy l h]
theorem Good.arg {N:Nat}{x a:A0}(h:Good N x)(ha:a∈x.cR):Good N a:=fun y hy=>h y (by
 rw[A0.pre_eq];exact List.mem_cons_of_mem _ (IV hy _ ha))
theorem P2 {x a:A0}(ha:a∈x.cR):a.pre.length<x.pre.length:=by
 have:=(MX x.cR a (IV (by rw[A0.pre_eq];simp) _ ha)).2;rw[A0.pre_eq x];simp only[List.length_cons];omega
theorem Zw {N:Nat} (hN:40000000≤N) {y:A0} (hb:y.bulk≤16777216) (hl:y.cR.length≤64) (h:Bw N y=0) (ho:y.Op=1∨y.Op=7∨y.Op=8∨y.Op=9∨y.Op=10):∃a r,y.cR=a::r:=by
 have hc:y.cS.bulk≤16777216:=by have:=A0.bulk_eq y;omega
 obtain⟨s,ng,hs⟩:=Mz N y (by omega) (by omega) hl;obtain⟨sz,hz⟩:=Oh hN y.cS;have h1:=GI hN hc (by omega) (by omega) hs hz
 rw[(Eg hN hb hl).2,h]at h1
 have h2:s.cY≤y.cR.length:=by
  have h1:=Option.some.inj h1
  by_cases hc:s.cY≤y.cR.length∧(y.cR.length:Int)≤s.most
  ·exact hc.1
  rw[if_neg hc]at h1;cases h1
 have h3:1≤s.cY:=by
  have ht:=hs.tab
  rcases ho with h|h|h|h|h<;>rw[h]at ht<;>cases ht<;>decide
 match he:y.cR,h2 with
 |[],h2=>simp at h2;omega
 |a::r,_=>exact⟨a,r,rfl⟩
theorem few8 {N:Nat}(hN:40000000≤N){x:B0}(hb:x.bulk≤16777216):∃b,Cl N x=some b:=by
 unfold Cl;obtain⟨r,h0,_⟩:=Sx hN 200 N x (by omega) hb;rw[h0];simp only[Option.bind_some]
 split
 ·rw[Nw hN N x (by omega) hb];exact⟨_,rfl⟩
 exact⟨_,rfl⟩
theorem Hv {α:Type} {F:α→Option Bool}:∀(l:List α),(∀a∈l,∃b,F a=some b)→∃o,H7 (fun(_:Unit) a=>(F a).bind fun r=>if nt r=true then some (Sum.inr (Sum.inr (α:=Unit) ()))else some (.inl ())) l ()=some o
 |[],_=>⟨_,rfl⟩
 |a::l,h=>by
  obtain⟨b,hb⟩:=h a (by simp);unfold H7;rw[hb]
  cases b with
  |false=>exact⟨_,rfl⟩
  |true=>exact Hv l fun a ha=>h a (by simp[ha])
theorem few9 {N:Nat} (hN:40000000≤N) {x:A0} (hb:x.bulk≤16777216):∃b,FO N x=some b:=by
 unfold FO;obtain⟨r,h0,_⟩:=QK hN 150 N x (by omega) hb;rw[h0];simp only[Option.bind_some]
 split
 ·exact⟨_,rfl⟩
 rw[Sv hN N x (by omega) hb];simp only[Option.bind_some]
 split
 ·exact⟨_,rfl⟩
 rw[MQ hN N x (by omega) hb];simp only[Option.bind_some];have hp:=Ez x;rw[F6 x.pre (by omega) (mk:=fun(_:Unit) i=>i) (body:=fun(_:Unit) a=>(Cl N a.cS).bind fun r=>if nt r=true then some (.inr (.inr ()))else some (.inl ())) (fin:=fun _=>.inl ()) (s:=()) (by omega) ?_ ?_]
 ·obtain⟨o,ho⟩:=Hv (F:=fun(a:A0)=>Cl N a.cS) x.pre fun a ha=>few8 hN (by have:=(Ff x a ha).1;have:=A0.bulk_eq a;omega);rw[ho]
  cases o with
  |inl _=>exact⟨_,rfl⟩
  |inr o=>cases o<;>exact⟨_,rfl⟩
 ·intro s i a ha hi;have e:ar .add .i64 (i:Int) 1=i+1:=C5 (by omega) (by omega);simp only[C2,B1,hi,decide_true,if_true,C6,ha,Option.bind_some,e]
  cases Cl N a.cS with
  |none=>rfl
  |some r=>cases r<;>rfl
 intro s;simp[C2,B1]
end Go.Ab
namespace Go.Ab
theorem Ka {S R:Type} {step:S→Option (S ⊕ R)} (I:Nat→S→Prop) (Q:R→Prop):∀(k i:Nat) (s:S) (N:Nat),k<N→I i s→
 (∀j s,i≤j→j<i+k→I j s→∃o,step s=some o∧(match o with| .inl s'=>I (j+1) s'| .inr r=>Q r))→
 (∀s,I (i+k) s→∃r,step s=some (.inr r)∧Q r)→∃r,loopN step N s=some r∧Q r
 |0,i,s,N,hN,h0,_,he=>by
  obtain⟨N,rfl⟩:∃M,N=M+1:=⟨N - 1,by omega⟩;obtain⟨r,h1,h2⟩:=he s h0;exact⟨r,by simp only[loopN,h1],h2⟩
 | k+1,i,s,N,hN,h0,hs,he=>by
  obtain⟨N,rfl⟩:∃M,N=M+1:=⟨N - 1,by omega⟩;obtain⟨o,h1,h2⟩:=hs i s (Nat.le_refl _) (by omega) h0
  cases o with
  |inl s'=>
   obtain⟨r,h3,h4⟩:=Ka I Q k (i+1) s' N (by omega) h2 (fun j s a b c=>hs j s (by omega) (by omega) c) (fun s h=>he s (by rw[show i+(k+1)=i+1+k by omega];exact h));exact⟨r,by simp only[loopN,h1,h3],h4⟩
  |inr r=>exact⟨r,by simp only[loopN,h1],h2⟩
noncomputable instance :DecidableEq B0:=Classical.typeDecidableEq _
noncomputable instance :DecidableEq A0:=Classical.typeDecidableEq _
noncomputable instance :DecidableEq Ky:=Classical.typeDecidableEq _
noncomputable instance :DecidableEq Qs:=Classical.typeDecidableEq _
noncomputable instance :DecidableEq K1:=Classical.typeDecidableEq _
theorem GC {i:Nat}(h:i<1000000000000):ar .add .i64 (i:Int) 1=((i+1:Nat):Int):=by rw[C5 (by omega) (by omega)];omega
theorem Ae5 {α:Type} [DecidableEq α] {N:Nat} (l m:List α) (hl:l.length=m.length) (hs:l.length<1000000000000) (f:α→α→Option Bool) (hf:∀x∈l,∀y∈m,f x y=some (decide (x=y))) (hN:l.length<N):
 loopN (fun(i:Int)=>if cmp .lss i (Ar.len l)=true then(B6 l i).bind fun x=>(B6 m i).bind fun y=>(f x y).bind fun r=>if nt r=true then some (Sum.inr (Sum.inr (α:=Unit) ()))else some (.inl (ar .add .i64 i 1))else some (.inr (.inl ()))) N 0=some (if l=m then .inl ()else .inr ()):=by
 obtain⟨r,h1,h2⟩:=Ka (step:=fun(i:Int)=>if cmp .lss i (Ar.len l)=true then(B6 l i).bind fun x=>(B6 m i).bind fun y=>(f x y).bind fun r=>if nt r=true then some (Sum.inr (Sum.inr (α:=Unit) ()))else some (.inl (ar .add .i64 i 1))else some (.inr (.inl ())))
  (fun j s=>s=(j:Int)∧l.take j=m.take j) (fun r=>r=if l=m then .inl ()else .inr ()) l.length 0 0 N hN ⟨rfl,by simp⟩
  (fun j s _ hj ⟨e,ht⟩=>by
   subst e
   simp only[Nat.zero_add]at hj
   have hj2:j<m.length:=by omega
   have e1:l[j]? =some l[j]:=by simp[hj]
   have e2:m[j]? =some m[j]:=by simp[hj2]
   simp only[C2,B1,show((j:Int)<(l.length:Int)) by omega,decide_true,if_true,C6,e1,e2,Option.bind_some,hf _ (List.getElem_mem hj) _ (List.getElem_mem hj2)]
   by_cases h:l[j]=m[j]
   ·simp only[h,decide_true,M6,Bool.not_true,Bool.false_eq_true,if_false];refine⟨_,rfl,GC (by omega),?_⟩;rw[List.take_add_one,List.take_add_one,ht,e1,e2,h]
   simp only[h,decide_false,M6,Bool.not_false,if_true];refine⟨_,rfl,?_⟩
   rw[if_neg fun he=>h (by subst he;rfl)])
  (fun s ⟨e,ht⟩=>by
   subst e
   simp only[Nat.zero_add]at ht ⊢
   refine⟨.inl (),by simp[C2,B1],?_⟩
   rw[List.take_length,hl,List.take_length]at ht
   rw[if_pos ht])
 rw[h1,h2]
theorem Kf {a b:B0}:a=b↔(a.Op=b.Op∧a.Var=b.Var∧a.Field=b.Field∧a.Kind=b.Kind∧a.Value=b.Value)∧a.cR=b.cR:=by
 cases a;cases b;simp;constructor
 ·rintro⟨h1,h2,h3,h4,h5,h6⟩;exact⟨⟨h1,h3,h4,h5,h6⟩,h2⟩
 rintro⟨⟨h1,h3,h4,h5,h6⟩,h2⟩;exact⟨h1,h2,h3,h4,h5,h6⟩
theorem WJ {a b:A6}:a=b↔a.Kind=b.Kind∧a.Num=b.Num∧a.Text=b.Text:=by cases a;cases b;simp
theorem OH (a b:B0):Nk a b=true↔¬((a.Op=b.Op∧a.Var=b.Var∧a.Field=b.Field∧a.Kind=b.Kind∧a.Value=b.Value)∧a.cR.length=b.cR.length):=by
 simp only[Nk,G7,M8,M6,E5,B9,Dr,B1,WJ,Bool.or_eq_true,Bool.not_eq_true',decide_eq_false_iff_not,Bool.and_eq_false_iff,Bool.and_true,decide_eq_true_eq,Classical.not_and_iff_not_or_not]
 constructor
 ·rintro(((((h|h)|h)|h)|h)|h)
  ·simp[h]
  ·simp[h]
  ·simp[h]
  ·simp[h]
  ·rcases h with h|h|h<;>simp[h]
  right;omega
 rintro((h|h|h|h|h)|h)
 ·simp[h]
 ·simp[h]
 ·simp[h]
 ·simp[h]
 ·rcases h with h|h|h<;>simp[h]
 right;omega
theorem Ah1 {N:Nat} (hN:40000000≤N):∀(n:Nat) (a b:B0),a.bulk≤n→a.bulk≤16777216→Q9 N n a b=some (decide (a=b)):=by
 intro n
 induction n with
 |zero=>intro a b h;have:=Dg a;omega
 | succ n ih=>
  intro a b hx hb;have hl:=ED a;unfold Q9
  change (if Nk a b=true then some false else _)=_
  by_cases h:Nk a b=true
  ·rw[if_pos h]
   rw[OH]at h
   rw[decide_eq_false];intro e;exact h ⟨(Kf.1 e).1,by rw[(Kf.1 e).2]⟩
  rw[if_neg h]
  rw[OH,Classical.not_not]at h
  rw[Ae5 a.cR b.cR h.2 (by omega) _ (fun x hx y hy=>ih x y (by have:=Z0 hx;omega) (by have:=Z0 hx;omega)) (by omega)];simp only[Option.bind_some]
  by_cases he:a.cR=b.cR
  ·rw[if_pos he,decide_eq_true (Kf.2 ⟨h.1,he⟩)]
  rw[if_neg he,decide_eq_false fun e=>he (Kf.1 e).2]
structure Arity (y:A0):Prop where
 op:0≤y.Op∧y.Op≤10
 ev:y.Op=0→y.cR=[]
 two:1≤y.Op→y.Op≤3→2≤y.cR.length
 one:4≤y.Op→y.Op≠8→∃a,y.cR=[a]
 more:y.Op=8→∃a b,y.cR=[a,b]
end Go.Ab
namespace Go.Ab
abbrev Pr :=Ky×K1
def zE :B0:=⟨0,[],0,0,0,⟨0,0,⟨#[]⟩⟩⟩
def zP :A0:=⟨0,[],0,0,0,0,zE⟩
def nd (op:Int)(args:List A0):A0:=⟨op,args,0,0,0,0,zE⟩
def Ai8 :K1:=⟨true,zP⟩
def Ai2 (op:Int)(l:List A0):A0:=match l with|[x]=>x|l=>nd op l
def As4 (r:K1)(more:List A0):K1:=
 match(if r.done=true then more else r.p::more)with
 |[]=>Ai8
 |l=>⟨false,Ai2 1 l⟩
def Ar9 (args:List A0)(i:Nat)(r:K1):K1:=
 ⟨false,Ai2 3 (if r.done=true then args.take i++args.drop (i+1)else args.set i r.p)⟩
def Esz (e:Ky)(k:Nat):Prop:=e.Opens.length≤k∧e.Closes.length≤k∧e.Checks.length≤k∧e.Limits.length≤k∧e.Inside.length≤k
def Aq5 (p:A0) (x:Ky) (done opens:Bool):Ky:=
 {x with
  Opens:=if opens=true then p.cV::x.Opens else x.Opens
  Inside:=if p.Op=5∨p.Op=9 then p.cV::x.Inside else x.Inside
  Limits:=if p.Op=5∨p.Op=9 then x.Limits else⟨p.cV,p.Span⟩::x.Limits
  Closes:=if done=true then x.Closes++[p.cV]else x.Closes}
def rep (again:A0)(y:Pr):List Pr:=
 if y.2.done=true then[y,(y.1,⟨false,again⟩)]else match again.cR with|b::_=>[(y.1,⟨false,nd 8 [y.2.p,b]⟩)]|[]=>[]
def innE (x:A0)(y:Pr):Ky:=
 if x.Op=7 then(if y.2.done=true then{y.1 with Checks:=y.1.Checks++[x.cS]}else y.1)
 else Aq5 x y.1 y.2.done (if x.Op=5∨x.Op=9 then decide (x.Op=5)else decide (x.Op=6))
def As1 (x:A0):Int:=if x.Op=7 then 7 else if x.Op=5∨x.Op=9 then 9 else 10
def innR (x:A0)(r:K1):K1:=if r.done=true then r else{r with p:={x with Op:=As1 x,cR:=[r.p]}}
def inn (x:A0)(y:Pr):Pr:=(innE x y,innR x y.2)
def comb (x:A0)(ls:List (List Pr)):List Pr:=
 if x.Op=0 then[(⟨0,0,x.Var,x.Typ,x.cS,[],[],[],[],[]⟩,Ai8)]
 else if x.Op=1 then(ls.headD []).map fun y=>(y.1,As4 y.2 (x.cR.drop 1))
 else if x.Op=2 then(List.range x.cR.length).flatMap fun i=>ls.getD i []
 else if x.Op=3 then(List.range x.cR.length).flatMap fun i=>(ls.getD i []).map fun y=>(y.1,Ar9 x.cR i y.2)
 else if x.Op=4 then(ls.headD []).flatMap (rep x)
 else if x.Op=8 then(ls.headD []).flatMap (rep (nd 4 (x.cR.drop 1)))
 else(ls.headD []).map (inn x)
mutual
def raw :A0→List Pr
 |⟨op,args,typ,var,scope,span,c⟩=>comb ⟨op,args,typ,var,scope,span,c⟩ (raws args)
def raws :List A0→List (List Pr)
 |[]=>[]
 |a::l=>raw a::raws l
end
theorem Esz.mono {e:Ky}{k m:Nat}(h:Esz e k)(hm:k≤m):Esz e m:=by obtain⟨h1,h2,h3,h4,h5⟩:=h;exact⟨by omega,by omega,by omega,by omega,by omega⟩
end Go.Ab
namespace Go.Ab
end Go.Ab
namespace Go.Ab
structure Us (B:Nat) (R:Nat) (y:Pr):Prop where
 from0:y.1.From=0
 to0:y.1.To=0
 done:y.2.done=true→y.2.p=zP
 cond:y.1.cS.bulk≤B
 checks:∀c∈y.1.Checks,c.bulk≤B
 rest:y.2.p.bulk≤R
theorem Us.mono {B R B' R':Nat}{y:Pr}(h:Us B R y)(hB:B≤B')(hR:R≤R'):Us B' R' y:=⟨h.from0,h.to0,h.done,Nat.le_trans h.cond hB,fun c hc=>Nat.le_trans (h.checks c hc) hB,Nat.le_trans h.rest hR⟩
def wth {α:Type}[DecidableEq α](l:List α)(x:α):List α:=if x∈l then l else l++[x]
def dd {α:Type}[DecidableEq α](l:List α):List α:=l.foldl wth []
section
variable {α:Type}[DecidableEq α]
theorem Am8 (l m:List α):dd (l++m)=m.foldl wth (dd l):=by simp[dd,List.foldl_append]
end
end Go.Ab
namespace Go.Ab
def idxI {α:Type}(P:α→Bool)(l:List α):Int:=match l.findIdx? P with|none=> -1|some i=>(i:Int)
noncomputable abbrev idxP (l:List A0)(p:A0):Int:=idxI (fun q=>decide (p=q)) l
noncomputable def Aq6 (l:List A0)(y:Pr):List A0:=if y.2.done=true then l else wth l y.2.p
noncomputable def Yb (w:List Pr):List A0:=w.foldl Aq6 []
noncomputable def toOf (l:List A0)(r:K1):Int:=if r.done=true then -1 else idxP l r.p
noncomputable def eg (l:List A0)(y:Pr):Ky:={y.1 with To:=toOf l y.2}
def ZE (N:Nat)(w:List Pr):Prop:=2048<(dd w).length∨∃y∈w,y.2.done=false∧O9 N y.2.p≠0
noncomputable instance (N:Nat)(w:List Pr):Decidable (ZE N w):=Classical.propDecidable _
theorem Sw (w v:List Pr):(dd w).length≤(dd (w++v)).length:=by
 rw[Am8]
 have key:∀(v l:List Pr),l.length≤(v.foldl wth l).length:=fun v=>by
  induction v with
  |nil=>intro l;exact Nat.le_refl _
  |cons x v ih=>
   intro l;refine Nat.le_trans ?_ (ih (wth l x));unfold wth;split<;>simp
 exact key v _
theorem ZE.mono {N:Nat}{w v:List Pr}(h:ZE N w):ZE N (w++v):=by
 rcases h with h|⟨y,hy,h⟩
 ·left;have:=Sw w v;omega
 right;exact⟨y,by simp[hy],h⟩
structure DerInv (N:Nat) (w:List Pr) (s:List A0×List Ky):Prop where
 rs:s.1=Yb w
 es:s.2=(dd w).map (eg (Yb w))
 ok:¬ZE N w
 len:(Yb w).length≤(dd w).length
end Go.Ab
namespace Go.Ab
theorem Jb {α R:Type} (P:α→Bool) (r:R):∀l:List α,H7 (fun(_:Unit) y=>if P y=true then some (Sum.inr r)else some (.inl ())) l ()=some (if l.any P=true then .inr r else .inl ())
 |[]=>rfl
 | y::l=>by
  unfold H7
  cases h:P y with
  |true=>simp[h]
  |false=>
   simp only[Bool.false_eq_true,if_false,List.any_cons,h,Bool.false_or];exact Jb P r l
theorem Good.sub {N:Nat}{x y:A0}(h:Good N x)(hy:y∈x.pre):Bw N y=0:=h y hy
theorem XB {N:Nat} (hN:40000000≤N) {x:A0} (hb:x.bulk≤16777216):BS N x=some (if O9 N x≠0 then O9 N x else if x.pre.any (fun y=>cmp .geq y.Op 8)=true then 1 else 0):=by
 unfold BS;rw[Aa0 hN hb];simp only[Option.bind_some]
 by_cases h:O9 N x=0
 ·rw[if_neg (J1 h),if_neg (by simpa using h),Hz hN hb];simp only[Option.bind_some];rw[Jb (fun y:A0=>cmp .geq y.Op 8) (1:Int) x.pre]
  by_cases h2:x.pre.any (fun y=>cmp .geq y.Op 8)=true
  ·rw[if_pos h2,if_pos h2];rfl
  rw[if_neg h2,if_neg h2];rfl
 rw[if_pos (J9 h),if_pos h]
theorem Ij {N:Nat} {x:A0} (hz:O9 N x=0):x.pre.length≤64∧x.dep≤12∧Good N x:=by
 have hp:x.pre.length≤64:=by
  by_cases h:64<x.pre.length
  ·rw[O9,if_pos h]at hz;cases hz
  omega
 have hd:¬12<x.dep:=fun h=>by rw[O9,if_neg (by omega),if_pos h]at hz;cases hz
 rw[O9,if_neg (by omega),if_neg hd]at hz
 exact⟨hp,by omega,BB.1 hz⟩
theorem CA (x:A0):x∈x.pre:=by rw[A0.pre_eq];simp
theorem Vt {α β:Type}{m:Option α}{F:α→Option β}{a:α}{r:Option β}(h1:m=some a)(h2:F a=r):m.bind F=r:=by rw[h1];exact h2
end Go.Ab
namespace Go.Ab
mutual
theorem NC :∀x:B0,(∀y∈x.pre,y.Value.Text.size≤64)→x.bulk≤74*x.pre.length
 |⟨op,args,var,field,kind,v⟩,h=>by
  have h1:=LC args fun y hy=>h y (by rw[B0.pre];exact List.mem_cons_of_mem _ hy);have h2:v.Text.size≤64:=h ⟨op,args,var,field,kind,v⟩ (by rw[B0.pre];exact List.mem_cons_self ..);simp only[B0.bulk,B0.pre,List.length_cons];omega
theorem LC :∀l:List B0,(∀y∈B0.pres l,y.Value.Text.size≤64)→B0.bulks l≤1+74*(B0.pres l).length
 |[],_=>by simp[B0.bulks]
 |a::l,h=>by
  have h1:=NC a fun y hy=>h y (by rw[B0.pres];exact List.mem_append_left _ hy);have h2:=LC l fun y hy=>h y (by rw[B0.pres];exact List.mem_append_right _ hy);simp only[B0.bulks,B0.pres,List.length_append];omega
end
theorem IX :(⟨#[]⟩:ByteArray).size=0:=rfl
theorem SR {v:A6}(h:NY v=true):v.Text.size≤64:=by
 simp only[NY,M8,B9,Dr,Bool.and_eq_true,decide_eq_true_eq]at h
 rw[h.2.2.1,IX];omega
theorem QG {v:A6} (h:I3 v=0):v.Text.size≤64:=by
 unfold I3 at h
 by_cases h1:v.Kind=0∨v.Kind=1
 ·rw[if_pos h1]at h
  by_cases h2:v.Text≠⟨#[]⟩
  ·rw[if_pos h2]at h;cases h
  have:v.Text=⟨#[]⟩:=Classical.not_not.1 h2;rw[this,IX];omega
 rw[if_neg h1]at h
 by_cases h2:v.Kind=2
 ·rw[if_pos h2]at h
  by_cases h3:v.Num≠0
  ·rw[if_pos h3]at h;cases h
  rw[if_neg h3]at h
  by_cases h4:64<(v.Text.size:Int)
  ·rw[if_pos h4]at h;cases h
  omega
 rw[if_neg h2]at h;cases h
theorem Qc {x:B0} (h:Z6 x=0):x.Value.Text.size≤64:=by
 unfold Z6 at h
 by_cases h0:x.Op<0∨12<x.Op
 ·rw[if_pos h0]at h;cases h
 rw[if_neg h0]at h
 by_cases h1:(x.cR.length:Int)≠(if x.Op<5 then 0 else if x.Op=12 then 1 else 2)
 ·rw[if_pos h1]at h;cases h
 rw[if_neg h1]at h
 by_cases h2:PD x=true
 ·rw[if_pos h2]at h;cases h
 rw[if_neg h2]at h
 by_cases h3:Ng x=true
 ·rw[if_pos h3]at h;cases h
 rw[if_neg h3]at h
 by_cases h4:x.Op=4∨x.Op=0
 ·by_cases h5:I3 x.Value=0
  ·exact QG h5
  rw[if_pos ⟨h4,h5⟩]at h;exact absurd h h5
 rw[if_neg (fun e=>h4 e.1),if_neg (fun e=>h4 (.inl e.1))]at h
 by_cases h6:EE x=true
 ·rw[if_pos h6]at h;cases h
 have h7:NY x.Value=true:=by
  have n4:¬x.Op=4:=fun e=>h4 (.inl e);have n0:¬x.Op=0:=fun e=>h4 (.inr e)
  cases hz:NY x.Value with
  |true=>rfl
  |false=>
   refine absurd ?_ h6;simp[EE,G7,M8,M6,B9,n4,n0,hz]
 exact SR h7
theorem LJ {c:B0}(h:K8 c=0):c.bulk≤4736:=by
 have hp:¬64<c.pre.length:=fun e=>by rw[K8,if_pos e]at h;cases h
 have hd:¬12<c.dep:=fun e=>by rw[K8,if_neg hp,if_pos e]at h;cases h
 rw[K8,if_neg hp,if_neg hd]at h
 have:=NC c fun y hy=>Qc (BB.1 h y hy);omega
theorem MR {N:Nat} (hN:40000000≤N) {y:A0} (hb:y.bulk≤16777216) (hl:y.cR.length≤64) (h:Bw N y=0):(0≤y.Op∧y.Op≤10)∧∃s ng,Ix N y s ng∧y.cS.bulk≤4736:=by
 have hc:y.cS.bulk≤16777216:=by have:=A0.bulk_eq y;omega
 have hop:0≤y.Op∧y.Op≤10:=by
  by_cases ho:0≤y.Op∧y.Op≤10
  ·exact ho
  have h1:=(Eg hN hb hl).1
  unfold R5 at h1
  rw[if_pos (Ah5 ho).1,h]at h1
  cases h1
 obtain⟨s,ng,hs⟩:=Mz N y hop.1 hop.2 hl;have hz:=Ah1 hN N y.cS (⟨0,[],0,0,0,(⟨0,0,⟨#[]⟩⟩:A6)⟩:B0) (by omega) hc;have h1:=GI hN hc hop.1 hop.2 hs hz
 rw[(Eg hN hb hl).2,h]at h1
 have h1:=Option.some.inj h1;refine⟨hop,s,ng,hs,?_⟩
 by_cases ha:s.cY≤y.cR.length∧(y.cR.length:Int)≤s.most
 ·rw[if_pos ha]at h1
  unfold Je at h1
  by_cases e1:DE s.cU y.Typ 15=true
  ·rw[if_pos e1]at h1;cases h1
  rw[if_neg e1]at h1
  by_cases e2:DE s.cU y.Var 15=true
  ·rw[if_pos e2]at h1;cases h1
  rw[if_neg e2]at h1
  by_cases e3:DE s.scope y.cV 63=true
  ·rw[if_pos e3]at h1;cases h1
  rw[if_neg e3]at h1
  by_cases e4:DE s.span y.Span 1099511627776=true
  ·rw[if_pos e4]at h1;cases h1
  rw[if_neg e4]at h1
  by_cases e5:s.cond=true
  ·by_cases e6:K8 y.cS=0
   ·exact LJ e6
   rw[if_pos ⟨e5,e6⟩]at h1;exact absurd h1.symm e6
  rw[if_neg (fun e=>e5 e.1)]at h1
  by_cases e6:y.cS=(⟨0,[],0,0,0,(⟨0,0,⟨#[]⟩⟩:A6)⟩:B0)
  ·rw[e6];simp only[B0.bulk,B0.bulks,IX];omega
  rw[if_neg (fun e=>by
   have:=e.1
   rw[decide_eq_false e6]at this
   simp[e5]at this)]at h1
  cases h1
 rw[if_neg ha]at h1;cases h1
end Go.Ab
namespace Go.Ab
def cnt :List (Bool×Bool×A0)→Int→Int→Bool
 |[],_,_=>true
 |y::l,v,s=>(if y.1=true then decide (y.2.2.Var=v)else true)&&(if y.2.1=true then decide (y.2.2.cV=s)else true)&&cnt l (if y.1=true then v+1 else v) (if y.2.1=true then s+1 else s)
noncomputable def EW (y:A0):Bool:=match B6 G2 y.Op with|some s=>s.cU|none=>false
noncomputable def EZ (y:A0):Bool:=match B6 G2 y.Op with|some s=>s.scope|none=>false
noncomputable def Qe (l:List A0):Bool:=cnt (l.map fun y=>(EW y,EZ y,y)) 0 0
def ZC (N:Nat)(y:A0):Prop:=∃s ng,Ix N y s ng
theorem Nl {N:Nat}(hN:40000000≤N){x:A0}(hb:x.bulk≤16777216)(hz:O9 N x=0):∀y∈x.pre,ZC N y:=fun y hy=>by
 obtain⟨hp,hd,hg⟩:=Ij hz;have h1:=Ff x y hy;have h2:=BY y;obtain⟨_,s,ng,h,_⟩:=MR hN (by omega) (by omega) (hg y hy);exact⟨s,ng,h⟩
theorem AS {a b:Int}(h:a<b):cmp .lss a b=true:=by rw[C2];exact decide_eq_true h
theorem X0 {a b:Int}(h:¬a<b):¬(cmp .lss a b=true):=by rw[C2];simpa using h
noncomputable def Nx (s7:Bool×Int×Int)(y6:A0):Option ((Bool×Int×Int) ⊕ Unit):=
 (B6 G2 y6.Op).bind fun x11=>((if x11.cU=true then some (an s7.1 (cmp .eql y6.Var s7.2.2),ar .add .i64 s7.2.2 1)else some (s7.1,s7.2.2)):Option (Bool×Int)).bind fun s12=>if x11.scope=true then some (.inl (an s12.1 (cmp .eql y6.cV s7.2.1),ar .add .i64 s7.2.1 1,s12.2))else some (.inl (s12.1,s7.2.1,s12.2))
theorem OO {N:Nat}:∀(l:List A0),(∀y∈l,ZC N y)→∀(b:Bool) (v s:Int),0≤v→0≤s→v+l.length≤1000000→s+l.length≤1000000→
 ∃v' s',H7 Nx l (b,s,v)=some (.inl (b&&cnt (l.map fun y=>(EW y,EZ y,y)) v s,s',v'))
 |[],_,b,v,s,_,_,_,_=>⟨v,s,by simp[H7,cnt]⟩
 |y::l,h,b,v,s,hv,hs,hv2,hs2=>by
  simp only[List.length_cons]at hv2 hs2
  obtain⟨sh,ng,ok⟩:=h y (by simp)
  have et:EW y=sh.cU:=by unfold EW;rw[ok.tab]
  have es:EZ y=sh.scope:=by unfold EZ;rw[ok.tab]
  have ev:ar .add .i64 v 1=v+1:=C5 (by omega) (by omega);have ess:ar .add .i64 s 1=s+1:=C5 (by omega) (by omega);have hr:=fun b v' s' h1 h2 h3 h4=>OO l (fun z hz=>h z (by simp[hz])) b v' s' h1 h2 h3 h4;simp only[List.map_cons,cnt,et,es]
  have step:∀b' v2 s2,Nx (b,s,v) y=some (.inl (b',s2,v2))→H7 Nx (y::l) (b,s,v)=H7 Nx l (b',s2,v2):=fun b' v2 s2 h=>by simp only[H7,h]
  have hst:∀b' v2 s2,(some (.inl (b',s2,v2)):Option ((Bool×Int×Int) ⊕ Unit))=(((if sh.cU=true then some (an b (cmp .eql y.Var v),ar .add .i64 v 1)else some (b,v)):Option (Bool×Int)).bind fun s12=>if sh.scope=true then some (.inl (an s12.1 (cmp .eql y.cV s),ar .add .i64 s 1,s12.2))else some (.inl (s12.1,s,s12.2)))→H7 Nx (y::l) (b,s,v)=H7 Nx l (b',s2,v2):=fun b' v2 s2 h=>step b' v2 s2 (by rw[h];unfold Nx;rw[ok.tab];rfl);cases ht:sh.cU<;>cases hc:sh.scope
  ·obtain⟨v',s',h1⟩:=hr b v s hv hs (by omega) (by omega);exact⟨v',s',by rw[hst b v s (by rw[ht,hc];rfl)];simpa using h1⟩
  ·obtain⟨v',s',h1⟩:=hr (b&&decide (y.cV=s)) v (s+1) hv (by omega) (by omega) (by omega);exact⟨v',s',by rw[hst (b&&decide (y.cV=s)) v (s+1) (by simp[ht,hc,ess,B9,M8])];simpa[Bool.and_assoc]using h1⟩
  ·obtain⟨v',s',h1⟩:=hr (b&&decide (y.Var=v)) (v+1) s (by omega) hs (by omega) (by omega);exact⟨v',s',by rw[hst (b&&decide (y.Var=v)) (v+1) s (by rw[ht,hc,ev,B9,M8];rfl)];simpa[Bool.and_assoc]using h1⟩
  obtain⟨v',s',h1⟩:=hr (b&&decide (y.Var=v)&&decide (y.cV=s)) (v+1) (s+1) (by omega) (by omega) (by omega) (by omega);exact⟨v',s',by rw[hst (b&&decide (y.Var=v)&&decide (y.cV=s)) (v+1) (s+1) (by rw[ht,hc,ev,ess,B9,B9,M8];rfl)];simpa[Bool.and_assoc]using h1⟩
theorem Wq {N:Nat}(hN:40000000≤N){x:A0}(hb:x.bulk≤16777216)(hz:O9 N x=0):∃v s,BT N x=some (v,s,Qe x.pre):=by
 obtain⟨hp,hd,hg⟩:=Ij hz;obtain⟨v,s,h⟩:=OO (N:=N) x.pre (Nl hN hb hz) true 0 0 (by omega) (by omega) (by omega) (by omega);unfold BT;rw[Hz hN hb];simp only[Option.bind_some];refine⟨v,s,Vt h ?_⟩;simp[Qe]
noncomputable def Qh (N:Nat)(x:A0):Int:=if O9 N x≠0 then O9 N x else if x.pre.any (fun y=>cmp .geq y.Op 8)=true then 1 else if Qe x.pre=true then 0 else 14
theorem Wr {N:Nat} (hN:40000000≤N) {x:A0} (hb:x.bulk≤16777216):AJ N x=some (Qh N x):=by
 unfold AJ Qh;rw[XB hN hb];simp only[Option.bind_some]
 by_cases h:O9 N x=0
 ·rw[if_neg (show¬(O9 N x≠0) by simpa using h),if_neg (show¬(O9 N x≠0) by simpa using h)]
  by_cases h2:x.pre.any (fun y=>cmp .geq y.Op 8)=true
  ·rw[if_pos h2,if_pos h2,if_pos (J9 (by omega))]
  rw[if_neg h2,if_neg h2,if_neg (J1 rfl)];obtain⟨v,s,hr⟩:=Wq hN hb h;rw[hr];simp only[Option.bind_some];cases Qe x.pre<;>simp[M6]
 rw[if_pos h,if_pos (J9 h),if_pos h]
theorem Wp {N:Nat}(l:List A0)(hl:l.length<N)(hs:l.length≤1000000):CB N l=some (!(l.any fun y=>cmp .geq y.Op 8)):=by
 unfold CB;rw[F6 l (by omega) (mk:=fun(_:Unit) i=>i) (body:=fun(_:Unit) a=>if cmp .geq a.Op 8=true then some (.inr (.inr ()))else some (.inl ())) (fin:=fun _=>.inl ()) (s:=()) (by omega) ?_ ?_]
 ·rw[Jb (fun y:A0=>cmp .geq y.Op 8) (Sum.inr ():Unit ⊕ Unit) l];cases h:l.any fun y=>cmp .geq y.Op 8<;>simp
 ·intro s i a ha hi;have e:ar .add .i64 (i:Int) 1=i+1:=C5 (by omega) (by omega);simp only[C2,B1,hi,decide_true,if_true,C6,ha,Option.bind_some,e];cases cmp .geq a.Op 8<;>rfl
 intro s;simp[C2,B1]
theorem Wm {N:Nat} (hN:40000000≤N) {x:A0} (hb:x.bulk≤16777216):Dy N x=some (Qh N x):=by
 unfold Dy Qh;rw[Yc hN hb];simp only[Option.bind_some]
 by_cases h:O9 N x=0
 ·rw [if_neg (show¬(O9 N x≠0) by simpa using h),if_neg (J1 h),MQ hN N x (by omega) hb];have hpb:=Ez x;obtain⟨hp,hd,hg⟩:=Ij h;simp only[Option.bind_some];rw[Wp x.pre (by omega) (by omega)];simp only[Option.bind_some]
  by_cases h2:x.pre.any (fun y=>cmp .geq y.Op 8)=true
  ·rw[if_pos h2,h2,if_pos (show nt (!true)=true from rfl)]
  rw[if_neg h2,if_neg (by simp[M6,h2])];have hk:=Nl hN hb h
  obtain ⟨r,k1,k2⟩:=Ka (S:=Int×Int×Int) (R:=Unit ⊕ Unit) (step:=fun(s4:Int×Int×Int)=>((if cmp .lss s4.2.2 (Ar.len x.pre)=true then(B6 x.pre s4.2.2).bind fun x6=>(W8 N x6).bind fun r7=>((if r7=true then(B6 x.pre s4.2.2).bind fun x9=>if cmp .neq x9.Var s4.1=true then some (.inr ())else some (.inl (ar .add .i64 s4.1 1))else some (.inl s4.1)):Option (Int ⊕ Unit)).bind fun s8=>match s8 with
          | .inl y10=>(B6 x.pre s4.2.2).bind fun x11=>(Y8 N x11).bind fun r12=>if r12=true then(B6 x.pre s4.2.2).bind fun x13=>if cmp .neq x13.cV s4.2.1=true then some (.inr (.inr ()))else some (.inl (y10,ar .add .i64 s4.2.1 1,ar .add .i64 s4.2.2 1))else(B6 x.pre s4.2.2).bind fun x14=>(V3 N x14).bind fun r15=>if r15=true then(B6 x.pre s4.2.2).bind fun x16=>if cmp .neq x16.cV s4.2.1=true then some (.inr (.inr ()))else some (.inl (y10,ar .add .i64 s4.2.1 1,ar .add .i64 s4.2.2 1))else some (.inl (y10,s4.2.1,ar .add .i64 s4.2.2 1))
          | .inr y17=>some (.inr (.inr ()))
   else some (.inr (.inl ())))
   :Option ((Int×Int×Int) ⊕ (Unit ⊕ Unit))))
   (fun j s=>s.2.2=(j:Int)∧0≤s.1∧s.1≤j∧0≤s.2.1∧s.2.1≤j∧Qe x.pre=cnt ((x.pre.drop j).map fun y=>(EW y,EZ y,y)) s.1 s.2.1)
   (fun r=>r=if Qe x.pre=true then .inl ()else .inr ()) x.pre.length 0 (0,0,0) N (by omega) ⟨rfl,by simp,by simp,by simp,by simp,rfl⟩
   (fun j s _ hj ⟨e,b1,b2,b3,b4,hc⟩=>by
    obtain⟨v,sc,i⟩:=s
    simp only at e b1 b2 b3 b4 hc
    subst e
    simp only[Nat.zero_add]at hj
    have e1:B6 x.pre (j:Int)=some x.pre[j]:=by rw[C6,List.getElem?_eq_getElem hj]
    obtain⟨sh,ng,ok⟩:=hk _ (List.getElem_mem hj)
    have et:EW x.pre[j]=sh.cU:=by unfold EW;rw[ok.tab]
    have es:EZ x.pre[j]=sh.scope:=by unfold EZ;rw[ok.tab]
    have ev:ar .add .i64 v 1=v+1:=C5 (by omega) (by omega);have ess:ar .add .i64 sc 1=sc+1:=C5 (by omega) (by omega);have ei:ar .add .i64 (j:Int) 1=((j+1:Nat):Int):=GC (by omega)
    rw[List.drop_eq_getElem_cons hj,List.map_cons,cnt]at hc
    simp only[et,es]at hc
    have sco:=ok.sco;rw[if_pos (AS (by simp only[B1];omega))];simp only[e1,Option.bind_some,ok.var,ok.neg,ok.tim,ev,ess,ei]
    by_cases hv:sh.cU=true∧x.pre[j].Var≠v
    ·rw[if_pos hv.1,if_pos (J9 hv.2)];refine⟨_,rfl,?_⟩;rw[hc];simp[hv.1,hv.2]
    have hv1:((if sh.cU=true then if cmp .neq x.pre[j].Var v=true then some (.inr ())else some (.inl (v+1))else some (.inl v)):Option (Int ⊕ Unit))=some (.inl (if sh.cU=true then v+1 else v)):=by
     by_cases ht:sh.cU=true
     ·rw[if_pos ht,if_pos ht,if_neg (J1 (Classical.not_not.1 fun e=>hv ⟨ht,e⟩))]
     rw[if_neg ht,if_neg ht]
    rw[hv1];simp only[Option.bind_some]
    have hcv:(if sh.cU=true then decide (x.pre[j].Var=v)else true)=true:=by
     by_cases ht:sh.cU=true
     ·rw[if_pos ht];exact decide_eq_true (Classical.not_not.1 fun e=>hv ⟨ht,e⟩)
     rw[if_neg ht]
    rw[hcv,Bool.true_and]at hc
    have hvb:0≤(if sh.cU=true then v+1 else v)∧(if sh.cU=true then v+1 else v)≤((j+1:Nat):Int):=by split<;>omega
    generalize (if sh.cU=true then v+1 else v)=v' at hc hvb ⊢
    by_cases hs:sh.scope=true
    ·rw[if_pos hs,if_pos hs]at hc
     by_cases hsc:x.pre[j].cV=sc
     ·have hgo:0≤sc+1∧sc+1≤((j+1:Nat):Int)∧Qe x.pre=cnt ((x.pre.drop (j+1)).map fun y=>(EW y,EZ y,y)) v' (sc+1):=by
       refine⟨?_,?_,?_⟩
       ·omega
       ·omega
       rw[hc,decide_eq_true hsc,Bool.true_and]
      by_cases hng:ng=true
      ·rw[if_pos hng,if_neg (J1 hsc)];exact⟨_,rfl,rfl,hvb.1,hvb.2,hgo⟩
      have hsp:sh.span=true:=by rw[hs]at sco;simpa[hng]using sco.symm
      rw[if_neg hng,if_pos hsp,if_neg (J1 hsc)];exact⟨_,rfl,rfl,hvb.1,hvb.2,hgo⟩
     have hno:Qe x.pre=false:=by rw[hc,decide_eq_false hsc,Bool.false_and]
     by_cases hng:ng=true
     ·rw[if_pos hng,if_pos (J9 hsc)];exact⟨_,rfl,by rw[hno];rfl⟩
     have hsp:sh.span=true:=by rw[hs]at sco;simpa[hng]using sco.symm
     rw[if_neg hng,if_pos hsp,if_pos (J9 hsc)];exact⟨_,rfl,by rw[hno];rfl⟩
    rw[if_neg hs,if_neg hs,Bool.true_and]at hc
    have hs0:sh.scope=false:=by simpa using hs
    rw[hs0]at sco
    have hng:¬ng=true:=fun e=>by rw[e]at sco;cases sco
    have hsp:¬sh.span=true:=fun e=>by rw[e]at sco;simp at sco
    rw[if_neg hng,if_neg hsp];refine⟨_,rfl,rfl,hvb.1,hvb.2,b3,?_,hc⟩
    show sc≤_;omega)
   (fun s ⟨e,_,_,_,_,hc⟩=>by
    obtain⟨v,sc,i⟩:=s
    simp only[Nat.zero_add]at e hc
    subst e
    rw[List.drop_length]at hc
    rw[if_neg (X0 (by simp only[B1];omega))];refine⟨_,rfl,?_⟩
    rw[hc];rfl)
  refine Vt k1 ?_;subst k2;cases Qe x.pre<;>rfl
 rw[if_pos h,if_pos (J9 h)]
end Go.Ab
namespace Go.Ab
theorem Ns :∀{l:List B0} {a:B0},a∈l→a.dep≤B0.deps l
 |b::l,a,h=>by
  simp only[B0.deps]
  rcases List.mem_cons.1 h with rfl|h
  ·exact Nat.le_max_left _ _
  exact Nat.le_trans (Ns h) (Nat.le_max_right _ _)
theorem KX :∀{l:List B0} {a y:B0},a∈l→y∈a.pre→y∈B0.pres l
 |b::l,a,y,h,hy=>by
  simp only[B0.pres,List.mem_append]
  rcases List.mem_cons.1 h with rfl|h
  ·exact .inl hy
  exact .inr (KX h hy)
theorem Jd {α R:Type} {body:Unit→α→Option (Unit ⊕ R)} {p:α→Bool} {r:R}:∀{l:List α},(∀x∈l,body () x=some (if p x=true then .inl ()else .inr r))→H7 body l ()=some (if l.all p=true then .inl ()else .inr r)
 |[],_=>rfl
 | x::l,h=>by
  unfold H7;rw[h x (by simp),List.all_cons]
  by_cases hx:p x=true
  ·rw[if_pos hx,hx]
   dsimp only
   rw[Jd fun y hy=>h y (by simp[hy])];rfl
  rw[if_neg hx]
  dsimp only
  rw[Bool.not_eq_true]at hx
  rw[hx];rfl
theorem Ai6 {x:B0} (h:Z6 x=0):(x.Op=1∨x.Op=4→0≤x.Field∧x.Field<8)∧(1≤x.Op∧x.Op≤4→0≤x.Var∧x.Var<16):=by
 have h3:PD x=false:=by
  cases hh:PD x with
  |false=>rfl
  |true=>
   exfalso
   unfold Z6 at h
   by_cases a:x.Op<0∨12<x.Op
   ·rw[if_pos a]at h;cases h
   rw[if_neg a]at h
   by_cases b:(x.cR.length:Int)≠(if x.Op<5 then 0 else if x.Op=12 then 1 else 2)
   ·rw[if_pos b]at h;cases h
   rw[if_neg b,if_pos hh]at h
   cases h
 unfold PD at h3
 simp only[G7,M8,C2,K9,Bool.or_eq_false_iff,Bool.and_eq_false_iff,decide_eq_false_iff_not]at h3
 obtain⟨hv,hf⟩:=h3
 constructor
 ·intro e
  rcases hf with hf|hf
  ·exfalso
   unfold XE at hf
   rcases e with e|e<;>simp[e,B9,G7]at hf
  omega
 intro e
 rcases hv with hv|hv
 ·exfalso
  have h4:x.Op=1∨x.Op=2∨x.Op=3∨x.Op=4:=by omega
  unfold XD at hv
  rcases h4 with e|e|e|e<;>simp[e,B9,G7]at hv
 omega
end Go.Ab
namespace Go.Ab
noncomputable section
def X9 :A6:=⟨0,0,⟨#[]⟩⟩
def M1 (k:Int)(v:A6):Int:=if I3 v≠0 then I3 v else if v.Kind=0∨(k≠1∧k≠2∧k≠3)then 0 else 9
def IJ (k:Int)(a b:A6):A6:=
 if k=1 then⟨0,ar .add .i64 a.Num b.Num,⟨#[]⟩⟩else if k=2 then⟨0,Ar.mn a.Num b.Num,⟨#[]⟩⟩else if k=3 then⟨0,Ar.mx a.Num b.Num,⟨#[]⟩⟩else if k=4 then a else if k=5 then b else X9
def BQ (k:Int)(v:A6):A6:=if k=0 then X9 else v
def Af (k:Int):List A6→A6
 |[]=>X9
 |v::l=>l.foldl (fun a b=>IJ k a (BQ k b)) (BQ k v)
def Zx (k:Int)(l:List A6)(o:A6):A6×Int:=
 if k<0∨5<k then(X9,1)else if 4096<l.length then(X9,5)else if Q6 (M1 k) l≠0 then(X9,Q6 (M1 k) l)else if M1 k o≠0 then(X9,M1 k o)
 else if k=0 then(⟨0,l.length,⟨#[]⟩⟩,0)else if l=[]∧k≠1 then(o,0)else(Af k l,0)
theorem Mp (N:Nat)(k:Int)(v:A6):T6 N k v=some (decide (v.Kind=0∨(k≠1∧k≠2∧k≠3))):=by
 unfold T6;simp only[G7,M8,B9,E5,Option.some.injEq]
 by_cases h0:v.Kind=0<;>by_cases h1:k=1<;>by_cases h2:k=2<;>by_cases h3:k=3<;>simp[h0,h1,h2,h3]
theorem QF (N:Nat) (k:Int) (v:A6):N7 N k v=some (M1 k v):=by
 unfold N7 M1;rw[JL,Mp];simp only[Option.bind_some]
 by_cases h:I3 v=0
 ·rw[if_neg (J1 h),if_neg (show¬I3 v≠0 by simpa using h)]
  by_cases h2:v.Kind=0∨(k≠1∧k≠2∧k≠3)
  ·rw[if_neg (by rw[M6,decide_eq_true h2];decide),if_pos h2]
  rw[if_pos (by rw[M6,decide_eq_false h2];rfl),if_neg h2]
 rw[if_pos (J9 h),if_pos h]
theorem QE {k:Int}{v:A6}(h:M1 k v=0):I3 v=0∧(v.Kind=0∨(k≠1∧k≠2∧k≠3)):=by
 unfold M1 at h
 split at h
 ·rename_i h1;exact absurd h h1
 rename_i h1
 split at h
 ·rename_i h2;exact⟨by simpa using h1,h2⟩
 cases h
theorem Ie {v:A6}(h:I3 v=0)(hk:v.Kind=0):v.Text=⟨#[]⟩∧ -1099511627776≤v.Num∧v.Num≤1099511627776:=by
 unfold I3 at h
 rw[if_pos (.inl hk)]at h
 split at h
 ·cases h
 rename_i h1
 split at h
 ·cases h
 rename_i h2;refine⟨by simpa using h1,?_⟩
 simp only[hk,true_and]at h2
 omega
theorem US {n:Int}(h0: -1099511627776≤n)(h1:n≤1099511627776):I3 ⟨0,n,⟨#[]⟩⟩=0:=by
 unfold I3;simp only[true_or,if_true,ne_eq,not_true_eq_false,if_false];rw[if_neg (by simp;omega)]
structure Vy (k:Int) (n:Nat) (v:A6):Prop where
 c:k=0→v=X9
 s:k=1→v.Kind=0∧v.Text=⟨#[]⟩∧ -(1099511627776*(n:Int))≤v.Num∧v.Num≤1099511627776*(n:Int)
 m:k=2∨k=3→I3 v=0∧v.Kind=0
 f:k=4∨k=5→I3 v=0
theorem YV {k:Int}{v:A6}(h:M1 k v=0):Vy k 1 (BQ k v):=by
 obtain⟨h1,h2⟩:=QE h;unfold BQ
 by_cases k0:k=0
 ·rw[if_pos k0];exact⟨fun _=>rfl,by omega,by omega,by omega⟩
 rw[if_neg k0];refine⟨by omega,fun e=>?_,fun e=>⟨h1,by omega⟩,fun _=>h1⟩
 have hk:v.Kind=0:=by omega
 obtain⟨a,b,c⟩:=Ie h1 hk;exact⟨hk,a,by omega,by omega⟩
theorem WK {k:Int} {n:Nat} {a v:A6} (ha:Vy k n a) (hn:n≤4096) (h:M1 k v=0):Vy k (n+1) (IJ k a (BQ k v)):=by
 obtain⟨h1,h2⟩:=QE h;unfold IJ
 by_cases k1:k=1
 ·rw[if_pos k1]
  have hk:v.Kind=0:=by omega
  obtain⟨_,b,c⟩:=Ie h1 hk;obtain⟨_,_,d,e⟩:=ha.s k1;have e1:BQ k v=v:=if_neg (by omega);rw[e1];have e2:ar .add .i64 a.Num v.Num=a.Num+v.Num:=C5 (by omega) (by omega);rw[e2];exact⟨by omega,fun _=>⟨rfl,rfl,by simp only;omega,by simp only;omega⟩,by omega,by omega⟩
 rw[if_neg k1]
 by_cases k2:k=2
 ·rw[if_pos k2]
  have hk:v.Kind=0:=by omega
  obtain⟨_,b,c⟩:=Ie h1 hk;obtain⟨d,e⟩:=ha.m (.inl k2);obtain⟨_,d1,d2⟩:=Ie d e;have e1:BQ k v=v:=if_neg (by omega);rw[e1];refine⟨by omega,by omega,fun _=>⟨?_,rfl⟩,by omega⟩
  show I3 ⟨0,if v.Num<a.Num then v.Num else a.Num,⟨#[]⟩⟩=0
  split<;>exact US (by omega) (by omega)
 rw[if_neg k2]
 by_cases k3:k=3
 ·rw[if_pos k3]
  have hk:v.Kind=0:=by omega
  obtain⟨_,b,c⟩:=Ie h1 hk;obtain⟨d,e⟩:=ha.m (.inr k3);obtain⟨_,d1,d2⟩:=Ie d e;have e1:BQ k v=v:=if_neg (by omega);rw[e1];refine⟨by omega,by omega,fun _=>⟨?_,rfl⟩,by omega⟩
  show I3 ⟨0,if a.Num<v.Num then v.Num else a.Num,⟨#[]⟩⟩=0
  split<;>exact US (by omega) (by omega)
 rw[if_neg k3]
 by_cases k4:k=4
 ·rw[if_pos k4];exact⟨by omega,by omega,by omega,fun _=>ha.f (.inl k4)⟩
 rw[if_neg k4]
 by_cases k5:k=5
 ·rw[if_pos k5];have e1:BQ k v=v:=if_neg (by omega);rw[e1];exact⟨by omega,by omega,by omega,fun _=>h1⟩
 rw[if_neg k5];exact⟨fun _=>rfl,by omega,by omega,by omega⟩
theorem Ul {N:Nat}{k:Int}(h0:0≤k)(h5:k≤5)(a b:A6):Y7 N k a b=some (IJ k a b):=by
 have h:k=0∨k=1∨k=2∨k=3∨k=4∨k=5:=by omega
 rcases h with rfl|rfl|rfl|rfl|rfl|rfl<;>rfl
theorem VN (N:Nat)(k:Int)(v:A6):Ah N k v=some (BQ k v):=by
 unfold Ah BQ;rw[B9]
 by_cases h:k=0
 ·rw[if_pos (decide_eq_true h),if_pos h];rfl
 rw[if_neg (by simpa using h),if_neg h]
def O1 (k:Int)(l:List A6):C1:=⟨k,l.length,Af k l⟩
theorem Ju (k:Int)(l:List A6)(v:A6):Af k (l++[v])=if l=[]then BQ k v else IJ k (Af k l) (BQ k v):=by
 cases l with
 |nil=>rfl
 |cons a l=>simp[Af,List.foldl_append]
theorem ZQ {N:Nat} {k:Int} (h0:0≤k) (h5:k≤5) (l:List A6) (hl:l.length≤4096) (v:A6):N6 N (O1 k l) v k=some (O1 k (l++[v])):=by
 unfold N6;rw[VN];simp only[Option.bind_some];unfold BC;rw[B9,B9]
 have e:O1 k (l++[v])=⟨k,(l.length:Int)+1,if l=[]then BQ k v else IJ k (Af k l) (BQ k v)⟩:=by
  unfold O1;rw[Ju];simp
 rw[e]
 cases l with
 |nil=>rfl
 | cons a l=>
  have hc:¬(decide ((O1 k (a::l)).Count=0)=true):=by
   show¬decide (((a::l).length:Int)=0)=true
   simp only[List.length_cons,decide_eq_true_eq];omega
  rw[if_neg hc,if_neg (by simp)]
  show((Y7 N k (Af k (a::l)) (BQ k v)).bind _).bind _=_
  rw[Ul h0 h5];simp only[Option.bind_some,O1,reduceCtorEq,if_false];rw[C5 (by simp at hl ⊢;omega) (by simp at hl ⊢;omega)]
theorem Ke {k:Int}:∀(n:Nat) {l:List A6},l.length=n→l≠[]→l.length≤4096→(∀v∈l,M1 k v=0)→Vy k l.length (Af k l):=by
 intro n
 induction n with
 |zero=>intro l h0 h;exact absurd (List.eq_nil_of_length_eq_zero h0) h
 |succ n ih=>
  intro l h0 h hn hv
  rcases List.eq_nil_or_concat l with rfl|⟨q,v,rfl⟩
  ·exact absurd rfl h
  rw[List.concat_eq_append]at *
  rw[Ju,List.length_append];have hw:=hv v (by simp)
  simp only[List.length_append,List.length_cons,List.length_nil]at hn h0
  by_cases h:q=[]
  ·subst h;rw[if_pos rfl];exact YV hw
  rw[if_neg h];exact WK (ih (by omega) h (by omega) fun x hx=>hv x (by simp[hx])) (by omega) hw
theorem SH {N:Nat} {k:Int} (h0:0≤k) (h5:k≤5) {l:List A6} (hl:l.length≤4096) (hv:∀v∈l,M1 k v=0):AD N (O1 k l)=some 0:=by
 unfold AD X8;simp only[Option.bind_some]
 have e1:¬(nt (an (cmp .geq (O1 k l).Kind 0) (cmp .leq (O1 k l).Kind 5))=true):=by
  show¬((!(decide (0≤k)&&decide (k≤5)))=true)
  simp;omega
 have e2:¬(Ar.or (cmp .lss (O1 k l).Count 0) (cmp .gtr (O1 k l).Count 4096)=true):=by
  show¬((decide ((l.length:Int)<0)||decide (4096<(l.length:Int)))=true)
  simp;omega
 rw[if_neg e1,if_neg e2]
 by_cases hz:l=[]∨k=0
 ·have e3:Ar.or (cmp .eql (O1 k l).Count 0) (cmp .eql (O1 k l).Kind 0)=true:=by
   show(decide ((l.length:Int)=0)||decide (k=0))=true
   rcases hz with rfl|h
   ·rfl
   simp[h]
  have e4:(O1 k l).Value=X9:=by
   by_cases hn:l=[]
   ·subst hn;rfl
   exact(Ke _ rfl hn hl hv).c (hz.resolve_left hn)
  rw[if_pos e3,e4];exact if_neg (by simp[M6,M8,B9,Dr,X9])
 have hn:l≠[]:=fun h=>hz (.inl h);have hk:k≠0:=fun h=>hz (.inr h);have hlen:l.length≠0:=fun h=>hn (List.eq_nil_of_length_eq_zero h)
 have e3:¬(Ar.or (cmp .eql (O1 k l).Count 0) (cmp .eql (O1 k l).Kind 0)=true):=by
  show¬((decide ((l.length:Int)=0)||decide (k=0))=true)
  simp[hk,hn]
 rw[if_neg e3];have g:=Ke _ rfl hn hl hv
 by_cases k1:k=1
 ·rw[if_pos (show cmp .eql (O1 k l).Kind 1=true from decide_eq_true k1)];obtain⟨a,b,c,d⟩:=g.s k1;have ev:(O1 k l).Value=Af k l:=rfl;have ec:(O1 k l).Count=(l.length:Int):=rfl;have em:ar .mul .i64 (l.length:Int) 1099511627776=(l.length:Int)*1099511627776:=Bc (by omega) (by omega)
  have en:Ar.neg .i64 ((l.length:Int)*1099511627776)= - ((l.length:Int)*1099511627776):=by
   show IntKind.wrap .i64 (0 - (l.length:Int)*1099511627776)=_
   rw[Bc (by omega) (by omega)];omega
  rw[ev,ec,em,en];rw[if_neg];simp only[M6,M8,B9,K9,CJ,Dr];rw[decide_eq_true a,decide_eq_true b,decide_eq_true (show -((l.length:Int)*1099511627776)≤(Af k l).Num by omega),decide_eq_true (show(Af k l).Num≤(l.length:Int)*1099511627776 by omega)]
  decide
 rw[if_neg (show¬(cmp .eql (O1 k l).Kind 1=true)from(by show¬decide (k=1)=true;simpa using k1))]
 have hvb:I3 (Af k l)=0:=by
  by_cases h23:k=2∨k=3
  ·exact(g.m h23).1
  exact g.f (by omega)
 have hsu:(Af k l).Kind=0∨(k≠1∧k≠2∧k≠3):=by
  by_cases h23:k=2∨k=3
  ·exact .inl (g.m h23).2
  exact .inr (by omega)
 show((V0 N (Af k l)).bind _)=_
 rw[JL,hvb];simp only[Option.bind_some];rw[if_pos (show cmp .eql 0 0=true from rfl)]
 show((T6 N k (Af k l)).bind _)=_
 rw[Mp,decide_eq_true hsu];rfl
theorem An8 {N:Nat} (hN:40000000≤N) (k:Int) {l:List A6} (hl:l.length<1000000) (o:A6):CM N k l o=some (Zx k l o):=by
 unfold CM Zx X8;simp only[Option.bind_some]
 by_cases h0:k<0∨5<k
 ·rw[if_pos (by show(!(decide (0≤k)&&decide (k≤5)))=true;simp;omega),if_pos h0];rfl
 rw[if_neg (by show¬((!(decide (0≤k)&&decide (k≤5)))=true);simp;omega),if_neg h0]
 by_cases h1:4096<l.length
 ·rw[if_pos (Y4 (by rw[B1];omega)),if_pos h1];rfl
 rw[if_neg (U3 (by rw[B1];omega)),if_neg h1];rw[F6 l (by omega) (mk:=fun(_:Unit) i=>i) (body:=AP fun v=>N7 N k v) (fin:=fun _=>.inl ()) (s:=()) (by omega) ?_ ?_]
 ·rw [Y9 (f:=M1 k) fun v _=>QF N k v]
  by_cases h2:Q6 (M1 k) l=0
  ·rw [if_pos h2,if_neg (show¬Q6 (M1 k) l≠0 by simpa using h2)];have hv:=BB.1 h2;simp only[Option.bind_some]
   have hf:G5 N (⟨k,0,⟨0,0,⟨#[]⟩⟩⟩:C1) l (fun y1 y2=>N6 N y1 y2 k)=some (O1 k l):=by
    unfold G5;rw[F6 l (by omega) (mk:=fun(s:C1) i=>(i,s)) (body:=fun s v=>(N6 N s v k).bind fun r=>some (.inl r)) (fin:=fun s=>s) (s:=⟨k,0,⟨0,0,⟨#[]⟩⟩⟩) (by omega) ?_ ?_]
    ·obtain⟨s',k1,p,k2,k3⟩:=X6 (R:=C1) (step:=fun s v=>(N6 N s v k).bind fun r=>some (.inl r)) (fun r s=>∃p,p++r=l∧s=O1 k p) (fun v r s ⟨p,e1,e2⟩=>by
      subst e2
      refine⟨_,by rw[ZQ (by omega) (by omega) p (by have:=congrArg List.length e1;simp at this;omega)];rfl,p++[v],by simpa using e1,rfl⟩) (l:=l) (s:=⟨k,0,⟨0,0,⟨#[]⟩⟩⟩) ⟨[],rfl,rfl⟩
     simp only[k1,Option.bind_some]
     rw[List.append_nil]at k2
     rw[k3,k2]
    ·intro s i a ha hi;have e:ar .add .i64 (i:Int) 1=i+1:=C5 (by omega) (by omega);simp only[C2,B1,hi,decide_true,if_true,C6,ha,Option.bind_some,e];cases N6 N s a k<;>rfl
    intro s;simp[C2,B1]
   rw[hf];simp only[Option.bind_some];unfold BE;rw[SH (by omega) (by omega) (by omega) hv];simp only[Option.bind_some];rw[if_neg (show¬(cmp .neq 0 0=true) by decide)]
   show((N7 N k o).bind _).bind _=_
   rw[QF];simp only[Option.bind_some]
   by_cases h3:M1 k o=0
   ·rw[if_neg (J1 h3),if_neg (show¬M1 k o≠0 by simpa using h3)]
    by_cases h4:k=0
    ·rw[if_pos (show cmp .eql (O1 k l).Kind 0=true from decide_eq_true h4),if_pos h4];rfl
    rw[if_neg (show¬(cmp .eql (O1 k l).Kind 0=true)from(by show¬decide (k=0)=true;simpa using h4)),if_neg h4]
    by_cases h5:l=[]∧k≠1
    ·rw[if_pos (show an (cmp .eql (O1 k l).Count 0) (cmp .neq (O1 k l).Kind 1)=true by show(decide ((l.length:Int)=0)&& !decide (k=1))=true;simp[h5.1,h5.2]),if_pos h5];rfl
    rw[if_neg (show¬(an (cmp .eql (O1 k l).Count 0) (cmp .neq (O1 k l).Kind 1)=true) by show¬((decide ((l.length:Int)=0)&& !decide (k=1))=true);simpa using h5),if_neg h5];rfl
   rw[if_pos (J9 h3),if_pos h3];rfl
  rw[if_neg h2,if_pos h2];rfl
 ·intro s i a ha hi;have e:ar .add .i64 (i:Int) 1=i+1:=C5 (by omega) (by omega);simp only[C2,B1,hi,decide_true,if_true,C6,ha,Option.bind_some,e,AP,E5]
  cases N7 N k a with
  |none=>rfl
  |some r=>by_cases h:r=0<;>simp[h]
 intro s;simp[C2,B1]
end
end Go.Ab
namespace Go.Ab
noncomputable section
def FD (env:AE)(v:Int):List A4:=if v<0∨(env.cZ.length:Int)≤v then[]else env.cZ.getD v.toNat []
def EJ (e:A4)(k:Int):A6×Int:=if(e.Values.length:Int)≤k then(X9,6)else(e.Values.getD k.toNat X9,0)
def Pf (rows:List A4)(x:B0):A6×Int:=
 if(rows.all fun e=>decide (x.Field<(e.Values.length:Int)))=true then Zx x.Kind (rows.map fun e=>e.Values.getD x.Field.toNat X9) x.Value else(X9,6)
def Jo (rows:List A4)(own:Int)(ev:A4)(v:Int):Option A4:=if v≠own then rows.getLast? else some ev
def Ye (y:A4)(x:B0):A6×Int:=
 if x.Op=2 then(⟨0,y.Time,⟨#[]⟩⟩,0)else if(EJ y x.Field).2≠0 then(X9,(EJ y x.Field).2)else if I3 (EJ y x.Field).1≠0 then(X9,I3 (EJ y x.Field).1)else((EJ y x.Field).1,0)
def FV (env:AE)(own:Int)(ev:A4)(x:B0):A6×Int:=
 if x.Op=0 then(x.Value,0)else if x.Op=3 then(⟨0,(FD env x.Var).length,⟨#[]⟩⟩,0)else if x.Op=4 then Pf (FD env x.Var) x
 else match Jo (FD env x.Var) own ev x.Var with|none=>(X9,10)|some y=>Ye y x
theorem Iw {x:B0}(hx:Z6 x=0):0≤x.Op∧x.Op≤12∧(x.cR.length:Int)=(if x.Op<5 then 0 else if x.Op=12 then 1 else 2):=by
 unfold Z6 at hx
 by_cases h1:x.Op<0∨12<x.Op
 ·rw[if_pos h1]at hx;cases hx
 rw[if_neg h1]at hx
 by_cases h2:(x.cR.length:Int)≠(if x.Op<5 then 0 else if x.Op=12 then 1 else 2)
 ·rw[if_pos h2]at hx;cases hx
 exact⟨by omega,by omega,by simpa using h2⟩
def GR (e:AE):Prop:=e.cZ.length<1000000∧∀l∈e.cZ,l.length<1000000
theorem Me {env:AE}(h:GR env)(v:Int):(FD env v).length<1000000:=by
 unfold FD
 split
 ·simp
 rename_i hv
 have hi:v.toNat<env.cZ.length:=by omega
 rw[List.getD_eq_getElem?_getD,List.getElem?_eq_getElem hi];exact h.2 _ (List.getElem_mem hi)
theorem Ls (N:Nat)(env:AE)(own:Int)(ev:A4)(u:Unit)(v:Int):N5 N ⟨env,own,ev,u⟩ v=some (FD env v):=by
 unfold N5 FD
 by_cases h:v<0∨(env.cZ.length:Int)≤v
 ·rw[if_pos (by simp only[G7,C2,K9,B1];simpa using h),if_pos h]
 rw[if_neg (by simp only[G7,C2,K9,B1];simpa using h),if_neg h]
 have hi:v.toNat<env.cZ.length:=by omega
 have hv:v=(v.toNat:Int):=by omega
 rw[hv,C6];simp only[List.getD_eq_getElem?_getD,Int.toNat_natCast,List.getElem?_eq_getElem hi,Option.bind_some,Option.getD_some]
theorem Nr (N:Nat)(e:A4){k:Int}(hk:0≤k):Av N e k=some (EJ e k):=by
 unfold Av EJ
 by_cases h:(e.Values.length:Int)≤k
 ·rw[if_pos (by rw[K9,B1];exact decide_eq_true h),if_pos h];rfl
 rw[if_neg (by rw[K9,B1];simpa using h),if_neg h]
 have hi:k.toNat<e.Values.length:=by omega
 have hv:k=(k.toNat:Int):=by omega
 rw[hv,C6];simp only[List.getD_eq_getElem?_getD,Int.toNat_natCast,List.getElem?_eq_getElem hi,Option.bind_some,Option.getD_some]
theorem Jc {α β R:Type} {body:List β→α→Option (List β ⊕ R)} {p:α→Bool} {g:α→β} {r:R}:∀{l:List α} {s:List β},s.length+l.length≤1000000→(∀(s:List β) x,x∈l→s.length≤1000000→body s x=some (if p x=true then .inl (s++[g x])else .inr r))→
 H7 body l s=some (if l.all p=true then .inl (s++l.map g)else .inr r)
 |[],s,_,_=>by simp[H7]
 |x::l,s,hl,h=>by
  simp only[H7,h s x (by simp) (by simp at hl;omega)]
  by_cases hp:p x=true
  ·simp only[hp,if_true];rw[Jc (by simp at hl ⊢;omega) fun s y hy=>h s y (by simp[hy])];simp[hp]
  simp[hp]
theorem Uc {N:Nat} (hN:40000000≤N) {env:AE} (he:GR env) (own:Int) (ev:A4) (u:Unit) {x:B0} (hf:0≤x.Field):S3 N ⟨env,own,ev,u⟩ x=some (Pf (FD env x.Var) x):=by
 have hl:=Me he x.Var;unfold S3 Pf;rw[Ls];simp only[Option.bind_some]
 generalize FD env x.Var=rows at hl
 rw[F6 rows (by omega) (mk:=fun(s:List A6) i=>(s,i)) (body:=fun s e=>(Av N e x.Field).bind fun r=>if cmp .neq r.2 0=true then some (.inr (.inr r.2))else(H9 s [r.1]).bind fun l=>some (.inl l)) (fin:=fun s=>.inl s) (s:=[]) (by omega) ?_ ?_]
 ·rw[Jc (p:=fun e=>decide (x.Field<(e.Values.length:Int))) (g:=fun e=>e.Values.getD x.Field.toNat X9) (r:=.inr 6) (by simp;omega) (fun s e _ hs=>by
   rw[Nr N e hf];unfold EJ
   by_cases h:(e.Values.length:Int)≤x.Field
   ·rw[if_pos h,if_neg (by simpa using h)];rfl
   rw[if_neg h,if_pos (by simpa using h)];simp only[Option.bind_some]
   rw[if_neg (by decide),M2 (by simp;omega)];rfl)]
  by_cases h:(rows.all fun e=>decide (x.Field<(e.Values.length:Int)))=true
  ·rw[if_pos h,if_pos h];simp only[Option.bind_some,List.nil_append];rw[An8 hN _ (by simpa using hl)];rfl
  rw[if_neg h,if_neg h];rfl
 ·intro s i a ha hi;have e:ar .add .i64 (i:Int) 1=i+1:=C5 (by omega) (by omega);simp only[C2,B1,hi,decide_true,if_true,C6,ha,Option.bind_some,e]
  cases Av N a x.Field with
  |none=>rfl
  |some r=>
   simp only[Option.bind_some]
   split
   ·rfl
   cases H9 s [r.1]<;>rfl
 intro s;simp[C2,B1]
theorem WS {N:Nat} (hN:40000000≤N) {env:AE} (he:GR env) (own:Int) (ev:A4) (u:Unit) {x:B0} (hx:Z6 x=0) (ha:x.cR=[]):U4 N ⟨env,own,ev,u⟩ x=some (FV env own ev x):=by
 have hok:=Ai6 hx
 have hop:0≤x.Op∧x.Op<5:=by
  have:=Iw hx
  rw[ha]at this
  simp only[List.length_nil]at this
  obtain⟨h1,h2,h3⟩:=this
  by_cases h5:x.Op<5
  ·exact⟨h1,h5⟩
  rw[if_neg h5]at h3
  split at h3<;>omega
 have hl:=Me he x.Var;unfold U4 FV;rw[Ls];simp only[Option.bind_some]
 by_cases h0:x.Op=0
 ·rw[if_pos (by rw[B9];exact decide_eq_true h0),if_pos h0]
 rw[if_neg (by rw[B9];simpa using h0),if_neg h0]
 by_cases h3:x.Op=3
 ·rw[if_pos (by rw[B9];exact decide_eq_true h3),if_pos h3];rfl
 rw[if_neg (by rw[B9];simpa using h3),if_neg h3]
 by_cases h4:x.Op=4
 ·rw[if_pos (by rw[B9];exact decide_eq_true h4),if_pos h4,Uc hN he own ev u (hok.1 (.inr h4)).1];rfl
 rw[if_neg (by rw[B9];simpa using h4),if_neg h4]
 have key:((if cmp .neq x.Var own=true then if cmp .eql (Ar.len (FD env x.Var)) 0=true then some (.inr ())else(B6 (FD env x.Var) (ar .sub .i64 (Ar.len (FD env x.Var)) 1)).bind fun x6=>some (.inl x6)else some (.inl ev)):Option (A4 ⊕ Unit))=some (match Jo (FD env x.Var) own ev x.Var with|some y=>.inl y|none=>.inr ()):=by
  unfold Jo
  by_cases hv:x.Var=own
  ·rw[if_neg (J1 hv),if_neg (by simpa using hv)]
  rw[if_pos (J9 hv),if_pos hv]
  generalize FD env x.Var=rows at hl
  rcases List.eq_nil_or_concat rows with rfl|⟨q,y,rfl⟩
  ·rfl
  rw[List.concat_eq_append]at *
  have e1:ar .sub .i64 (Ar.len (q++[y])) 1=(q.length:Int):=by
   have:ar .sub .i64 (Ar.len (q++[y])) 1=Ar.len (q++[y]) - 1:=Bc (by rw[B1];omega) (by rw[B1];omega);rw[this,B1];simp
  rw[if_neg (by rw[B9,B1];simp;omega),e1,C6];simp
 have key2:=congrArg (fun o=>o.bind fun s5=>match s5 with
  | .inl y7=>
   if cmp .eql x.Op 2=true then
    some ((⟨0,y7.Time,⟨#[]⟩⟩:A6),(0:Int))
   else
    (Av N y7 x.Field).bind fun r8=>
    ((
     if cmp .eql r8.2 0=true then
      (V0 N r8.1).bind fun r10=>
      some r10
     else
      some r8.2
    ):Option (Int)).bind fun s9=>
    if cmp .neq s9 0=true then
     some ((⟨0,0,⟨#[]⟩⟩:A6),s9)
    else
     some (r8.1,0)
  | .inr y11=>
   some ((⟨0,0,⟨#[]⟩⟩:A6),10)) key
 refine key2.trans ?_
 cases hy:Jo (FD env x.Var) own ev x.Var with
 |none=>rfl
 | some y=>
  simp only[Option.bind_some];unfold Ye
  by_cases h2:x.Op=2
  ·rw[if_pos (by rw[B9];exact decide_eq_true h2),if_pos h2]
  rw[if_neg (by rw[B9];simpa using h2),if_neg h2]
  have h1:x.Op=1:=by omega
  rw[Nr N y (hok.1 (.inl h1)).1];simp only[Option.bind_some]
  by_cases hb:(EJ y x.Field).2=0
  ·rw[if_pos (by rw[B9];exact decide_eq_true hb),JL,if_neg (by simpa using hb)];simp only[Option.bind_some]
   by_cases hc:I3 (EJ y x.Field).1=0
   ·rw[if_neg (J1 hc),if_neg (by simpa using hc)]
   rw[if_pos (J9 hc),if_pos hc];rfl
  rw[if_neg (by rw[B9];simpa using hb),if_pos hb];simp only[Option.bind_some];rw[if_pos (J9 hb)];rfl
end
end Go.Ab
namespace Go.Ab
noncomputable section
def IG (b:Bool):A6:=if b=true then⟨1,1,⟨#[]⟩⟩else⟨1,0,⟨#[]⟩⟩
def GB (op:Int)(kinds:List Int)(k:Int):Bool:=
 if op=5∨op=6∨op=7∨op=8 then decide (k=0)else if op=10∨op=11∨op=12 then decide (k=1)else if op=9 then decide (k=kinds.getD 0 0)else true
def GS (op:Int)(kinds:List Int):Int:=if kinds.all (GB op kinds)=true then 0 else 9
instance (x y:A6):Decidable (x=y):=by
 obtain⟨a,b,c⟩:=x;obtain⟨d,e,f⟩:=y;exact decidable_of_iff (a=d∧b=e∧c=f) (by simp)
def Ql (op:Int)(l:List A6):A6:=
 let a:=l.getD 0 X9
 let b:=l.getD (l.length - 1) X9
 if op=9 then IG (decide (a=l.getD 1 X9))else if op=5 then⟨0,ar .add .i64 a.Num b.Num,⟨#[]⟩⟩else if op=6 then⟨0,ar .sub .i64 a.Num b.Num,⟨#[]⟩⟩
 else if op=7 then IG (decide (a.Num<b.Num))else if op=8 then IG (decide (a.Num≤b.Num))else if op=10 then IG (decide (a.Num=1)&&decide (b.Num=1))else if op=11 then IG (decide (a.Num=1)||decide (b.Num=1))else IG (!decide (a.Num=1))
mutual
def Fj (R:B0→A6×Int):B0→A6×Int
 |⟨op,args,var,field,kind,val⟩=>
  if args.length=0 then R ⟨op,args,var,field,kind,val⟩else
  match Dd R args with
  | .inr f=>(X9,f)
  | .inl l=>if GS op (l.map (·.Kind))≠0 then(X9,GS op (l.map (·.Kind)))else(Ql op l,0)
def Dd (R:B0→A6×Int):List B0→List A6 ⊕ Int
 |[]=>.inl []
 |a::r=>if(Fj R a).2≠0 then .inr (Fj R a).2 else match Dd R r with| .inr f=>.inr f| .inl l=>.inl ((Fj R a).1::l)
end
theorem So (R:B0→A6×Int)(x:B0):Fj R x=if x.cR.length=0 then R x else
 match Dd R x.cR with
 | .inr f=>(X9,f)
 | .inl l=>if GS x.Op (l.map (·.Kind))≠0 then(X9,GS x.Op (l.map (·.Kind)))else(Ql x.Op l,0):=by cases x;simp only[Fj]
theorem Jw {R:B0→A6×Int}:∀{l:List B0} {r:List A6},Dd R l= .inl r→r.length=l.length
 |[],r,h=>by simp only[Dd,Sum.inl.injEq]at h;subst h;rfl
 |a::l,r,h=>by
  simp only[Dd]at h
  split at h
  ·cases h
  cases hr:Dd R l with
  |inr f=>rw[hr]at h;cases h
  |inl q=>rw[hr]at h;simp only[Sum.inl.injEq]at h;subst h;simp[Jw hr]
theorem Qa (N:Nat)(b:Bool):Ag N b=some (IG b):=by
 unfold Ag Gl IG;cases b<;>rfl
theorem Qd {N:Nat} (hN:40000000≤N) (op:Int) {kinds:List Int} (hl:kinds.length<1000000):BV N op kinds=some (GS op kinds):=by
 unfold BV GS;rw[F6 kinds (by omega) (mk:=fun(_:Unit) i=>i) (body:=fun _ k=>some (if GB op kinds k=true then .inl ()else .inr (.inr ()))) (fin:=fun _=>.inl ()) (s:=()) (by omega) ?_ ?_]
 ·rw[Jd (p:=GB op kinds) (r:=.inr ()) fun x _=>rfl]
  by_cases h:kinds.all (GB op kinds)=true
  ·rw[if_pos h,if_pos h];rfl
  rw[if_neg h,if_neg h];rfl
 ·intro s i k hk hi;have e:ar .add .i64 (i:Int) 1=i+1:=C5 (by omega) (by omega)
  have h0:B6 kinds 0=some (kinds.getD 0 0):=by
   have:B6 kinds 0=kinds[0]? :=C6 (i:=0);rw[this,List.getD_eq_getElem?_getD,List.getElem?_eq_getElem (by omega)];rfl
  simp only[C2,B1,hi,decide_true,if_true,C6,hk,Option.bind_some,e,B9,h0,M6];unfold GB
  by_cases a5:op=5
  ·subst a5;by_cases hz:k=0<;>simp[hz]
  by_cases a6:op=6
  ·subst a6;by_cases hz:k=0<;>simp[hz]
  by_cases a7:op=7
  ·subst a7;by_cases hz:k=0<;>simp[hz]
  by_cases a8:op=8
  ·subst a8;by_cases hz:k=0<;>simp[hz]
  by_cases a10:op=10
  ·subst a10;by_cases hz:k=1<;>simp[hz]
  by_cases a11:op=11
  ·subst a11;by_cases hz:k=1<;>simp[hz]
  by_cases a12:op=12
  ·subst a12;by_cases hz:k=1<;>simp[hz]
  by_cases a9:op=9
  ·subst a9;generalize kinds.getD 0 0=z
   by_cases hz:k=z<;>simp[hz]
  simp[a5,a6,a7,a8,a9,a10,a11,a12]
 intro s;simp[C2,B1]
theorem Hx {α:Type} {F:B0→Option (A6×Int)} {R:B0→A6×Int}:∀{l:List B0} {s:List A6×List Int},s.2=s.1.map (·.Kind)→s.1.length+l.length≤1000000→(∀a∈l,F a=some (Fj R a))→
 H7 (fun(s:List A6×List Int) a=>(F a).bind fun r8=>if cmp .neq r8.2 0=true then some (Sum.inr (Sum.inr (α:=α) r8.2))else(H9 s.1 [r8.1]).bind fun l9=>(H9 s.2 [r8.1.Kind]).bind fun l12=>some (.inl (l9,l12))) l s=
  some (match Dd R l with| .inr f=>.inr (.inr f)| .inl q=>.inl (s.1++q,(s.1++q).map (·.Kind)))
 |[],s,h,_,_=>by obtain⟨a,b⟩:=s;dsimp only at h;subst h;simp[H7,Dd]
 | a::l,s,h,hl,hF=>by
  obtain⟨s1,s2⟩:=s
  dsimp only at h;subst h
  simp only[List.length_cons]at hl
  simp only[H7,Dd,hF a (by simp),Option.bind_some,E5]
  by_cases hz:(Fj R a).2=0
  ·simp only[hz,decide_true,Bool.not_true,Bool.false_eq_true,if_false,ne_eq,not_true_eq_false];rw[M2 (by simp;omega),M2 (by simp;omega)];simp only[Option.bind_some];have ih:=Hx (α:=α) (F:=F) (R:=R) (l:=l) (s:=(s1++[(Fj R a).1],s1.map (·.Kind)++[(Fj R a).1.Kind])) (by simp) (by simp;omega) fun b hb=>hF b (by simp[hb])
   simp only[E5]at ih
   rw[ih]
   cases Dd R l with
   |inr f=>rfl
   |inl q=>simp
  simp[hz]
theorem HR {l:List A6}{i:Nat}(h:i<l.length):l[i]? =some (l.getD i X9):=by
 rw[List.getD_eq_getElem?_getD,List.getElem?_eq_getElem h];rfl
theorem WU {N:Nat} (hN:40000000≤N) {env:AE} (he:GR env) (own:Int) (ev:A4) (u:Unit):∀(n:Nat) (x:B0),x.dep≤n→x.bulk≤16777216→(∀y∈x.pre,Z6 y=0)→I8 N n ⟨env,own,ev,u⟩ x=some (Fj (FV env own ev) x):=by
 intro n
 induction n with
 |zero=>intro x h;rw[B0.dep_eq]at h;omega
 | succ n ih=>
  intro x hd hb hbad;have hx:=hbad x (by rw[B0.pre_eq];simp);have hd':=B0.dep_eq x;unfold I8;rw[So]
  by_cases h0:x.cR.length=0
  ·rw[if_pos (by rw[B9,B1];exact decide_eq_true (by omega)),if_pos h0,WS hN he own ev u hx (List.eq_nil_of_length_eq_zero h0)];rfl
  rw[if_neg (by rw[B9,B1];simpa using(show¬(x.cR.length:Int)=0 by omega)),if_neg h0];obtain⟨a1,a2,a3⟩:=Iw hx
  have hlen:x.cR.length≤2:=by
   split at a3
   ·omega
   split at a3<;>omega
  have hop5:5≤x.Op:=by
   by_cases h5:x.Op<5
   ·rw[if_pos h5]at a3;omega
   omega
  have hF:∀a∈x.cR,I8 N n ⟨env,own,ev,u⟩ a=some (Fj (FV env own ev) a):=fun a ha=>ih a (by have:=Ns ha;omega) (by have:=Z0 ha;omega) fun y hy=>hbad y (by rw[B0.pre_eq];exact List.mem_cons_of_mem _ (KX ha hy));rw[F6 x.cR (by omega) (mk:=fun(s:List A6×List Int) i=>(s.1,s.2,i)) (body:=fun(s:List A6×List Int) a=>(I8 N n ⟨env,own,ev,u⟩ a).bind fun r8=>if cmp .neq r8.2 0=true then some (.inr (.inr r8.2))else(H9 s.1 [r8.1]).bind fun l9=>(H9 s.2 [r8.1.Kind]).bind fun l12=>some (.inl (l9,l12))) (fin:=fun s=>.inl s) (s:=([],[])) (by omega) ?_ ?_]
  ·rw [Hx (R:=FV env own ev) rfl (by simp;omega) hF]
   cases hq:Dd (FV env own ev) x.cR with
   |inr f=>rfl
   | inl q=>
    simp only[Option.bind_some,List.nil_append];have hql:=Jw hq;rw[Qd hN _ (by simp;omega)];simp only[Option.bind_some]
    by_cases hz:GS x.Op (q.map (·.Kind))=0
    ·rw[if_neg (J1 hz),if_neg (show¬GS x.Op (q.map (·.Kind))≠0 by simpa using hz)]
     have hi0:B6 q 0=some (q.getD 0 X9):=by
      have:B6 q 0=q[0]? :=C6 (i:=0);rw[this,HR (by omega)]
     have hiL:B6 q (ar .sub .i64 (Ar.len q) 1)=some (q.getD (q.length - 1) X9):=by
      have e:ar .sub .i64 (Ar.len q) 1=((q.length - 1:Nat):Int):=by
       have:ar .sub .i64 (Ar.len q) 1=Ar.len q - 1:=Bc (by rw[B1];omega) (by rw[B1];omega);rw[this,B1];omega
      rw[e,C6,HR (by omega)]
     unfold Ql
     by_cases h9:x.Op=9
     ·rw[if_pos (by rw[B9];exact decide_eq_true h9)]
      have h2:x.cR.length=2:=by rw[if_neg (by omega),if_neg (by omega)]at a3;omega
      have hi1:B6 q 1=some (q.getD 1 X9):=by
       have:B6 q 1=q[1]? :=C6 (i:=1);rw[this,HR (by omega)]
      rw[hi0,hi1];simp only[Option.bind_some];rw[Qa];simp only[Option.bind_some,h9,if_true,Option.some.injEq,Prod.mk.injEq,and_true]
      congr 1
      generalize q.getD 0 X9=v;generalize q.getD 1 X9=w;obtain⟨v1,v2,v3⟩:=v;obtain⟨w1,w2,w3⟩:=w;simp only[M8,B9,Dr,A6.mk.injEq,Bool.and_true,Bool.decide_and]
     rw[if_neg (by rw[B9];simpa using h9)];rw[hi0,hiL];simp only[Option.bind_some,P5,AZ,AY,AX,AW,AV,AU,AT,Qa,B9,C2,CJ,M8,G7,E5,if_neg h9]
     have hop:x.Op=5∨x.Op=6∨x.Op=7∨x.Op=8∨x.Op=10∨x.Op=11∨x.Op=12:=by omega
     rcases hop with h|h|h|h|h|h|h<;>simp[h]
    rw[if_pos (J9 hz),if_pos hz];rfl
  ·intro s i a ha hi;have e:ar .add .i64 (i:Int) 1=i+1:=C5 (by omega) (by omega);simp only[C2,B1,hi,decide_true,if_true,C6,ha,Option.bind_some,e]
   cases I8 N n ⟨env,own,ev,u⟩ a with
   |none=>rfl
   | some r=>
    simp only[Option.bind_some]
    split
    ·rfl
    cases H9 s.1 [r.1]with
    |none=>rfl
    |some l=>
     simp only[Option.bind_some];cases H9 s.2 [r.1.Kind]<;>rfl
  intro s;simp[C2,B1]
def Lt (env:AE)(own:Int)(ev:A4)(x:B0):A6×Int:=if K8 x=0 then Fj (FV env own ev) x else(X9,K8 x)
theorem IH {x:B0}(h:K8 x=0):∀y∈x.pre,Z6 y=0:=by
 unfold K8 at h
 split at h
 ·omega
 split at h
 ·omega
 exact BB.1 h
theorem Ae4 {N:Nat}(hN:40000000≤N){env:AE}(he:GR env)(own:Int)(ev:A4){x:B0}(hb:x.bulk≤16777216):Gb N x env own ev=some (Lt env own ev x):=by
 unfold Gb Lt;rw[OT hN hb];simp only[Option.bind_some]
 by_cases h:K8 x=0
 ·rw[if_neg (J1 h),if_pos h];have hd:=JA x;rw[WU hN he own ev () N x (by omega) hb (IH h)];rfl
 rw[if_pos (J9 h),if_neg h];rfl
end
end Go.Ab
namespace Go.Ab
noncomputable section
open Classical
theorem Tc (x y:A6):an (cmp .eql x.Kind y.Kind) (an (cmp .eql x.Num y.Num) (an (Ar.scmp .eql x.Text y.Text) true))=decide (x=y):=by
 rw[Dr];simp only[M8,B9,Bool.and_true];cases x;cases y;simp only[A6.mk.injEq];rw[Bool.eq_iff_iff];simp
def Z7 (env:AE)(own:Int)(ev:A4)(x:B0):Bool:=decide ((Lt env own ev x).2=0)&&decide ((Lt env own ev x).1=⟨1,1,⟨#[]⟩⟩)
theorem QJ {N:Nat}(hN:40000000≤N){env:AE}(he:GR env)(own:Int)(ev:A4){x:B0}(hb:x.bulk≤16777216):Db N x env own ev=some (Z7 env own ev x):=by
 unfold Db Z7;rw[Ae4 hN he own ev hb];simp only[Option.bind_some];rw[B9]
 by_cases h:(Lt env own ev x).2=0
 ·rw[if_pos (decide_eq_true h),Qa];simp only[Option.bind_some,decide_eq_true h,Bool.true_and];rw[Tc];exact congrArg some (decide_eq_decide.2 Iff.rfl)
 rw[if_neg (by simpa using h),decide_eq_false h];rfl
end
end Go.Ab
