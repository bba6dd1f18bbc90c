/- GVW6 GVW7 GVW8 GVW9 GVX0 GVA1 GVX1 GVX2 -/
import Derived.Test.YtjhobbohibnioaaGreatDoorE18
set_option linter.all false
open Go.Ab.Ar (ar cmp mx)
namespace Go.Ab
open Classical
noncomputable section
end
end Go.Ab
namespace Go.Ab
open Classical
noncomputable section
section
variable {N:Nat}(hN:40000000≤N){l:List B8}(hl:l.length≤10)
include hN hl
def mu (l:List B8)(p:A0)(f:Nat):Nat:=p.pre.length*(l.length+2)+(l.length - f)
end
end
end Go.Ab
namespace Go.Ab
open Classical
noncomputable section
section
variable {N:Nat}(hN:40000000≤N){l:List B8}(hl:l.length≤10)
include hN hl
end
end
end Go.Ab
namespace Go.Ab
open Classical
noncomputable section
def add1 (out:List (List PR))(s:List PR):List (List PR):=if s∈out then out else out++[s]
def Nd (P:List PR→Prop)(out:List (List PR)):Prop:=out.Nodup∧∀s∈out,P s
theorem Nd.nil (P:List PR→Prop):Nd P []:=⟨List.nodup_nil,fun _ h=>absurd h List.not_mem_nil⟩
theorem Nd.add {P:List PR→Prop}{out:List (List PR)}{s:List PR}(h:Nd P out)(hs:P s):Nd P (add1 out s):=by
 unfold add1
 split
 ·exact h
 rename_i hin;refine⟨List.nodup_append.2 ⟨h.1,by simp,fun a ha b hb e=>hin (by rw[←List.mem_singleton.1 hb,←e];exact ha)⟩,fun x hx=>?_⟩
 rcases List.mem_append.1 hx with hx|hx
 ·exact h.2 x hx
 rw[List.mem_singleton.1 hx];exact hs
def ZG (r:Option (List (List PR)))(l:List B8)(p:A0)(b:List PR)(f:Int):Prop:=∃L,r=some L∧L.Nodup∧∀s,s∈L↔Sm l p b f s
theorem ZG.mk {x:Option (List (List PR))}{l:List B8}{p:A0}{b:List PR}{f:Int}(h:∃L,x=some L∧L.Nodup∧∀s,s∈L↔Sm l p b f s):ZG (x.bind fun s=>some s) l p b f:=by
 obtain⟨L,rfl,h⟩:=h;exact⟨L,rfl,h⟩
section
variable {N:Nat}(hN:40000000≤N){l:List B8}(hl:l.length≤10)
include hN hl
end
end
end Go.Ab
namespace Go.Ab
open Classical
noncomputable section
def N0 :List Int→List Int→Int
 |[],[]=>0
 |[],_::_=> -1
 |_::_,[]=>1
 |x::a,y::b=>if x<y then -1 else if y<x then 1 else N0 a b
theorem Fg :∀a:List Int,N0 a a=0
 |[]=>rfl
 |x::a=>by simp[N0,Fg a]
theorem KQ :∀{a b:List Int},N0 a b=0→a=b
 |[],[],_=>rfl
 |[],_::_,h=>by simp[N0]at h
 |_::_,[],h=>by simp[N0]at h
 |x::a,y::b,h=>by
  unfold N0 at h
  split at h
  ·cases h
  split at h
  ·cases h
  rw[KQ h];congr 1;omega
theorem Qm :∀a b:List Int,N0 b a= - N0 a b
 |[],[]=>rfl
 |[],_::_=>rfl
 |_::_,[]=>rfl
 |x::a,y::b=>by
  unfold N0;rw[Qm a b]
  split<;>split<;>first|omega|rfl
theorem Ip :∀{a b c:List Int},N0 a b<0→N0 b c<0→N0 a c<0
 |[],[],_,h,_=>by simp[N0]at h
 |_::_,[],_,h,_=>by simp[N0]at h
 |_,_::_,[],_,h=>by simp[N0]at h
 |[],_::_,_::_,_,_=>by simp[N0]
 | x::a,y::b,z::c,h1,h2=>by
  unfold N0 at h1 h2 ⊢
  by_cases h3:x<z
  ·rw[if_pos h3];decide
  rw[if_neg h3]
  by_cases h4:x<y
  ·by_cases h5:y<z
   ·omega
   rw[if_neg h5]at h2
   have:z<y:=by omega
   rw[if_pos this]at h2;cases h2
  rw[if_neg h4]at h1
  by_cases h5:y<x
  ·rw[if_pos h5]at h1;cases h1
  rw[if_neg h5]at h1
  by_cases h6:y<z
  ·omega
  rw[if_neg h6]at h2
  by_cases h7:z<y
  ·rw[if_pos h7]at h2;cases h2
  rw[if_neg h7]at h2
  rw[if_neg (by omega)];exact Ip h1 h2
def XC (a b:Int):Int:=if a<b then -1 else if b<a then 1 else 0
theorem CG (N:Nat)(a b:Int):H9 N a b=some (XC a b):=by
 unfold H9 Bh XC;simp only[Option.bind_some,K2,C8,X9,decide_true,Bool.not_true,Bool.false_eq_true,if_false,decide_eq_true_eq]
 split
 ·rfl
 split<;>rfl
theorem or_eq {N:Nat} (hN:40000000≤N) {l:List Int} (hl:l.length≤1000):Bu N l=some (W8 id l):=by
 unfold Bu;rw[N5 l (by omega) (mk:=fun(_:Unit) i=>i) (body:=Bj fun x=>some x) (fin:=fun _=>.inl ()) (s:=()) (by omega) ?_ ?_]
 ·rw[Ag (F:=fun x=>some x) (f:=id) fun x _=>rfl]
  by_cases h:W8 id l=0
  ·rw[if_pos h,h];rfl
  rw[if_neg h];rfl
 ·intro s i x hx hi;have e:ar .add .i64 (i:Int) 1=i+1:=D4 (by omega) (by omega);simp only[C8,C0,hi,decide_true,if_true,F2,hx,Option.bind_some,e,Bj]
  split<;>rfl
 intro s;simp[C8,C0]
def K6 (r:R0):List Int:=[r.Time,r.Source,r.Seq]
def El (x:A4):List Int:=[x.Ref.Time,x.Ref.Source,x.Ref.Seq,x.Var]
theorem Aa2 (a1 a2 a3 b1 b2 b3:Int):N0 [a1,a2,a3] [b1,b2,b3]=W8 id [XC a1 b1,XC a2 b2,XC a3 b3]:=by
 simp only[N0,W8,XC,id]
 repeat' split
 all_goals first|rfl|omega
theorem lex4 (a1 a2 a3 a4 b1 b2 b3 b4:Int):N0 [a1,a2,a3,a4] [b1,b2,b3,b4]=W8 id [N0 [a1,a2,a3] [b1,b2,b3],XC a4 b4]:=by
 simp only[N0,W8,XC,id]
 repeat' split
 all_goals first|rfl|omega
theorem XP {N:Nat}(hN:40000000≤N)(a b:R0):CA N a b=some (N0 (K6 a) (K6 b)):=by
 unfold CA;rw[CG,CG,CG];simp only[Option.bind_some];rw[or_eq hN (by simp),K6,K6,Aa2];rfl
theorem PU (N:Nat)(a b:R0):As N a b=some (N0 (K6 a) (K6 b)):=by
 unfold As K6;simp only[K2,C8,X9,N0,decide_eq_true_eq,Bool.not_eq_true',decide_eq_false_iff_not]
 repeat' split
 all_goals first|rfl|omega
theorem WP {N:Nat}(hN:40000000≤N)(a b:B8):X5 N a b=some (N0 [a.Time,a.Source,a.Seq] [b.Time,b.Source,b.Seq]):=by
 unfold X5 AO;simp only[Option.bind_some,CG];rw[or_eq hN (by simp),←Aa2];simp only[K0,G5,Bool.and_true,Bool.and_eq_true,decide_eq_true_eq,Option.bind_some]
 by_cases h:a.Time=b.Time∧a.Source=b.Source∧a.Seq=b.Seq
 ·rw[if_pos h,h.1,h.2.1,h.2.2,Fg]
 rw[if_neg h]
theorem Uh (N:Nat) (a b:A4):CZ N a b=some (N0 (El a) (El b)):=by
 unfold CZ;rw[PU,El,El,lex4];simp only[Option.bind_some,W8,id,K6,K2,C8,X9,XC]
 by_cases h:N0 [a.Ref.Time,a.Ref.Source,a.Ref.Seq] [b.Ref.Time,b.Ref.Source,b.Ref.Seq]=0
 ·simp only[h,decide_true,Bool.not_true,Bool.false_eq_true,if_false,if_true,decide_eq_true_eq]
  repeat' split
  all_goals first|rfl|omega
 simp[h]
def mO :List A4→List A4→Int
 |[],[]=>0
 |[],_::_=> -1
 |_::_,[]=>1
 |x::a,y::b=>if N0 (El x) (El y)≠0 then N0 (El x) (El y)else mO a b
def Wy (m:List A4):List Int:=m.flatMap El
theorem To :∀{a b:List Int} (c d:List Int),a.length=b.length→N0 (a++c) (b++d)=if N0 a b≠0 then N0 a b else N0 c d
 |[],[],c,d,_=>by simp[N0]
 |[],_::_,_,_,h=>by simp at h
 |_::_,[],_,_,h=>by simp at h
 |x::a,y::b,c,d,h=>by
  simp only[List.cons_append,N0];have ih:=To (a:=a) (b:=b) c d (by simpa using h)
  by_cases h1:x<y
  ·simp[h1]
  by_cases h2:y<x
  ·simp[h1,h2]
  simp only[h1,h2,if_false];exact ih
theorem Zw :∀a b:List A4,mO a b=N0 (Wy a) (Wy b)
 |[],[]=>rfl
 |[],y::b=>by simp[mO,Wy,El,N0]
 |x::a,[]=>by simp[mO,Wy,El,N0]
 |x::a,y::b=>by
  simp only[mO,Wy,List.flatMap_cons];rw[To _ _ (by simp[El])];have:=Zw a b;rw[this];rfl
theorem Yq {N:Nat} {a b:List A4} {step:Int→Option (Int ⊕ (Unit ⊕ Int))} {k:Unit ⊕ Int→Option Int} (hN:a.length<N) (hl:a.length≤1000000)
 (hs:∀(i:Nat) (h1:i<a.length) (h2:i<b.length),step (i:Int)=if cmp .neq (N0 (El a[i]) (El b[i])) 0=true then some (.inr (.inr (N0 (El a[i]) (El b[i]))))else some (.inl (ar .add .i64 (i:Int) 1)))
 (he:∀i:Nat,i≤a.length→i≤b.length→i=a.length∨i=b.length→∃r,step (i:Int)=some (.inr r)∧k r=some (if a.length<b.length then -1 else if b.length<a.length then 1 else 0)) (hk:∀c,k (.inr c)=some c):(loopN step N 0).bind k=some (mO a b):=by
 have key:∀(d i N:Nat),i+d=a.length→d<N→i≤b.length→(loopN step N (i:Int)).bind k=some (mO (a.drop i) (b.drop i)):=by
  have hend:∀(i N:Nat),i≤a.length→i≤b.length→i=a.length∨i=b.length→(loopN step (N+1) (i:Int)).bind k=some (mO (a.drop i) (b.drop i)):=fun i N h1 h2 h=>by
   obtain⟨r,e1,e2⟩:=he i h1 h2 h;simp only[loopN,e1,Option.bind_some,e2]
   by_cases ha:i<a.length
   ·rw[List.drop_eq_getElem_cons ha,List.drop_eq_nil_of_le (show b.length≤i by omega),if_neg (by omega),if_pos (by omega)];rfl
   rw[List.drop_eq_nil_of_le (show a.length≤i by omega)]
   by_cases hb:i<b.length
   ·rw[List.drop_eq_getElem_cons hb,if_pos (by omega)];rfl
   rw[List.drop_eq_nil_of_le (show b.length≤i by omega),if_neg (by omega),if_neg (by omega)];rfl
  intro d
  induction d with
  |zero=>
   intro i N hi hN hb;obtain⟨N,rfl⟩:∃m,N=m+1:=⟨N - 1,by omega⟩;exact hend i N (by omega) hb (by omega)
  |succ d ih=>
   intro i N hi hN hb;obtain⟨N,rfl⟩:∃m,N=m+1:=⟨N - 1,by omega⟩
   by_cases h:i=b.length
   ·exact hend i N (by omega) hb (.inr h)
   have ha:i<a.length:=by omega
   have hb:i<b.length:=by omega
   rw[List.drop_eq_getElem_cons ha,List.drop_eq_getElem_cons hb,mO];unfold loopN;rw[hs i ha hb,D4 (by omega) (by omega)]
   by_cases hz:N0 (El a[i]) (El b[i])=0
   ·rw[if_neg (show¬(cmp .neq (N0 (El a[i]) (El b[i])) 0=true)from R6 hz),if_neg (by simpa using hz)];exact ih (i+1) N (by omega) (by omega) (by omega)
   rw[if_pos (show cmp .neq (N0 (El a[i]) (El b[i])) 0=true from O2 hz),if_pos hz];exact hk _
 simpa using key a.length 0 N (by omega) hN (by omega)
theorem XQ {N:Nat}(hN:40000000≤N){x y:T8}(hx:x.cP.length≤1000000)(hy:y.cP.length≤1000000):Af N x y=some (mO x.cP y.cP):=by
 obtain⟨a⟩:=x;obtain⟨b⟩:=y
 dsimp only at hx hy ⊢
 unfold Af;refine Yq (a:=a) (b:=b) (by omega) hx (fun i h1 h2=>?_) (fun i h1 h2 h=>⟨.inl (),by rw[if_neg (by simp only[K0,C8,C0];simp;omega)],?_⟩) fun _=>rfl
 ·rw[if_pos (by simp only[K0,C8,C0];simp;omega),F2,List.getElem?_eq_getElem h1,F2,List.getElem?_eq_getElem h2];simp only[Option.bind_some];rw[Uh];rfl
 dsimp only
 by_cases hb:a.length<b.length
 ·rw[if_pos (L4 (by rw[C0,C0];omega)),if_pos hb]
 rw[if_neg (K9 (by rw[C0,C0];omega)),if_neg hb]
 by_cases hc:b.length<a.length
 ·rw[if_pos (P4 (by rw[C0,C0];omega)),if_pos hc]
 rw[if_neg (M5 (by rw[C0,C0];omega)),if_neg hc]
end
end Go.Ab
namespace Go.Ab
open Classical
noncomputable section
mutual
def FY :A2→Nat
 |⟨_,_,ks⟩=>Ft ks+1
def Ft :List A2→Nat
 |[]=>0
 |a::r=>FY a+Ft r
end
mutual
def KT :A2→Nat
 |⟨_,_,ks⟩=>MJ ks+1
def MJ :List A2→Nat
 |[]=>0
 |a::r=>max (KT a) (MJ r)
end
theorem Fu (d:A2):FY d=Ft d.Kids+1:=by cases d;simp[FY]
theorem AT (d:A2):KT d=MJ d.Kids+1:=by cases d;simp[KT]
theorem Gp :∀l:List A2,Ft l=(l.map FY).sum
 |[]=>rfl
 |a::l=>by simp[Ft,Gp l]
theorem XE (d:A2):1≤FY d:=by rw[Fu];omega
theorem BT :∀l:List A2,l.length≤Ft l
 |[]=>Nat.le_refl _
 |a::l=>by have:=BT l;have:=XE a;simp only[Ft,List.length_cons];omega
theorem BS :∀{l:List A2} {a:A2},a∈l→FY a≤Ft l
 |b::l,a,h=>by
  simp only[Ft]
  rcases List.mem_cons.1 h with rfl|h
  ·omega
  have:=BS h;omega
theorem Ck :∀{l:List A2} {a:A2},a∈l→KT a≤MJ l
 |b::l,a,h=>by
  simp only[MJ]
  rcases List.mem_cons.1 h with rfl|h
  ·omega
  have:=Ck h;omega
mutual
theorem ZE :∀d:A2,KT d≤FY d
 |⟨_,_,ks⟩=>by have:=Sq ks;simp only[KT,FY];omega
theorem Sq :∀l:List A2,MJ l≤Ft l
 |[]=>Nat.le_refl _
 |a::l=>by have:=ZE a;have:=Sq l;simp only[MJ,Ft];omega
end
theorem Ih {R α:Type} {f:α→Option Int} {c:α→Nat}:∀(l:List α) (s:Nat),(∀a∈l,f a=some (c a:Int))→s+(l.map c).sum≤1000000000000→
 (J2 (fun(s:Int) x=>(f x).bind fun r=>some (.inl (ar .add .i64 s r))) l (s:Int):Option (Int ⊕ R))=some (.inl ((s+(l.map c).sum:Nat):Int))
 |[],s,_,_=>by simp[J2]
 |x::l,s,h,hb=>by
  simp only[List.map_cons,List.sum_cons]at hb ⊢
  simp only[J2,h x (.head _),Option.bind_some];rw[D4 (by omega) (by omega)];have:=Ih (R:=R) l (s+c x) (fun a ha=>h a (.tail _ ha)) (by omega);rw[show((s:Int)+(c x:Int))=((s+c x:Nat):Int) by omega,this];simp only[Option.some.injEq,Sum.inl.injEq];omega
theorem Md {N:Nat} (hN:40000000≤N):∀(n:Nat) (d:A2),KT d≤n→FY d≤30000000→J4 N n d=some (FY d:Int)
 |0,d,h,_=>by rw[AT]at h;omega
 |n+1,d,h,hs=>by
  have hsz:=Fu d;have hdp:=AT d;have hl:=BT d.Kids;unfold J4;rw[N5 d.Kids (by omega) (mk:=fun(s:Int) i=>(s,i)) (body:=fun(s:Int) x=>(J4 N n x).bind fun r=>some (.inl (ar .add .i64 s r))) (fin:=fun s=>s) (s:=(1:Int)) (by omega) ?_ ?_]
  ·rw[show(1:Int)=((1:Nat):Int)from rfl,Ih (c:=FY) d.Kids 1 (fun a ha=>Md hN n a (by have:=Ck ha;omega) (by have:=BS ha;omega)) (by rw[←Gp];omega)];simp only[Option.bind_some,Option.some.injEq];rw[←Gp];omega
  ·intro s i x hx hi;have e:ar .add .i64 (i:Int) 1=i+1:=D4 (by omega) (by omega);simp only[C8,C0,hi,decide_true,if_true,F2,hx,Option.bind_some,e];cases J4 N n x<;>rfl
  intro s;simp[C8,C0]
theorem IN {N:Nat} (hN:40000000≤N):∀(n:Nat) (d:A2),KT d≤n→FY d≤30000000→X2 N n d=some (FY d:Int)
 |0,d,h,_=>by rw[AT]at h;omega
 |n+1,d,h,hs=>by
  have hsz:=Fu d;have hdp:=AT d;have hl:=BT d.Kids;unfold X2;rw[N5 d.Kids (by omega) (mk:=fun(s:Int) i=>(s,i)) (body:=fun(s:Int) x=>(X2 N n x).bind fun r=>some (.inl (ar .add .i64 s r))) (fin:=fun s=>s) (s:=(1:Int)) (by omega) ?_ ?_]
  ·rw[show(1:Int)=((1:Nat):Int)from rfl,Ih (c:=FY) d.Kids 1 (fun a ha=>IN hN n a (by have:=Ck ha;omega) (by have:=BS ha;omega)) (by rw[←Gp];omega)];simp only[Option.bind_some,Option.some.injEq];rw[←Gp];omega
  ·intro s i x hx hi;have e:ar .add .i64 (i:Int) 1=i+1:=D4 (by omega) (by omega);simp only[C8,C0,hi,decide_true,if_true,F2,hx,Option.bind_some,e];cases X2 N n x<;>rfl
  intro s;simp[C8,C0]
theorem Nc {R α:Type} {f:α→Option Int} {c:α→Nat}:∀(l:List α) (s:Nat),(∀a∈l,f a=some (c a:Int))→
 (J2 (fun(s:Int) x=>(f x).bind fun r=>some (.inl (mx s r))) l (s:Int):Option (Int ⊕ R))=some (.inl ((l.foldl (fun s x=>max s (c x)) s:Nat):Int))
 |[],s,_=>rfl
 |x::l,s,h=>by
  simp only[J2,h x (.head _),Option.bind_some,List.foldl_cons];rw[show mx (s:Int) (c x:Int)=((max s (c x):Nat):Int) by rw[FE];split<;>omega];exact Nc (R:=R) l (max s (c x)) fun a ha=>h a (.tail _ ha)
theorem Nz :∀(l:List A2) (s:Nat),l.foldl (fun s x=>max s (KT x)) s=max s (MJ l)
 |[],s=>by simp[MJ]
 |x::l,s=>by simp only[List.foldl_cons,MJ];rw[Nz l];omega
theorem NA {N:Nat} (hN:40000000≤N):∀(n:Nat) (d:A2),KT d≤n→FY d≤30000000→Y7 N n d=some (KT d:Int)
 |0,d,h,_=>by rw[AT]at h;omega
 |n+1,d,h,hs=>by
  have hsz:=Fu d;have hdp:=AT d;have hl:=BT d.Kids;have hds:=Sq d.Kids;unfold Y7;rw[N5 d.Kids (by omega) (mk:=fun(s:Int) i=>(s,i)) (body:=fun(s:Int) x=>(Y7 N n x).bind fun r=>some (.inl (mx s r))) (fin:=fun s=>s) (s:=(0:Int)) (by omega) ?_ ?_]
  ·rw[show(0:Int)=((0:Nat):Int)from rfl,Nc (c:=KT) d.Kids 0 (fun a ha=>NA hN n a (by have:=Ck ha;omega) (by have:=BS ha;omega)),Nz];simp only[Option.bind_some,Option.some.injEq];rw[D4 (by omega) (by omega)];omega
  ·intro s i x hx hi;have e:ar .add .i64 (i:Int) 1=i+1:=D4 (by omega) (by omega);simp only[C8,C0,hi,decide_true,if_true,F2,hx,Option.bind_some,e];cases Y7 N n x<;>rfl
  intro s;simp[C8,C0]
theorem YH {N:Nat}(hN:40000000≤N){d:A2}(hs:FY d≤30000000):Fa N d=some (decide (KT d≤20∧FY d≤4101)):=by
 have:=ZE d;unfold Fa;rw[NA hN N d (by omega) hs];simp only[Option.bind_some]
 by_cases h:KT d≤20
 ·rw[if_pos (by rw[Ac];exact decide_eq_true (by omega)),IN hN N d (by omega) hs];simp only[Option.bind_some,Option.some.injEq,Ac,decide_eq_decide];omega
 rw[if_neg (by rw[Ac];simp;omega)];simp[h]
theorem PC (N:Nat)(a b:R0):L8 N a b=some (N0 (K6 a) (K6 b)):=by
 unfold L8 AK K6;simp only[K2,C8,X9,G5,N0,decide_eq_true_eq,Bool.not_eq_true',decide_eq_false_iff_not]
 repeat' split
 all_goals first|rfl|omega
end
end Go.Ab
namespace Go.Ab
open Classical
noncomputable section
def Aa5 (e:B8):List Int:=[e.Time,e.Source,e.Seq]
end
end Go.Ab
namespace Go.Ab
open Classical
noncomputable section
theorem Yp (a:List A4):mO a a=0:=by rw[Zw,Fg]
theorem Lc {α:Type}{l:List α}{k:Nat}(h:k≤l.length):K7 l none (some (k:Int)) none=some (l.take k):=by
 unfold K7;rw[if_pos (by simp;omega)];simp
end
end Go.Ab
