/- GVW6 GVW7 GVW8 GVW9 GVX0 GVA1 GVX1 GVX2 -/
import Derived.Test.YtjhobbohibnioaaGreatDoorC21
set_option linter.all false
open List (cons_append)
open Go.Ab.Ar (ar cmp mx)
namespace Go.Ab
open Classical
noncomputable section
end
end Go.Ab
namespace Go.Ab
open Classical
noncomputable section
section
variable {N:Nat}(hN:40000000≤N){l:List B5}(hl:l.length≤10)
include hN hl
def mu (l:List B5)(p:A1)(f:Nat):Nat:=p.pre.length*(l.length+2)+(l.length - f)
end
end
end Go.Ab
namespace Go.Ab
open Classical
noncomputable section
section
variable {N:Nat}(hN:40000000≤N){l:List B5}(hl:l.length≤10)
include hN hl
end
end
end Go.Ab
namespace Go.Ab
open Classical
noncomputable section
def Zb (out:List (List PR))(s:List PR):List (List PR):=if s∈out then out else out++[s]
def Nd (P:List PR→Prop)(out:List (List PR)):Prop:=out.Nodup∧∀s∈out,P s
theorem Nd.nil (P:List PR→Prop):Nd P []:=⟨List.nodup_nil,fun _ h=>absurd h List.not_mem_nil⟩
theorem Nd.add {P:List PR→Prop}{out:List (List PR)}{s:List PR}(h:Nd P out)(hs:P s):Nd P (Zb out s):=by
 unfold Zb
 split
 ·exact h
 rename_i hin;refine⟨List.nodup_append.2 ⟨h.1,by simp,fun a ha b hb e=>hin (by rw[←List.mem_singleton.1 hb,←e];exact ha)⟩,fun x hx=>?_⟩
 rcases List.mem_append.1 hx with hx|hx
 ·exact h.2 x hx
 rw[List.mem_singleton.1 hx];exact hs
def Xs (r:Option (List (List PR)))(l:List B5)(p:A1)(b:List PR)(f:Int):Prop:=∃L,r=some L∧L.Nodup∧∀s,s∈L↔Sm l p b f s
theorem Xs.mk {x:Option (List (List PR))}{l:List B5}{p:A1}{b:List PR}{f:Int}(h:∃L,x=some L∧L.Nodup∧∀s,s∈L↔Sm l p b f s):Xs (x.bind fun s=>some s) l p b f:=by
 obtain⟨L,rfl,h⟩:=h;exact⟨L,rfl,h⟩
section
variable {N:Nat}(hN:40000000≤N){l:List B5}(hl:l.length≤10)
include hN hl
end
end
end Go.Ab
namespace Go.Ab
open Classical
noncomputable section
def L5 :List Int→List Int→Int
 |[],[]=>0
 |[],_::_=> -1
 |_::_,[]=>1
 |x::a,y::b=>if x<y then -1 else if y<x then 1 else L5 a b
theorem DS :∀a:List Int,L5 a a=0
 |[]=>rfl
 |x::a=>by simp[L5,DS a]
theorem MV :∀{a b:List Int},L5 a b=0→a=b
 |[],[],_=>rfl
 |[],_::_,h=>by simp[L5]at h
 |_::_,[],h=>by simp[L5]at h
 |x::a,y::b,h=>by
  unfold L5 at h
  split at h
  ·cases h
  split at h
  ·cases h
  rw[MV h];congr 1;omega
theorem OD :∀a b:List Int,L5 b a= - L5 a b
 |[],[]=>rfl
 |[],_::_=>rfl
 |_::_,[]=>rfl
 |x::a,y::b=>by
  unfold L5;rw[OD a b]
  split<;>split<;>first|omega|rfl
theorem Kw :∀{a b c:List Int},L5 a b<0→L5 b c<0→L5 a c<0
 |[],[],_,h,_=>by simp[L5]at h
 |_::_,[],_,h,_=>by simp[L5]at h
 |_,_::_,[],_,h=>by simp[L5]at h
 |[],_::_,_::_,_,_=>by simp[L5]
 | x::a,y::b,z::c,h1,h2=>by
  unfold L5 at h1 h2 ⊢
  by_cases h3:x<z
  ·rw[if_pos h3];decide
  rw[if_neg h3]
  by_cases h4:x<y
  ·by_cases h5:y<z
   ·omega
   rw[if_neg h5]at h2
   have:z<y:=by omega
   rw[if_pos this]at h2;cases h2
  rw[if_neg h4]at h1
  by_cases h5:y<x
  ·rw[if_pos h5]at h1;cases h1
  rw[if_neg h5]at h1
  by_cases h6:y<z
  ·omega
  rw[if_neg h6]at h2
  by_cases h7:z<y
  ·rw[if_pos h7]at h2;cases h2
  rw[if_neg h7]at h2
  rw[if_neg (by omega)];exact Kw h1 h2
def LE (a b:Int):Int:=if a<b then -1 else if b<a then 1 else 0
theorem SL (N:Nat)(a b:Int):G5 N a b=some (LE a b):=by
 unfold G5 Ai LE;simp only[Option.bind_some,M6,G4,Z3,decide_true,Bool.not_true,Bool.false_eq_true,if_false,decide_eq_true_eq]
 split
 ·rfl
 split<;>rfl
theorem or_eq {N:Nat} (hN:40000000≤N) {l:List Int} (hl:l.length≤1000):Av N l=some (Bf id l):=by
 unfold Av;rw[Y6 l (by omega) (mk:=fun(_:Unit) i=>i) (body:=Db fun x=>some x) (fin:=fun _=>.inl ()) (s:=()) (by omega) ?_ ?_]
 ·rw[BK (F:=fun x=>some x) (f:=id) fun x _=>rfl]
  by_cases h:Bf id l=0
  ·rw[if_pos h,h];rfl
  rw[if_neg h];rfl
 ·intro s i x hx hi;have e:ar .add .i64 (i:Int) 1=i+1:=S1 (by omega) (by omega);simp only[G4,E7,hi,decide_true,if_true,Aq,hx,Option.bind_some,e,Db]
  split<;>rfl
 intro s;simp[G4,E7]
def Ao (r:L4):List Int:=[r.Time,r.Source,r.Seq]
theorem lex3 (a1 a2 a3 b1 b2 b3:Int):L5 [a1,a2,a3] [b1,b2,b3]=Bf id [LE a1 b1,LE a2 b2,LE a3 b3]:=by
 simp only[L5,Bf,LE,id]
 repeat' split
 all_goals first|rfl|omega
theorem UN {N:Nat}(hN:40000000≤N)(a b:B5):S6 N a b=some (L5 [a.Time,a.Source,a.Seq] [b.Time,b.Source,b.Seq]):=by
 unfold S6 Y9;simp only[Option.bind_some,SL];rw[or_eq hN (by simp),←lex3];simp only[Ce,R8,Bool.and_true,Bool.and_eq_true,decide_eq_true_eq,Option.bind_some]
 by_cases h:a.Time=b.Time∧a.Source=b.Source∧a.Seq=b.Seq
 ·rw[if_pos h,h.1,h.2.1,h.2.2,DS]
 rw[if_neg h]
theorem Ro :∀{a b:List Int} (c d:List Int),a.length=b.length→L5 (a++c) (b++d)=if L5 a b≠0 then L5 a b else L5 c d
 |[],[],c,d,_=>by simp[L5]
 |[],_::_,_,_,h=>by simp at h
 |_::_,[],_,_,h=>by simp at h
 |x::a,y::b,c,d,h=>by
  simp only[cons_append,L5];have ih:=Ro (a:=a) (b:=b) c d (by simpa using h)
  by_cases h1:x<y
  ·simp[h1]
  by_cases h2:y<x
  ·simp[h1,h2]
  simp only[h1,h2,if_false];exact ih
end
end Go.Ab
namespace Go.Ab
open Classical
noncomputable section
mutual
def GN :A2→Nat
 |⟨_,_,ks⟩=>Hz ks+1
def Hz :List A2→Nat
 |[]=>0
 |a::r=>GN a+Hz r
end
mutual
def Ng :A2→Nat
 |⟨_,_,ks⟩=>Lt ks+1
def Lt :List A2→Nat
 |[]=>0
 |a::r=>max (Ng a) (Lt r)
end
theorem Ef (d:A2):GN d=Hz d.Kids+1:=by cases d;simp[GN]
theorem DF (d:A2):Ng d=Lt d.Kids+1:=by cases d;simp[Ng]
theorem CB :∀l:List A2,Hz l=(l.map GN).sum
 |[]=>rfl
 |a::l=>by simp[Hz,CB l]
theorem VB (d:A2):1≤GN d:=by rw[Ef];omega
theorem CC :∀l:List A2,l.length≤Hz l
 |[]=>Nat.le_refl _
 |a::l=>by have:=CC l;have:=VB a;simp only[Hz,List.length_cons];omega
theorem DK :∀{l:List A2} {a:A2},a∈l→GN a≤Hz l
 |b::l,a,h=>by
  simp only[Hz]
  rcases List.mem_cons.1 h with rfl|h
  ·omega
  have:=DK h;omega
theorem DZ :∀{l:List A2} {a:A2},a∈l→Ng a≤Lt l
 |b::l,a,h=>by
  simp only[Lt]
  rcases List.mem_cons.1 h with rfl|h
  ·omega
  have:=DZ h;omega
mutual
theorem KO :∀d:A2,Ng d≤GN d
 |⟨_,_,ks⟩=>by have:=Qy ks;simp only[Ng,GN];omega
theorem Qy :∀l:List A2,Lt l≤Hz l
 |[]=>Nat.le_refl _
 |a::l=>by have:=KO a;have:=Qy l;simp only[Lt,Hz];omega
end
theorem GX {R α:Type} {f:α→Option Int} {c:α→Nat}:∀(l:List α) (s:Nat),(∀a∈l,f a=some (c a:Int))→s+(l.map c).sum≤1000000000000→
 (P4 (fun(s:Int) x=>(f x).bind fun r=>some (.inl (ar .add .i64 s r))) l (s:Int):Option (Int ⊕ R))=some (.inl ((s+(l.map c).sum:Nat):Int))
 |[],s,_,_=>by simp[P4]
 |x::l,s,h,hb=>by
  simp only[List.map_cons,List.sum_cons]at hb ⊢
  simp only[P4,h x (.head _),Option.bind_some];rw[S1 (by omega) (by omega)];have:=GX (R:=R) l (s+c x) (fun a ha=>h a (.tail _ ha)) (by omega);rw[show((s:Int)+(c x:Int))=((s+c x:Nat):Int) by omega,this];simp only[Option.some.injEq,Sum.inl.injEq];omega
theorem HU {N:Nat} (hN:40000000≤N):∀(n:Nat) (d:A2),Ng d≤n→GN d≤30000000→E9 N n d=some (GN d:Int)
 |0,d,h,_=>by rw[DF]at h;omega
 |n+1,d,h,hs=>by
  have hsz:=Ef d;have hdp:=DF d;have hl:=CC d.Kids;unfold E9;rw[Y6 d.Kids (by omega) (mk:=fun(s:Int) i=>(s,i)) (body:=fun(s:Int) x=>(E9 N n x).bind fun r=>some (.inl (ar .add .i64 s r))) (fin:=fun s=>s) (s:=(1:Int)) (by omega) ?_ ?_]
  ·rw[show(1:Int)=((1:Nat):Int)from rfl,GX (c:=GN) d.Kids 1 (fun a ha=>HU hN n a (by have:=DZ ha;omega) (by have:=DK ha;omega)) (by rw[←CB];omega)];simp only[Option.bind_some,Option.some.injEq];rw[←CB];omega
  ·intro s i x hx hi;have e:ar .add .i64 (i:Int) 1=i+1:=S1 (by omega) (by omega);simp only[G4,E7,hi,decide_true,if_true,Aq,hx,Option.bind_some,e];cases E9 N n x<;>rfl
  intro s;simp[G4,E7]
theorem NV {N:Nat} (hN:40000000≤N):∀(n:Nat) (d:A2),Ng d≤n→GN d≤30000000→W8 N n d=some (GN d:Int)
 |0,d,h,_=>by rw[DF]at h;omega
 |n+1,d,h,hs=>by
  have hsz:=Ef d;have hdp:=DF d;have hl:=CC d.Kids;unfold W8;rw[Y6 d.Kids (by omega) (mk:=fun(s:Int) i=>(s,i)) (body:=fun(s:Int) x=>(W8 N n x).bind fun r=>some (.inl (ar .add .i64 s r))) (fin:=fun s=>s) (s:=(1:Int)) (by omega) ?_ ?_]
  ·rw[show(1:Int)=((1:Nat):Int)from rfl,GX (c:=GN) d.Kids 1 (fun a ha=>NV hN n a (by have:=DZ ha;omega) (by have:=DK ha;omega)) (by rw[←CB];omega)];simp only[Option.bind_some,Option.some.injEq];rw[←CB];omega
  ·intro s i x hx hi;have e:ar .add .i64 (i:Int) 1=i+1:=S1 (by omega) (by omega);simp only[G4,E7,hi,decide_true,if_true,Aq,hx,Option.bind_some,e];cases W8 N n x<;>rfl
  intro s;simp[G4,E7]
theorem LP {R α:Type} {f:α→Option Int} {c:α→Nat}:∀(l:List α) (s:Nat),(∀a∈l,f a=some (c a:Int))→
 (P4 (fun(s:Int) x=>(f x).bind fun r=>some (.inl (mx s r))) l (s:Int):Option (Int ⊕ R))=some (.inl ((l.foldl (fun s x=>max s (c x)) s:Nat):Int))
 |[],s,_=>rfl
 |x::l,s,h=>by
  simp only[P4,h x (.head _),Option.bind_some,List.foldl_cons];rw[show mx (s:Int) (c x:Int)=((max s (c x):Nat):Int) by rw[Kt];split<;>omega];exact LP (R:=R) l (max s (c x)) fun a ha=>h a (.tail _ ha)
theorem Mh :∀(l:List A2) (s:Nat),l.foldl (fun s x=>max s (Ng x)) s=max s (Lt l)
 |[],s=>by simp[Lt]
 |x::l,s=>by simp only[List.foldl_cons,Lt];rw[Mh l];omega
theorem Mi {N:Nat} (hN:40000000≤N):∀(n:Nat) (d:A2),Ng d≤n→GN d≤30000000→U0 N n d=some (Ng d:Int)
 |0,d,h,_=>by rw[DF]at h;omega
 |n+1,d,h,hs=>by
  have hsz:=Ef d;have hdp:=DF d;have hl:=CC d.Kids;have hds:=Qy d.Kids;unfold U0;rw[Y6 d.Kids (by omega) (mk:=fun(s:Int) i=>(s,i)) (body:=fun(s:Int) x=>(U0 N n x).bind fun r=>some (.inl (mx s r))) (fin:=fun s=>s) (s:=(0:Int)) (by omega) ?_ ?_]
  ·rw[show(0:Int)=((0:Nat):Int)from rfl,LP (c:=Ng) d.Kids 0 (fun a ha=>Mi hN n a (by have:=DZ ha;omega) (by have:=DK ha;omega)),Mh];simp only[Option.bind_some,Option.some.injEq];rw[S1 (by omega) (by omega)];omega
  ·intro s i x hx hi;have e:ar .add .i64 (i:Int) 1=i+1:=S1 (by omega) (by omega);simp only[G4,E7,hi,decide_true,if_true,Aq,hx,Option.bind_some,e];cases U0 N n x<;>rfl
  intro s;simp[G4,E7]
theorem Nf {N:Nat}(hN:40000000≤N){d:A2}(hs:GN d≤30000000):Bq N d=some (decide (Ng d≤20∧GN d≤4101)):=by
 have:=KO d;unfold Bq;rw[Mi hN N d (by omega) hs];simp only[Option.bind_some]
 by_cases h:Ng d≤20
 ·rw[if_pos (by rw[Gk];exact decide_eq_true (by omega)),NV hN N d (by omega) hs];simp only[Option.bind_some,Option.some.injEq,Gk,decide_eq_decide];omega
 rw[if_neg (by rw[Gk];simp;omega)];simp[h]
mutual
def dO :A2→A2→Int
 |⟨r,c,ks⟩,⟨r',c',ks'⟩=>if L5 (Ao r) (Ao r')≠0 then L5 (Ao r) (Ao r')else if LE c c'≠0 then LE c c' else Ns ks ks'
def Ns :List A2→List A2→Int
 |[],[]=>0
 |[],_::_=> -1
 |_::_,[]=>1
 |a::l,b::m=>if dO a b≠0 then dO a b else Ns l m
end
theorem UU (a b:A2):dO a b=if L5 (Ao a.Ref) (Ao b.Ref)≠0 then L5 (Ao a.Ref) (Ao b.Ref)else if LE a.Choice b.Choice≠0 then LE a.Choice b.Choice else Ns a.Kids b.Kids:=by
 cases a;cases b;simp only[dO]
mutual
def SB :A2→List Int
 |⟨r,c,ks⟩=>Ao r++(c::IW ks)
def IW :List A2→List Int
 |[]=>[0]
 |a::l=>1::(SB a++IW l)
end
mutual
theorem UT :∀(a b:A2) (u v:List Int),L5 (SB a++u) (SB b++v)=if dO a b≠0 then dO a b else L5 u v
 | ⟨r,c,ks⟩,⟨r',c',ks'⟩,u,v=>by
  simp only[SB,dO,List.append_assoc,cons_append];rw[Ro _ _ (by simp[Ao])]
  by_cases h:L5 (Ao r) (Ao r')=0
  ·simp only[h,ne_eq,not_true,if_false,L5,LE];rw[RB ks ks' u v]
   by_cases h1:c<c'
   ·simp[h1]
   by_cases h2:c'<c
   ·simp[h1,h2]
   simp[h1,h2]
  simp[h]
theorem RB :∀(l m:List A2) (u v:List Int),L5 (IW l++u) (IW m++v)=if Ns l m≠0 then Ns l m else L5 u v
 |[],[],u,v=>by simp[IW,Ns,L5]
 |[],_::_,u,v=>by simp[IW,Ns,L5]
 |_::_,[],u,v=>by simp[IW,Ns,L5]
 |a::l,b::m,u,v=>by
  simp only[IW,Ns,cons_append,List.append_assoc,L5,Int.lt_irrefl,if_false];rw[UT a b,RB l m]
  by_cases h:dO a b=0
  ·simp[h]
  simp[h]
end
theorem FJ (a b:A2):dO a b=L5 (SB a) (SB b):=by
 have:=UT a b [] []
 simp only[List.append_nil]at this
 rw[this]
 by_cases h:dO a b=0
 ·simp[h,L5]
 simp[h]
theorem OC :∀a b:List Int,L5 a b= -1∨L5 a b=0∨L5 a b=1
 |[],[]=>by simp[L5]
 |[],_::_=>by simp[L5]
 |_::_,[]=>by simp[L5]
 |x::a,y::b=>by
  unfold L5
  split
  ·simp
  split
  ·simp
  exact OC a b
theorem RA (x:A2):∀l:List A2,Ns l (l++[x])= -1
 |[]=>rfl
 |a::l=>by simp only[cons_append,Ns];rw[FJ,DS];simpa using RA x l
theorem OB {N:Nat} {a b:List A2} {step:Int→Option (Int ⊕ (Unit ⊕ Int))} {k:Unit ⊕ Int→Option Int} (hN:a.length<N) (hl:a.length≤30000000)
 (hs:∀(i:Nat) (h1:i<a.length) (h2:i<b.length),step (i:Int)=if cmp .neq (dO a[i] b[i]) 0=true then some (.inr (.inr (dO a[i] b[i])))else some (.inl (ar .add .i64 (i:Int) 1)))
 (he:∀i:Nat,i≤a.length→i≤b.length→i=a.length∨i=b.length→∃r,step (i:Int)=some (.inr r)∧k r=some (if a.length<b.length then -1 else if b.length<a.length then 1 else 0)) (hk:∀c,k (.inr c)=some c):(loopN step N 0).bind k=some (Ns a b):=by
 have key:∀(d i N:Nat),i+d=a.length→d<N→i≤b.length→(loopN step N (i:Int)).bind k=some (Ns (a.drop i) (b.drop i)):=by
  have hend:∀(i N:Nat),i≤a.length→i≤b.length→i=a.length∨i=b.length→(loopN step (N+1) (i:Int)).bind k=some (Ns (a.drop i) (b.drop i)):=fun i N h1 h2 h=>by
   obtain⟨r,e1,e2⟩:=he i h1 h2 h;simp only[loopN,e1,Option.bind_some,e2]
   by_cases ha:i<a.length
   ·rw[List.drop_eq_getElem_cons ha,List.drop_eq_nil_of_le (show b.length≤i by omega),if_neg (by omega),if_pos (by omega)];simp[Ns]
   rw[List.drop_eq_nil_of_le (show a.length≤i by omega)]
   by_cases hb:i<b.length
   ·rw[List.drop_eq_getElem_cons hb,if_pos (by omega)];simp[Ns]
   rw[List.drop_eq_nil_of_le (show b.length≤i by omega),if_neg (by omega),if_neg (by omega)];simp[Ns]
  intro d
  induction d with
  |zero=>
   intro i N hi hN hb;obtain⟨N,rfl⟩:∃m,N=m+1:=⟨N - 1,by omega⟩;exact hend i N (by omega) hb (by omega)
  |succ d ih=>
   intro i N hi hN hb;obtain⟨N,rfl⟩:∃m,N=m+1:=⟨N - 1,by omega⟩
   by_cases h:i=b.length
   ·exact hend i N (by omega) hb (.inr h)
   have ha:i<a.length:=by omega
   have hb:i<b.length:=by omega
   rw[List.drop_eq_getElem_cons ha,List.drop_eq_getElem_cons hb,Ns];unfold loopN;rw[hs i ha hb,S1 (by omega) (by omega)]
   by_cases hz:dO a[i] b[i]=0
   ·rw[if_neg (show¬(cmp .neq (dO a[i] b[i]) 0=true)from CI hz),if_neg (by simpa using hz)];exact ih (i+1) N (by omega) (by omega) (by omega)
   rw[if_pos (show cmp .neq (dO a[i] b[i]) 0=true from De hz),if_pos hz];exact hk _
 simpa using key a.length 0 N (by omega) hN (by omega)
theorem ED {N:Nat} (hN:40000000≤N):∀(n:Nat) (x y:A2),Ng x≤n→GN x≤30000000→E3 N n x y=some (dO x y)
 |0,d,_,h,_=>by rw[DF]at h;omega
 | n+1,x,y,h,hs=>by
  have hsz:=Ef x;have hdp:=DF x;have hl:=CC x.Kids;unfold E3;rw[UN hN,UU];simp only[Option.bind_some]
  change (if cmp .neq (L5 (Ao x.Ref) (Ao y.Ref)) 0=true then some (L5 (Ao x.Ref) (Ao y.Ref))else _)=_
  by_cases h0:L5 (Ao x.Ref) (Ao y.Ref)=0
  ·rw[if_neg (CI h0),if_neg (show¬(L5 (Ao x.Ref) (Ao y.Ref)≠0) by simpa using h0)]
   by_cases h1:x.Choice<y.Choice
   ·rw[if_pos (HL h1)];simp[LE,h1]
   rw[if_neg (Fs h1)]
   by_cases h2:y.Choice<x.Choice
   ·rw[if_pos (Ew h2)];simp[LE,h1,h2]
   rw[if_neg (CM h2),if_neg (by simp[LE,h1,h2])];unfold C8
   generalize x.Kids=a at *
   generalize y.Kids=b at *
   refine congrArg (fun o:Option Int=>o.bind fun r1=>some r1) (OB (a:=a) (b:=b) (by omega) (by omega) (fun i h1 h2=>?_) (fun i h1 h2 h=>?_) fun _=>rfl)
   ·rw[if_pos (Uk (by omega)),Aq,List.getElem?_eq_getElem h1];simp only[Option.bind_some];rw[if_neg (by rw[EE,E7];simp;omega),Aq,List.getElem?_eq_getElem h2];simp only[Option.bind_some];rw[ED hN n _ _ (by have:=DZ (List.getElem_mem h1);omega) (by have:=DK (List.getElem_mem h1);omega)];rfl
   by_cases ha:i<a.length
   ·refine⟨.inr 1,?_,?_⟩
    ·rw[if_pos (Uk (by omega)),Aq,List.getElem?_eq_getElem ha];simp only[Option.bind_some];rw[if_pos (by rw[EE,E7];simp;omega)]
    rw[if_neg (show¬a.length<b.length by omega),if_pos (show b.length<a.length by omega)]
   refine⟨.inl (),by rw[if_neg (Fs (by rw[E7];omega))],?_⟩
   dsimp only
   by_cases hb:a.length<b.length
   ·rw[if_pos (HL (by rw[E7,E7];omega)),if_pos hb]
   rw[if_neg (Fs (by rw[E7,E7];omega)),if_neg hb,if_neg (show¬b.length<a.length by omega)]
  rw[if_pos (De h0),if_pos (show L5 (Ao x.Ref) (Ao y.Ref)≠0 from h0)]
theorem TE (N:Nat)(a b:L4):R6 N a b=some (L5 (Ao a) (Ao b)):=by
 unfold R6 Y4 Ao;simp only[M6,G4,Z3,R8,L5,decide_eq_true_eq,Bool.not_eq_true',decide_eq_false_iff_not]
 repeat' split
 all_goals first|rfl|omega
theorem Oa {N:Nat} (hN:40000000≤N):∀(n:Nat) (x y:A2),Ng x≤n→GN x≤30000000→S4 N n x y=some (dO x y)
 |0,d,_,h,_=>by rw[DF]at h;omega
 | n+1,x,y,h,hs=>by
  have hsz:=Ef x;have hdp:=DF x;have hl:=CC x.Kids;unfold S4;rw[TE,UU];simp only[Option.bind_some]
  by_cases h0:L5 (Ao x.Ref) (Ao y.Ref)=0
  ·rw[if_neg (CI h0),if_neg (show¬(L5 (Ao x.Ref) (Ao y.Ref)≠0) by simpa using h0)]
   by_cases h1:x.Choice<y.Choice
   ·rw[if_pos (De (by omega)),if_pos (HL h1)];simp[LE,h1]
   by_cases h2:y.Choice<x.Choice
   ·rw[if_pos (De (by omega)),if_neg (Fs h1)];simp[LE,h1,h2]
   rw[if_neg (CI (by omega)),if_neg (show¬(LE x.Choice y.Choice≠0) by simp[LE,h1,h2])]
   generalize x.Kids=a at *
   generalize y.Kids=b at *
   refine OB (a:=a) (b:=b) (by omega) (by omega) (fun i h1 h2=>?_) (fun i h1 h2 h=>⟨.inl (),by rw[if_neg (by simp only[Ce,G4,E7];simp;omega)],?_⟩) fun _=>rfl
   ·rw[if_pos (by simp only[Ce,G4,E7];simp;omega),Aq,List.getElem?_eq_getElem h1,Aq,List.getElem?_eq_getElem h2];simp only[Option.bind_some];rw[Oa hN n _ _ (by have:=DZ (List.getElem_mem h1);omega) (by have:=DK (List.getElem_mem h1);omega)];rfl
   dsimp only
   by_cases hb:a.length<b.length
   ·rw[if_pos (HL (by rw[E7,E7];omega)),if_pos hb]
   rw[if_neg (Fs (by rw[E7,E7];omega)),if_neg hb]
   by_cases hc:b.length<a.length
   ·rw[if_pos (Ew (by rw[E7,E7];omega)),if_pos hc]
   rw[if_neg (CM (by rw[E7,E7];omega)),if_neg hc]
  rw[if_pos (De h0),if_pos (show L5 (Ao x.Ref) (Ao y.Ref)≠0 from h0)]
end
end Go.Ab
namespace Go.Ab
open Classical
noncomputable section
end
end Go.Ab
namespace Go.Ab
open Classical
noncomputable section
theorem Pz {α:Type}{l:List α}{k:Nat}(h:k≤l.length):S9 l none (some (k:Int)) none=some (l.take k):=by
 unfold S9;rw[if_pos (by simp;omega)];simp
end
end Go.Ab
