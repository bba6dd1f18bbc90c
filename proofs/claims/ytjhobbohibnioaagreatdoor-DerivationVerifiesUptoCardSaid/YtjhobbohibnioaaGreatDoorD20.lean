/- GVX0 GVA1 GVX1 GVX2 GVA2 GVB1 GVX3 GVX4 GVB2 GVB3 -/
import Derived.Test.YtjhobbohibnioaaGreatDoorD19
set_option linter.all false
open List (any_map)
open Go.Ab.Ar (an ar cmp mx sh wr)
namespace Go.Ab
open Classical
noncomputable section
def T6 :List Int→List Int→Int
 |[],[]=>0
 |[],_::_=> -1
 |_::_,[]=>1
 |x::a,y::b=>if x<y then -1 else if y<x then 1 else T6 a b
theorem Gg :∀a:List Int,T6 a a=0
 |[]=>rfl
 |x::a=>by simp[T6,Gg a]
theorem VQ :∀{a b:List Int},T6 a b=0→a=b
 |[],[],_=>rfl
 |[],_::_,h=>by simp[T6]at h
 |_::_,[],h=>by simp[T6]at h
 |x::a,y::b,h=>by
  unfold T6 at h
  split at h
  ·cases h
  split at h
  ·cases h
  rw[VQ h];congr 1;omega
theorem JN :∀{a b c:List Int},T6 a b<0→T6 b c<0→T6 a c<0
 |[],[],_,h,_=>by simp[T6]at h
 |_::_,[],_,h,_=>by simp[T6]at h
 |_,_::_,[],_,h=>by simp[T6]at h
 |[],_::_,_::_,_,_=>by simp[T6]
 | x::a,y::b,z::c,h1,h2=>by
  unfold T6 at h1 h2 ⊢
  by_cases h3:x<z
  ·rw[if_pos h3];decide
  rw[if_neg h3]
  by_cases h4:x<y
  ·by_cases h5:y<z
   ·omega
   rw[if_neg h5]at h2
   have:z<y:=by omega
   rw[if_pos this]at h2;cases h2
  rw[if_neg h4]at h1
  by_cases h5:y<x
  ·rw[if_pos h5]at h1;cases h1
  rw[if_neg h5]at h1
  by_cases h6:y<z
  ·omega
  rw[if_neg h6]at h2
  by_cases h7:z<y
  ·rw[if_pos h7]at h2;cases h2
  rw[if_neg h7]at h2
  rw[if_neg (by omega)];exact JN h1 h2
def tri (a b:Int):Int:=if a<b then -1 else if b<a then 1 else 0
theorem IK (N:Nat)(a b:Int):J0 N a b=some (tri a b):=by
 unfold J0 Cb tri;simp only[Option.bind_some,I9,C4,Z0,decide_true,Bool.not_true,Bool.false_eq_true,if_false,decide_eq_true_eq]
 split
 ·rfl
 split<;>rfl
theorem or_eq {N:Nat} (hN:40000000≤N) {l:List Int} (hl:l.length≤1000):Cj N l=some (S9 id l):=by
 unfold Cj;rw[G4 l (by omega) (mk:=fun(_:Unit) i=>i) (body:=AM fun x=>some x) (fin:=fun _=>.inl ()) (s:=()) (by omega) ?_ ?_]
 ·rw[Y3 (F:=fun x=>some x) (f:=id) fun x _=>rfl]
  by_cases h:S9 id l=0
  ·rw[if_pos h,h];rfl
  rw[if_neg h];rfl
 ·intro s i x hx hi;have e:ar .add .i64 (i:Int) 1=i+1:=D2 (by omega) (by omega);simp only[C4,B5,hi,decide_true,if_true,E2,hx,Option.bind_some,e,AM]
  split<;>rfl
 intro s;simp[C4,B5]
def EM (r:O7):List Int:=[r.Time,r.Source,r.Seq]
theorem lex3 (a1 a2 a3 b1 b2 b3:Int):T6 [a1,a2,a3] [b1,b2,b3]=S9 id [tri a1 b1,tri a2 b2,tri a3 b3]:=by
 simp only[T6,S9,tri,id]
 repeat' split
 all_goals first|rfl|omega
theorem YI (N:Nat)(a b:O7):Cv N a b=some (T6 (EM a) (EM b)):=by
 unfold Cv EM;simp only[I9,C4,Z0,T6,decide_eq_true_eq,Bool.not_eq_true',decide_eq_false_iff_not]
 repeat' split
 all_goals first|rfl|omega
theorem ZB {N:Nat}(hN:40000000≤N)(a b:A9):Y7 N a b=some (T6 [a.Time,a.Source,a.Seq] [b.Time,b.Source,b.Seq]):=by
 unfold Y7 BC;simp only[Option.bind_some,IK];rw[or_eq hN (by simp),←lex3];simp only[H6,C5,Bool.and_true,Bool.and_eq_true,decide_eq_true_eq,Option.bind_some]
 by_cases h:a.Time=b.Time∧a.Source=b.Source∧a.Seq=b.Seq
 ·rw[if_pos h,h.1,h.2.1,h.2.2,Gg]
 rw[if_neg h]
end
end Go.Ab
namespace Go.Ab
open Classical
noncomputable section
mutual
def FN :A1→Nat
 |⟨_,_,ks⟩=>Gy ks+1
def Gy :List A1→Nat
 |[]=>0
 |a::r=>FN a+Gy r
end
mutual
def Ml :A1→Nat
 |⟨_,_,ks⟩=>OA ks+1
def OA :List A1→Nat
 |[]=>0
 |a::r=>max (Ml a) (OA r)
end
theorem FE (d:A1):FN d=Gy d.Kids+1:=by cases d;simp[FN]
theorem AJ (d:A1):Ml d=OA d.Kids+1:=by cases d;simp[Ml]
theorem Hp :∀l:List A1,Gy l=(l.map FN).sum
 |[]=>rfl
 |a::l=>by simp[Gy,Hp l]
theorem Ab2 (d:A1):1≤FN d:=by rw[FE];omega
theorem BR :∀l:List A1,l.length≤Gy l
 |[]=>Nat.le_refl _
 |a::l=>by have:=BR l;have:=Ab2 a;simp only[Gy,List.length_cons];omega
theorem BQ :∀{l:List A1} {a:A1},a∈l→FN a≤Gy l
 |b::l,a,h=>by
  simp only[Gy]
  rcases List.mem_cons.1 h with rfl|h
  ·omega
  have:=BQ h;omega
theorem Ca :∀{l:List A1} {a:A1},a∈l→Ml a≤OA l
 |b::l,a,h=>by
  simp only[OA]
  rcases List.mem_cons.1 h with rfl|h
  ·omega
  have:=Ca h;omega
mutual
theorem Al6 :∀d:A1,Ml d≤FN d
 |⟨_,_,ks⟩=>by have:=UZ ks;simp only[Ml,FN];omega
theorem UZ :∀l:List A1,OA l≤Gy l
 |[]=>Nat.le_refl _
 |a::l=>by have:=Al6 a;have:=UZ l;simp only[OA,Gy];omega
end
theorem JE {R α:Type} {f:α→Option Int} {c:α→Nat}:∀(l:List α) (s:Nat),(∀a∈l,f a=some (c a:Int))→s+(l.map c).sum≤1000000000000→
 (G5 (fun(s:Int) x=>(f x).bind fun r=>some (.inl (ar .add .i64 s r))) l (s:Int):Option (Int ⊕ R))=some (.inl ((s+(l.map c).sum:Nat):Int))
 |[],s,_,_=>by simp[G5]
 |x::l,s,h,hb=>by
  simp only[List.map_cons,List.sum_cons]at hb ⊢
  simp only[G5,h x (.head _),Option.bind_some];rw[D2 (by omega) (by omega)];have:=JE (R:=R) l (s+c x) (fun a ha=>h a (.tail _ ha)) (by omega);rw[show((s:Int)+(c x:Int))=((s+c x:Nat):Int) by omega,this];simp only[Option.some.injEq,Sum.inl.injEq];omega
theorem Th {N:Nat} (hN:40000000≤N):∀(n:Nat) (d:A1),Ml d≤n→FN d≤30000000→M1 N n d=some (FN d:Int)
 |0,d,h,_=>by rw[AJ]at h;omega
 |n+1,d,h,hs=>by
  have hsz:=FE d;have hdp:=AJ d;have hl:=BR d.Kids;unfold M1;rw[G4 d.Kids (by omega) (mk:=fun(s:Int) i=>(s,i)) (body:=fun(s:Int) x=>(M1 N n x).bind fun r=>some (.inl (ar .add .i64 s r))) (fin:=fun s=>s) (s:=(1:Int)) (by omega) ?_ ?_]
  ·rw[show(1:Int)=((1:Nat):Int)from rfl,JE (c:=FN) d.Kids 1 (fun a ha=>Th hN n a (by have:=Ca ha;omega) (by have:=BQ ha;omega)) (by rw[←Hp];omega)];simp only[Option.bind_some,Option.some.injEq];rw[←Hp];omega
  ·intro s i x hx hi;have e:ar .add .i64 (i:Int) 1=i+1:=D2 (by omega) (by omega);simp only[C4,B5,hi,decide_true,if_true,E2,hx,Option.bind_some,e];cases M1 N n x<;>rfl
  intro s;simp[C4,B5]
theorem Kp {N:Nat} (hN:40000000≤N):∀(n:Nat) (d:A1),Ml d≤n→FN d≤30000000→V8 N n d=some (FN d:Int)
 |0,d,h,_=>by rw[AJ]at h;omega
 |n+1,d,h,hs=>by
  have hsz:=FE d;have hdp:=AJ d;have hl:=BR d.Kids;unfold V8;rw[G4 d.Kids (by omega) (mk:=fun(s:Int) i=>(s,i)) (body:=fun(s:Int) x=>(V8 N n x).bind fun r=>some (.inl (ar .add .i64 s r))) (fin:=fun s=>s) (s:=(1:Int)) (by omega) ?_ ?_]
  ·rw[show(1:Int)=((1:Nat):Int)from rfl,JE (c:=FN) d.Kids 1 (fun a ha=>Kp hN n a (by have:=Ca ha;omega) (by have:=BQ ha;omega)) (by rw[←Hp];omega)];simp only[Option.bind_some,Option.some.injEq];rw[←Hp];omega
  ·intro s i x hx hi;have e:ar .add .i64 (i:Int) 1=i+1:=D2 (by omega) (by omega);simp only[C4,B5,hi,decide_true,if_true,E2,hx,Option.bind_some,e];cases V8 N n x<;>rfl
  intro s;simp[C4,B5]
theorem OW {R α:Type} {f:α→Option Int} {c:α→Nat}:∀(l:List α) (s:Nat),(∀a∈l,f a=some (c a:Int))→
 (G5 (fun(s:Int) x=>(f x).bind fun r=>some (.inl (mx s r))) l (s:Int):Option (Int ⊕ R))=some (.inl ((l.foldl (fun s x=>max s (c x)) s:Nat):Int))
 |[],s,_=>rfl
 |x::l,s,h=>by
  simp only[G5,h x (.head _),Option.bind_some,List.foldl_cons];rw[show mx (s:Int) (c x:Int)=((max s (c x):Nat):Int) by rw[GH];split<;>omega];exact OW (R:=R) l (max s (c x)) fun a ha=>h a (.tail _ ha)
theorem Py :∀(l:List A1) (s:Nat),l.foldl (fun s x=>max s (Ml x)) s=max s (OA l)
 |[],s=>by simp[OA]
 |x::l,s=>by simp only[List.foldl_cons,OA];rw[Py l];omega
theorem Pz {N:Nat} (hN:40000000≤N):∀(n:Nat) (d:A1),Ml d≤n→FN d≤30000000→Ad N n d=some (Ml d:Int)
 |0,d,h,_=>by rw[AJ]at h;omega
 |n+1,d,h,hs=>by
  have hsz:=FE d;have hdp:=AJ d;have hl:=BR d.Kids;have hds:=UZ d.Kids;unfold Ad;rw[G4 d.Kids (by omega) (mk:=fun(s:Int) i=>(s,i)) (body:=fun(s:Int) x=>(Ad N n x).bind fun r=>some (.inl (mx s r))) (fin:=fun s=>s) (s:=(0:Int)) (by omega) ?_ ?_]
  ·rw[show(0:Int)=((0:Nat):Int)from rfl,OW (c:=Ml) d.Kids 0 (fun a ha=>Pz hN n a (by have:=Ca ha;omega) (by have:=BQ ha;omega)),Py];simp only[Option.bind_some,Option.some.injEq];rw[D2 (by omega) (by omega)];omega
  ·intro s i x hx hi;have e:ar .add .i64 (i:Int) 1=i+1:=D2 (by omega) (by omega);simp only[C4,B5,hi,decide_true,if_true,E2,hx,Option.bind_some,e];cases Ad N n x<;>rfl
  intro s;simp[C4,B5]
theorem Ah1 {N:Nat}(hN:40000000≤N){d:A1}(hs:FN d≤30000000):FV N d=some (decide (Ml d≤20∧FN d≤4101)):=by
 have:=Al6 d;unfold FV;rw[Pz hN N d (by omega) hs];simp only[Option.bind_some]
 by_cases h:Ml d≤20
 ·rw[if_pos (by rw[AU];exact decide_eq_true (by omega)),Kp hN N d (by omega) hs];simp only[Option.bind_some,Option.some.injEq,AU,decide_eq_decide];omega
 rw[if_neg (by rw[AU];simp;omega)];simp[h]
end
end Go.Ab
namespace Go.Ab
open Classical
noncomputable section
def Q7 (e:A9):List Int:=[e.Time,e.Source,e.Seq]
def Ix (e:A9):Bool:=(an (an (an (an (an (cmp .geq e.Time 0) (cmp .leq e.Time 1099511627776)) (cmp .geq e.Source 0)) (cmp .lss e.Source 8)) (cmp .geq e.Seq 0)) (cmp .leq e.Seq 1099511627776))
def CT (a b:A9):Bool:=decide (a.Source=b.Source)&&decide (a.Seq=b.Seq)
def Of (l:List A9)(i:Nat):Int:=
 match l[i]? with
 |none=>0
 |some e=>if Ix e=false then 2 else if 0<i∧0≤T6 (Q7 ((l[i - 1]?).getD e)) (Q7 e)then 14 else if(l.take i).any (fun x=>CT x e)=true then 7 else 0
def Mm (l:List A9):Int:=if 4096<l.length then 5 else S9 (Of l) (List.range l.length)
theorem Yd {N : Nat} (hN:40000000≤N) {l:List A9} (hl:l.length≤4096) {i:Nat} (hi:i<l.length):(loopN
                    (fun(s10:Int)=>
                     (
                      if cmp .lss s10 (i:Int)=true then
                       (B9 l s10).bind fun x12=>
                       (CY N x12 l[i]).bind fun r14=>
                       if r14=true then
                        some (.inr (.inr ()))
                       else
                        some (.inl (ar .add .i64 s10 1))
                      else
                       some (.inr (.inl ()))
                      :Option ((Int) ⊕ (Unit ⊕ Unit))))
                    N 0)=some (if(l.take i).any (fun x=>CT x l[i])=true then .inr ()else .inl ()):=by
 have hlen:(l.take i).length=i:=by rw[List.length_take];omega
 rw [IF (l:=l.take i) (fun x=>CT x l[i]) (by omega) (by omega) (fun j x hx hj=>by
     have hji:j<i:=by omega
     have e:ar .add .i64 (j:Int) 1=j+1:=D2 (by omega) (by omega)
     rw[List.getElem?_take_of_lt hji]at hx
     rw[if_pos (W4 (by omega)),E2,hx];simp only[Option.bind_some,e,CY,C5,H6];unfold CT
     split<;>rfl) (by rw[hlen,if_neg (Q6 (Int.lt_irrefl _))])]
theorem Ac5 {N:Nat} (hN:40000000≤N) {l:List A9}:DH N l=some (Mm l):=by
 unfold DH Mm
 by_cases h1:4096<l.length
 ·rw[if_pos (W5 (by rw[B5];omega)),if_pos h1]
 rw[if_neg (U1 (by rw[B5];omega)),if_neg h1];have hr:(List.range l.length).length=l.length:=List.length_range;rw[G4 (List.range l.length) (by omega) (mk:=fun(_:Unit) i=>i) (body:=AM fun i=>some (Of l i)) (fin:=fun _=>.inl ()) (s:=()) (by omega) ?_ ?_]
 ·rw[Y3 (F:=fun i=>some (Of l i)) (f:=Of l) fun x _=>rfl]
  by_cases h:S9 (Of l) (List.range l.length)=0
  ·rw[if_pos h,h];rfl
  rw[if_neg h];rfl
 ·intro s i x hx hi
  have hil:i<l.length:=by omega
  rw[List.getElem?_range hil]at hx
  cases hx;have e:ar .add .i64 (i:Int) 1=i+1:=D2 (by omega) (by omega);rw[if_pos (Ch (by omega)),GT hil];simp only[Option.bind_some];rw[Yd hN (by omega) hil]
  have hbs:Of l i=if Ix l[i]=false then 2 else if 0<i∧0≤T6 (Q7 ((l[i - 1]?).getD l[i])) (Q7 l[i])then 14 else if(l.take i).any (fun x=>CT x l[i])=true then 7 else 0:=by
   unfold Of;rw[List.getElem?_eq_getElem hil]
  unfold Ef FX AM;simp only[Option.bind_some,e];rw[hbs];have hp:(an (an (an (an (an (cmp .geq l[i].Time 0) (cmp .leq l[i].Time 1099511627776)) (cmp .geq l[i].Source 0)) (cmp .lss l[i].Source 8)) (cmp .geq l[i].Seq 0)) (cmp .leq l[i].Seq 1099511627776))=Ix l[i]:=rfl;rw[hp]
  cases Ix l[i]with
  |false=>rfl
  | true=>
   rw[if_neg (show¬(Ar.nt true=true) by decide),if_neg (show¬(true=false) by decide)]
   by_cases h0:0<i
   ·rw[if_pos (W5 (by omega))]
    have e1:ar .sub .i64 (i:Int) 1=((i - 1:Nat):Int):=by rw[It (by omega) (by omega)];omega
    have hi1:i - 1<l.length:=by omega
    rw[e1,GT hi1,List.getElem?_eq_getElem hi1];simp only[Option.bind_some,YI,Option.getD_some];have hk:T6 (EM ⟨l[i - 1].Time,l[i - 1].Source,l[i - 1].Seq⟩) (EM ⟨l[i].Time,l[i].Source,l[i].Seq⟩)=T6 (Q7 l[i - 1]) (Q7 l[i]):=rfl;rw[hk]
    by_cases h2:0≤T6 (Q7 l[i - 1]) (Q7 l[i])
    ·rw[if_pos (show cmp .geq (T6 (Q7 l[i - 1]) (Q7 l[i])) 0=true by rw[L3];exact decide_eq_true h2),if_pos (show 0<i∧0≤T6 (Q7 l[i - 1]) (Q7 l[i])from⟨h0,h2⟩)];rfl
    rw[if_neg (show¬(cmp .geq (T6 (Q7 l[i - 1]) (Q7 l[i])) 0=true) by rw[L3];simpa using h2),if_neg (show¬(0<i∧0≤T6 (Q7 l[i - 1]) (Q7 l[i]))from fun h=>h2 h.2)];cases(l.take i).any fun x=>CT x l[i]<;>rfl
   rw[if_neg (U1 (by omega)),if_neg (show¬(0<i∧0≤T6 (Q7 ((l[i - 1]?).getD l[i])) (Q7 l[i]))from fun h=>h0 h.1)];cases(l.take i).any fun x=>CT x l[i]<;>rfl
 intro s;rw[hr,if_neg Db]
def EO (p:List A9):List (E1×Bool):=p.map fun e=>(⟨e.Source,e.Seq⟩,true)
theorem Xq (p:List A9) (e:A9):∃b,Lr (EO p) ⟨e.Source,e.Seq⟩ false=some (p.any fun x=>CT x e,b):=by
 unfold Lr EO
 induction p with
 |nil=>exact⟨false,by simp⟩
 | cons x p ih=>
  obtain⟨b,ih⟩:=ih;rw[List.map_cons,List.find?_cons,List.any_cons]
  by_cases h:(⟨x.Source,x.Seq⟩:E1)=⟨e.Source,e.Seq⟩
  ·have ht:CT x e=true:=by
    simp only[E1.mk.injEq]at h
    simp[CT,h.1,h.2]
   exact⟨true,by simp[h,ht]⟩
  have ht:CT x e=false:=by
   simp only[E1.mk.injEq]at h
   simp only[CT,Bool.and_eq_false_iff,decide_eq_false_iff_not]
   by_cases h1:x.Source=e.Source
   ·exact .inr fun h2=>h ⟨h1,h2⟩
   exact .inl h1
  refine⟨b,?_⟩;simp only[h,decide_false,ht,Bool.false_or];exact ih
theorem WP {p:List A9}{e:A9}(h:(p.any fun x=>CT x e)=false):Kn (EO p) ⟨e.Source,e.Seq⟩ true=some (EO (p++[e])):=by
 unfold Kn;rw[if_neg]
 ·simp[EO]
 intro c
 rw[List.any_eq_true]at c
 obtain⟨q,hq,he⟩:=c
 simp only[EO,List.mem_map]at hq
 obtain⟨x,hx,rfl⟩:=hq
 rw[List.any_eq_false]at h
 refine h x hx ?_
 simp only[decide_eq_true_eq,E1.mk.injEq]at he
 simp[CT,he.1,he.2]
theorem Ze {B:Type} {N n:Nat} {M:Nat→B} {step:(Int×B)→Option ((Int×B) ⊕ (B ⊕ (Int×B)))} (f:Nat→Int) {k:B ⊕ (Int×B)→Option Int} (hN:n<N) (hn:n<1000000000)
 (hs:∀i:Nat,i<n→ar .add .i64 (i:Int) 1=i+1→step ((i:Int),M i)=some (if f i=0 then .inl ((i:Int)+1,M (i+1))else .inr (.inr (f i,M i)))) (he:step ((n:Int),M n)=some (.inr (.inl (M n)))) (h0:∀m,k (.inl m)=some 0) (h1:∀c m,k (.inr (c,m))=some c):(loopN step N (0,M 0)).bind k=some (S9 f (List.range n)):=by
 have key:∀(d i N:Nat),i+d=n→d<N→(loopN step N ((i:Int),M i)).bind k=some (S9 f (List.range' i d)):=by
  intro d
  induction d with
  |zero=>
   intro i N hi hN;obtain⟨N,rfl⟩:∃m,N=m+1:=⟨N - 1,by omega⟩;obtain rfl:i=n:=hi;simp only[loopN,he,Option.bind_some,h0];rfl
  |succ d ih=>
   intro i N hi hN;obtain⟨N,rfl⟩:∃m,N=m+1:=⟨N - 1,by omega⟩;rw[List.range'_succ]
   by_cases hf:f i=0
   ·simp only[loopN,hs i (by omega) (D2 (by omega) (by omega)),S9,hf,if_true];exact ih (i+1) N (by omega) (by omega)
   simp only[loopN,hs i (by omega) (D2 (by omega) (by omega)),S9,hf,if_false,Option.bind_some,h1]
 rw[List.range_eq_range'];exact key n 0 N (by omega) hN
theorem Vz {N:Nat} (hN:40000000≤N) {l:List A9}:X2 N l=some (Mm l):=by
 unfold X2 Mm
 by_cases h1:4096<l.length
 ·rw[if_pos (W5 (by rw[B5];omega)),if_pos h1]
 rw[if_neg (U1 (by rw[B5];omega)),if_neg h1];refine Ze (M:=fun i=>EO (l.take i)) (Of l) (by omega) (by omega) (fun i hil e=>?_) (by dsimp only;rw[if_neg Db]) (fun _=>rfl) (fun _ _=>rfl);obtain⟨b,hb⟩:=Xq (l.take i) l[i];have hp:Dt N l[i]=some (Ix l[i]):=rfl;have hst:CV N l[i]=some ⟨l[i].Source,l[i].Seq⟩:=rfl
 dsimp only
 rw[if_pos (Ch (by omega)),GT hil];simp only[Option.bind_some];unfold Of;rw[hp,hst,List.getElem?_eq_getElem hil];simp only[Option.bind_some,hb,e]
 cases Ix l[i]with
 |false=>rfl
 | true=>
  rw[if_neg (show¬(Ar.nt true=true) by decide),if_neg (show¬(true=false) by decide)]
  have ht:(if(l.take i).any (fun x=>CT x l[i])=true then some (.inr (.inr (7,EO (l.take i))))else(Kn (EO (l.take i)) ⟨l[i].Source,l[i].Seq⟩ true).bind fun l15=>some (.inl ((i:Int)+1,l15)):Option ((Int×(List (E1×Bool))) ⊕ (((List (E1×Bool))) ⊕ (Int×(List (E1×Bool))))))=some (if(if(l.take i).any (fun x=>CT x l[i])=true then(7:Int)else 0)=0 then .inl ((i:Int)+1,EO (l.take (i+1)))else .inr (.inr (if(l.take i).any (fun x=>CT x l[i])=true then(7:Int)else 0,EO (l.take i)))):=by
   by_cases h7:(l.take i).any (fun x=>CT x l[i])=true
   ·simp only[h7,if_true];rfl
   rw[if_neg h7,if_neg h7,WP (by simpa using h7),List.take_succ_eq_append_getElem hil];rfl
  by_cases h0:0<i
  ·have hi1:i - 1<l.length:=by omega
   rw[if_pos (W5 (by omega)),show ar .sub .i64 (i:Int) 1=((i - 1:Nat):Int) by rw[It (by omega) (by omega)];omega,GT hi1,List.getElem?_eq_getElem hi1];simp only[Option.bind_some,ZB hN,Option.getD_some];have hk:T6 [l[i - 1].Time,l[i - 1].Source,l[i - 1].Seq] [l[i].Time,l[i].Source,l[i].Seq]=T6 (Q7 l[i - 1]) (Q7 l[i]):=rfl;rw[hk]
   by_cases h2:0≤T6 (Q7 l[i - 1]) (Q7 l[i])
   ·rw[if_pos (show cmp .geq (T6 (Q7 l[i - 1]) (Q7 l[i])) 0=true by rw[L3];exact decide_eq_true h2),if_pos (show 0<i∧0≤T6 (Q7 l[i - 1]) (Q7 l[i])from⟨h0,h2⟩)];rfl
   rw[if_neg (show¬(cmp .geq (T6 (Q7 l[i - 1]) (Q7 l[i])) 0=true) by rw[L3];simpa using h2),if_neg (show¬(0<i∧0≤T6 (Q7 l[i - 1]) (Q7 l[i]))from fun h=>h2 h.2)];exact ht
  rw[if_neg (U1 (by omega)),if_neg (show¬(0<i∧0≤T6 (Q7 ((l[i - 1]?).getD l[i])) (Q7 l[i]))from fun h=>h0 h.1)];exact ht
end
end Go.Ab
namespace Go.Ab
open Classical
noncomputable section
theorem TW {α:Type}{l:List α}{k:Nat}(h:k≤l.length):N6 l none (some (k:Int)) none=some (l.take k):=by
 unfold N6;rw[if_pos (by simp;omega)];simp
end
end Go.Ab
namespace Go.Ab
open Classical
noncomputable section
mutual
theorem Ry :∀d:A1,FN d≤d.bulk
 |⟨_,_,ks⟩=>by have:=OJ ks;simp only[FN,A1.bulk];omega
theorem OJ :∀l:List A1,Gy l≤A1.bulks l
 |[]=>by simp[Gy]
 |a::l=>by have:=Ry a;have:=OJ l;simp only[Gy,A1.bulks];omega
end
end
end Go.Ab
namespace Go.Ab
open Classical
noncomputable section
abbrev DP :=A3
def dpr (b:DP):PR:=⟨b.v,b.at_⟩
def DY (b:PR):DP:=⟨b.Var,b.At⟩
theorem ZF (b:PR):dpr (DY b)=b:=rfl
theorem Tg (b:DP):DY (dpr b)=b:=rfl
abbrev J8 (s:List DP):List PR:=s.map dpr
theorem X6 (s:List PR):J8 (s.map DY)=s:=by rw[J8,List.map_map];exact(List.map_congr_left fun x _=>ZF x).trans (List.map_id s)
theorem Ah8 (s:List DP):(J8 s).map DY=s:=by rw[List.map_map];exact(List.map_congr_left fun x _=>Tg x).trans (List.map_id s)
theorem Vd {N:Nat} (hN:40000000≤N) {a b:List DP} (ha:a.length≤1000000) (hb:b.length≤1000000):N4 N [a,b]=some (a++b):=by
 unfold N4;rw[G4 [a,b] (by simp) (mk:=fun(s:Int) i=>(s,i)) (body:=fun(s:Int) (x:List DP)=>if cmp .lss (ar .add .i64 s (Ar.len x)) 0=true then none else some (.inl (ar .add .i64 s (Ar.len x)))) (fin:=fun s=>s) (s:=(0:Int)) (by simp;omega) ?_ ?_]
 ·have e1:ar .add .i64 0 (Ar.len a)=(a.length:Int):=by rw[B5,D2 (by omega) (by omega)];omega
  have e2:ar .add .i64 (a.length:Int) (Ar.len b)=((a.length+b.length:Nat):Int):=by rw[B5,D2 (by omega) (by omega)];omega
  simp only[G5,e1];rw[if_neg (Q6 (by omega))];simp only[e2];rw[if_neg (Q6 (by omega))];simp only[Option.bind_some]
  have hg:P1 N [] ((a.length+b.length:Nat):Int)=some []:=by
   unfold P1 VY;rw[if_pos (by simp;omega)]
  rw[hg];simp only[Option.bind_some];rw[G4 [a,b] (by simp) (mk:=fun(s:List DP) i=>(i,s)) (body:=fun(s:List DP) (x:List DP)=>(M5 s x).bind fun r=>some (.inl r)) (fin:=fun s=>s) (s:=([]:List DP)) (by simp;omega) ?_ ?_]
  ·simp only[G5];rw[AV (by simp;omega)];simp only[Option.bind_some,List.nil_append];rw[AV (by omega)];rfl
  ·intro s i x hx hi;have e:ar .add .i64 (i:Int) 1=i+1:=D2 (by omega) (by simp at hi;omega);rw[if_pos (W4 (by rw[B5];exact hi)),E2,hx,e];simp only[Option.bind_some];cases M5 s x<;>rfl
  intro s;rw[if_neg (Q6 (by rw[B5];omega))]
 ·intro s i x hx hi;have e:ar .add .i64 (i:Int) 1=i+1:=D2 (by omega) (by simp at hi;omega);rw[if_pos (W4 (by rw[B5];exact hi)),E2,hx,e];simp only[Option.bind_some]
  by_cases h:cmp .lss (ar .add .i64 s (Ar.len x)) 0=true
  ·rw[if_pos h,if_pos h];rfl
  rw[if_neg h,if_neg h];rfl
 intro s;rw[if_neg (Q6 (by rw[B5];omega))]
theorem Tj {N:Nat} (hN:40000000≤N) {a b:List DP} {n:Int} (hn:n≤1000000) (hla:a.length≤1000000) (hlb:b.length≤1000000) (ha:Rc (J8 a)) (hb:Rc (J8 b)) (hd:Bq (J8 a) (J8 b)) (ia:InS n (J8 a)) (ib:InS n (J8 b)):
 E8 N a b=some ((mrg (J8 a) (J8 b)).map DY):=by
 unfold E8;rw[Vd hN hla hlb];simp only[Option.bind_some];have hm:=MB _ (Nat.le_refl _) ha hb hd;have hin:∀x∈mrg (J8 a) (J8 b),0≤x.At∧x.At<n:=fun x hx=>(Bz.1 hx).elim (ia x) (ib x)
 have hs:IY (fun y1 y2=>Aw N y1 y2) (a++b)=some ((mrg (J8 a) (J8 b)).map DY):=by
  refine Yi ?_ (Dz.2 ⟨?_,?_⟩) (by simp;omega)
  ·have:=(HL _ (J8 a) (J8 b) (Nat.le_refl _)).map DY;refine this.trans (List.Perm.of_eq ?_);rw[←List.map_append,List.map_map];exact(List.map_congr_left fun x _=>Tg x).trans (List.map_id _)
  ·intro x _
   show(match some (ar .sub .i64 x.at_ x.at_)with|some c=>decide (0≤c)|none=>false)=true
   rw[It (by omega) (by omega)];simp
  rw[List.pairwise_map];refine List.Pairwise.imp_of_mem (fun{x y} hx hy hlt=>?_) hm;have:=hin x hx;have:=hin y hy
  constructor
  ·show(match some (ar .sub .i64 x.At y.At)with|some c=>decide (c<0)|none=>false)=true
   rw[It (by omega) (by omega)];simp;omega
  show(match some (ar .sub .i64 y.At x.At)with|some c=>decide (0≤c)|none=>false)=true
  rw[It (by omega) (by omega)];simp;omega
 rw[hs];rfl
theorem GQ {N:Nat} (hN:40000000≤N) {s:List DP} (hl:s.length≤1000000) {f:DP→Option Bool} {P:DP→Bool} (hf:∀x∈s,f x=some (P x)):F2 N s f=some (s.any P):=by
 unfold F2 O5
 obtain⟨j,h,hj⟩:=SJ (N:=N) (l:=s) (by omega) (by omega) (A:=Unit) (B:=Int) (step:=(fun(s1:Int)=>
  (
   if cmp .lss s1 (Ar.len s)=true then
    (B9 s s1).bind fun x3=>
    (f x3).bind fun r4=>
    if r4=true then
     some (.inr (.inr s1))
    else
     some (.inl (ar .add .i64 s1 1))
   else
    some (.inr (.inl ()))
   :Option ((Int) ⊕ (Unit ⊕ Int))))) P () (fun i=>i) (fun i x hx hi=>by
  have e:ar .add .i64 (i:Int) 1=i+1:=D2 (by omega) (by omega);simp only[C4,B5,hi,decide_true,if_true,E2,hx,Option.bind_some,e,hf x (List.mem_of_getElem? hx)]
  split<;>rfl) (by simp[C4,B5])
 rw[h]
 by_cases ha:s.any P=true
 ·rw[if_pos ha,ha];simp only[Option.bind_some,L3,decide_eq_true hj]
 rw[if_neg ha];simp only[Option.bind_some,L3]
 rw[Bool.not_eq_true]at ha
 rw[ha];rfl
theorem ZG {N:Nat} (hN:40000000≤N) {a b:List DP} (ha:a.length≤1000000) (hb:b.length≤1000000):Q2 N a b=some (!CI (J8 a) (J8 b)):=by
 unfold Q2
 rw[GQ hN ha (P:=fun x=>IR (J8 b) x.at_) fun x _=>by
  unfold Q8
  rw[GQ hN hb (P:=fun y=>decide (y.at_=x.at_)) fun y _=>by
   unfold O4
   rw[C5,show(decide (x.at_=y.at_))=decide (y.at_=x.at_)from decide_eq_decide.2 ⟨Eq.symm,Eq.symm⟩]]
  simp only[Option.bind_some,IR,J8,any_map]
  rfl]
 simp only[Option.bind_some,CI,J8,any_map,K6];rfl
theorem Ai0 {N:Nat}(hN:40000000≤N){s:List DP}(hl:s.length≤1000000)(i:Int):F2 N s (fun y1=>K3 N y1 i)=some (IR (J8 s) i):=by
 rw[GQ hN hl (f:=fun y1=>K3 N y1 i) (P:=fun y=>decide (y.at_=i)) fun y _=>rfl];simp only[IR,J8,any_map];rfl
theorem Ah9 {s:List DP}(h:s≠[]):J8 s≠[]:=fun e=>h (List.map_eq_nil_iff.1 e)
theorem Po {s:List DP}(h:s≠[])(hl:s.length≤1000000):∃x,B9 s (ar .sub .i64 (Ar.len s) 1)=some x∧x.at_=Bn (J8 s):=by
 rw[KC h hl]
 cases hg:s.getLast? with
 |none=>exact absurd (List.getLast?_eq_none_iff.1 hg) h
 |some x=>exact⟨x,rfl,by simp[Bn,J8,List.getLast?_map,hg,dpr]⟩
theorem Vb {N:Nat}{s:List DP}(h:s≠[])(hl:s.length≤1000000)(hr:0≤Bn (J8 s)∧Bn (J8 s)<1000000):M9 N s=some (Bn (J8 s)+1):=by
 unfold M9;obtain⟨x,hx,e⟩:=Po h hl;rw[hx];simp only[Option.bind_some];rw[e,D2 (by omega) (by omega)]
theorem Wg {N:Nat} (hN:40000000≤N) {l:List A9} {s:List DP} (hs:s.length≤1000000) (hw:WfS l (J8 s)) (c b:Int):N1 N ⟨l,c⟩ s b=some (Lw l (J8 s) b):=by
 unfold N1;have h1:UB 16 16 ([]:List A9)=some (List.replicate 16 []):=rfl;rw[h1];simp only[Option.bind_some];rw[G4 s (by omega) (mk:=fun(rows:List (List A9)) i=>(i,rows)) (body:=fun rows x=>if cmp .lss (dpr x).At b=true then(B9 rows (dpr x).Var).bind fun x9=>(B9 l (dpr x).At).bind fun x14=>(M5 x9 [x14]).bind fun l15=>(Fb rows (dpr x).Var (fun _=>l15)).bind fun l13=>some (.inl l13)else some (.inl rows)) (fin:=fun s=>s) (s:=List.replicate 16 []) (by omega) ?_ ?_]
 ·rw[Nh dpr l b hs hw];rfl
 ·intro rows i x hx hi;have e:ar .add .i64 (i:Int) 1=i+1:=D2 (by omega) (by omega);simp only[C4,B5,hi,decide_true,if_true,E2,hx,Option.bind_some,e]
  show(if decide (x.at_<b)=true then _ else _)=Option.bind (if decide (x.at_<b)=true then _ else _) _
  by_cases hb:x.at_<b
  ·rw [if_pos (decide_eq_true hb),if_pos (decide_eq_true hb)]
   show((B9 rows x.v).bind _)=((B9 rows x.v).bind _).bind _
   cases B9 rows x.v with
   |none=>rfl
   | some r=>
    simp only[Option.bind_some]
    show((B9 l x.at_).bind _)=((B9 l x.at_).bind _).bind _
    cases B9 l x.at_ with
    |none=>rfl
    | some y=>
     simp only[Option.bind_some]
     cases M5 r [y]with
     |none=>rfl
     |some q=>
      simp only[Option.bind_some]
      show((Fb rows x.v _).bind _)=((Fb rows x.v _).bind _).bind _
      cases Fb rows x.v fun _=>q<;>rfl
  rw[if_neg (by simpa using hb),if_neg (by simpa using hb)];rfl
 intro s;simp[C4,B5]
def NM (l:List A9)(p:A0)(b:List PR)(i:Nat):Bool:=match l[i]? with|some e=>decide (e.Typ=p.Typ)&&DO (Lw l b i) p.Var e p.cL|none=>false
theorem Rv {N:Nat}(hN:40000000≤N){l:List A9}{s:List DP}(hs:s.length<1000000)(hw:WfS l (J8 s))(c:Int){p:A0}(hc:p.cL.bulk≤16777216){i:Nat}(hi:i<l.length):
 I7 N ⟨l,c⟩ p s i=some (NM l p (J8 s) i):=by
 unfold I7 NM
 dsimp only
 rw[GT hi,List.getElem?_eq_getElem hi];simp only[Option.bind_some]
 by_cases ht:l[i].Typ=p.Typ
 ·rw[if_pos (K9 ht),Wg hN (by omega) hw];simp only[Option.bind_some];rw[Rs hN (Di l (by simpa using hs) _) _ _ hc];simp[ht]
 rw[if_neg (by rw[Z7 ht];simp)];simp[ht]
theorem XE {N:Nat} (hN:40000000≤N) {l:List A9} (hl:l.length≤100000) {p:A0} (hc:p.cL.bulk≤16777216) (hop:5≤p.Op∧p.Op≤7) {b s:List DP} (gb:Gd l (J8 b)) (gs:Gd l (J8 s)) (hn:s≠[]) (hd:Bq (J8 b) (J8 s)) (f:Int):
 N7 N ⟨l,f⟩ p b s=some (Dc l p (J8 b) (J8 s)):=by
 have lb:=gb.len;have ls:=gs.len
 rw[List.length_map]at lb ls
 have gm:=gb.mrg gs hd;have lm:=gm.len;have hnp:=Ah9 hn;have hlst:=gs.lst hnp;obtain⟨h0,h1,h2,hh⟩:=gs.hd hnp
 obtain⟨x0,hx0,e0⟩:∃x,B9 s 0=some x∧x.at_=Hk (J8 s):=by
  cases s with
  |nil=>exact absurd rfl hn
  |cons x s=>exact⟨x,rfl,rfl⟩
 obtain⟨x1,hx1,e1⟩:=Po hn (by omega);have hj:=Tj (n:=l.length) hN (by omega) (by omega) (by omega) gb.asc gs.asc hd gb.wf.ins gs.wf.ins;have ec:=X6 (mrg (J8 b) (J8 s))
 generalize (mrg (J8 b) (J8 s)).map DY=c at hj ec
 have lc:c.length≤100000:=by have:=congrArg List.length ec;rw[List.length_map]at this;omega
 have wc:WfS l (J8 c):=by rw[ec];exact gm.wf
 unfold N7 Dc;rw[hx0,hx1,hj];simp only[Option.bind_some]
 by_cases h6:p.Op=6
 ·rw[if_pos (K9 h6),if_pos h6];obtain⟨y1,hy1,t1⟩:=Iq (l:=l) (i:=Bn (J8 s)) (by omega) (by omega);obtain⟨y0,hy0,t0⟩:=Iq (l:=l) (i:=x0.at_) (by omega) (by omega);rw[e1,hy1,hy0];simp only[Option.bind_some,AU,t1,t0,e0]
 rw[if_neg h6,if_neg (by rw[Z7 h6];simp)]
 by_cases h7:p.Op=7
 ·rw[if_pos (K9 h7),if_pos h7,Wg hN (by omega) wc];simp only[Option.bind_some];rw[Rs hN (Di l (show(J8 c).length<1000000 by rw[List.length_map];omega) _) _ _ hc,ec];rfl
 rw[if_neg h7,if_neg (by rw[Z7 h7];simp)];obtain⟨n,hnn⟩:=Int.eq_ofNat_of_zero_le hlst.1;obtain⟨a,ha⟩:=Int.eq_ofNat_of_zero_le h0;rw[e0,ha,D2 (a:=((a:Nat):Int)) (by omega) (by omega),show((a:Int)+1)=((a+1:Nat):Int) by omega];rw[GJ (A:=Unit) (n:=n) (P:=Og l p (J8 b) (J8 s)) (u:=()) 0 ?_ ?_ n (a+1) N (by omega) (by omega) (by omega),Pj (by omega) (by omega) (by omega) hh hlst.2]
 ·cases NW l p (J8 b) (J8 s)<;>rfl
 ·intro i _ hi
  have hil:i<l.length:=by omega
  have e:ar .add .i64 (i:Int) 1=i+1:=D2 (by omega) (by omega);rw[if_pos (W4 (by omega)),Ai0 hN (by omega),Rv hN (by omega) wc _ hc hil,ec];simp only[Option.bind_some,K6,e];unfold Og NM;simp only[List.getElem?_eq_getElem hil];cases IR (J8 s) (i:Int)<;>by_cases ht:l[i].Typ=p.Typ<;>cases DO (Lw l (mrg (J8 b) (J8 s)) (i:Int)) p.Var l[i] p.cL<;>simp[ht]
 intro i hi;rw[if_neg (Q6 (by omega))]
end
end Go.Ab
namespace Go.Ab
open Classical
noncomputable section
end
end Go.Ab
namespace Go.Ab
open Classical
noncomputable section
theorem Ag6 {a b:Nat} (h:a+b<1000000):wr .i64 (sh .shr .u64 (wr .u64 (ar .add .i64 (a:Int) (b:Int))) 1)=(((a+b) / 2:Nat):Int):=by
 have hw:∀{n:Int},0≤n→n<1000000→IntKind.wrap .u64 n=n:=fun{n} h0 h1=>by
  have e:IntKind.wrap .u64 n=n % 18446744073709551616:=by
   unfold IntKind.wrap;simp[IntKind.bits,IntKind.signed]
  rw[e];omega
 rw[D2 (by omega) (by omega)]
 show IntKind.wrap .i64 (shI .shr .u64 (IntKind.wrap .u64 ((a:Int)+b)) 1)=_
 rw[hw (by omega) (by omega)]
 have e:shI .shr .u64 ((a:Int)+b) 1=((a:Int)+b) / 2:=by
  show((a:Int)+b).fdiv (2 ^ (min (1:Int).toNat 64))=_
  rw[show(2:Int) ^ (min (1:Int).toNat 64)=2 from rfl,Int.fdiv_eq_ediv_of_nonneg _ (by decide)]
 rw[e,Ba (by omega) (by omega)];omega
theorem Ao8 {n:Nat} {c:Nat→Bool} (hc:∀i j,i<j→j<n→c j=true→c i=true) {step:Int×Int→Option ((Int×Int) ⊕ Int)}
 (hs:∀i j:Nat,i<j→j≤n→step ((i:Int),(j:Int))=some (.inl (if c ((i+j) / 2)=true then((((i+j) / 2+1:Nat):Int),(j:Int))else((i:Int),(((i+j) / 2:Nat):Int)))))
 (he:∀i:Nat,step ((i:Int),(i:Int))=some (.inr (i:Int))):∀(k i j M:Nat),j - i≤k→i≤j→j≤n→k<M→(∀m,m<i→c m=true)→(∀m,j≤m→m<n→c m=false)→
 ∃r:Nat,r≤n∧(∀m,m<r→c m=true)∧(∀m,r≤m→m<n→c m=false)∧loopN step M ((i:Int),(j:Int))=some (r:Int):=by
 intro k
 induction k with
 |zero=>
  intro i j M h1 h2 h3 h4 h5 h6;obtain⟨M,rfl⟩:∃m,M=m+1:=⟨M - 1,by omega⟩
  have:i=j:=by omega
  subst this;exact⟨i,h3,h5,h6,by unfold loopN;rw[he]⟩
 | succ k ih=>
  intro i j M h1 h2 h3 h4 h5 h6;obtain⟨M,rfl⟩:∃m,M=m+1:=⟨M - 1,by omega⟩
  by_cases hij:i<j
  ·have key:∀(i' j':Nat),step ((i:Int),(j:Int))=some (.inl ((i':Int),(j':Int)))→j' - i'≤k→i'≤j'→j'≤n→(∀m,m<i'→c m=true)→(∀m,j'≤m→m<n→c m=false)→
    ∃r:Nat,r≤n∧(∀m,m<r→c m=true)∧(∀m,r≤m→m<n→c m=false)∧loopN step (M+1) ((i:Int),(j:Int))=some (r:Int):=by
    intro i' j' e a1 a2 a3 a4 a5;obtain⟨r,r1,r2,r3,r4⟩:=ih i' j' M a1 a2 a3 (by omega) a4 a5;exact⟨r,r1,r2,r3,by unfold loopN;rw[e];exact r4⟩
   have hst:=hs i j hij h3
   by_cases hm:c ((i+j) / 2)=true
   ·rw[if_pos hm]at hst
    refine key _ _ hst (by omega) (by omega) h3 (fun m hl=>?_) h6
    by_cases e:m=(i+j) / 2
    ·rw[e];exact hm
    exact hc m _ (by omega) (by omega) hm
   rw[if_neg hm]at hst
   refine key _ _ hst (by omega) (by omega) (by omega) h5 fun m hl hn=>?_
   rw[Bool.not_eq_true]at hm
   by_cases e:m=(i+j) / 2
   ·rw[e];exact hm
   cases hh:c m with
   |false=>rfl
   |true=>rw[hc _ m (by omega) hn hh]at hm;cases hm
  have:i=j:=by omega
  subst this;exact⟨i,h3,h5,h6,by unfold loopN;rw[he]⟩
theorem At5 {n:Nat} {c:Nat→Bool} (hc:∀i j,i<j→j<n→c j=true→c i=true) {step:Int×Int→Option ((Int×Int) ⊕ Int)} {M:Nat} (hM:n<M)
 (hs:∀i j:Nat,i<j→j≤n→step ((i:Int),(j:Int))=some (.inl (if c ((i+j) / 2)=true then((((i+j) / 2+1:Nat):Int),(j:Int))else((i:Int),(((i+j) / 2:Nat):Int)))))
 (he:∀i:Nat,step ((i:Int),(i:Int))=some (.inr (i:Int))):loopN step M (0,(n:Int))=some ((Classical.epsilon fun k:Nat=>k≤n∧(∀m,m<k→c m=true)∧∀m,k≤m→m<n→c m=false:Nat):Int)∧
  ∃k:Nat,(Classical.epsilon fun k:Nat=>k≤n∧(∀m,m<k→c m=true)∧∀m,k≤m→m<n→c m=false)=k∧k≤n∧(∀m,m<k→c m=true)∧∀m,k≤m→m<n→c m=false:=by
 obtain⟨r,r1,r2,r3,r4⟩:=Ao8 hc hs he n 0 n M (by omega) (by omega) (Nat.le_refl _) hM (fun m h=>absurd h (by omega)) fun m h1 h2=>absurd h2 (by omega);have sp:=Classical.epsilon_spec (p:=fun k:Nat=>k≤n∧(∀m,m<k→c m=true)∧∀m,k≤m→m<n→c m=false) ⟨r,r1,r2,r3⟩
 generalize (Classical.epsilon fun k:Nat=>k≤n∧(∀m,m<k→c m=true)∧∀m,k≤m→m<n→c m=false)=k at *
 obtain⟨s1,s2,s3⟩:=sp
 have:k=r:=by
  rcases Nat.lt_trichotomy k r with h|h|h
  ·have:=s3 k (Nat.le_refl _) (by omega);rw[r2 k h]at this;cases this
  ·exact h
  have:=r3 r (Nat.le_refl _) (by omega);rw[s2 r h]at this;cases this
 subst this;exact⟨r4,k,rfl,s1,s2,s3⟩
end
end Go.Ab
namespace Go.Ab
open Classical
noncomputable section
def TG :List PR→List PR→Option (List PR)
 |[],b=>some b
 |x::a,[]=>some (x::a)
 |x::a,y::b=>if x.At=y.At then none else if x.At<y.At then(TG a (y::b)).map (x:: ·)else(TG (x::a) b).map (y:: ·)
termination_by a b=>a.length+b.length
theorem Qv (b:List PR):TG [] b=some b:=by unfold TG;rfl
theorem SD (a:List PR):TG a []=some a:=by cases a<;>(unfold TG;rfl)
theorem SE (x y:PR)(a b:List PR):TG (x::a) (y::b)=if x.At=y.At then none else if x.At<y.At then(TG a (y::b)).map (x:: ·)else(TG (x::a) b).map (y:: ·):=by rw[TG]
theorem Ln :∀(n:Nat) {a b:List PR},a.length+b.length≤n→Rc a→Rc b→TG a b=if Bq a b then some (mrg a b)else none
 |n,[],b,_,_,_=>by rw[Qv,GI,if_pos];intro x hx;cases hx
 |n,x::a,[],_,_,_=>by rw[SD,Gf,if_pos];intro x _ y hy;cases hy
 |0,x::a,y::b,h,_,_=>by simp at h
 | n +1,x::a,y::b,h,ha,hb=>by
  have ha':=List.pairwise_cons.1 ha;have hb':=List.pairwise_cons.1 hb
  simp only[List.length_cons]at h
  rw[SE,Kw]
  by_cases e:x.At=y.At
  ·rw[if_pos e,if_neg];exact fun hh=>hh x (.head _) y (.head _) e
  rw[if_neg e]
  by_cases hl:x.At<y.At
  ·rw[if_pos hl,if_pos hl,Ln n (by simp;omega) ha'.2 hb]
   by_cases hd:Bq a (y::b)
   ·rw[if_pos hd,if_pos]
    ·rfl
    intro u hu v hv
    rcases List.mem_cons.1 hu with rfl|hu
    ·rcases List.mem_cons.1 hv with rfl|hv
     ·exact e
     have:=hb'.1 v hv;omega
    exact hd u hu v hv
   rw[if_neg hd,if_neg]
   ·rfl
   exact fun hh=>hd fun u hu v hv=>hh u (.tail _ hu) v hv
  rw[if_neg hl,if_neg hl,Ln n (by simp;omega) ha hb'.2]
  by_cases hd:Bq (x::a) b
  ·rw[if_pos hd,if_pos]
   ·rfl
   intro u hu v hv
   rcases List.mem_cons.1 hv with rfl|hv
   ·rcases List.mem_cons.1 hu with rfl|hu
    ·exact e
    have:=ha'.1 u hu;omega
   exact hd u hu v hv
  rw[if_neg hd,if_neg]
  ·rfl
  exact fun hh=>hd fun u hu v hv=>hh u hu v (.tail _ hv)
theorem EI {step:List PR×List PR×List PR→Option ((List PR×List PR×List PR) ⊕ (List PR ⊕ Unit))}
 (h00:∀o,step ([],[],o)=some (.inr (.inl o))) (h10:∀x a o,o.length≤1000000→step (x::a,[],o)=some (.inl (a,[],o++[x]))) (h01:∀y b o,o.length≤1000000→step ([],y::b,o)=some (.inl ([],b,o++[y])))
 (h11:∀x a y b o,o.length≤1000000→step (x::a,y::b,o)=if x.At=y.At then some (.inr (.inr ()))else if x.At<y.At then some (.inl (a,y::b,o++[x]))else some (.inl (x::a,b,o++[y]))):
 ∀(k:Nat) (a b o:List PR) (n:Nat),a.length+b.length≤k→k<n→o.length+k≤1000000→loopN step n (a,b,o)=some (match TG a b with|some m=>.inl (o++m)|none=>.inr ())
 |k,[],[],o,n,_,hn,_=>by
  obtain⟨n,rfl⟩:∃m,n=m+1:=⟨n - 1,by omega⟩;unfold loopN;rw[h00,Qv];simp
 |0,x::a,b,o,n,h,_,_=>by simp at h
 |0,[],y::b,o,n,h,_,_=>by simp at h
 |k+1,x::a,[],o,n,h,hn,ho=>by
  obtain⟨n,rfl⟩:∃m,n=m+1:=⟨n - 1,by omega⟩
  simp only[List.length_cons,List.length_nil]at h
  unfold loopN;rw[h10 _ _ _ (by omega)];have:=EI h00 h10 h01 h11 k a [] (o++[x]) n (by simp;omega) (by omega) (by simp;omega);simp only[this,SD];simp
 |k+1,[],y::b,o,n,h,hn,ho=>by
  obtain⟨n,rfl⟩:∃m,n=m+1:=⟨n - 1,by omega⟩
  simp only[List.length_cons,List.length_nil]at h
  unfold loopN;rw[h01 _ _ _ (by omega)];have:=EI h00 h10 h01 h11 k [] b (o++[y]) n (by simp;omega) (by omega) (by simp;omega);simp only[this,Qv];simp
 |k+1,x::a,y::b,o,n,h,hn,ho=>by
  obtain⟨n,rfl⟩:∃m,n=m+1:=⟨n - 1,by omega⟩
  simp only[List.length_cons]at h
  unfold loopN;rw[h11 _ _ _ _ _ (by omega),SE]
  by_cases e:x.At=y.At
  ·rw[if_pos e,if_pos e]
  rw[if_neg e,if_neg e]
  by_cases hl:x.At<y.At
  ·rw[if_pos hl,if_pos hl];have:=EI h00 h10 h01 h11 k a (y::b) (o++[x]) n (by simp;omega) (by omega) (by simp;omega);simp only[this];cases TG a (y::b)<;>simp
  rw[if_neg hl,if_neg hl];have:=EI h00 h10 h01 h11 k (x::a) b (o++[y]) n (by simp;omega) (by omega) (by simp;omega);simp only[this];cases TG (x::a) b<;>simp
theorem NF {α:Type}(x:α)(l:List α):cmp .gtr (Ar.len (x::l)) 0=true:=W5 (by rw[B5,List.length_cons];omega)
theorem MD {α:Type}:cmp .gtr (Ar.len ([]:List α)) 0=false:=by rw[B5,Z0];simp
theorem Tf {α:Type}(x:α)(l:List α):cmp .eql (Ar.len (x::l)) 0=false:=Z7 (by rw[B5,List.length_cons];omega)
theorem Ah7 {α:Type}:cmp .eql (Ar.len ([]:List α)) 0=true:=K9 rfl
theorem Kx {N:Nat}(hN:40000000≤N){a b:List PR}(h:a.length+b.length≤100000):U6 N a b=some (match TG a b with|some m=>(m,true)|none=>([],false)):=by
 unfold U6;rw[EI (fun o=>?_) (fun x a o ho=>?_) (fun y b o ho=>?_) (fun x a y b o ho=>?_) (a.length+b.length) a b [] N (Nat.le_refl _) (by omega) (by simp;omega)]
 ·cases TG a b<;>rfl
 ·simp only[MD,G9,Bool.or_false,Bool.false_eq_true,if_false]
 ·simp only[MD,NF,Ah7,G9,H6,Bool.or_false,Bool.and_false,Bool.false_eq_true,if_false,if_true,NC,Jp,Option.bind_some];rw[AV (by simp;omega)];rfl
 ·simp only[MD,NF,Tf,G9,H6,Bool.false_or,Bool.false_and,Bool.false_eq_true,if_false,if_true,NC,Jp,Option.bind_some];rw[AV (by simp;omega)];rfl
 simp only[NF,Tf,G9,H6,Bool.or_self,Bool.and_self,Bool.false_eq_true,if_false,if_true,NC,Jp,Option.bind_some];rw[AV (by simp;omega),AV (by simp;omega)]
 by_cases e:x.At=y.At
 ·rw[if_pos (K9 e),if_pos e]
 rw[if_neg (by rw[Z7 e];simp),if_neg e]
 by_cases hl:x.At<y.At
 ·rw[if_pos (W4 hl),if_pos hl];rfl
 rw[if_neg (Q6 hl),if_neg hl];rfl
theorem Pd {N:Nat} (hN:40000000≤N) {s:List PR} (hl:s.length≤1000000) (i:Int):CC N s i=some (IR s i):=by
 unfold CC;rw[IF (N:=N) (l:=s) (fun x=>decide (x.At=i)) (by omega) (by omega) ?_ ?_]
 ·unfold IR;cases s.any fun x=>decide (x.At=i)<;>rfl
 ·intro j x hx hj;have e:ar .add .i64 (j:Int) 1=j+1:=D2 (by omega) (by omega);rw[if_pos (Ch hj),E2,hx];simp only[Option.bind_some,e,C5]
  split<;>rfl
 rw[if_neg Db]
theorem Ag9 {N:Nat}(hN:40000000≤N){l:List A9}{s:List PR}(hs:s.length<1000000)(hw:WfS l s){p:A0}(hc:p.cL.bulk≤16777216){i:Nat}(hi:i<l.length):
 Ez N p l s i=some (NM l p s i):=by
 unfold Ez NM;rw[GT hi,List.getElem?_eq_getElem hi];simp only[Option.bind_some]
 by_cases ht:l[i].Typ=p.Typ
 ·rw[if_pos (K9 ht),Kq hN (by omega) hw];simp only[Option.bind_some];rw[FT hN (Di l (by simpa using hs) _) _ _ hc];simp[ht]
 rw[if_neg (by rw[Z7 ht];simp)];simp[ht]
theorem UJ {N:Nat} (hN:40000000≤N) {l:List A9} (hl:l.length≤10000) {p:A0} (hc:p.cL.bulk≤16777216) {b s:List PR} (gb:Gd l b) (gs:Gd l s) (hn:s≠[]) (hd:Bq b s):
 Ac N p l b s=some (if 5≤p.Op∧p.Op≤7 then Dc l p b s else true):=by
 have lb:=gb.len;have ls:=gs.len;have gm:=gb.mrg gs hd;have lm:=gm.len;have hlst:=gs.lst hn;obtain⟨h0,h1,h2,hh⟩:=gs.hd hn;obtain⟨x0,hx0,e0⟩:=UQ hn;obtain⟨x1,hx1,_,e1⟩:=Er hn;unfold Ac;rw[Kx hN (by omega),Ln _ (Nat.le_refl _) gb.asc gs.asc,if_pos hd,hx0,KC hn (by omega),hx1];simp only[Option.bind_some]
 by_cases h6:p.Op=6
 ·rw[if_pos (K9 h6),if_pos (by omega),Dc,if_pos h6];obtain⟨y1,hy1,t1⟩:=Iq (l:=l) (i:=x1.At) (by omega) (by omega);obtain⟨y0,hy0,t0⟩:=Iq (l:=l) (i:=x0.At) (by omega) (by omega);rw[hy1,hy0];simp only[Option.bind_some,AU,t1,t0,e0,e1]
 rw[if_neg (by rw[Z7 h6];simp)]
 by_cases h7:p.Op=7
 ·rw[if_pos (K9 h7),if_pos (by omega),Dc,if_neg h6,if_pos h7,Kq hN (by omega) gm.wf];simp only[Option.bind_some];rw[FT hN (Di l (by omega) _) _ _ hc];rfl
 rw[if_neg (by rw[Z7 h7];simp)];obtain⟨n,hnn⟩:=Int.eq_ofNat_of_zero_le hlst.1;obtain⟨a,ha⟩:=Int.eq_ofNat_of_zero_le h0;rw[e0,ha,D2 (a:=((a:Nat):Int)) (by omega) (by omega),show((a:Int)+1)=((a+1:Nat):Int) by omega]
 by_cases h5:p.Op=5
 ·rw[if_pos (by omega),Dc,if_neg h6,if_neg h7];rw[GJ (A:=Unit) (n:=n) (P:=Og l p b s) (u:=()) 0 ?_ ?_ n (a+1) N (by omega) (by omega) (by omega),Pj (by omega) (by omega) (by omega) hh hlst.2]
  ·cases NW l p b s<;>rfl
  ·intro i _ hi
   have hil:i<l.length:=by omega
   have e:ar .add .i64 (i:Int) 1=i+1:=D2 (by omega) (by omega);rw[if_pos (by rw[H6,W4 (by omega),K9 h5];rfl),Pd hN (by omega),GT hil];simp only[Option.bind_some];rw[Kq hN (by omega) gm.wf];simp only[Option.bind_some,e];rw[FT hN (Di l (by omega) _) _ _ hc];simp only[Option.bind_some,K6,C5];unfold Og;simp only[List.getElem?_eq_getElem hil];cases IR s (i:Int)<;>by_cases ht:l[i].Typ=p.Typ<;>cases DO (Lw l (mrg b s) (i:Int)) p.Var l[i] p.cL<;>simp[ht]
  intro i hi;rw[if_neg (by rw[H6];have:=Q6 (a:=(i:Int)) (b:=x1.At) (by omega);rw[Bool.not_eq_true]at this;rw[this];simp)]
 rw[if_neg (by omega)];obtain⟨M,rfl⟩:∃m,N=m+1:=⟨N - 1,by omega⟩;unfold loopN;rw[if_neg (by rw[H6,Z7 h5];simp)];rfl
end
end Go.Ab
namespace Go.Ab
open Classical
noncomputable section
def EG (l:List A9)(r:O7):Option Nat:=l.findIdx? fun e=>decide (Q7 e=EM r)
theorem Pg {α:Type} {l:List α} {step:Int→Option (Int ⊕ (Unit ⊕ Int))} (P:α→Bool) (hs:∀(i:Nat) (h:i<l.length),step (i:Int)=some (if P l[i]=true then .inr (.inr (i:Int))else .inl ((i:Int)+1))) (he:step (l.length:Int)=some (.inr (.inl ()))):
 ∀(d i N:Nat),i+d=l.length→d<N→loopN step N (i:Int)=some (match(l.drop i).findIdx? P with|some k=>.inr ((i+k:Nat):Int)|none=>.inl ())
 |0,i,N,h,hN=>by
  obtain⟨N,rfl⟩:∃m,N=m+1:=⟨N - 1,by omega⟩
  have:i=l.length:=by omega
  subst this;unfold loopN;rw[he,List.drop_eq_nil_of_le (Nat.le_refl _)];simp
 |d+1,i,N,h,hN=>by
  obtain⟨N,rfl⟩:∃m,N=m+1:=⟨N - 1,by omega⟩
  have hi:i<l.length:=by omega
  unfold loopN;rw[hs i hi,List.drop_eq_getElem_cons hi,List.findIdx?_cons]
  by_cases hp:P l[i]=true
  ·rw[if_pos hp,if_pos hp];simp
  rw[if_neg hp,if_neg hp];have:=Pg P hs he d (i+1) N (by omega) (by omega);rw[show((i:Int)+1)=((i+1:Nat):Int) by omega];simp only[this]
  cases(l.drop (i+1)).findIdx? P with
  |none=>rfl
  |some k=>simp;omega
theorem WT (e:A9)(r:O7):an (cmp .eql e.Time r.Time) (an (cmp .eql e.Source r.Source) (an (cmp .eql e.Seq r.Seq) true))=decide (Q7 e=EM r):=by
 simp only[H6,C5,Bool.and_true,Q7,EM,List.cons.injEq,and_true];rw[Bool.eq_iff_iff];simp
theorem SN {N:Nat} (hN:40000000≤N) {l:List A9} (hl:l.length≤1000000) (r:O7):Cq N l r=some (match EG l r with|some i=>(i:Int)|none=> -1):=by
 unfold Cq
 have h:=fun hs he=>Pg (l:=l) (step:=(fun(s1:Int)=>
  (
   if cmp .lss s1 (Ar.len l)=true then
    (B9 l s1).bind fun x3=>
    (FY N x3).bind fun r4=>
    if an (cmp .eql r4.Time r.Time) (an (cmp .eql r4.Source r.Source) (an (cmp .eql r4.Seq r.Seq) true))=true then
     some (.inr (.inr s1))
    else
     some (.inl (ar .add .i64 s1 1))
   else
    some (.inr (.inl ()))
   :Option ((Int) ⊕ (Unit ⊕ Int))))) (fun e=>decide (Q7 e=EM r)) hs he l.length 0 N (by omega) (by omega)
 have h:=h (fun i hi=>by
  rw[if_pos (Ch (by omega)),E2,List.getElem?_eq_getElem hi,D2 (by omega) (by omega)];unfold FY;simp only[Option.bind_some,WT]
  split<;>rfl) (by rw[if_neg Db])
 rw[show((0:Nat):Int)=0 from rfl]at h
 rw[h,List.drop_zero];unfold EG
 cases l.findIdx? fun e=>decide (Q7 e=EM r)with
 |none=>rfl
 |some k=>simp
theorem scmp_eq {N:Nat}(hN:40000000≤N)(e:A9)(r:O7):V7 N e r=some (T6 (Q7 e) (EM r)):=by
 unfold V7;rw[IK,IK,IK];simp only[Option.bind_some];rw[or_eq hN (by simp),Q7,EM,lex3];rfl
theorem ZJ {l:List A9} (hl:l.length≤4096) (h:Mm l=0):∀(d i:Nat),i+d+1<l.length→∀(h1:i<l.length) (h2:i+d+1<l.length),T6 (Q7 l[i]) (Q7 l[i+d+1])<0:=by
 have hc:∀i,i<l.length→Of l i=0:=by
  unfold Mm at h
  rw[if_neg (by omega)]at h
  exact fun i hi=>Dp.1 h i (List.mem_range.2 hi)
 have h1:∀i,∀(h2:i+1<l.length),T6 (Q7 l[i]) (Q7 l[i+1])<0:=fun i h2=>by
  have:=hc (i+1) h2
  unfold Of at this
  rw[List.getElem?_eq_getElem h2]at this
  dsimp only at this
  split at this
  ·cases this
  split at this
  ·cases this
  rename_i hh
  have hi:i<l.length:=by omega
  simp only[Nat.add_sub_cancel,List.getElem?_eq_getElem hi,Option.getD_some,not_and]at hh
  have:=hh (by omega);omega
 intro d
 induction d with
 |zero=>intro i _ _ h2;exact h1 i h2
 |succ d ih=>
  intro i _ hi h2;exact JN (ih i (by omega) hi (by omega)) (h1 (i+d+1) h2)
theorem Vj {l:List A9}(hl:l.length≤4096)(h:Mm l=0){i j:Nat}(hij:i<j)(hj:j<l.length):T6 (Q7 (l[i]'(by omega))) (Q7 l[j])<0:=by
 have:=ZJ hl h (j - i - 1) i (by omega) (by omega) (by omega)
 simpa only[show i+(j - i - 1)+1=j by omega]using this
theorem Ga {l:List A9}{r:O7}{i:Nat}(h:EG l r=some i):∃hi:i<l.length,Q7 l[i]=EM r:=by
 unfold EG at h
 obtain⟨hi,h1,_⟩:=List.findIdx?_eq_some_iff_getElem.1 h;exact⟨hi,of_decide_eq_true h1⟩
theorem Ad4 {l:List A9}(hl:l.length≤4096)(hc:Mm l=0){r:O7}{i:Nat}(hi:i<l.length)(h:Q7 l[i]=EM r):EG l r=some i:=by
 unfold EG;rw[List.findIdx?_eq_some_iff_getElem];refine⟨hi,decide_eq_true h,fun j hji hp=>?_⟩;have:=Vj hl hc hji hi
 rw[h,←of_decide_eq_true hp,Gg]at this
 omega
theorem Wa {N:Nat} (hN:40000000≤N) {l:List A9} (hl:l.length≤4096) (hc:Mm l=0) (r:O7):∃k:Nat,Bd N l r=some ((k:Int),(EG l r).isSome,0)∧∀i,EG l r=some i→k=i:=by
 unfold Bd;rw[Vz hN,hc];simp only[Option.bind_some];rw[if_neg (J6 rfl)];unfold I1
 have hgt:∀{i:Nat} (h:i<l.length),(match l[i]? with|some x=>decide (T6 (Q7 x) (EM r)<0)|none=>false)=decide (T6 (Q7 l[i]) (EM r)<0):=fun{i} h=>by rw[List.getElem?_eq_getElem h]
 have ho:∀i j,i<j→j<l.length→(match l[j]? with|some x=>decide (T6 (Q7 x) (EM r)<0)|none=>false)=true→(match l[i]? with|some x=>decide (T6 (Q7 x) (EM r)<0)|none=>false)=true:=fun i j hij hj h=>by
  rw[hgt hj]at h
  rw[hgt (by omega)];exact decide_eq_true (JN (Vj hl hc hij hj) (of_decide_eq_true h))
 rw[B5]
 have hk:=fun hs he=>At5 (n:=l.length) (c:=fun i=>match l[i]? with|some x=>decide (T6 (Q7 x) (EM r)<0)|none=>false) ho (M:=N) (by omega) (step:=fun(s1:Int×Int)=>
  (
   if cmp .lss s1.1 s1.2=true then
    (B9 l (wr .i64 (sh .shr .u64 (wr .u64 (ar .add .i64 s1.1 s1.2)) 1))).bind fun x3=>
    (V7 N x3 r).bind fun r4=>
    if cmp .lss r4 0=true then
     some (.inl (ar .add .i64 (wr .i64 (sh .shr .u64 (wr .u64 (ar .add .i64 s1.1 s1.2)) 1)) 1,s1.2))
    else
     some (.inl (s1.1,wr .i64 (sh .shr .u64 (wr .u64 (ar .add .i64 s1.1 s1.2)) 1)))
   else
    some (.inr s1.1)
   :Option ((Int×Int) ⊕ (Int)))) hs he
 obtain⟨e,k,ek,k1,k2,k3⟩:=hk (fun i j hij hj=>by
  have hm2:(i+j) / 2<l.length:=by omega
  dsimp only
  rw[if_pos (W4 (by omega)),Ag6 (by omega),E2,List.getElem?_eq_getElem hm2];simp only[Option.bind_some];rw[scmp_eq hN];simp only[Option.bind_some]
  by_cases hc:T6 (Q7 l[(i+j) / 2]) (EM r)<0
  ·rw[if_pos (W4 hc),if_pos (decide_eq_true hc),D2 (by omega) (by omega)];rfl
  rw[if_neg (Q6 hc),if_neg (by simpa using hc)]) (fun i=>by dsimp only;rw[if_neg (Q6 (by omega))])
 rw[ek]at e
 rw[e];simp only[Option.bind_some];have b1:∀m (hm:m<l.length),m<k→T6 (Q7 l[m]) (EM r)<0:=fun m hm h=>of_decide_eq_true (by have:=k2 m h;rw[hgt hm]at this;exact this);have b2:∀m (hm:m<l.length),k≤m→¬T6 (Q7 l[m]) (EM r)<0:=fun m hm h=>of_decide_eq_false (by have:=k3 m h hm;rw[hgt hm]at this;exact this)
 have hu:∀i,EG l r=some i→k=i:=fun i hi=>by
  obtain⟨hil,he⟩:=Ga hi
  rcases Nat.lt_trichotomy k i with h|h|h
  ·have:=Vj hl hc h hil
   rw[he]at this
   exact absurd this (b2 k (by omega) (Nat.le_refl _))
  ·exact h
  have:=b1 i hil h
  rw[he,Gg]at this;omega
 refine⟨k,?_,hu⟩
 by_cases hkl:k<l.length
 ·rw[if_pos (W4 (by omega)),E2,List.getElem?_eq_getElem hkl];simp only[Option.bind_some];rw[scmp_eq hN];simp only[Option.bind_some,C5];refine congrArg (fun x=>some ((k:Int),x,(0:Int))) ?_
  by_cases h0:T6 (Q7 l[k]) (EM r)=0
  ·rw[Ad4 hl hc hkl (VQ h0)];simp[h0]
  cases hp:EG l r with
  |none=>simp[h0]
  |some i=>
   have:=hu i hp;subst this;obtain⟨_,he⟩:=Ga hp
   rw[he,Gg]at h0;exact absurd rfl h0
 rw[if_neg (Q6 (by omega))];simp only[Option.bind_some];refine congrArg (fun x=>some ((k:Int),x,(0:Int))) ?_
 cases hp:EG l r with
 |none=>rfl
 |some i=>
  have:=hu i hp;subst this;obtain⟨h,_⟩:=Ga hp;exact absurd h hkl
end
end Go.Ab
