/- GVV3 GVV5 GVV6 GVV7 GVW0 GVW1 GVW2 GVW3 GVW4 GVW5 -/
import Derived.Test.YtjhobbohibnioaaGreatDoorE17
set_option linter.all false
open List (countP_append)
open Go.Ab.Ar (ar cmp)
namespace Go.Ab
noncomputable section
def Nt (b:Bool):B3:=if b=true then⟨1,1,⟨#[]⟩⟩else⟨1,0,⟨#[]⟩⟩
def Aa4 (op:Int)(kinds:List Int)(k:Int):Bool:=
 if op=5∨op=6∨op=7∨op=8 then decide (k=0)else if op=10∨op=11∨op=12 then decide (k=1)else if op=9 then decide (k=kinds.getD 0 0)else true
def Zr (op:Int)(kinds:List Int):Int:=if kinds.all (Aa4 op kinds)=true then 0 else 9
instance (x y:B3):Decidable (x=y):=by
 obtain⟨a,b,c⟩:=x;obtain⟨d,e,f⟩:=y;exact decidable_of_iff (a=d∧b=e∧c=f) (by simp)
def Ab8 (op:Int)(l:List B3):B3:=
 let a:=l.getD 0 EM
 let b:=l.getD (l.length - 1) EM
 if op=9 then Nt (decide (a=l.getD 1 EM))else if op=5 then⟨0,ar .add .i64 a.Num b.Num,⟨#[]⟩⟩else if op=6 then⟨0,ar .sub .i64 a.Num b.Num,⟨#[]⟩⟩
 else if op=7 then Nt (decide (a.Num<b.Num))else if op=8 then Nt (decide (a.Num≤b.Num))else if op=10 then Nt (decide (a.Num=1)&&decide (b.Num=1))else if op=11 then Nt (decide (a.Num=1)||decide (b.Num=1))else Nt (!decide (a.Num=1))
mutual
def Ty (R:B1→B3×Int):B1→B3×Int
 |⟨op,args,var,field,kind,val⟩=>
  if args.length=0 then R ⟨op,args,var,field,kind,val⟩else
  match WQ R args with
  | .inr f=>(EM,f)
  | .inl l=>if Zr op (l.map (·.Kind))≠0 then(EM,Zr op (l.map (·.Kind)))else(Ab8 op l,0)
def WQ (R:B1→B3×Int):List B1→List B3 ⊕ Int
 |[]=>.inl []
 |a::r=>if(Ty R a).2≠0 then .inr (Ty R a).2 else match WQ R r with| .inr f=>.inr f| .inl l=>.inl ((Ty R a).1::l)
end
def ZD (env:Jq)(own:Int)(ev:B8)(x:B1):B3×Int:=if P0 x=0 then Ty (Af4 env own ev) x else(EM,P0 x)
end
end Go.Ab
namespace Go.Ab
noncomputable section
open Classical
def NT (env:Jq)(own:Int)(ev:B8)(x:B1):Bool:=decide ((ZD env own ev x).2=0)&&decide ((ZD env own ev x).1=⟨1,1,⟨#[]⟩⟩)
end
end Go.Ab
namespace Go.Ab
noncomputable section
end
end Go.Ab
namespace Go.Ab
noncomputable section
end
end Go.Ab
namespace Go.Ab
open Classical
noncomputable section
abbrev PR :=P1
def mrg :List PR→List PR→List PR
 |[],b=>b
 |x::a,[]=>x::a
 |x::a,y::b=>if x.At<y.At then x::mrg a (y::b)else y::mrg (x::a) b
 termination_by a b=>a.length+b.length
theorem Tg (b:List PR):mrg [] b=b:=by unfold mrg;rfl
theorem Qf (a:List PR):mrg a []=a:=by cases a<;>(unfold mrg;rfl)
theorem Qg (x y:PR)(a b:List PR):mrg (x::a) (y::b)=if x.At<y.At then x::mrg a (y::b)else y::mrg (x::a) b:=by rw[mrg]
theorem IT :∀(n:Nat) (a b:List PR),a.length+b.length≤n→(mrg a b).Perm (a++b)
 |_,[],b,_=>by rw[Tg];exact .refl _
 |_,x::a,[],_=>by rw[Qf];simp
 |0,x::a,y::b,h=>by simp at h
 |n+1,x::a,y::b,h=>by
  simp only[List.length_cons]at h
  rw[Qg]
  split
  ·exact(IT n a (y::b) (by simp;omega)).cons x
  exact((IT n (x::a) b (by simp;omega)).cons y).trans (List.perm_middle.symm)
theorem DE {a b:List PR}{x:PR}:x∈mrg a b↔x∈a∨x∈b:=by rw[(IT _ a b (Nat.le_refl _)).mem_iff,List.mem_append]
theorem Th (a b:List PR):(mrg a b).length=a.length+b.length:=by rw[(IT _ a b (Nat.le_refl _)).length_eq,List.length_append]
def Xr (a:List PR):Prop:=a.Pairwise fun x y=>x.At<y.At
def Jt (a b:List PR):Prop:=∀x∈a,∀y∈b,x.At≠y.At
theorem Oq :∀(n:Nat) {a b:List PR},a.length+b.length≤n→Xr a→Xr b→Jt a b→Xr (mrg a b)
 |_,[],b,_,_,hb,_=>by rw[Tg];exact hb
 |_,x::a,[],_,ha,_,_=>by rw[Qf];exact ha
 |0,x::a,y::b,h,_,_,_=>by simp at h
 | n+1,x::a,y::b,h,ha,hb,hd=>by
  simp only[List.length_cons]at h
  unfold Xr at ha hb
  rw[List.pairwise_cons]at ha hb
  rw[Qg];have hxy:=hd x (by simp) y (by simp)
  split
  ·rename_i hlt;refine List.pairwise_cons.2 ⟨fun z hz=>?_,Oq n (by simp;omega) ha.2 (List.pairwise_cons.2 hb) fun u hu v hv=>hd u (by simp[hu]) v hv⟩
   rcases DE.1 hz with hz|hz
   ·exact ha.1 z hz
   rcases List.mem_cons.1 hz with rfl|hz
   ·exact hlt
   have:=hb.1 z hz;omega
  rename_i hlt;refine List.pairwise_cons.2 ⟨fun z hz=>?_,Oq n (by simp;omega) (List.pairwise_cons.2 ha) hb.2 fun u hu v hv=>hd u hu v (by simp[hv])⟩
  rcases DE.1 hz with hz|hz
  ·rcases List.mem_cons.1 hz with rfl|hz
   ·omega
   have:=ha.1 z hz;omega
  exact hb.1 z hz
def InS (n:Int)(s:List PR):Prop:=∀x∈s,0≤x.At∧x.At<n
theorem N9 {a b:Int}(h0: -9223372036854775808≤a - b)(h1:a - b<9223372036854775808):ar .sub .i64 a b=a - b:=EW h0 h1
def WD (s:List PR)(i:Int):Bool:=s.any fun x=>decide (x.At=i)
def ZZ (a b:List PR):Bool:=a.any fun x=>WD b x.At
theorem YC {s:List PR}{i:Int}:WD s i=true↔∃x∈s,x.At=i:=by simp[WD]
theorem FF {α:Type}{l:List α}{i:Int}(h:i<l.length):cmp .lss i (Ar.len l)=true:=L4 h
theorem JJ {α:Type}{l:List α}:¬cmp .lss (l.length:Int) (Ar.len l)=true:=K9 (Int.lt_irrefl _)
def Zz (s:List PR):Int:=match s with|[]=>0|x::_=>x.At
def GH (s:List PR):Int:=match s.getLast? with|none=>0|some x=>x.At
theorem JK {s:List PR}(h:s≠[]):∃x,s.getLast? =some x∧x∈s∧GH s=x.At:=by
 cases hs:s.getLast? with
 |none=>exact absurd (List.getLast?_eq_none_iff.1 hs) h
 |some x=>exact⟨x,rfl,List.mem_of_getLast? hs,by simp[GH,hs]⟩
theorem Ms {s:List PR}(ha:Xr s):∀x∈s,x.At≤GH s:=by
 intro x hx
 rcases List.eq_nil_or_concat s with rfl|⟨q,y,rfl⟩
 ·cases hx
 rw[List.concat_eq_append]at *
 have e:GH (q++[y])=y.At:=by simp[GH]
 rw[e]
 unfold Xr at ha
 rw[List.pairwise_append]at ha
 rcases List.mem_append.1 hx with h|h
 ·have:=ha.2.2 x h y (by simp);omega
 rw[List.mem_singleton.1 h];exact Int.le_refl _
theorem TF :∀{s:List PR} {k:Int} {m:Nat},Xr s→(∀x∈s,k≤x.At∧x.At<k+m)→s.length≤m
 |[],_,_,_,_=>Nat.zero_le _
 |x::s,k,m,ha,h=>by
  unfold Xr at ha
  rw[List.pairwise_cons]at ha
  have hx:=h x (by simp);obtain⟨m,rfl⟩:∃q,m=q+1:=⟨m - 1,by omega⟩
  have:=TF (s:=s) (k:=x.At+1) (m:=m) ha.2 fun y hy=>by have:=ha.1 y hy;have:=h y (by simp[hy]);omega
  simp;omega
end
end Go.Ab
namespace Go.Ab
open Classical
noncomputable section
def rowP (l:List B8)(s:List PR)(b v:Int):List B8:=s.filterMap fun x=>if x.At<b∧x.Var=v then l[x.At.toNat]? else none
def YK (l:List B8)(s:List PR)(b:Int):Jq:=⟨(List.range 16).map fun(v:Nat)=>rowP l s b (v:Int)⟩
def WfS (l:List B8)(s:List PR):Prop:=∀x∈s,(0≤x.Var∧x.Var<16)∧(0≤x.At∧x.At<l.length)
theorem WfS.ins {l:List B8}{s:List PR}(h:WfS l s):InS l.length s:=fun x hx=>(h x hx).2
end
end Go.Ab
namespace Go.Ab
open Classical
noncomputable section
theorem LK {A:Type} {n:Nat} {step:Int→Option (Int ⊕ (A ⊕ Unit))} {P:Nat→Bool} {u:A} (m:Nat) (hs:∀i,m≤i→i<n→step (i:Int)=some (if P i=true then .inr (.inr ())else .inl ((i:Int)+1))) (he:∀i:Nat,n≤i→step (i:Int)=some (.inr (.inl u))):
 ∀(k i N:Nat),n≤i+k→m≤i→k<N→loopN step N (i:Int)=some (if(List.range' i (n - i)).any P=true then .inr ()else .inl u)
 |0,i,N,h,_,hN=>by
  obtain⟨N,rfl⟩:∃m,N=m+1:=⟨N - 1,by omega⟩;rw[show n - i=0 by omega];simp[loopN,he i (by omega)]
 | k+1,i,N,h,hm,hN=>by
  obtain⟨N,rfl⟩:∃m,N=m+1:=⟨N - 1,by omega⟩
  by_cases hi:i<n
  ·have ih:=LK m hs he k (i+1) N (by omega) (by omega) (by omega);simp only[loopN,hs i hm hi];rw[show n - i=(n - (i+1))+1 by omega,List.range'_succ,List.any_cons]
   by_cases hp:P i=true
   ·simp[hp]
   rw[if_neg hp]
   dsimp only
   rw[show((i:Int)+1)=((i+1:Nat):Int) by omega,ih];simp[hp]
  rw[show n - i=0 by omega];simp[loopN,he i (by omega)]
def Zj (l:List B8)(i:Int):Int:=match l[i.toNat]? with|some e=>e.Time|none=>0
def Ag5 (l:List B8)(p:A0)(b s:List PR)(i:Nat):Bool:=match l[i]? with|some e=>decide (e.Typ=p.Typ)&&(!WD s i)&&NT (YK l (mrg b s) i) p.Var e p.cL|none=>false
def Ab4 (l:List B8)(p:A0)(b s:List PR):Bool:= !((List.range l.length).any fun i=>decide (Zz s<(i:Int))&&decide ((i:Int)<GH s)&&Ag5 l p b s i)
def Sb (l:List B8)(p:A0)(b s:List PR):Bool:=
 if p.Op=6 then decide (ar .sub .i64 (Zj l (GH s)) (Zj l (Zz s))≤p.Span)else if p.Op=7 then NT (YK l (mrg b s) l.length) (-1) ⟨0,0,0,0,[]⟩ p.cL else Ab4 l p b s
structure Gd (l:List B8) (s:List PR):Prop where
 wf:WfS l s
 asc:Xr s
theorem Gd.len {l:List B8}{s:List PR}(h:Gd l s):s.length≤l.length:=TF (k:=0) h.asc fun x hx=>by have:=(h.wf x hx).2;omega
theorem Gd.nil (l:List B8):Gd l []:=⟨fun _ h=>absurd h List.not_mem_nil,List.Pairwise.nil⟩
theorem Gd.mrg {l:List B8}{a b:List PR}(ha:Gd l a)(hb:Gd l b)(h:Jt a b):Gd l (mrg a b):=⟨fun x hx=>(DE.1 hx).elim (ha.wf x) (hb.wf x),Oq _ (Nat.le_refl _) ha.asc hb.asc h⟩
theorem Gd.lst {l:List B8}{s:List PR}(h:Gd l s)(hn:s≠[]):0≤GH s∧GH s<l.length:=by
 obtain⟨x,_,hx,e⟩:=JK hn;rw[e];exact(h.wf x hx).2
theorem Gd.hd {l:List B8} {s:List PR} (h:Gd l s) (hn:s≠[]):0≤Zz s∧Zz s<l.length∧Zz s≤GH s∧WD s (Zz s)=true:=by
 cases s with
 |nil=>exact absurd rfl hn
 |cons x s=>
  have:=(h.wf x (by simp)).2;exact⟨this.1,this.2,Ms h.asc x (by simp),YC.2 ⟨x,by simp,rfl⟩⟩
end
end Go.Ab
namespace Go.Ab
open Classical
noncomputable section
def Zk (l:List B8)(p:A0)(b:List PR)(i:Nat):Bool:=match l[i]? with|some e=>decide (e.Typ=p.Typ)&&NT (YK l b i) p.Var e p.cL|none=>false
end
end Go.Ab
namespace Go.Ab
open Classical
noncomputable section
structure WfN (y:A0):Prop where
 op:0≤y.Op∧y.Op≤7
 var:y.Op=0→0≤y.Var∧y.Var<16
 a0:y.Op=0→y.cK=[]
 a1:1≤y.Op→y.Op≤3→y.cK≠[]
 a2:4≤y.Op→∃q,y.cK=[q]
 cond:y.cL.bulk≤16777216
def KF (p:A0):Prop:=∀y∈p.pre,WfN y
theorem Jx {N:Nat} (hN:40000000≤N) {x:A0} (hb:x.bulk≤16777216) (h:KC N x=0):KF x∧x.pre.length≤64:=by
 unfold KC at h
 by_cases hr:P3 N x=0
 ·rw [if_neg (by simpa using hr)]at h
  by_cases ha:x.pre.any (fun y=>cmp .geq y.Op 8)=true
  ·rw[if_pos ha]at h;cases h
  obtain⟨hp,hd,hg⟩:=Hj hr;refine⟨fun y hy=>?_,hp⟩;have h1:=EB x y hy;have h2:=Eg y
  have hyb:y.bulk≤16777216:=by omega
  have hyl:y.cK.length≤64:=by omega
  obtain⟨ho,s,ng,hs,hc⟩:=LD hN hyb hyl (hg y hy)
  have h7:y.Op≤7:=by
   rw[Bool.not_eq_true,List.any_eq_false]at ha
   have:=ha y hy
   rw[Ak]at this
   simp at this;omega
  have hz:=Zo hN N y.cL (⟨0,[],0,0,0,(⟨0,0,⟨#[]⟩⟩:B3)⟩:B1) (by omega) (by omega);have h1:=FO hN (by omega) ho.1 ho.2 hs hz
  rw[(DL hN hyb hyl).2,hg y hy]at h1
  have h1:=Option.some.inj h1
  by_cases har:s.cR≤y.cK.length∧(y.cK.length:Int)≤s.most
  ·rw[if_pos har]at h1
   unfold Ii at h1
   by_cases e1:Di s.cN y.Typ 15=true
   ·rw[if_pos e1]at h1;cases h1
   rw[if_neg e1]at h1
   by_cases e2:Di s.cN y.Var 15=true
   ·rw[if_pos e2]at h1;cases h1
   have ht:=hs.tab
   have hop:y.Op=0∨y.Op=1∨y.Op=2∨y.Op=3∨y.Op=4∨y.Op=5∨y.Op=6∨y.Op=7:=by omega
   refine⟨⟨ho.1,h7⟩,?_,?_,?_,?_,by omega⟩
   ·intro h0
    rw[h0]at ht
    have hs:s.cN=true:=by cases ht;rfl
    rw[hs]at e2
    unfold Di at e2
    simp at e2
    omega
   ·intro h0
    rw[h0]at ht
    have hm:s.most=0:=by cases ht;rfl
    exact List.eq_nil_of_length_eq_zero (by omega)
   ·intro h0 h3
    have hm:1≤s.cR:=by
     have:y.Op=1∨y.Op=2∨y.Op=3:=by omega
     rcases this with h|h|h<;>rw[h]at ht<;>cases ht<;>decide
    intro e
    rw[e]at har
    simp at har;omega
   intro h0
   have hm:s.cR=1∧s.most=1:=by
    have:y.Op=4∨y.Op=5∨y.Op=6∨y.Op=7:=by omega
    rcases this with h|h|h|h<;>rw[h]at ht<;>cases ht<;>decide
   have hl:y.cK.length=1:=by omega
   match he:y.cK,hl with
   |[q],_=>exact⟨q,rfl⟩
  rw[if_neg har]at h1;cases h1
 rw[if_pos (show P3 N x≠0 from hr)]at h;exact absurd h hr
theorem Z8 {y : A0}:∀{l:List A0},y∈A0.pres l↔∃a∈l,y∈a.pre
 |[]=>by simp[A0.pres]
 | a :: l => by simp only[A0.pres,List.mem_append,Z8 (l:=l),List.mem_cons];constructor
                ·rintro(h|⟨b,h1,h2⟩)
                 ·exact⟨a,.inl rfl,h⟩
                 exact⟨b,.inr h1,h2⟩
                rintro⟨b,rfl|h1,h2⟩
                ·exact .inl h2
                exact .inr ⟨b,h1,h2⟩
theorem KF.self {p:A0}(h:KF p):WfN p:=h p (IM p)
theorem KF.arg {p q:A0}(h:KF p)(hq:q∈p.cK):KF q:=fun y hy=>h y (by rw[A0.pre_eq];exact List.mem_cons_of_mem _ (Z8.2 ⟨q,hq,hy⟩))
theorem KF.sub {p:A0}{r:List A0}(h:KF p)(h1:1≤p.Op)(h3:p.Op≤3)(hr:∀q∈r,q∈p.cK)(hn:r≠[]):KF {p with cK:=r}:=by
 intro y hy
 rw[A0.pre_eq]at hy
 rcases List.mem_cons.1 hy with rfl|hy
 ·exact⟨h.self.op,fun e=>by have:p.Op=0:=e;omega,fun e=>by have:p.Op=0:=e;omega,fun _ _=>hn,fun e=>by have:4≤p.Op:=e;omega,h.self.cond⟩
 obtain⟨q,hq,hy⟩:=Z8.1 hy;exact h.arg (hr q hq) y hy
inductive Sm (l:List B8):A0→List PR→Int→List PR→Prop
 |ev {p:A0} {b:List PR} {f:Int} {j:Nat}:p.Op=0→f≤j→j<l.length→Zk l p b j=true→Sm l p b f [⟨p.Var,j⟩]
 |seq1 {p q:A0} {b:List PR} {f:Int} {s:List PR}:p.Op=1→p.cK=[q]→Sm l q b f s→Sm l p b f s
 |seq {p q q':A0} {r:List A0} {b:List PR} {f:Int} {s t:List PR}:p.Op=1→p.cK=q::q'::r→Sm l q b f s→Sm l {p with cK:=q'::r} (mrg b s) (GH s+1) t→Sm l p b f (mrg s t)
 |alt {p q:A0} {b:List PR} {f:Int} {s:List PR}:p.Op=2→q∈p.cK→Sm l q b f s→Sm l p b f s
 |all1 {p q:A0} {b:List PR} {f:Int} {s:List PR}:p.Op=3→p.cK=[q]→Sm l q b f s→Sm l p b f s
 |all {p q:A0} {r:List A0} {b:List PR} {f:Int} {s t:List PR}:p.Op=3→p.cK=r++[q]→r≠[]→Sm l {p with cK:=r} b f s→Sm l q b f t→Jt s t→Sm l p b f (mrg s t)
 |plus1 {p q:A0} {b:List PR} {f:Int} {s:List PR}:p.Op=4→p.cK=[q]→Sm l q b f s→Sm l p b f s
 |plus {p q:A0} {b:List PR} {f:Int} {s t:List PR}:p.Op=4→p.cK=[q]→Sm l q b f s→Sm l p (mrg b s) (GH s+1) t→Sm l p b f (mrg s t)
 |some {p q:A0} {b:List PR} {f:Int} {s:List PR}:5≤p.Op→p.Op≤7→p.cK=[q]→Sm l q b f s→Sb l p b s=true→Sm l p b f s
theorem Sm.i0 {l:List B8} {p:A0} {b:List PR} {f:Int} {s:List PR} (h0:p.Op=0):Sm l p b f s↔∃j:Nat,f≤j∧j<l.length∧Zk l p b j=true∧s=[⟨p.Var,j⟩]:=by
 constructor
 ·intro h
  cases h with
  |ev e0 e1 e2 e3=>exact⟨_,e1,e2,e3,rfl⟩
  |_=>omega
 rintro⟨j,e1,e2,e3,rfl⟩;exact .ev h0 e1 e2 e3
theorem Sm.i1 {l:List B8} {p q:A0} {b:List PR} {f:Int} {s:List PR} (h0:p.Op=1) (ha:p.cK=[q]):Sm l p b f s↔Sm l q b f s:=by
 constructor
 ·intro h
  cases h with
  |seq1 e0 ea hs=>rw[ha]at ea;cases ea;exact hs
  |seq e0 ea hs ht=>rw[ha]at ea;cases ea
  |_=>omega
 exact .seq1 h0 ha
theorem Sm.i1c {l:List B8} {p q q':A0} {r:List A0} {b:List PR} {f:Int} {s:List PR} (h0:p.Op=1) (ha:p.cK=q::q'::r):Sm l p b f s↔∃u t,Sm l q b f u∧Sm l {p with cK:=q'::r} (mrg b u) (GH u+1) t∧s=mrg u t:=by
 constructor
 ·intro h
  cases h with
  |seq1 e0 ea hs=>rw[ha]at ea;cases ea
  |seq e0 ea hs ht=>rw[ha]at ea;cases ea;exact⟨_,_,hs,ht,rfl⟩
  |_=>omega
 rintro⟨u,t,hs,ht,rfl⟩;exact .seq h0 ha hs ht
theorem Sm.i2 {l:List B8} {p:A0} {b:List PR} {f:Int} {s:List PR} (h0:p.Op=2):Sm l p b f s↔∃q∈p.cK,Sm l q b f s:=by
 constructor
 ·intro h
  cases h with
  |alt e0 ea hs=>exact⟨_,ea,hs⟩
  |_=>omega
 rintro⟨q,ha,hs⟩;exact .alt h0 ha hs
theorem Sm.i3 {l:List B8} {p q:A0} {b:List PR} {f:Int} {s:List PR} (h0:p.Op=3) (ha:p.cK=[q]):Sm l p b f s↔Sm l q b f s:=by
 constructor
 ·intro h
  cases h with
  |all1 e0 ea hs=>rw[ha]at ea;cases ea;exact hs
  |all e0 ea en hs ht hd=>
   rw[ha]at ea
   exact absurd (List.append_inj_left' (s₁:=[]) ea rfl).symm en
  |_=>omega
 exact .all1 h0 ha
theorem Sm.i3c {l:List B8} {p q:A0} {r:List A0} {b:List PR} {f:Int} {s:List PR} (h0:p.Op=3) (ha:p.cK=r++[q]) (hr:r≠[]):Sm l p b f s↔∃u t,Sm l {p with cK:=r} b f u∧Sm l q b f t∧Jt u t∧s=mrg u t:=by
 constructor
 ·intro h
  cases h with
  |all1 e0 ea hs=>
   rw[ha]at ea
   exact absurd (List.append_inj_left' (s₂:=[]) ea rfl) hr
  |all e0 ea en hs ht hd=>
   rw[ha]at ea
   have e1:=List.append_inj_left' ea rfl;have e2:=List.append_inj_right' ea rfl;cases e1;cases e2;exact⟨_,_,hs,ht,hd,rfl⟩
  |_=>omega
 rintro⟨u,t,hs,ht,hd,rfl⟩;exact .all h0 ha hr hs ht hd
theorem Sm.i4 {l:List B8} {p q:A0} {b:List PR} {f:Int} {s:List PR} (h0:p.Op=4) (ha:p.cK=[q]):Sm l p b f s↔Sm l q b f s∨∃u t,Sm l q b f u∧Sm l p (mrg b u) (GH u+1) t∧s=mrg u t:=by
 constructor
 ·intro h
  cases h with
  |plus1 e0 ea hs=>rw[ha]at ea;cases ea;exact .inl hs
  |plus e0 ea hs ht=>rw[ha]at ea;cases ea;exact .inr ⟨_,_,hs,ht,rfl⟩
  |_=>omega
 rintro(hs|⟨u,t,hs,ht,rfl⟩)
 ·exact .plus1 h0 ha hs
 exact .plus h0 ha hs ht
theorem Sm.i5 {l:List B8} {p q:A0} {b:List PR} {f:Int} {s:List PR} (h0:5≤p.Op) (h1:p.Op≤7) (ha:p.cK=[q]):Sm l p b f s↔Sm l q b f s∧Sb l p b s=true:=by
 constructor
 ·intro h
  cases h with
  |some e0 e1 ea hs hk=>rw[ha]at ea;cases ea;exact⟨hs,hk⟩
  |_=>omega
 rintro⟨hs,hk⟩;exact .some h0 h1 ha hs hk
structure ZH (l:List B8) (b:List PR) (f:Int):Prop where
 gd:Gd l b
 lt:∀x∈b,x.At<f
 f0:0≤f
 f1:f≤l.length
structure Xl (l:List B8) (f:Int) (s:List PR):Prop where
 gd:Gd l s
 ge:∀x∈s,f≤x.At
 ne:s≠[]
theorem ZH.apart {l:List B8}{b s:List PR}{f:Int}(h:ZH l b f)(r:Xl l f s):Jt b s:=fun x hx y hy=>by have:=h.lt x hx;have:=r.ge y hy;omega
theorem ZH.next {l:List B8}{b s:List PR}{f:Int}(h:ZH l b f)(r:Xl l f s):ZH l (mrg b s) (GH s+1):=by
 have hl:=r.gd.lst r.ne;refine⟨h.gd.mrg r.gd (h.apart r),fun x hx=>?_,by omega,by omega⟩
 rcases DE.1 hx with hx|hx
 ·obtain⟨y,_,hy,e⟩:=JK r.ne;have:=h.lt x hx;have:=r.ge y hy;omega
 have:=Ms r.gd.asc x hx;omega
theorem Xl.seq {l:List B8} {s t:List PR} {f:Int} (r:Xl l f s) (q:Xl l (GH s+1) t):Xl l f (mrg s t)∧Jt s t:=by
 have ha:Jt s t:=fun x hx y hy=>by have:=Ms r.gd.asc x hx;have:=q.ge y hy;omega
 refine⟨⟨r.gd.mrg q.gd ha,fun x hx=>?_,fun e=>?_⟩,ha⟩
 ·rcases DE.1 hx with hx|hx
  ·exact r.ge x hx
  obtain⟨y,_,hy,e⟩:=JK r.ne;have:=r.ge y hy;have:=q.ge x hx;omega
 have h1:=congrArg List.length e
 rw[Th,List.length_nil]at h1
 have:=List.length_pos_iff.2 r.ne;omega
theorem Xl.all {l:List B8}{s t:List PR}{f:Int}(r:Xl l f s)(q:Xl l f t)(ha:Jt s t):Xl l f (mrg s t):=by
 refine⟨r.gd.mrg q.gd ha,fun x hx=>(DE.1 hx).elim (r.ge x) (q.ge x),fun e=>?_⟩;have h1:=congrArg List.length e
 rw[Th,List.length_nil]at h1
 have:=List.length_pos_iff.2 r.ne;omega
theorem Sm.res {l:List B8} {p:A0} {b:List PR} {f:Int} {s:List PR} (h:Sm l p b f s):KF p→ZH l b f→Xl l f s:=by
 induction h with
 |@ev p b f j h0 hf hj ht=>
  intro hw ho;refine⟨⟨fun x hx=>?_,List.pairwise_singleton _ _⟩,fun x hx=>?_,by simp⟩
  ·rw[List.mem_singleton.1 hx];exact⟨hw.self.var h0,by show 0≤(j:Int)∧(j:Int)<l.length;omega⟩
  rw[List.mem_singleton.1 hx];exact hf
 |seq1 h0 ha _ ih=>intro hw ho;exact ih (hw.arg (by rw[ha];simp)) ho
 |@seq p q q' r b f s t h0 ha _ _ ih1 ih2=>
  intro hw ho;have r1:=ih1 (hw.arg (by rw[ha];simp)) ho;have r2:=ih2 (hw.sub (by omega) (by omega) (fun x hx=>by rw[ha];exact List.mem_cons_of_mem _ hx) (by simp)) (ho.next r1);exact(r1.seq r2).1
 |alt h0 ha _ ih=>intro hw ho;exact ih (hw.arg ha) ho
 |all1 h0 ha _ ih=>intro hw ho;exact ih (hw.arg (by rw[ha];simp)) ho
 |@all p q r b f s t h0 ha hn _ _ hd ih1 ih2=>
  intro hw ho;exact(ih1 (hw.sub (by omega) (by omega) (fun x hx=>by rw[ha];simp[hx]) hn) ho).all (ih2 (hw.arg (by rw[ha];simp)) ho) hd
 |plus1 h0 ha _ ih=>intro hw ho;exact ih (hw.arg (by rw[ha];simp)) ho
 |@plus p q b f s t h0 ha _ _ ih1 ih2=>
  intro hw ho;have r1:=ih1 (hw.arg (by rw[ha];simp)) ho;exact(r1.seq (ih2 hw (ho.next r1))).1
 |some h0 h1 ha _ _ ih=>intro hw ho;exact ih (hw.arg (by rw[ha];simp)) ho
def Vs (p:A0)(v:Int):Prop:=∃y∈p.pre,y.Op=0∧y.Var=v
theorem Vs.arg {p q:A0}{v:Int}(hq:q∈p.cK)(h:Vs q v):Vs p v:=by
 obtain⟨y,hy,h⟩:=h;exact⟨y,by rw[A0.pre_eq];exact List.mem_cons_of_mem _ (Z8.2 ⟨q,hq,hy⟩),h⟩
theorem Vs.sub {p:A0}{r:List A0}{v:Int}(h0:p.Op≠0)(hr:∀q∈r,q∈p.cK)(h:Vs {p with cK:=r} v):Vs p v:=by
 obtain⟨y,hy,h1,h2⟩:=h
 rw[A0.pre_eq]at hy
 rcases List.mem_cons.1 hy with rfl|hy
 ·exact absurd h1 h0
 obtain⟨q,hq,hy⟩:=Z8.1 hy;exact Vs.arg (hr q hq) ⟨y,hy,h1,h2⟩
theorem Sm.vars {l:List B8} {p:A0} {b:List PR} {f:Int} {s:List PR} (h:Sm l p b f s):∀x∈s,Vs p x.Var:=by
 induction h with
 |@ev p b f j h0 hf hj ht=>intro x hx;rw[List.mem_singleton.1 hx];exact⟨p,IM p,h0,rfl⟩
 |seq1 h0 ha _ ih=>intro x hx;exact Vs.arg (by rw[ha];simp) (ih x hx)
 |@seq p q q' r b f s t h0 ha _ _ ih1 ih2=>
  intro x hx
  rcases DE.1 hx with hx|hx
  ·exact Vs.arg (by rw[ha];simp) (ih1 x hx)
  exact Vs.sub (by omega) (fun x hx=>by rw[ha];exact List.mem_cons_of_mem _ hx) (ih2 x hx)
 |alt h0 ha _ ih=>intro x hx;exact Vs.arg ha (ih x hx)
 |all1 h0 ha _ ih=>intro x hx;exact Vs.arg (by rw[ha];simp) (ih x hx)
 |@all p q r b f s t h0 ha hn _ _ hd ih1 ih2=>
  intro x hx
  rcases DE.1 hx with hx|hx
  ·exact Vs.sub (by omega) (fun x hx=>by rw[ha];simp[hx]) (ih1 x hx)
  exact Vs.arg (by rw[ha];simp) (ih2 x hx)
 |plus1 h0 ha _ ih=>intro x hx;exact Vs.arg (by rw[ha];simp) (ih x hx)
 |@plus p q b f s t h0 ha _ _ ih1 ih2=>
  intro x hx
  rcases DE.1 hx with hx|hx
  ·exact Vs.arg (by rw[ha];simp) (ih1 x hx)
  exact ih2 x hx
 |some h0 h1 ha _ _ ih=>intro x hx;exact Vs.arg (by rw[ha];simp) (ih x hx)
end
end Go.Ab
namespace Go.Ab
open Classical
noncomputable section
def Jb (p:A0):Nat:=p.pre.countP fun y=>decide (y.Op=0)
def EU (p:A0):Prop:=∀y∈p.pre,y.Op≠4
theorem GQ (p:A0):Jb p=(if p.Op=0 then 1 else 0)+(A0.pres p.cK).countP fun y=>decide (y.Op=0):=by
 unfold Jb;rw[A0.pre_eq,List.countP_cons]
 by_cases h:p.Op=0<;>simp[h]<;>omega
theorem KS (p:A0)(r:List A0):Jb {p with cK:=r}=(if p.Op=0 then 1 else 0)+(A0.pres r).countP fun y=>decide (y.Op=0):=GQ _
theorem Kl {q:A0}:∀{l:List A0},q∈l→Jb q≤(A0.pres l).countP fun y=>decide (y.Op=0)
 |a::l,h=>by
  simp only[A0.pres,countP_append]
  rcases List.mem_cons.1 h with rfl|h
  ·exact Nat.le_add_right _ _
  have:=Kl h;unfold Jb at *;omega
theorem Hs {p q:A0}(h:q∈p.cK):Jb q≤Jb p:=by rw[GQ p];have:=Kl h;omega
theorem EU.arg {p q:A0}(h:EU p)(hq:q∈p.cK):EU q:=fun y hy=>h y (by rw[A0.pre_eq];exact List.mem_cons_of_mem _ (Z8.2 ⟨q,hq,hy⟩))
theorem EU.sub {p:A0}{r:List A0}(h:EU p)(hr:∀q∈r,q∈p.cK):EU {p with cK:=r}:=by
 intro y hy
 rw[A0.pre_eq]at hy
 rcases List.mem_cons.1 hy with rfl|hy
 ·exact h p (IM p)
 obtain⟨q,hq,hy⟩:=Z8.1 hy;exact h.arg (hr q hq) y hy
def Xu (n:Nat)(p:A0):Prop:=(Jb p+1) ^ n≤1500∨(EU p∧2≤n∧n ^ Jb p≤1500)
theorem Xu.mono {n:Nat}{p q:A0}(h:Xu n p)(h1:Jb q≤Jb p)(h2:EU p→EU q):Xu n q:=by
 rcases h with h|⟨a,b,c⟩
 ·exact .inl (Nat.le_trans (Nat.pow_le_pow_left (by omega) n) h)
 exact .inr ⟨h2 a,b,Nat.le_trans (Nat.pow_le_pow_right (by omega) h1) c⟩
theorem Xu.arg {n:Nat}{p q:A0}(h:Xu n p)(hq:q∈p.cK):Xu n q:=h.mono (Hs hq) fun k=>k.arg hq
theorem Xu.tail {n:Nat}{p q:A0}{r:List A0}(h:Xu n p)(ha:p.cK=q::r):Xu n {p with cK:=r}:=by
 refine h.mono ?_ fun k=>k.sub fun x hx=>by rw[ha];exact List.mem_cons_of_mem _ hx
 rw[KS,GQ,ha];simp only[A0.pres,countP_append];omega
theorem GA :∀(r m:List A0),A0.pres (r++m)=A0.pres r++A0.pres m
 |[],m=>by simp[A0.pres]
 |a::r,m=>by simp[A0.pres,GA r m]
def GS (V:List Int):Nat→Int→List (List PR)
 |0,_=>[[]]
 |m+1,k=>GS V m (k+1)++V.flatMap fun v=>(GS V m (k+1)).map fun s=>⟨v,k⟩::s
theorem JQ (V:List Int):∀(m:Nat) (k:Int),(GS V m k).length=(V.length+1) ^ m
 |0,_=>rfl
 | m+1,k=>by
  have ih:=JQ V m (k+1)
  have h:(V.flatMap fun v=>(GS V m (k+1)).map fun s=>(⟨v,k⟩:PR)::s).length=V.length*(V.length+1) ^ m:=by
   clear ih;generalize hE:GS V m (k+1)=E
   have hl:E.length=(V.length+1) ^ m:=by rw[←hE];exact JQ V m (k+1)
   rw[←hl];clear hl hE
   induction V with
   |nil=>simp
   |cons v V ih=>rw[List.flatMap_cons,List.length_append,ih,List.length_map,List.length_cons,Nat.succ_mul];omega
  rw[GS,List.length_append,ih,h,Nat.pow_succ];rw[Nat.mul_comm _ (V.length+1),Nat.succ_mul];omega
theorem Ht (V:List Int):∀(m:Nat) (k:Int) (s:List PR),Xr s→(∀x∈s,k≤x.At∧x.At<k+m)→(∀x∈s,x.Var∈V)→s∈GS V m k
 |0,k,[],_,_,_=>by simp[GS]
 |0,k,x::s,_,h,_=>by have:=h x (by simp);omega
 |m+1,k,[],ha,_,_=>by
  rw[GS];exact List.mem_append_left _ (Ht V m (k+1) [] ha (by simp) (by simp))
 | m+1,k,x::s,ha,h,hv=>by
  rw[GS];have ha':=ha
  unfold Xr at ha
  rw[List.pairwise_cons]at ha
  have hx:=h x (by simp)
  by_cases e:x.At=k
  ·refine List.mem_append_right _ (List.mem_flatMap.2 ⟨x.Var,hv x (by simp),List.mem_map.2 ⟨s,Ht V m (k+1) s ha.2 (fun y hy=>?_) (fun y hy=>hv y (by simp[hy])),?_⟩⟩)
   ·have:=ha.1 y hy;have:=h y (by simp[hy]);omega
   rw[←e]
  refine List.mem_append_left _ (Ht V m (k+1) (x::s) ha' (fun y hy=>?_) hv);have:=h y hy
  rcases List.mem_cons.1 hy with rfl|hy
  ·omega
  have:=ha.1 y hy;omega
def SM (p:A0):List Int:=(p.pre.filter fun y=>decide (y.Op=0)).map (·.Var)
theorem TN (p:A0):(SM p).length=Jb p:=by unfold SM Jb;rw[List.length_map,List.countP_eq_length_filter]
theorem Vs.mem {p:A0}{v:Int}(h:Vs p v):v∈SM p:=by
 obtain⟨y,hy,h0,h1⟩:=h;exact List.mem_map.2 ⟨y,List.mem_filter.2 ⟨hy,by simpa using h0⟩,h1⟩
theorem Ag3 {l:List B8} {p:A0} {L:List (List PR)} (hn:L.Nodup) (h:∀s∈L,Gd l s∧∀x∈s,Vs p x.Var):L.length≤(Jb p+1) ^ l.length:=by
 have:=List.Nodup.length_le_of_subset hn (l₂:=GS (SM p) l.length 0) fun s hs=>by
  obtain⟨g,hv⟩:=h s hs;exact Ht _ _ _ s g.asc (fun x hx=>by have:=(g.wf x hx).2;omega) fun x hx=>(hv x hx).mem
 rwa[JQ,TN]at this
theorem SW {α β:Type}(A B:List α)(f:α→α→β):(A.flatMap fun a=>B.map (f a)).length=A.length*B.length:=by
 induction A with
 |nil=>simp
 |cons a A ih=>rw[List.flatMap_cons,List.length_append,ih,List.length_map,List.length_cons,Nat.succ_mul];omega
theorem SY :∀(n:Nat) (p:A0),p.pre.length≤n→KF p→1≤Jb p
 |0,p,h,_=>by rw[A0.pre_eq]at h;simp at h
 | n+1,p,h,hw=>by
  by_cases h0:p.Op=0
  ·rw[GQ,if_pos h0];omega
  have hne:∃q,q∈p.cK:=by
   by_cases h3:p.Op≤3
   ·exact List.exists_mem_of_ne_nil _ (hw.self.a1 (by have:=hw.self.op;omega) h3)
   obtain⟨q,hq⟩:=hw.self.a2 (by omega);exact⟨q,by rw[hq];simp⟩
  obtain⟨q,hq⟩:=hne;have:=SY n q (by have:=BY hq;omega) (hw.arg hq);have:=Hs hq;omega
theorem QR {x y:Nat} (hx:2≤x) (hy:2≤y):x+y≤x*y:=by
 obtain⟨a,rfl⟩:∃a,x=a+2:=⟨x - 2,by omega⟩;obtain⟨b,rfl⟩:∃b,y=b+2:=⟨y - 2,by omega⟩
 have:(a+2)*(b+2)=a*b+2*a+2*b+4:=by
  rw[Nat.mul_add,Nat.add_mul,Nat.add_mul];omega
 omega
theorem SX {p q:A0}{r:List A0}(ha:p.cK=q::r):({p with cK:=r}:A0).pre.length<p.pre.length:=by
 have h1:=A0.pre_eq ({p with cK:=r}:A0);have h2:=A0.pre_eq p;rw[h1,h2,ha];have:=A0.pre_eq q;simp only[A0.pres,List.length_cons,List.length_append,this];omega
theorem VU {p q:A0}{r:List A0}(ha:p.cK=r++[q]):({p with cK:=r}:A0).pre.length<p.pre.length:=by
 have h1:=A0.pre_eq ({p with cK:=r}:A0);have h2:=A0.pre_eq p;rw[h1,h2,ha,GA];have:=A0.pre_eq q;simp only[A0.pres,List.length_cons,List.length_append,this];omega
theorem HL {l:List B8} (hl:2≤l.length):∀(n:Nat) (p:A0),p.pre.length≤n→KF p→EU p→∃C:List (List PR),C.length≤l.length ^ Jb p∧∀b f s,Sm l p b f s→s∈C
 |0,p,h,_,_=>by rw[A0.pre_eq]at h;simp at h
 | n +1,p,h,hw,hp=>by
  have hop:=hw.self.op;have hnp:=hp p (IM p)
  have hpow:∀q:A0,KF q→2≤l.length ^ Jb q:=fun q hq=>by
   have h1:=SY _ q (Nat.le_refl _) hq;have:=Nat.pow_le_pow_right (n:=l.length) (by omega) h1
   rw[Nat.pow_one]at this;omega
  by_cases h0:p.Op=0
  ·refine⟨(List.range l.length).map fun(j:Nat)=>[⟨p.Var,(j:Int)⟩],?_,fun b f s hs=>?_⟩
   ·rw[GQ,if_pos h0,hw.self.a0 h0,List.length_map,List.length_range];simp[A0.pres]
   obtain⟨j,_,hj,_,rfl⟩:=(Sm.i0 h0).1 hs;exact List.mem_map.2 ⟨j,List.mem_range.2 hj,rfl⟩
  by_cases h1:p.Op=1
  ·match ha:p.cK with
   |[]=>exact absurd ha (hw.self.a1 (by omega) (by omega))
   |[q]=>
    have hq:q∈p.cK:=by rw[ha];simp
    obtain⟨C,h2,h3⟩:=HL hl n q (by have:=BY hq;omega) (hw.arg hq) (hp.arg hq);refine⟨C,Nat.le_trans h2 (Nat.pow_le_pow_right (by omega) (Hs hq)),fun b f s hs=>?_⟩;exact h3 _ _ _ ((Sm.i1 h1 ha).1 hs)
   | q::q'::r=>
    have hq:q∈p.cK:=by rw[ha];simp
    obtain⟨C,h2,h3⟩:=HL hl n q (by have:=BY hq;omega) (hw.arg hq) (hp.arg hq);obtain⟨D,h4,h5⟩:=HL hl n {p with cK:=q'::r} (by have:=SX ha;omega) (hw.sub (by omega) (by omega) (fun x hx=>by rw[ha];exact List.mem_cons_of_mem _ hx) (by simp)) (hp.sub fun x hx=>by rw[ha];exact List.mem_cons_of_mem _ hx);refine⟨C.flatMap fun s=>D.map (mrg s),?_,fun b f s hs=>?_⟩
    ·rw[SW,show Jb p=Jb q+Jb {p with cK:=q'::r}from ?_,Nat.pow_add]
     ·exact Nat.mul_le_mul h2 h4
     rw[KS,GQ p,ha,if_neg h0];rw[A0.pres,countP_append];unfold Jb;omega
    obtain⟨u,t,hu,ht,rfl⟩:=(Sm.i1c h1 ha).1 hs;exact List.mem_flatMap.2 ⟨_,h3 _ _ _ hu,List.mem_map.2 ⟨_,h5 _ _ _ ht,rfl⟩⟩
  by_cases h2':p.Op=2
  ·match ha:p.cK with
   |[]=>exact absurd ha (hw.self.a1 (by omega) (by omega))
   |[q]=>
    have hq:q∈p.cK:=by rw[ha];simp
    obtain⟨C,h2,h3⟩:=HL hl n q (by have:=BY hq;omega) (hw.arg hq) (hp.arg hq);refine⟨C,Nat.le_trans h2 (Nat.pow_le_pow_right (by omega) (Hs hq)),fun b f s hs=>?_⟩;obtain⟨q',ha',hs⟩:=(Sm.i2 h2').1 hs
    rw[ha]at ha'
    rw[List.mem_singleton.1 ha']at hs
    exact h3 _ _ _ hs
   | q::q'::r=>
    have hq:q∈p.cK:=by rw[ha];simp
    have hws:KF {p with cK:=q'::r}:=hw.sub (by omega) (by omega) (fun x hx=>by rw[ha];exact List.mem_cons_of_mem _ hx) (by simp);obtain⟨C,h2,h3⟩:=HL hl n q (by have:=BY hq;omega) (hw.arg hq) (hp.arg hq);obtain⟨D,h4,h5⟩:=HL hl n {p with cK:=q'::r} (by have:=SX ha;omega) hws (hp.sub fun x hx=>by rw[ha];exact List.mem_cons_of_mem _ hx);refine⟨C++D,?_,fun b f s hs=>?_⟩
    ·rw[List.length_append,show Jb p=Jb q+Jb {p with cK:=q'::r}from ?_,Nat.pow_add]
     ·have e1:=hpow q (hw.arg hq);have e2:=hpow _ hws;have:=QR e1 e2;omega
     rw[KS,GQ p,ha,if_neg h0];rw[A0.pres,countP_append];unfold Jb;omega
    obtain⟨x,ha',hs⟩:=(Sm.i2 h2').1 hs
    rw[ha]at ha'
    rcases List.mem_cons.1 ha' with e|hm
    ·rw[e]at hs;exact List.mem_append_left _ (h3 _ _ _ hs)
    exact List.mem_append_right _ (h5 _ _ _ (Sm.alt (p:={p with cK:=q'::r}) h2' hm hs))
  by_cases h3':p.Op=3
  ·rcases List.eq_nil_or_concat p.cK with ha|⟨r,q,ha⟩
   ·exact absurd ha (hw.self.a1 (by omega) (by omega))
   rw[List.concat_eq_append]at ha
   have hq:q∈p.cK:=by rw[ha];simp
   obtain⟨C,h2,h3⟩:=HL hl n q (by have:=BY hq;omega) (hw.arg hq) (hp.arg hq)
   by_cases hr:r=[]
   ·subst hr;refine⟨C,Nat.le_trans h2 (Nat.pow_le_pow_right (by omega) (Hs hq)),fun b f s hs=>?_⟩;exact h3 _ _ _ ((Sm.i3 h3' ha).1 hs)
   have hws:KF {p with cK:=r}:=hw.sub (by omega) (by omega) (fun x hx=>by rw[ha];simp[hx]) hr;obtain⟨D,h4,h5⟩:=HL hl n {p with cK:=r} (by have:=VU ha;omega) hws (hp.sub fun x hx=>by rw[ha];simp[hx]);refine⟨D.flatMap fun s=>C.map (mrg s),?_,fun b f s hs=>?_⟩
   ·rw[SW,show Jb p=Jb {p with cK:=r}+Jb q from ?_,Nat.pow_add]
    ·exact Nat.mul_le_mul h4 h2
    rw[KS,GQ p,ha,if_neg h0,GA,countP_append];simp only[A0.pres,List.append_nil];unfold Jb;omega
   obtain⟨u,t,hu,ht,_,rfl⟩:=(Sm.i3c h3' ha hr).1 hs;exact List.mem_flatMap.2 ⟨_,h5 _ _ _ hu,List.mem_map.2 ⟨_,h3 _ _ _ ht,rfl⟩⟩
  obtain⟨q,ha⟩:=hw.self.a2 (by omega)
  have hq:q∈p.cK:=by rw[ha];simp
  obtain⟨C,h2,h3⟩:=HL hl n q (by have:=BY hq;omega) (hw.arg hq) (hp.arg hq);refine⟨C,Nat.le_trans h2 (Nat.pow_le_pow_right (by omega) (Hs hq)),fun b f s hs=>?_⟩;exact h3 _ _ _ ((Sm.i5 (by omega) hop.2 ha).1 hs).1
theorem card {l:List B8} {p:A0} (hw:KF p) (hs:Xu l.length p) {L:List (List PR)} (hn:L.Nodup) (h:∀s∈L,Gd l s∧∃b f,Sm l p b f s):L.length≤1500:=by
 rcases hs with hs|⟨h1,h2,h3⟩
 ·refine Nat.le_trans (Ag3 hn fun s m=>?_) hs;obtain⟨g,b,f,hm⟩:=h s m;exact⟨g,hm.vars⟩
 obtain⟨C,h4,h5⟩:=HL h2 _ p (Nat.le_refl _) hw h1
 have:=List.Nodup.length_le_of_subset hn (l₂:=C) fun s m=>by
  obtain⟨g,b,f,hm⟩:=h s m;exact h5 b f s hm
 omega
end
end Go.Ab
