/- GVW2 GVW3 GVW4 GVW5 GVW6 GVW7 GVW8 GVW9 -/
import Derived.Test.YtjhobbohibnioaaGreatDoorD18
set_option linter.all false
open List (countP_append)
namespace Go.Ab
open Classical
noncomputable section
theorem GJ {A:Type} {n:Nat} {step:Int→Option (Int ⊕ (A ⊕ Unit))} {P:Nat→Bool} {u:A} (m:Nat) (hs:∀i,m≤i→i<n→step (i:Int)=some (if P i=true then .inr (.inr ())else .inl ((i:Int)+1))) (he:∀i:Nat,n≤i→step (i:Int)=some (.inr (.inl u))):
 ∀(k i N:Nat),n≤i+k→m≤i→k<N→loopN step N (i:Int)=some (if(List.range' i (n - i)).any P=true then .inr ()else .inl u)
 |0,i,N,h,_,hN=>by
  obtain⟨N,rfl⟩:∃m,N=m+1:=⟨N - 1,by omega⟩;rw[show n - i=0 by omega];simp[loopN,he i (by omega)]
 | k+1,i,N,h,hm,hN=>by
  obtain⟨N,rfl⟩:∃m,N=m+1:=⟨N - 1,by omega⟩
  by_cases hi:i<n
  ·have ih:=GJ m hs he k (i+1) N (by omega) (by omega) (by omega);simp only[loopN,hs i hm hi];rw[show n - i=(n - (i+1))+1 by omega,List.range'_succ,List.any_cons]
   by_cases hp:P i=true
   ·simp[hp]
   rw[if_neg hp]
   dsimp only
   rw[show((i:Int)+1)=((i+1:Nat):Int) by omega,ih];simp[hp]
  rw[show n - i=0 by omega];simp[loopN,he i (by omega)]
def Vv (l:List A9)(i:Int):Int:=match l[i.toNat]? with|some e=>e.Time|none=>0
def Og (l:List A9)(p:A0)(b s:List PR)(i:Nat):Bool:=match l[i]? with|some e=>decide (e.Typ=p.Typ)&&(!IR s i)&&DO (Lw l (mrg b s) i) p.Var e p.cL|none=>false
def NW (l:List A9)(p:A0)(b s:List PR):Bool:= !((List.range l.length).any fun i=>decide (Hk s<(i:Int))&&decide ((i:Int)<Bn s)&&Og l p b s i)
def Dc (l:List A9)(p:A0)(b s:List PR):Bool:=
 if p.Op=6 then decide (Ar.ar .sub .i64 (Vv l (Bn s)) (Vv l (Hk s))≤p.Span)else if p.Op=7 then DO (Lw l (mrg b s) l.length) (-1) ⟨0,0,0,0,[]⟩ p.cL else NW l p b s
structure Gd (l:List A9) (s:List PR):Prop where
 wf:WfS l s
 asc:Rc s
theorem Gd.len {l:List A9}{s:List PR}(h:Gd l s):s.length≤l.length:=Wo (k:=0) h.asc fun x hx=>by have:=(h.wf x hx).2;omega
theorem Gd.nil (l:List A9):Gd l []:=⟨fun _ h=>absurd h List.not_mem_nil,List.Pairwise.nil⟩
theorem Gd.mrg {l:List A9}{a b:List PR}(ha:Gd l a)(hb:Gd l b)(h:Bq a b):Gd l (mrg a b):=⟨fun x hx=>(Bz.1 hx).elim (ha.wf x) (hb.wf x),MB _ (Nat.le_refl _) ha.asc hb.asc h⟩
theorem Gd.lst {l:List A9}{s:List PR}(h:Gd l s)(hn:s≠[]):0≤Bn s∧Bn s<l.length:=by
 obtain⟨x,_,hx,e⟩:=Er hn;rw[e];exact(h.wf x hx).2
theorem Gd.hd {l:List A9} {s:List PR} (h:Gd l s) (hn:s≠[]):0≤Hk s∧Hk s<l.length∧Hk s≤Bn s∧IR s (Hk s)=true:=by
 cases s with
 |nil=>exact absurd rfl hn
 |cons x s=>
  have:=(h.wf x (by simp)).2;exact⟨this.1,this.2,KR h.asc x (by simp),QB.2 ⟨x,by simp,rfl⟩⟩
theorem Iq {l:List A9}{i:Int}(h0:0≤i)(h1:i<l.length):∃e,B9 l i=some e∧e.Time=Vv l i:=by
 obtain⟨i,rfl⟩:=Int.eq_ofNat_of_zero_le h0
 have hi:i<l.length:=by omega
 exact⟨l[i],GT hi,by simp[Vv,hi]⟩
theorem UQ {s:List PR}(h:s≠[]):∃x,B9 s 0=some x∧x.At=Hk s:=by
 cases s with
 |nil=>exact absurd rfl h
 |cons x s=>exact⟨x,rfl,rfl⟩
theorem Pj {l:List A9} {p:A0} {b s:List PR} {a n:Nat} (h1:(a:Int)≤Hk s+1) (h2:Hk s≤(a:Int)) (hn:(n:Int)=Bn s) (hh:IR s (Hk s)=true) (hl:Bn s<l.length):
 (List.range' a (n - a)).any (Og l p b s)= !NW l p b s:=by
 unfold NW;rw[Bool.not_not,Bool.eq_iff_iff,List.any_eq_true,List.any_eq_true]
 constructor
 ·rintro⟨i,hi,hb⟩
  rw[List.mem_range'_1]at hi
  refine⟨i,List.mem_range.2 (by omega),?_⟩
  have hne:Hk s≠(i:Int):=by
   intro e
   rw[e]at hh
   unfold Og at hb
   split at hb
   ·rw[hh]at hb;simp at hb
   cases hb
  simp only[Bool.and_eq_true,decide_eq_true_eq];exact⟨⟨by omega,by omega⟩,hb⟩
 rintro⟨i,hi,hb⟩
 simp only[Bool.and_eq_true,decide_eq_true_eq]at hb
 exact⟨i,List.mem_range'_1.2 (by omega),hb.2⟩
end
end Go.Ab
namespace Go.Ab
open Classical
noncomputable section
def Aj9 (l:List A9)(p:A0)(b:List PR)(i:Nat):Bool:=match l[i]? with|some e=>decide (e.Typ=p.Typ)&&DO (Lw l b i) p.Var e p.cL|none=>false
end
end Go.Ab
namespace Go.Ab
open Classical
noncomputable section
structure WfN (y:A0):Prop where
 op:0≤y.Op∧y.Op≤7
 var:y.Op=0→0≤y.Var∧y.Var<16
 a0:y.Op=0→y.cK=[]
 a1:1≤y.Op→y.Op≤3→y.cK≠[]
 a2:4≤y.Op→∃q,y.cK=[q]
 cond:y.cL.bulk≤16777216
def Mc (p:A0):Prop:=∀y∈p.pre,WfN y
theorem Lc {N:Nat} (hN:40000000≤N) {x:A0} (hb:x.bulk≤16777216) (h:Mn N x=0):Mc x∧x.pre.length≤64:=by
 unfold Mn at h
 by_cases hr:Q5 N x=0
 ·rw [if_neg (by simpa using hr)]at h
  by_cases ha:x.pre.any (fun y=>Ar.cmp .geq y.Op 8)=true
  ·rw[if_pos ha]at h;cases h
  obtain⟨hp,hd,hg⟩:=Iv hr;refine⟨fun y hy=>?_,hp⟩;have h1:=Fp x y hy;have h2:=EY y
  have hyb:y.bulk≤16777216:=by omega
  have hyl:y.cK.length≤64:=by omega
  obtain⟨ho,s,ng,hs,hc⟩:=Np hN hyb hyl (hg y hy)
  have h7:y.Op≤7:=by
   rw[Bool.not_eq_true,List.any_eq_false]at ha
   have:=ha y hy
   rw[L3]at this
   simp at this;omega
  have hz:=Ak2 hN N y.cL (⟨0,[],0,0,0,(⟨0,0,⟨#[]⟩⟩:A6)⟩:B4) (by omega) (by omega);have h1:=GR hN (by omega) ho.1 ho.2 hs hz
  rw[(El hN hyb hyl).2,hg y hy]at h1
  have h1:=Option.some.inj h1
  by_cases har:s.cR≤y.cK.length∧(y.cK.length:Int)≤s.most
  ·rw[if_pos har]at h1
   unfold JF at h1
   by_cases e1:DM s.cN y.Typ 15=true
   ·rw[if_pos e1]at h1;cases h1
   rw[if_neg e1]at h1
   by_cases e2:DM s.cN y.Var 15=true
   ·rw[if_pos e2]at h1;cases h1
   have ht:=hs.tab
   have hop:y.Op=0∨y.Op=1∨y.Op=2∨y.Op=3∨y.Op=4∨y.Op=5∨y.Op=6∨y.Op=7:=by omega
   refine⟨⟨ho.1,h7⟩,?_,?_,?_,?_,by omega⟩
   ·intro h0
    rw[h0]at ht
    have hs:s.cN=true:=by cases ht;rfl
    rw[hs]at e2
    unfold DM at e2
    simp at e2
    omega
   ·intro h0
    rw[h0]at ht
    have hm:s.most=0:=by cases ht;rfl
    exact List.eq_nil_of_length_eq_zero (by omega)
   ·intro h0 h3
    have hm:1≤s.cR:=by
     have:y.Op=1∨y.Op=2∨y.Op=3:=by omega
     rcases this with h|h|h<;>rw[h]at ht<;>cases ht<;>decide
    intro e
    rw[e]at har
    simp at har;omega
   intro h0
   have hm:s.cR=1∧s.most=1:=by
    have:y.Op=4∨y.Op=5∨y.Op=6∨y.Op=7:=by omega
    rcases this with h|h|h|h<;>rw[h]at ht<;>cases ht<;>decide
   have hl:y.cK.length=1:=by omega
   match he:y.cK,hl with
   |[q],_=>exact⟨q,rfl⟩
  rw[if_neg har]at h1;cases h1
 rw[if_pos (show Q5 N x≠0 from hr)]at h;exact absurd h hr
theorem As {y : A0}:∀{l:List A0},y∈A0.pres l↔∃a∈l,y∈a.pre
 |[]=>by simp[A0.pres]
 | a :: l => by simp only[A0.pres,List.mem_append,As (l:=l),List.mem_cons];constructor
                ·rintro(h|⟨b,h1,h2⟩)
                 ·exact⟨a,.inl rfl,h⟩
                 exact⟨b,.inr h1,h2⟩
                rintro⟨b,rfl|h1,h2⟩
                ·exact .inl h2
                exact .inr ⟨b,h1,h2⟩
theorem Mc.self {p:A0}(h:Mc p):WfN p:=h p (Ko p)
theorem Mc.arg {p q:A0}(h:Mc p)(hq:q∈p.cK):Mc q:=fun y hy=>h y (by rw[A0.pre_eq];exact List.mem_cons_of_mem _ (As.2 ⟨q,hq,hy⟩))
theorem Mc.sub {p:A0}{r:List A0}(h:Mc p)(h1:1≤p.Op)(h3:p.Op≤3)(hr:∀q∈r,q∈p.cK)(hn:r≠[]):Mc {p with cK:=r}:=by
 intro y hy
 rw[A0.pre_eq]at hy
 rcases List.mem_cons.1 hy with rfl|hy
 ·exact⟨h.self.op,fun e=>by have:p.Op=0:=e;omega,fun e=>by have:p.Op=0:=e;omega,fun _ _=>hn,fun e=>by have:4≤p.Op:=e;omega,h.self.cond⟩
 obtain⟨q,hq,hy⟩:=As.1 hy;exact h.arg (hr q hq) y hy
inductive Sm (l:List A9):A0→List PR→Int→List PR→Prop
 |ev {p:A0} {b:List PR} {f:Int} {j:Nat}:p.Op=0→f≤j→j<l.length→Aj9 l p b j=true→Sm l p b f [⟨p.Var,j⟩]
 |seq1 {p q:A0} {b:List PR} {f:Int} {s:List PR}:p.Op=1→p.cK=[q]→Sm l q b f s→Sm l p b f s
 |seq {p q q':A0} {r:List A0} {b:List PR} {f:Int} {s t:List PR}:p.Op=1→p.cK=q::q'::r→Sm l q b f s→Sm l {p with cK:=q'::r} (mrg b s) (Bn s+1) t→Sm l p b f (mrg s t)
 |alt {p q:A0} {b:List PR} {f:Int} {s:List PR}:p.Op=2→q∈p.cK→Sm l q b f s→Sm l p b f s
 |all1 {p q:A0} {b:List PR} {f:Int} {s:List PR}:p.Op=3→p.cK=[q]→Sm l q b f s→Sm l p b f s
 |all {p q:A0} {r:List A0} {b:List PR} {f:Int} {s t:List PR}:p.Op=3→p.cK=r++[q]→r≠[]→Sm l {p with cK:=r} b f s→Sm l q b f t→Bq s t→Sm l p b f (mrg s t)
 |plus1 {p q:A0} {b:List PR} {f:Int} {s:List PR}:p.Op=4→p.cK=[q]→Sm l q b f s→Sm l p b f s
 |plus {p q:A0} {b:List PR} {f:Int} {s t:List PR}:p.Op=4→p.cK=[q]→Sm l q b f s→Sm l p (mrg b s) (Bn s+1) t→Sm l p b f (mrg s t)
 |some {p q:A0} {b:List PR} {f:Int} {s:List PR}:5≤p.Op→p.Op≤7→p.cK=[q]→Sm l q b f s→Dc l p b s=true→Sm l p b f s
theorem Sm.i0 {l:List A9} {p:A0} {b:List PR} {f:Int} {s:List PR} (h0:p.Op=0):Sm l p b f s↔∃j:Nat,f≤j∧j<l.length∧Aj9 l p b j=true∧s=[⟨p.Var,j⟩]:=by
 constructor
 ·intro h
  cases h with
  |ev e0 e1 e2 e3=>exact⟨_,e1,e2,e3,rfl⟩
  |_=>omega
 rintro⟨j,e1,e2,e3,rfl⟩;exact .ev h0 e1 e2 e3
theorem Sm.i1 {l:List A9} {p q:A0} {b:List PR} {f:Int} {s:List PR} (h0:p.Op=1) (ha:p.cK=[q]):Sm l p b f s↔Sm l q b f s:=by
 constructor
 ·intro h
  cases h with
  |seq1 e0 ea hs=>rw[ha]at ea;cases ea;exact hs
  |seq e0 ea hs ht=>rw[ha]at ea;cases ea
  |_=>omega
 exact .seq1 h0 ha
theorem Sm.i1c {l:List A9} {p q q':A0} {r:List A0} {b:List PR} {f:Int} {s:List PR} (h0:p.Op=1) (ha:p.cK=q::q'::r):Sm l p b f s↔∃u t,Sm l q b f u∧Sm l {p with cK:=q'::r} (mrg b u) (Bn u+1) t∧s=mrg u t:=by
 constructor
 ·intro h
  cases h with
  |seq1 e0 ea hs=>rw[ha]at ea;cases ea
  |seq e0 ea hs ht=>rw[ha]at ea;cases ea;exact⟨_,_,hs,ht,rfl⟩
  |_=>omega
 rintro⟨u,t,hs,ht,rfl⟩;exact .seq h0 ha hs ht
theorem Sm.i2 {l:List A9} {p:A0} {b:List PR} {f:Int} {s:List PR} (h0:p.Op=2):Sm l p b f s↔∃q∈p.cK,Sm l q b f s:=by
 constructor
 ·intro h
  cases h with
  |alt e0 ea hs=>exact⟨_,ea,hs⟩
  |_=>omega
 rintro⟨q,ha,hs⟩;exact .alt h0 ha hs
theorem Sm.i3 {l:List A9} {p q:A0} {b:List PR} {f:Int} {s:List PR} (h0:p.Op=3) (ha:p.cK=[q]):Sm l p b f s↔Sm l q b f s:=by
 constructor
 ·intro h
  cases h with
  |all1 e0 ea hs=>rw[ha]at ea;cases ea;exact hs
  |all e0 ea en hs ht hd=>
   rw[ha]at ea
   exact absurd (List.append_inj_left' (s₁:=[]) ea rfl).symm en
  |_=>omega
 exact .all1 h0 ha
theorem Sm.i3c {l:List A9} {p q:A0} {r:List A0} {b:List PR} {f:Int} {s:List PR} (h0:p.Op=3) (ha:p.cK=r++[q]) (hr:r≠[]):Sm l p b f s↔∃u t,Sm l {p with cK:=r} b f u∧Sm l q b f t∧Bq u t∧s=mrg u t:=by
 constructor
 ·intro h
  cases h with
  |all1 e0 ea hs=>
   rw[ha]at ea
   exact absurd (List.append_inj_left' (s₂:=[]) ea rfl) hr
  |all e0 ea en hs ht hd=>
   rw[ha]at ea
   have e1:=List.append_inj_left' ea rfl;have e2:=List.append_inj_right' ea rfl;cases e1;cases e2;exact⟨_,_,hs,ht,hd,rfl⟩
  |_=>omega
 rintro⟨u,t,hs,ht,hd,rfl⟩;exact .all h0 ha hr hs ht hd
theorem Sm.i4 {l:List A9} {p q:A0} {b:List PR} {f:Int} {s:List PR} (h0:p.Op=4) (ha:p.cK=[q]):Sm l p b f s↔Sm l q b f s∨∃u t,Sm l q b f u∧Sm l p (mrg b u) (Bn u+1) t∧s=mrg u t:=by
 constructor
 ·intro h
  cases h with
  |plus1 e0 ea hs=>rw[ha]at ea;cases ea;exact .inl hs
  |plus e0 ea hs ht=>rw[ha]at ea;cases ea;exact .inr ⟨_,_,hs,ht,rfl⟩
  |_=>omega
 rintro(hs|⟨u,t,hs,ht,rfl⟩)
 ·exact .plus1 h0 ha hs
 exact .plus h0 ha hs ht
theorem Sm.i5 {l:List A9} {p q:A0} {b:List PR} {f:Int} {s:List PR} (h0:5≤p.Op) (h1:p.Op≤7) (ha:p.cK=[q]):Sm l p b f s↔Sm l q b f s∧Dc l p b s=true:=by
 constructor
 ·intro h
  cases h with
  |some e0 e1 ea hs hk=>rw[ha]at ea;cases ea;exact⟨hs,hk⟩
  |_=>omega
 rintro⟨hs,hk⟩;exact .some h0 h1 ha hs hk
structure QW (l:List A9) (b:List PR) (f:Int):Prop where
 gd:Gd l b
 lt:∀x∈b,x.At<f
 f0:0≤f
 f1:f≤l.length
structure LC (l:List A9) (f:Int) (s:List PR):Prop where
 gd:Gd l s
 ge:∀x∈s,f≤x.At
 ne:s≠[]
theorem QW.apart {l:List A9}{b s:List PR}{f:Int}(h:QW l b f)(r:LC l f s):Bq b s:=fun x hx y hy=>by have:=h.lt x hx;have:=r.ge y hy;omega
theorem QW.next {l:List A9}{b s:List PR}{f:Int}(h:QW l b f)(r:LC l f s):QW l (mrg b s) (Bn s+1):=by
 have hl:=r.gd.lst r.ne;refine⟨h.gd.mrg r.gd (h.apart r),fun x hx=>?_,by omega,by omega⟩
 rcases Bz.1 hx with hx|hx
 ·obtain⟨y,_,hy,e⟩:=Er r.ne;have:=h.lt x hx;have:=r.ge y hy;omega
 have:=KR r.gd.asc x hx;omega
theorem LC.seq {l:List A9} {s t:List PR} {f:Int} (r:LC l f s) (q:LC l (Bn s+1) t):LC l f (mrg s t)∧Bq s t:=by
 have ha:Bq s t:=fun x hx y hy=>by have:=KR r.gd.asc x hx;have:=q.ge y hy;omega
 refine⟨⟨r.gd.mrg q.gd ha,fun x hx=>?_,fun e=>?_⟩,ha⟩
 ·rcases Bz.1 hx with hx|hx
  ·exact r.ge x hx
  obtain⟨y,_,hy,e⟩:=Er r.ne;have:=r.ge y hy;have:=q.ge x hx;omega
 have h1:=congrArg List.length e
 rw[MA,List.length_nil]at h1
 have:=List.length_pos_iff.2 r.ne;omega
theorem LC.all {l:List A9}{s t:List PR}{f:Int}(r:LC l f s)(q:LC l f t)(ha:Bq s t):LC l f (mrg s t):=by
 refine⟨r.gd.mrg q.gd ha,fun x hx=>(Bz.1 hx).elim (r.ge x) (q.ge x),fun e=>?_⟩;have h1:=congrArg List.length e
 rw[MA,List.length_nil]at h1
 have:=List.length_pos_iff.2 r.ne;omega
theorem Sm.res {l:List A9} {p:A0} {b:List PR} {f:Int} {s:List PR} (h:Sm l p b f s):Mc p→QW l b f→LC l f s:=by
 induction h with
 |@ev p b f j h0 hf hj ht=>
  intro hw ho;refine⟨⟨fun x hx=>?_,List.pairwise_singleton _ _⟩,fun x hx=>?_,by simp⟩
  ·rw[List.mem_singleton.1 hx];exact⟨hw.self.var h0,by show 0≤(j:Int)∧(j:Int)<l.length;omega⟩
  rw[List.mem_singleton.1 hx];exact hf
 |seq1 h0 ha _ ih=>intro hw ho;exact ih (hw.arg (by rw[ha];simp)) ho
 |@seq p q q' r b f s t h0 ha _ _ ih1 ih2=>
  intro hw ho;have r1:=ih1 (hw.arg (by rw[ha];simp)) ho;have r2:=ih2 (hw.sub (by omega) (by omega) (fun x hx=>by rw[ha];exact List.mem_cons_of_mem _ hx) (by simp)) (ho.next r1);exact(r1.seq r2).1
 |alt h0 ha _ ih=>intro hw ho;exact ih (hw.arg ha) ho
 |all1 h0 ha _ ih=>intro hw ho;exact ih (hw.arg (by rw[ha];simp)) ho
 |@all p q r b f s t h0 ha hn _ _ hd ih1 ih2=>
  intro hw ho;exact(ih1 (hw.sub (by omega) (by omega) (fun x hx=>by rw[ha];simp[hx]) hn) ho).all (ih2 (hw.arg (by rw[ha];simp)) ho) hd
 |plus1 h0 ha _ ih=>intro hw ho;exact ih (hw.arg (by rw[ha];simp)) ho
 |@plus p q b f s t h0 ha _ _ ih1 ih2=>
  intro hw ho;have r1:=ih1 (hw.arg (by rw[ha];simp)) ho;exact(r1.seq (ih2 hw (ho.next r1))).1
 |some h0 h1 ha _ _ ih=>intro hw ho;exact ih (hw.arg (by rw[ha];simp)) ho
def Vs (p:A0)(v:Int):Prop:=∃y∈p.pre,y.Op=0∧y.Var=v
theorem Vs.arg {p q:A0}{v:Int}(hq:q∈p.cK)(h:Vs q v):Vs p v:=by
 obtain⟨y,hy,h⟩:=h;exact⟨y,by rw[A0.pre_eq];exact List.mem_cons_of_mem _ (As.2 ⟨q,hq,hy⟩),h⟩
theorem Vs.sub {p:A0}{r:List A0}{v:Int}(h0:p.Op≠0)(hr:∀q∈r,q∈p.cK)(h:Vs {p with cK:=r} v):Vs p v:=by
 obtain⟨y,hy,h1,h2⟩:=h
 rw[A0.pre_eq]at hy
 rcases List.mem_cons.1 hy with rfl|hy
 ·exact absurd h1 h0
 obtain⟨q,hq,hy⟩:=As.1 hy;exact Vs.arg (hr q hq) ⟨y,hy,h1,h2⟩
theorem Sm.vars {l:List A9} {p:A0} {b:List PR} {f:Int} {s:List PR} (h:Sm l p b f s):∀x∈s,Vs p x.Var:=by
 induction h with
 |@ev p b f j h0 hf hj ht=>intro x hx;rw[List.mem_singleton.1 hx];exact⟨p,Ko p,h0,rfl⟩
 |seq1 h0 ha _ ih=>intro x hx;exact Vs.arg (by rw[ha];simp) (ih x hx)
 |@seq p q q' r b f s t h0 ha _ _ ih1 ih2=>
  intro x hx
  rcases Bz.1 hx with hx|hx
  ·exact Vs.arg (by rw[ha];simp) (ih1 x hx)
  exact Vs.sub (by omega) (fun x hx=>by rw[ha];exact List.mem_cons_of_mem _ hx) (ih2 x hx)
 |alt h0 ha _ ih=>intro x hx;exact Vs.arg ha (ih x hx)
 |all1 h0 ha _ ih=>intro x hx;exact Vs.arg (by rw[ha];simp) (ih x hx)
 |@all p q r b f s t h0 ha hn _ _ hd ih1 ih2=>
  intro x hx
  rcases Bz.1 hx with hx|hx
  ·exact Vs.sub (by omega) (fun x hx=>by rw[ha];simp[hx]) (ih1 x hx)
  exact Vs.arg (by rw[ha];simp) (ih2 x hx)
 |plus1 h0 ha _ ih=>intro x hx;exact Vs.arg (by rw[ha];simp) (ih x hx)
 |@plus p q b f s t h0 ha _ _ ih1 ih2=>
  intro x hx
  rcases Bz.1 hx with hx|hx
  ·exact Vs.arg (by rw[ha];simp) (ih1 x hx)
  exact ih2 x hx
 |some h0 h1 ha _ _ ih=>intro x hx;exact Vs.arg (by rw[ha];simp) (ih x hx)
end
end Go.Ab
namespace Go.Ab
open Classical
noncomputable section
def KI (p:A0):Nat:=p.pre.countP fun y=>decide (y.Op=0)
def FL (p:A0):Prop:=∀y∈p.pre,y.Op≠4
theorem HW (p:A0):KI p=(if p.Op=0 then 1 else 0)+(A0.pres p.cK).countP fun y=>decide (y.Op=0):=by
 unfold KI;rw[A0.pre_eq,List.countP_cons]
 by_cases h:p.Op=0<;>simp[h]<;>omega
theorem ME (p:A0)(r:List A0):KI {p with cK:=r}=(if p.Op=0 then 1 else 0)+(A0.pres r).countP fun y=>decide (y.Op=0):=HW _
theorem LU {q:A0}:∀{l:List A0},q∈l→KI q≤(A0.pres l).countP fun y=>decide (y.Op=0)
 |a::l,h=>by
  simp only[A0.pres,countP_append]
  rcases List.mem_cons.1 h with rfl|h
  ·exact Nat.le_add_right _ _
  have:=LU h;unfold KI at *;omega
theorem IH {p q:A0}(h:q∈p.cK):KI q≤KI p:=by rw[HW p];have:=LU h;omega
theorem FL.arg {p q:A0}(h:FL p)(hq:q∈p.cK):FL q:=fun y hy=>h y (by rw[A0.pre_eq];exact List.mem_cons_of_mem _ (As.2 ⟨q,hq,hy⟩))
theorem FL.sub {p:A0}{r:List A0}(h:FL p)(hr:∀q∈r,q∈p.cK):FL {p with cK:=r}:=by
 intro y hy
 rw[A0.pre_eq]at hy
 rcases List.mem_cons.1 hy with rfl|hy
 ·exact h p (Ko p)
 obtain⟨q,hq,hy⟩:=As.1 hy;exact h.arg (hr q hq) y hy
def Sml (n:Nat)(p:A0):Prop:=(KI p+1) ^ n≤1500∨(FL p∧2≤n∧n ^ KI p≤1500)
theorem Sml.mono {n:Nat}{p q:A0}(h:Sml n p)(h1:KI q≤KI p)(h2:FL p→FL q):Sml n q:=by
 rcases h with h|⟨a,b,c⟩
 ·exact .inl (Nat.le_trans (Nat.pow_le_pow_left (by omega) n) h)
 exact .inr ⟨h2 a,b,Nat.le_trans (Nat.pow_le_pow_right (by omega) h1) c⟩
theorem Sml.arg {n:Nat}{p q:A0}(h:Sml n p)(hq:q∈p.cK):Sml n q:=h.mono (IH hq) fun k=>k.arg hq
theorem Sml.tail {n:Nat}{p q:A0}{r:List A0}(h:Sml n p)(ha:p.cK=q::r):Sml n {p with cK:=r}:=by
 refine h.mono ?_ fun k=>k.sub fun x hx=>by rw[ha];exact List.mem_cons_of_mem _ hx
 rw[ME,HW,ha];simp only[A0.pres,countP_append];omega
theorem HE :∀(r m:List A0),A0.pres (r++m)=A0.pres r++A0.pres m
 |[],m=>by simp[A0.pres]
 |a::r,m=>by simp[A0.pres,HE r m]
def HY (V:List Int):Nat→Int→List (List PR)
 |0,_=>[[]]
 |m+1,k=>HY V m (k+1)++V.flatMap fun v=>(HY V m (k+1)).map fun s=>⟨v,k⟩::s
theorem Lx (V:List Int):∀(m:Nat) (k:Int),(HY V m k).length=(V.length+1) ^ m
 |0,_=>rfl
 | m+1,k=>by
  have ih:=Lx V m (k+1)
  have h:(V.flatMap fun v=>(HY V m (k+1)).map fun s=>(⟨v,k⟩:PR)::s).length=V.length*(V.length+1) ^ m:=by
   clear ih;generalize hE:HY V m (k+1)=E
   have hl:E.length=(V.length+1) ^ m:=by rw[←hE];exact Lx V m (k+1)
   rw[←hl];clear hl hE
   induction V with
   |nil=>simp
   |cons v V ih=>rw[List.flatMap_cons,List.length_append,ih,List.length_map,List.length_cons,Nat.succ_mul];omega
  rw[HY,List.length_append,ih,h,Nat.pow_succ];rw[Nat.mul_comm _ (V.length+1),Nat.succ_mul];omega
theorem II (V:List Int):∀(m:Nat) (k:Int) (s:List PR),Rc s→(∀x∈s,k≤x.At∧x.At<k+m)→(∀x∈s,x.Var∈V)→s∈HY V m k
 |0,k,[],_,_,_=>by simp[HY]
 |0,k,x::s,_,h,_=>by have:=h x (by simp);omega
 |m+1,k,[],ha,_,_=>by
  rw[HY];exact List.mem_append_left _ (II V m (k+1) [] ha (by simp) (by simp))
 | m+1,k,x::s,ha,h,hv=>by
  rw[HY];have ha':=ha
  unfold Rc at ha
  rw[List.pairwise_cons]at ha
  have hx:=h x (by simp)
  by_cases e:x.At=k
  ·refine List.mem_append_right _ (List.mem_flatMap.2 ⟨x.Var,hv x (by simp),List.mem_map.2 ⟨s,II V m (k+1) s ha.2 (fun y hy=>?_) (fun y hy=>hv y (by simp[hy])),?_⟩⟩)
   ·have:=ha.1 y hy;have:=h y (by simp[hy]);omega
   rw[←e]
  refine List.mem_append_left _ (II V m (k+1) (x::s) ha' (fun y hy=>?_) hv);have:=h y hy
  rcases List.mem_cons.1 hy with rfl|hy
  ·omega
  have:=ha.1 y hy;omega
def Vr (p:A0):List Int:=(p.pre.filter fun y=>decide (y.Op=0)).map (·.Var)
theorem Wy (p:A0):(Vr p).length=KI p:=by unfold Vr KI;rw[List.length_map,List.countP_eq_length_filter]
theorem Vs.mem {p:A0}{v:Int}(h:Vs p v):v∈Vr p:=by
 obtain⟨y,hy,h0,h1⟩:=h;exact List.mem_map.2 ⟨y,List.mem_filter.2 ⟨hy,by simpa using h0⟩,h1⟩
theorem At4 {l:List A9} {p:A0} {L:List (List PR)} (hn:L.Nodup) (h:∀s∈L,Gd l s∧∀x∈s,Vs p x.Var):L.length≤(KI p+1) ^ l.length:=by
 have:=List.Nodup.length_le_of_subset hn (l₂:=HY (Vr p) l.length 0) fun s hs=>by
  obtain⟨g,hv⟩:=h s hs;exact II _ _ _ s g.asc (fun x hx=>by have:=(g.wf x hx).2;omega) fun x hx=>(hv x hx).mem
 rwa[Lx,Wy]at this
theorem VB {α β:Type}(A B:List α)(f:α→α→β):(A.flatMap fun a=>B.map (f a)).length=A.length*B.length:=by
 induction A with
 |nil=>simp
 |cons a A ih=>rw[List.flatMap_cons,List.length_append,ih,List.length_map,List.length_cons,Nat.succ_mul];omega
theorem VD :∀(n:Nat) (p:A0),p.pre.length≤n→Mc p→1≤KI p
 |0,p,h,_=>by rw[A0.pre_eq]at h;simp at h
 | n+1,p,h,hw=>by
  by_cases h0:p.Op=0
  ·rw[HW,if_pos h0];omega
  have hne:∃q,q∈p.cK:=by
   by_cases h3:p.Op≤3
   ·exact List.exists_mem_of_ne_nil _ (hw.self.a1 (by have:=hw.self.op;omega) h3)
   obtain⟨q,hq⟩:=hw.self.a2 (by omega);exact⟨q,by rw[hq];simp⟩
  obtain⟨q,hq⟩:=hne;have:=VD n q (by have:=Cc hq;omega) (hw.arg hq);have:=IH hq;omega
theorem TC {x y:Nat} (hx:2≤x) (hy:2≤y):x+y≤x*y:=by
 obtain⟨a,rfl⟩:∃a,x=a+2:=⟨x - 2,by omega⟩;obtain⟨b,rfl⟩:∃b,y=b+2:=⟨y - 2,by omega⟩
 have:(a+2)*(b+2)=a*b+2*a+2*b+4:=by
  rw[Nat.mul_add,Nat.add_mul,Nat.add_mul];omega
 omega
theorem VC {p q:A0}{r:List A0}(ha:p.cK=q::r):({p with cK:=r}:A0).pre.length<p.pre.length:=by
 have h1:=A0.pre_eq ({p with cK:=r}:A0);have h2:=A0.pre_eq p;rw[h1,h2,ha];have:=A0.pre_eq q;simp only[A0.pres,List.length_cons,List.length_append,this];omega
theorem YE {p q:A0}{r:List A0}(ha:p.cK=r++[q]):({p with cK:=r}:A0).pre.length<p.pre.length:=by
 have h1:=A0.pre_eq ({p with cK:=r}:A0);have h2:=A0.pre_eq p;rw[h1,h2,ha,HE];have:=A0.pre_eq q;simp only[A0.pres,List.length_cons,List.length_append,this];omega
theorem Jh {l:List A9} (hl:2≤l.length):∀(n:Nat) (p:A0),p.pre.length≤n→Mc p→FL p→∃C:List (List PR),C.length≤l.length ^ KI p∧∀b f s,Sm l p b f s→s∈C
 |0,p,h,_,_=>by rw[A0.pre_eq]at h;simp at h
 | n +1,p,h,hw,hp=>by
  have hop:=hw.self.op;have hnp:=hp p (Ko p)
  have hpow:∀q:A0,Mc q→2≤l.length ^ KI q:=fun q hq=>by
   have h1:=VD _ q (Nat.le_refl _) hq;have:=Nat.pow_le_pow_right (n:=l.length) (by omega) h1
   rw[Nat.pow_one]at this;omega
  by_cases h0:p.Op=0
  ·refine⟨(List.range l.length).map fun(j:Nat)=>[⟨p.Var,(j:Int)⟩],?_,fun b f s hs=>?_⟩
   ·rw[HW,if_pos h0,hw.self.a0 h0,List.length_map,List.length_range];simp[A0.pres]
   obtain⟨j,_,hj,_,rfl⟩:=(Sm.i0 h0).1 hs;exact List.mem_map.2 ⟨j,List.mem_range.2 hj,rfl⟩
  by_cases h1:p.Op=1
  ·match ha:p.cK with
   |[]=>exact absurd ha (hw.self.a1 (by omega) (by omega))
   |[q]=>
    have hq:q∈p.cK:=by rw[ha];simp
    obtain⟨C,h2,h3⟩:=Jh hl n q (by have:=Cc hq;omega) (hw.arg hq) (hp.arg hq);refine⟨C,Nat.le_trans h2 (Nat.pow_le_pow_right (by omega) (IH hq)),fun b f s hs=>?_⟩;exact h3 _ _ _ ((Sm.i1 h1 ha).1 hs)
   | q::q'::r=>
    have hq:q∈p.cK:=by rw[ha];simp
    obtain⟨C,h2,h3⟩:=Jh hl n q (by have:=Cc hq;omega) (hw.arg hq) (hp.arg hq);obtain⟨D,h4,h5⟩:=Jh hl n {p with cK:=q'::r} (by have:=VC ha;omega) (hw.sub (by omega) (by omega) (fun x hx=>by rw[ha];exact List.mem_cons_of_mem _ hx) (by simp)) (hp.sub fun x hx=>by rw[ha];exact List.mem_cons_of_mem _ hx);refine⟨C.flatMap fun s=>D.map (mrg s),?_,fun b f s hs=>?_⟩
    ·rw[VB,show KI p=KI q+KI {p with cK:=q'::r}from ?_,Nat.pow_add]
     ·exact Nat.mul_le_mul h2 h4
     rw[ME,HW p,ha,if_neg h0];rw[A0.pres,countP_append];unfold KI;omega
    obtain⟨u,t,hu,ht,rfl⟩:=(Sm.i1c h1 ha).1 hs;exact List.mem_flatMap.2 ⟨_,h3 _ _ _ hu,List.mem_map.2 ⟨_,h5 _ _ _ ht,rfl⟩⟩
  by_cases h2':p.Op=2
  ·match ha:p.cK with
   |[]=>exact absurd ha (hw.self.a1 (by omega) (by omega))
   |[q]=>
    have hq:q∈p.cK:=by rw[ha];simp
    obtain⟨C,h2,h3⟩:=Jh hl n q (by have:=Cc hq;omega) (hw.arg hq) (hp.arg hq);refine⟨C,Nat.le_trans h2 (Nat.pow_le_pow_right (by omega) (IH hq)),fun b f s hs=>?_⟩;obtain⟨q',ha',hs⟩:=(Sm.i2 h2').1 hs
    rw[ha]at ha'
    rw[List.mem_singleton.1 ha']at hs
    exact h3 _ _ _ hs
   | q::q'::r=>
    have hq:q∈p.cK:=by rw[ha];simp
    have hws:Mc {p with cK:=q'::r}:=hw.sub (by omega) (by omega) (fun x hx=>by rw[ha];exact List.mem_cons_of_mem _ hx) (by simp);obtain⟨C,h2,h3⟩:=Jh hl n q (by have:=Cc hq;omega) (hw.arg hq) (hp.arg hq);obtain⟨D,h4,h5⟩:=Jh hl n {p with cK:=q'::r} (by have:=VC ha;omega) hws (hp.sub fun x hx=>by rw[ha];exact List.mem_cons_of_mem _ hx);refine⟨C++D,?_,fun b f s hs=>?_⟩
    ·rw[List.length_append,show KI p=KI q+KI {p with cK:=q'::r}from ?_,Nat.pow_add]
     ·have e1:=hpow q (hw.arg hq);have e2:=hpow _ hws;have:=TC e1 e2;omega
     rw[ME,HW p,ha,if_neg h0];rw[A0.pres,countP_append];unfold KI;omega
    obtain⟨x,ha',hs⟩:=(Sm.i2 h2').1 hs
    rw[ha]at ha'
    rcases List.mem_cons.1 ha' with e|hm
    ·rw[e]at hs;exact List.mem_append_left _ (h3 _ _ _ hs)
    exact List.mem_append_right _ (h5 _ _ _ (Sm.alt (p:={p with cK:=q'::r}) h2' hm hs))
  by_cases h3':p.Op=3
  ·rcases List.eq_nil_or_concat p.cK with ha|⟨r,q,ha⟩
   ·exact absurd ha (hw.self.a1 (by omega) (by omega))
   rw[List.concat_eq_append]at ha
   have hq:q∈p.cK:=by rw[ha];simp
   obtain⟨C,h2,h3⟩:=Jh hl n q (by have:=Cc hq;omega) (hw.arg hq) (hp.arg hq)
   by_cases hr:r=[]
   ·subst hr;refine⟨C,Nat.le_trans h2 (Nat.pow_le_pow_right (by omega) (IH hq)),fun b f s hs=>?_⟩;exact h3 _ _ _ ((Sm.i3 h3' ha).1 hs)
   have hws:Mc {p with cK:=r}:=hw.sub (by omega) (by omega) (fun x hx=>by rw[ha];simp[hx]) hr;obtain⟨D,h4,h5⟩:=Jh hl n {p with cK:=r} (by have:=YE ha;omega) hws (hp.sub fun x hx=>by rw[ha];simp[hx]);refine⟨D.flatMap fun s=>C.map (mrg s),?_,fun b f s hs=>?_⟩
   ·rw[VB,show KI p=KI {p with cK:=r}+KI q from ?_,Nat.pow_add]
    ·exact Nat.mul_le_mul h4 h2
    rw[ME,HW p,ha,if_neg h0,HE,countP_append];simp only[A0.pres,List.append_nil];unfold KI;omega
   obtain⟨u,t,hu,ht,_,rfl⟩:=(Sm.i3c h3' ha hr).1 hs;exact List.mem_flatMap.2 ⟨_,h5 _ _ _ hu,List.mem_map.2 ⟨_,h3 _ _ _ ht,rfl⟩⟩
  obtain⟨q,ha⟩:=hw.self.a2 (by omega)
  have hq:q∈p.cK:=by rw[ha];simp
  obtain⟨C,h2,h3⟩:=Jh hl n q (by have:=Cc hq;omega) (hw.arg hq) (hp.arg hq);refine⟨C,Nat.le_trans h2 (Nat.pow_le_pow_right (by omega) (IH hq)),fun b f s hs=>?_⟩;exact h3 _ _ _ ((Sm.i5 (by omega) hop.2 ha).1 hs).1
theorem card {l:List A9} {p:A0} (hw:Mc p) (hs:Sml l.length p) {L:List (List PR)} (hn:L.Nodup) (h:∀s∈L,Gd l s∧∃b f,Sm l p b f s):L.length≤1500:=by
 rcases hs with hs|⟨h1,h2,h3⟩
 ·refine Nat.le_trans (At4 hn fun s m=>?_) hs;obtain⟨g,b,f,hm⟩:=h s m;exact⟨g,hm.vars⟩
 obtain⟨C,h4,h5⟩:=Jh h2 _ p (Nat.le_refl _) hw h1
 have:=List.Nodup.length_le_of_subset hn (l₂:=C) fun s m=>by
  obtain⟨g,b,f,hm⟩:=h s m;exact h5 b f s hm
 omega
end
end Go.Ab
namespace Go.Ab
open Classical
noncomputable section
end
end Go.Ab
namespace Go.Ab
open Classical
noncomputable section
section
variable {N:Nat}(hN:40000000≤N){l:List A9}(hl:l.length≤10)
include hN hl
def mu (l:List A9)(p:A0)(f:Nat):Nat:=p.pre.length*(l.length+2)+(l.length - f)
end
end
end Go.Ab
namespace Go.Ab
open Classical
noncomputable section
section
variable {N:Nat}(hN:40000000≤N){l:List A9}(hl:l.length≤10)
include hN hl
end
end
end Go.Ab
namespace Go.Ab
open Classical
noncomputable section
def add1 (out:List (List PR))(s:List PR):List (List PR):=if s∈out then out else out++[s]
def Nd (P:List PR→Prop)(out:List (List PR)):Prop:=out.Nodup∧∀s∈out,P s
theorem Nd.nil (P:List PR→Prop):Nd P []:=⟨List.nodup_nil,fun _ h=>absurd h List.not_mem_nil⟩
theorem Nd.add {P:List PR→Prop}{out:List (List PR)}{s:List PR}(h:Nd P out)(hs:P s):Nd P (add1 out s):=by
 unfold add1
 split
 ·exact h
 rename_i hin;refine⟨List.nodup_append.2 ⟨h.1,by simp,fun a ha b hb e=>hin (by rw[←List.mem_singleton.1 hb,←e];exact ha)⟩,fun x hx=>?_⟩
 rcases List.mem_append.1 hx with hx|hx
 ·exact h.2 x hx
 rw[List.mem_singleton.1 hx];exact hs
def Al9 (r:Option (List (List PR)))(l:List A9)(p:A0)(b:List PR)(f:Int):Prop:=∃L,r=some L∧L.Nodup∧∀s,s∈L↔Sm l p b f s
theorem Al9.mk {x:Option (List (List PR))}{l:List A9}{p:A0}{b:List PR}{f:Int}(h:∃L,x=some L∧L.Nodup∧∀s,s∈L↔Sm l p b f s):Al9 (x.bind fun s=>some s) l p b f:=by
 obtain⟨L,rfl,h⟩:=h;exact⟨L,rfl,h⟩
section
variable {N:Nat}(hN:40000000≤N){l:List A9}(hl:l.length≤10)
include hN hl
end
end
end Go.Ab
