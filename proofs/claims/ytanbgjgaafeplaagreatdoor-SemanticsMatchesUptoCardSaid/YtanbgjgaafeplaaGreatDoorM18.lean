/- GTW4 GTW5 GTW6 GTW7 GTW8 GTW9 GTX0 GTX1 -/
import Derived.Test.YtanbgjgaafeplaaGreatDoorM17
set_option linter.all false
open List (append_nil countP_append)
open Nat (add_mul)
open Go.Ab.Ar (an ar cmp nt)
namespace Go.Ab
open Classical
noncomputable section
structure WfN (y:A1):Prop where
 op:0≤y.Op∧y.Op≤7
 var:y.Op=0→0≤y.Var∧y.Var<16
 a0:y.Op=0→y.cL=[]
 a1:1≤y.Op→y.Op≤3→y.cL≠[]
 a2:4≤y.Op→∃q,y.cL=[q]
 cond:y.cN.bulk≤16777216
def Gx (p:A1):Prop:=∀y∈p.pre,WfN y
theorem UA {N:Nat} (hN:40000000≤N) {x:A1} (hb:x.bulk≤16777216) (h:Rs N x=0):Gx x∧x.pre.length≤64:=by
 unfold Rs at h
 by_cases hr:O2 N x=0
 ·rw [if_neg (by simpa using hr)]at h
  by_cases ha:x.pre.any (fun y=>cmp .geq y.Op 8)=true
  ·rw[if_pos ha]at h;cases h
  obtain⟨hp,hd,hg⟩:=HE hr;refine⟨fun y hy=>?_,hp⟩;have h1:=EK x y hy;have h2:=Bw y
  have hyb:y.bulk≤16777216:=by omega
  have hyl:y.cL.length≤64:=by omega
  obtain⟨ho,s,ng,hs,hc⟩:=Mk hN hyb hyl (hg y hy)
  have h7:y.Op≤7:=by
   rw[Bool.not_eq_true,List.any_eq_false]at ha
   have:=ha y hy
   rw[M1]at this
   simp at this;omega
  have hz:=ZZ hN N y.cN (⟨0,[],0,0,0,(⟨0,0,⟨#[]⟩⟩:A4)⟩:B0) (by omega) (by omega);have h1:=Gi hN (by omega) ho.1 ho.2 hs hz
  rw[(DJ hN hyb hyl).2,hg y hy]at h1
  have h1:=Option.some.inj h1
  by_cases har:s.cS≤y.cL.length∧(y.cL.length:Int)≤s.most
  ·rw[if_pos har]at h1
   unfold ID at h1
   by_cases e1:Da s.cP y.Typ 15=true
   ·rw[if_pos e1]at h1;cases h1
   rw[if_neg e1]at h1
   by_cases e2:Da s.cP y.Var 15=true
   ·rw[if_pos e2]at h1;cases h1
   have ht:=hs.tab
   have hop:y.Op=0∨y.Op=1∨y.Op=2∨y.Op=3∨y.Op=4∨y.Op=5∨y.Op=6∨y.Op=7:=by omega
   refine⟨⟨ho.1,h7⟩,?_,?_,?_,?_,by omega⟩
   ·intro h0
    rw[h0]at ht
    have hs:s.cP=true:=by cases ht;rfl
    rw[hs]at e2
    unfold Da at e2
    simp at e2
    omega
   ·intro h0
    rw[h0]at ht
    have hm:s.most=0:=by cases ht;rfl
    exact List.eq_nil_of_length_eq_zero (by omega)
   ·intro h0 h3
    have hm:1≤s.cS:=by
     have:y.Op=1∨y.Op=2∨y.Op=3:=by omega
     rcases this with h|h|h<;>rw[h]at ht<;>cases ht<;>decide
    intro e
    rw[e]at har
    simp at har;omega
   intro h0
   have hm:s.cS=1∧s.most=1:=by
    have:y.Op=4∨y.Op=5∨y.Op=6∨y.Op=7:=by omega
    rcases this with h|h|h|h<;>rw[h]at ht<;>cases ht<;>decide
   have hl:y.cL.length=1:=by omega
   match he:y.cL,hl with
   |[q],_=>exact⟨q,rfl⟩
  rw[if_neg har]at h1;cases h1
 rw[if_pos (show O2 N x≠0 from hr)]at h;exact absurd h hr
theorem Aa {y : A1}:∀{l:List A1},y∈A1.pres l↔∃a∈l,y∈a.pre
 |[]=>by simp[A1.pres]
 | a :: l => by simp only[A1.pres,List.mem_append,Aa (l:=l),List.mem_cons];constructor
                ·rintro(h|⟨b,h1,h2⟩)
                 ·exact⟨a,.inl rfl,h⟩
                 exact⟨b,.inr h1,h2⟩
                rintro⟨b,rfl|h1,h2⟩
                ·exact .inl h2
                exact .inr ⟨b,h1,h2⟩
theorem Gx.self {p:A1}(h:Gx p):WfN p:=h p (Jp p)
theorem Gx.arg {p q:A1}(h:Gx p)(hq:q∈p.cL):Gx q:=fun y hy=>h y (by rw[A1.pre_eq];exact List.mem_cons_of_mem _ (Aa.2 ⟨q,hq,hy⟩))
theorem Gx.sub {p:A1}{r:List A1}(h:Gx p)(h1:1≤p.Op)(h3:p.Op≤3)(hr:∀q∈r,q∈p.cL)(hn:r≠[]):Gx {p with cL:=r}:=by
 intro y hy
 rw[A1.pre_eq]at hy
 rcases List.mem_cons.1 hy with rfl|hy
 ·exact⟨h.self.op,fun e=>by have:p.Op=0:=e;omega,fun e=>by have:p.Op=0:=e;omega,fun _ _=>hn,fun e=>by have:4≤p.Op:=e;omega,h.self.cond⟩
 obtain⟨q,hq,hy⟩:=Aa.1 hy;exact h.arg (hr q hq) y hy
inductive Sm (l:List A7):A1→List PR→Int→List PR→Prop
 |ev {p:A1} {b:List PR} {f:Int} {j:Nat}:p.Op=0→f≤j→j<l.length→KE l p b j=true→Sm l p b f [⟨p.Var,j⟩]
 |seq1 {p q:A1} {b:List PR} {f:Int} {s:List PR}:p.Op=1→p.cL=[q]→Sm l q b f s→Sm l p b f s
 |seq {p q q':A1} {r:List A1} {b:List PR} {f:Int} {s t:List PR}:p.Op=1→p.cL=q::q'::r→Sm l q b f s→Sm l {p with cL:=q'::r} (mrg b s) (Y6 s+1) t→Sm l p b f (mrg s t)
 |alt {p q:A1} {b:List PR} {f:Int} {s:List PR}:p.Op=2→q∈p.cL→Sm l q b f s→Sm l p b f s
 |all1 {p q:A1} {b:List PR} {f:Int} {s:List PR}:p.Op=3→p.cL=[q]→Sm l q b f s→Sm l p b f s
 |all {p q:A1} {r:List A1} {b:List PR} {f:Int} {s t:List PR}:p.Op=3→p.cL=r++[q]→r≠[]→Sm l {p with cL:=r} b f s→Sm l q b f t→BT s t→Sm l p b f (mrg s t)
 |plus1 {p q:A1} {b:List PR} {f:Int} {s:List PR}:p.Op=4→p.cL=[q]→Sm l q b f s→Sm l p b f s
 |plus {p q:A1} {b:List PR} {f:Int} {s t:List PR}:p.Op=4→p.cL=[q]→Sm l q b f s→Sm l p (mrg b s) (Y6 s+1) t→Sm l p b f (mrg s t)
 |some {p q:A1} {b:List PR} {f:Int} {s:List PR}:5≤p.Op→p.Op≤7→p.cL=[q]→Sm l q b f s→Dg l p b s=true→Sm l p b f s
theorem Sm.i0 {l:List A7} {p:A1} {b:List PR} {f:Int} {s:List PR} (h0:p.Op=0):Sm l p b f s↔∃j:Nat,f≤j∧j<l.length∧KE l p b j=true∧s=[⟨p.Var,j⟩]:=by
 constructor
 ·intro h
  cases h with
  |ev e0 e1 e2 e3=>exact⟨_,e1,e2,e3,rfl⟩
  |_=>omega
 rintro⟨j,e1,e2,e3,rfl⟩;exact .ev h0 e1 e2 e3
theorem Sm.i1 {l:List A7} {p q:A1} {b:List PR} {f:Int} {s:List PR} (h0:p.Op=1) (ha:p.cL=[q]):Sm l p b f s↔Sm l q b f s:=by
 constructor
 ·intro h
  cases h with
  |seq1 e0 ea hs=>rw[ha]at ea;cases ea;exact hs
  |seq e0 ea hs ht=>rw[ha]at ea;cases ea
  |_=>omega
 exact .seq1 h0 ha
theorem Sm.i1c {l:List A7} {p q q':A1} {r:List A1} {b:List PR} {f:Int} {s:List PR} (h0:p.Op=1) (ha:p.cL=q::q'::r):Sm l p b f s↔∃u t,Sm l q b f u∧Sm l {p with cL:=q'::r} (mrg b u) (Y6 u+1) t∧s=mrg u t:=by
 constructor
 ·intro h
  cases h with
  |seq1 e0 ea hs=>rw[ha]at ea;cases ea
  |seq e0 ea hs ht=>rw[ha]at ea;cases ea;exact⟨_,_,hs,ht,rfl⟩
  |_=>omega
 rintro⟨u,t,hs,ht,rfl⟩;exact .seq h0 ha hs ht
theorem Sm.i2 {l:List A7} {p:A1} {b:List PR} {f:Int} {s:List PR} (h0:p.Op=2):Sm l p b f s↔∃q∈p.cL,Sm l q b f s:=by
 constructor
 ·intro h
  cases h with
  |alt e0 ea hs=>exact⟨_,ea,hs⟩
  |_=>omega
 rintro⟨q,ha,hs⟩;exact .alt h0 ha hs
theorem Sm.i3 {l:List A7} {p q:A1} {b:List PR} {f:Int} {s:List PR} (h0:p.Op=3) (ha:p.cL=[q]):Sm l p b f s↔Sm l q b f s:=by
 constructor
 ·intro h
  cases h with
  |all1 e0 ea hs=>rw[ha]at ea;cases ea;exact hs
  |all e0 ea en hs ht hd=>
   rw[ha]at ea
   exact absurd (List.append_inj_left' (s₁:=[]) ea rfl).symm en
  |_=>omega
 exact .all1 h0 ha
theorem Sm.i3c {l:List A7} {p q:A1} {r:List A1} {b:List PR} {f:Int} {s:List PR} (h0:p.Op=3) (ha:p.cL=r++[q]) (hr:r≠[]):Sm l p b f s↔∃u t,Sm l {p with cL:=r} b f u∧Sm l q b f t∧BT u t∧s=mrg u t:=by
 constructor
 ·intro h
  cases h with
  |all1 e0 ea hs=>
   rw[ha]at ea
   exact absurd (List.append_inj_left' (s₂:=[]) ea rfl) hr
  |all e0 ea en hs ht hd=>
   rw[ha]at ea
   have e1:=List.append_inj_left' ea rfl;have e2:=List.append_inj_right' ea rfl;cases e1;cases e2;exact⟨_,_,hs,ht,hd,rfl⟩
  |_=>omega
 rintro⟨u,t,hs,ht,hd,rfl⟩;exact .all h0 ha hr hs ht hd
theorem Sm.i4 {l:List A7} {p q:A1} {b:List PR} {f:Int} {s:List PR} (h0:p.Op=4) (ha:p.cL=[q]):Sm l p b f s↔Sm l q b f s∨∃u t,Sm l q b f u∧Sm l p (mrg b u) (Y6 u+1) t∧s=mrg u t:=by
 constructor
 ·intro h
  cases h with
  |plus1 e0 ea hs=>rw[ha]at ea;cases ea;exact .inl hs
  |plus e0 ea hs ht=>rw[ha]at ea;cases ea;exact .inr ⟨_,_,hs,ht,rfl⟩
  |_=>omega
 rintro(hs|⟨u,t,hs,ht,rfl⟩)
 ·exact .plus1 h0 ha hs
 exact .plus h0 ha hs ht
theorem Sm.i5 {l:List A7} {p q:A1} {b:List PR} {f:Int} {s:List PR} (h0:5≤p.Op) (h1:p.Op≤7) (ha:p.cL=[q]):Sm l p b f s↔Sm l q b f s∧Dg l p b s=true:=by
 constructor
 ·intro h
  cases h with
  |some e0 e1 ea hs hk=>rw[ha]at ea;cases ea;exact⟨hs,hk⟩
  |_=>omega
 rintro⟨hs,hk⟩;exact .some h0 h1 ha hs hk
structure Il (l:List A7) (b:List PR) (f:Int):Prop where
 gd:Gd l b
 lt:∀x∈b,x.At<f
 f0:0≤f
 f1:f≤l.length
structure JU (l:List A7) (f:Int) (s:List PR):Prop where
 gd:Gd l s
 ge:∀x∈s,f≤x.At
 ne:s≠[]
theorem Il.apart {l:List A7}{b s:List PR}{f:Int}(h:Il l b f)(r:JU l f s):BT b s:=fun x hx y hy=>by have:=h.lt x hx;have:=r.ge y hy;omega
theorem Il.next {l:List A7}{b s:List PR}{f:Int}(h:Il l b f)(r:JU l f s):Il l (mrg b s) (Y6 s+1):=by
 have hl:=r.gd.lst r.ne;refine⟨h.gd.mrg r.gd (h.apart r),fun x hx=>?_,by omega,by omega⟩
 rcases CL.1 hx with hx|hx
 ·obtain⟨y,_,hy,e⟩:=DK r.ne;have:=h.lt x hx;have:=r.ge y hy;omega
 have:=MU r.gd.asc x hx;omega
theorem JU.seq {l:List A7} {s t:List PR} {f:Int} (r:JU l f s) (q:JU l (Y6 s+1) t):JU l f (mrg s t)∧BT s t:=by
 have ha:BT s t:=fun x hx y hy=>by have:=MU r.gd.asc x hx;have:=q.ge y hy;omega
 refine⟨⟨r.gd.mrg q.gd ha,fun x hx=>?_,fun e=>?_⟩,ha⟩
 ·rcases CL.1 hx with hx|hx
  ·exact r.ge x hx
  obtain⟨y,_,hy,e⟩:=DK r.ne;have:=r.ge y hy;have:=q.ge x hx;omega
 have h1:=congrArg List.length e
 rw[TV,List.length_nil]at h1
 have:=List.length_pos_iff.2 r.ne;omega
theorem JU.all {l:List A7}{s t:List PR}{f:Int}(r:JU l f s)(q:JU l f t)(ha:BT s t):JU l f (mrg s t):=by
 refine⟨r.gd.mrg q.gd ha,fun x hx=>(CL.1 hx).elim (r.ge x) (q.ge x),fun e=>?_⟩;have h1:=congrArg List.length e
 rw[TV,List.length_nil]at h1
 have:=List.length_pos_iff.2 r.ne;omega
theorem Sm.res {l:List A7} {p:A1} {b:List PR} {f:Int} {s:List PR} (h:Sm l p b f s):Gx p→Il l b f→JU l f s:=by
 induction h with
 |@ev p b f j h0 hf hj ht=>
  intro hw ho;refine⟨⟨fun x hx=>?_,List.pairwise_singleton _ _⟩,fun x hx=>?_,by simp⟩
  ·rw[List.mem_singleton.1 hx];exact⟨hw.self.var h0,by show 0≤(j:Int)∧(j:Int)<l.length;omega⟩
  rw[List.mem_singleton.1 hx];exact hf
 |seq1 h0 ha _ ih=>intro hw ho;exact ih (hw.arg (by rw[ha];simp)) ho
 |@seq p q q' r b f s t h0 ha _ _ ih1 ih2=>
  intro hw ho;have r1:=ih1 (hw.arg (by rw[ha];simp)) ho;have r2:=ih2 (hw.sub (by omega) (by omega) (fun x hx=>by rw[ha];exact List.mem_cons_of_mem _ hx) (by simp)) (ho.next r1);exact(r1.seq r2).1
 |alt h0 ha _ ih=>intro hw ho;exact ih (hw.arg ha) ho
 |all1 h0 ha _ ih=>intro hw ho;exact ih (hw.arg (by rw[ha];simp)) ho
 |@all p q r b f s t h0 ha hn _ _ hd ih1 ih2=>
  intro hw ho;exact(ih1 (hw.sub (by omega) (by omega) (fun x hx=>by rw[ha];simp[hx]) hn) ho).all (ih2 (hw.arg (by rw[ha];simp)) ho) hd
 |plus1 h0 ha _ ih=>intro hw ho;exact ih (hw.arg (by rw[ha];simp)) ho
 |@plus p q b f s t h0 ha _ _ ih1 ih2=>
  intro hw ho;have r1:=ih1 (hw.arg (by rw[ha];simp)) ho;exact(r1.seq (ih2 hw (ho.next r1))).1
 |some h0 h1 ha _ _ ih=>intro hw ho;exact ih (hw.arg (by rw[ha];simp)) ho
def Vs (p:A1)(v:Int):Prop:=∃y∈p.pre,y.Op=0∧y.Var=v
theorem Vs.arg {p q:A1}{v:Int}(hq:q∈p.cL)(h:Vs q v):Vs p v:=by
 obtain⟨y,hy,h⟩:=h;exact⟨y,by rw[A1.pre_eq];exact List.mem_cons_of_mem _ (Aa.2 ⟨q,hq,hy⟩),h⟩
theorem Vs.sub {p:A1}{r:List A1}{v:Int}(h0:p.Op≠0)(hr:∀q∈r,q∈p.cL)(h:Vs {p with cL:=r} v):Vs p v:=by
 obtain⟨y,hy,h1,h2⟩:=h
 rw[A1.pre_eq]at hy
 rcases List.mem_cons.1 hy with rfl|hy
 ·exact absurd h1 h0
 obtain⟨q,hq,hy⟩:=Aa.1 hy;exact Vs.arg (hr q hq) ⟨y,hy,h1,h2⟩
theorem Sm.vars {l:List A7} {p:A1} {b:List PR} {f:Int} {s:List PR} (h:Sm l p b f s):∀x∈s,Vs p x.Var:=by
 induction h with
 |@ev p b f j h0 hf hj ht=>intro x hx;rw[List.mem_singleton.1 hx];exact⟨p,Jp p,h0,rfl⟩
 |seq1 h0 ha _ ih=>intro x hx;exact Vs.arg (by rw[ha];simp) (ih x hx)
 |@seq p q q' r b f s t h0 ha _ _ ih1 ih2=>
  intro x hx
  rcases CL.1 hx with hx|hx
  ·exact Vs.arg (by rw[ha];simp) (ih1 x hx)
  exact Vs.sub (by omega) (fun x hx=>by rw[ha];exact List.mem_cons_of_mem _ hx) (ih2 x hx)
 |alt h0 ha _ ih=>intro x hx;exact Vs.arg ha (ih x hx)
 |all1 h0 ha _ ih=>intro x hx;exact Vs.arg (by rw[ha];simp) (ih x hx)
 |@all p q r b f s t h0 ha hn _ _ hd ih1 ih2=>
  intro x hx
  rcases CL.1 hx with hx|hx
  ·exact Vs.sub (by omega) (fun x hx=>by rw[ha];simp[hx]) (ih1 x hx)
  exact Vs.arg (by rw[ha];simp) (ih2 x hx)
 |plus1 h0 ha _ ih=>intro x hx;exact Vs.arg (by rw[ha];simp) (ih x hx)
 |@plus p q b f s t h0 ha _ _ ih1 ih2=>
  intro x hx
  rcases CL.1 hx with hx|hx
  ·exact Vs.arg (by rw[ha];simp) (ih1 x hx)
  exact ih2 x hx
 |some h0 h1 ha _ _ ih=>intro x hx;exact Vs.arg (by rw[ha];simp) (ih x hx)
end
end Go.Ab
namespace Go.Ab
open Classical
noncomputable section
def EO (p:A1):Nat:=p.pre.countP fun y=>decide (y.Op=0)
def CG (p:A1):Prop:=∀y∈p.pre,y.Op≠4
theorem Fc (p:A1):EO p=(if p.Op=0 then 1 else 0)+(A1.pres p.cL).countP fun y=>decide (y.Op=0):=by
 unfold EO;rw[A1.pre_eq,List.countP_cons]
 by_cases h:p.Op=0<;>simp[h]<;>omega
theorem JF (p:A1)(r:List A1):EO {p with cL:=r}=(if p.Op=0 then 1 else 0)+(A1.pres r).countP fun y=>decide (y.Op=0):=Fc _
theorem KV {q:A1}:∀{l:List A1},q∈l→EO q≤(A1.pres l).countP fun y=>decide (y.Op=0)
 |a::l,h=>by
  simp only[A1.pres,countP_append]
  rcases List.mem_cons.1 h with rfl|h
  ·exact Nat.le_add_right _ _
  have:=KV h;unfold EO at *;omega
theorem HR {p q:A1}(h:q∈p.cL):EO q≤EO p:=by rw[Fc p];have:=KV h;omega
theorem CG.arg {p q:A1}(h:CG p)(hq:q∈p.cL):CG q:=fun y hy=>h y (by rw[A1.pre_eq];exact List.mem_cons_of_mem _ (Aa.2 ⟨q,hq,hy⟩))
theorem CG.sub {p:A1}{r:List A1}(h:CG p)(hr:∀q∈r,q∈p.cL):CG {p with cL:=r}:=by
 intro y hy
 rw[A1.pre_eq]at hy
 rcases List.mem_cons.1 hy with rfl|hy
 ·exact h p (Jp p)
 obtain⟨q,hq,hy⟩:=Aa.1 hy;exact h.arg (hr q hq) y hy
def Ja (n:Nat)(p:A1):Prop:=(EO p+1) ^ n≤1500∨(CG p∧2≤n∧n ^ EO p≤1500)
theorem Ja.mono {n:Nat}{p q:A1}(h:Ja n p)(h1:EO q≤EO p)(h2:CG p→CG q):Ja n q:=by
 rcases h with h|⟨a,b,c⟩
 ·exact .inl (Nat.le_trans (Nat.pow_le_pow_left (by omega) n) h)
 exact .inr ⟨h2 a,b,Nat.le_trans (Nat.pow_le_pow_right (by omega) h1) c⟩
theorem Ja.arg {n:Nat}{p q:A1}(h:Ja n p)(hq:q∈p.cL):Ja n q:=h.mono (HR hq) fun k=>k.arg hq
theorem Ja.tail {n:Nat}{p q:A1}{r:List A1}(h:Ja n p)(ha:p.cL=q::r):Ja n {p with cL:=r}:=by
 refine h.mono ?_ fun k=>k.sub fun x hx=>by rw[ha];exact List.mem_cons_of_mem _ hx
 rw[JF,Fc,ha];simp only[A1.pres,countP_append];omega
theorem BO :∀(r m:List A1),A1.pres (r++m)=A1.pres r++A1.pres m
 |[],m=>by simp[A1.pres]
 |a::r,m=>by simp[A1.pres,BO r m]
def Hq (V:List Int):Nat→Int→List (List PR)
 |0,_=>[[]]
 |m+1,k=>Hq V m (k+1)++V.flatMap fun v=>(Hq V m (k+1)).map fun s=>⟨v,k⟩::s
theorem Kt (V:List Int):∀(m:Nat) (k:Int),(Hq V m k).length=(V.length+1) ^ m
 |0,_=>rfl
 | m+1,k=>by
  have ih:=Kt V m (k+1)
  have h:(V.flatMap fun v=>(Hq V m (k+1)).map fun s=>(⟨v,k⟩:PR)::s).length=V.length*(V.length+1) ^ m:=by
   clear ih;generalize hE:Hq V m (k+1)=E
   have hl:E.length=(V.length+1) ^ m:=by rw[←hE];exact Kt V m (k+1)
   rw[←hl];clear hl hE
   induction V with
   |nil=>simp
   |cons v V ih=>rw[List.flatMap_cons,List.length_append,ih,List.length_map,List.length_cons,Nat.succ_mul];omega
  rw[Hq,List.length_append,ih,h,Nat.pow_succ];rw[Nat.mul_comm _ (V.length+1),Nat.succ_mul];omega
theorem HS (V:List Int):∀(m:Nat) (k:Int) (s:List PR),We s→(∀x∈s,k≤x.At∧x.At<k+m)→(∀x∈s,x.Var∈V)→s∈Hq V m k
 |0,k,[],_,_,_=>by simp[Hq]
 |0,k,x::s,_,h,_=>by have:=h x (by simp);omega
 |m+1,k,[],ha,_,_=>by
  rw[Hq];exact List.mem_append_left _ (HS V m (k+1) [] ha (by simp) (by simp))
 | m+1,k,x::s,ha,h,hv=>by
  rw[Hq];have ha':=ha
  unfold We at ha
  rw[List.pairwise_cons]at ha
  have hx:=h x (by simp)
  by_cases e:x.At=k
  ·refine List.mem_append_right _ (List.mem_flatMap.2 ⟨x.Var,hv x (by simp),List.mem_map.2 ⟨s,HS V m (k+1) s ha.2 (fun y hy=>?_) (fun y hy=>hv y (by simp[hy])),?_⟩⟩)
   ·have:=ha.1 y hy;have:=h y (by simp[hy]);omega
   rw[←e]
  refine List.mem_append_left _ (HS V m (k+1) (x::s) ha' (fun y hy=>?_) hv);have:=h y hy
  rcases List.mem_cons.1 hy with rfl|hy
  ·omega
  have:=ha.1 y hy;omega
def Tu (p:A1):List Int:=(p.pre.filter fun y=>decide (y.Op=0)).map (·.Var)
theorem UB (p:A1):(Tu p).length=EO p:=by unfold Tu EO;rw[List.length_map,List.countP_eq_length_filter]
theorem Vs.mem {p:A1}{v:Int}(h:Vs p v):v∈Tu p:=by
 obtain⟨y,hy,h0,h1⟩:=h;exact List.mem_map.2 ⟨y,List.mem_filter.2 ⟨hy,by simpa using h0⟩,h1⟩
theorem Al1 {l:List A7} {p:A1} {L:List (List PR)} (hn:L.Nodup) (h:∀s∈L,Gd l s∧∀x∈s,Vs p x.Var):L.length≤(EO p+1) ^ l.length:=by
 have:=List.Nodup.length_le_of_subset hn (l₂:=Hq (Tu p) l.length 0) fun s hs=>by
  obtain⟨g,hv⟩:=h s hs;exact HS _ _ _ s g.asc (fun x hx=>by have:=(g.wf x hx).2;omega) fun x hx=>(hv x hx).mem
 rwa[Kt,UB]at this
theorem TK {α β:Type}(A B:List α)(f:α→α→β):(A.flatMap fun a=>B.map (f a)).length=A.length*B.length:=by
 induction A with
 |nil=>simp
 |cons a A ih=>rw[List.flatMap_cons,List.length_append,ih,List.length_map,List.length_cons,Nat.succ_mul];omega
theorem TL :∀(n:Nat) (p:A1),p.pre.length≤n→Gx p→1≤EO p
 |0,p,h,_=>by rw[A1.pre_eq]at h;simp at h
 | n+1,p,h,hw=>by
  by_cases h0:p.Op=0
  ·rw[Fc,if_pos h0];omega
  have hne:∃q,q∈p.cL:=by
   by_cases h3:p.Op≤3
   ·exact List.exists_mem_of_ne_nil _ (hw.self.a1 (by have:=hw.self.op;omega) h3)
   obtain⟨q,hq⟩:=hw.self.a2 (by omega);exact⟨q,by rw[hq];simp⟩
  obtain⟨q,hq⟩:=hne;have:=TL n q (by have:=O5 hq;omega) (hw.arg hq);have:=HR hq;omega
theorem RE {x y:Nat} (hx:2≤x) (hy:2≤y):x+y≤x*y:=by
 obtain⟨a,rfl⟩:∃a,x=a+2:=⟨x - 2,by omega⟩;obtain⟨b,rfl⟩:∃b,y=b+2:=⟨y - 2,by omega⟩
 have:(a+2)*(b+2)=a*b+2*a+2*b+4:=by
  rw[Nat.mul_add,add_mul,add_mul];omega
 omega
theorem Js {p q:A1}{r:List A1}(ha:p.cL=q::r):({p with cL:=r}:A1).pre.length<p.pre.length:=by
 have h1:=A1.pre_eq ({p with cL:=r}:A1);have h2:=A1.pre_eq p;rw[h1,h2,ha];have:=A1.pre_eq q;simp only[A1.pres,List.length_cons,List.length_append,this];omega
theorem WY {p q:A1}{r:List A1}(ha:p.cL=r++[q]):({p with cL:=r}:A1).pre.length<p.pre.length:=by
 have h1:=A1.pre_eq ({p with cL:=r}:A1);have h2:=A1.pre_eq p;rw[h1,h2,ha,BO];have:=A1.pre_eq q;simp only[A1.pres,List.length_cons,List.length_append,this];omega
theorem Ij {l:List A7} (hl:2≤l.length):∀(n:Nat) (p:A1),p.pre.length≤n→Gx p→CG p→∃C:List (List PR),C.length≤l.length ^ EO p∧∀b f s,Sm l p b f s→s∈C
 |0,p,h,_,_=>by rw[A1.pre_eq]at h;simp at h
 | n +1,p,h,hw,hp=>by
  have hop:=hw.self.op;have hnp:=hp p (Jp p)
  have hpow:∀q:A1,Gx q→2≤l.length ^ EO q:=fun q hq=>by
   have h1:=TL _ q (Nat.le_refl _) hq;have:=Nat.pow_le_pow_right (n:=l.length) (by omega) h1
   rw[Nat.pow_one]at this;omega
  by_cases h0:p.Op=0
  ·refine⟨(List.range l.length).map fun(j:Nat)=>[⟨p.Var,(j:Int)⟩],?_,fun b f s hs=>?_⟩
   ·rw[Fc,if_pos h0,hw.self.a0 h0,List.length_map,List.length_range];simp[A1.pres]
   obtain⟨j,_,hj,_,rfl⟩:=(Sm.i0 h0).1 hs;exact List.mem_map.2 ⟨j,List.mem_range.2 hj,rfl⟩
  by_cases h1:p.Op=1
  ·match ha:p.cL with
   |[]=>exact absurd ha (hw.self.a1 (by omega) (by omega))
   |[q]=>
    have hq:q∈p.cL:=by rw[ha];simp
    obtain⟨C,h2,h3⟩:=Ij hl n q (by have:=O5 hq;omega) (hw.arg hq) (hp.arg hq);refine⟨C,Nat.le_trans h2 (Nat.pow_le_pow_right (by omega) (HR hq)),fun b f s hs=>?_⟩;exact h3 _ _ _ ((Sm.i1 h1 ha).1 hs)
   | q::q'::r=>
    have hq:q∈p.cL:=by rw[ha];simp
    obtain⟨C,h2,h3⟩:=Ij hl n q (by have:=O5 hq;omega) (hw.arg hq) (hp.arg hq);obtain⟨D,h4,h5⟩:=Ij hl n {p with cL:=q'::r} (by have:=Js ha;omega) (hw.sub (by omega) (by omega) (fun x hx=>by rw[ha];exact List.mem_cons_of_mem _ hx) (by simp)) (hp.sub fun x hx=>by rw[ha];exact List.mem_cons_of_mem _ hx);refine⟨C.flatMap fun s=>D.map (mrg s),?_,fun b f s hs=>?_⟩
    ·rw[TK,show EO p=EO q+EO {p with cL:=q'::r}from ?_,Nat.pow_add]
     ·exact Nat.mul_le_mul h2 h4
     rw[JF,Fc p,ha,if_neg h0];rw[A1.pres,countP_append];unfold EO;omega
    obtain⟨u,t,hu,ht,rfl⟩:=(Sm.i1c h1 ha).1 hs;exact List.mem_flatMap.2 ⟨_,h3 _ _ _ hu,List.mem_map.2 ⟨_,h5 _ _ _ ht,rfl⟩⟩
  by_cases h2':p.Op=2
  ·match ha:p.cL with
   |[]=>exact absurd ha (hw.self.a1 (by omega) (by omega))
   |[q]=>
    have hq:q∈p.cL:=by rw[ha];simp
    obtain⟨C,h2,h3⟩:=Ij hl n q (by have:=O5 hq;omega) (hw.arg hq) (hp.arg hq);refine⟨C,Nat.le_trans h2 (Nat.pow_le_pow_right (by omega) (HR hq)),fun b f s hs=>?_⟩;obtain⟨q',ha',hs⟩:=(Sm.i2 h2').1 hs
    rw[ha]at ha'
    rw[List.mem_singleton.1 ha']at hs
    exact h3 _ _ _ hs
   | q::q'::r=>
    have hq:q∈p.cL:=by rw[ha];simp
    have hws:Gx {p with cL:=q'::r}:=hw.sub (by omega) (by omega) (fun x hx=>by rw[ha];exact List.mem_cons_of_mem _ hx) (by simp);obtain⟨C,h2,h3⟩:=Ij hl n q (by have:=O5 hq;omega) (hw.arg hq) (hp.arg hq);obtain⟨D,h4,h5⟩:=Ij hl n {p with cL:=q'::r} (by have:=Js ha;omega) hws (hp.sub fun x hx=>by rw[ha];exact List.mem_cons_of_mem _ hx);refine⟨C++D,?_,fun b f s hs=>?_⟩
    ·rw[List.length_append,show EO p=EO q+EO {p with cL:=q'::r}from ?_,Nat.pow_add]
     ·have e1:=hpow q (hw.arg hq);have e2:=hpow _ hws;have:=RE e1 e2;omega
     rw[JF,Fc p,ha,if_neg h0];rw[A1.pres,countP_append];unfold EO;omega
    obtain⟨x,ha',hs⟩:=(Sm.i2 h2').1 hs
    rw[ha]at ha'
    rcases List.mem_cons.1 ha' with e|hm
    ·rw[e]at hs;exact List.mem_append_left _ (h3 _ _ _ hs)
    exact List.mem_append_right _ (h5 _ _ _ (Sm.alt (p:={p with cL:=q'::r}) h2' hm hs))
  by_cases h3':p.Op=3
  ·rcases List.eq_nil_or_concat p.cL with ha|⟨r,q,ha⟩
   ·exact absurd ha (hw.self.a1 (by omega) (by omega))
   rw[List.concat_eq_append]at ha
   have hq:q∈p.cL:=by rw[ha];simp
   obtain⟨C,h2,h3⟩:=Ij hl n q (by have:=O5 hq;omega) (hw.arg hq) (hp.arg hq)
   by_cases hr:r=[]
   ·subst hr;refine⟨C,Nat.le_trans h2 (Nat.pow_le_pow_right (by omega) (HR hq)),fun b f s hs=>?_⟩;exact h3 _ _ _ ((Sm.i3 h3' ha).1 hs)
   have hws:Gx {p with cL:=r}:=hw.sub (by omega) (by omega) (fun x hx=>by rw[ha];simp[hx]) hr;obtain⟨D,h4,h5⟩:=Ij hl n {p with cL:=r} (by have:=WY ha;omega) hws (hp.sub fun x hx=>by rw[ha];simp[hx]);refine⟨D.flatMap fun s=>C.map (mrg s),?_,fun b f s hs=>?_⟩
   ·rw[TK,show EO p=EO {p with cL:=r}+EO q from ?_,Nat.pow_add]
    ·exact Nat.mul_le_mul h4 h2
    rw[JF,Fc p,ha,if_neg h0,BO,countP_append];simp only[A1.pres,append_nil];unfold EO;omega
   obtain⟨u,t,hu,ht,_,rfl⟩:=(Sm.i3c h3' ha hr).1 hs;exact List.mem_flatMap.2 ⟨_,h5 _ _ _ hu,List.mem_map.2 ⟨_,h3 _ _ _ ht,rfl⟩⟩
  obtain⟨q,ha⟩:=hw.self.a2 (by omega)
  have hq:q∈p.cL:=by rw[ha];simp
  obtain⟨C,h2,h3⟩:=Ij hl n q (by have:=O5 hq;omega) (hw.arg hq) (hp.arg hq);refine⟨C,Nat.le_trans h2 (Nat.pow_le_pow_right (by omega) (HR hq)),fun b f s hs=>?_⟩;exact h3 _ _ _ ((Sm.i5 (by omega) hop.2 ha).1 hs).1
theorem card {l:List A7} {p:A1} (hw:Gx p) (hs:Ja l.length p) {L:List (List PR)} (hn:L.Nodup) (h:∀s∈L,Gd l s∧∃b f,Sm l p b f s):L.length≤1500:=by
 rcases hs with hs|⟨h1,h2,h3⟩
 ·refine Nat.le_trans (Al1 hn fun s m=>?_) hs;obtain⟨g,b,f,hm⟩:=h s m;exact⟨g,hm.vars⟩
 obtain⟨C,h4,h5⟩:=Ij h2 _ p (Nat.le_refl _) hw h1
 have:=List.Nodup.length_le_of_subset hn (l₂:=C) fun s m=>by
  obtain⟨g,b,f,hm⟩:=h s m;exact h5 b f s hm
 omega
end
end Go.Ab
namespace Go.Ab
open Classical
noncomputable section
theorem Fg {β σ τ:Type}{m:Option (List β×σ)}{f:σ→Option (List β×τ)}{w w':List β}{x:σ}{o:τ}(h1:m=some (w,x))(h2:f x=some (w',o)):N2 m f=some (w++w',o):=by
 unfold N2;rw[h1];simp only[Option.bind_some,h2]
theorem Mc {α β R:Type} {body:Unit→α→Option (List β×(Unit ⊕ R))} {Q:α→β→Prop}:∀{L:List α},(∀x∈L,∃w,body () x=some (w,.inl ())∧∀s,s∈w↔Q x s)→∃W,Be body L ()=some (W,.inl ())∧∀s,s∈W↔∃x∈L,Q x s
 |[],_=>⟨[],rfl,by simp⟩
 |x::L,h=>by
  obtain⟨w,h1,h2⟩:=h x (by simp);obtain⟨W,h3,h4⟩:=Mc (L:=L) fun y hy=>h y (by simp[hy]);refine⟨w++W,by simp only[Be,h1,h3],fun s=>?_⟩;rw[List.mem_append,h2,h4];simp
theorem NK {α β A:Type} {L:List α} {N:Nat} (hN:L.length<N) {step:Int→Option (List β×(Int ⊕ A))} {u:A} {Q:α→β→Prop}
 (hs:∀(i:Nat) x,L[i]? =some x→(i:Int)<L.length→x∈L→∃w,step (i:Int)=some (w,.inl ((i:Int)+1))∧∀s,s∈w↔Q x s) (he:step (L.length:Int)=some ([],.inr u)):∃W,V5 step N 0=some (W,u)∧∀s,s∈W↔∃x∈L,Q x s:=by
 have key:∀(k i N:Nat),i+k=L.length→k<N→∃W,V5 step N (i:Int)=some (W,u)∧∀s,s∈W↔∃x∈L.drop i,Q x s:=by
  intro k
  induction k with
  |zero=>
   intro i N hi hN;obtain⟨N,rfl⟩:∃m,N=m+1:=⟨N - 1,by omega⟩;rw[List.drop_eq_nil_of_le (by omega),show(i:Int)=L.length by omega];exact⟨[],by simp[V5,he],by simp⟩
  |succ k ih=>
   intro i N hi hN;obtain⟨N,rfl⟩:∃m,N=m+1:=⟨N - 1,by omega⟩
   have hlt:i<L.length:=by omega
   obtain⟨w,h1,h2⟩:=hs i L[i] (by simp[hlt]) (by omega) (List.getElem_mem hlt);obtain⟨W,h3,h4⟩:=ih (i+1) N (by omega) (by omega);rw[List.drop_eq_getElem_cons hlt];refine⟨w++W,?_,fun s=>?_⟩
   ·simp only[V5,h1];rw[show((i:Int)+1)=((i+1:Nat):Int) by omega,h3]
   rw[List.mem_append,h2,h4];simp only[List.mem_cons,or_and_right,exists_or,exists_eq_left]
 simpa using key L.length 0 N (by omega) hN
def Gt (s:List BD):ByteArray:=PS (Gj (IP (G9 s)))
theorem Ya {a b:List UInt8} (h:PS (Gj a)=PS (Gj b)):a=b:=by
 have e0:∀(a:List UInt8) (acc:ByteArray),((Gj a).foldl (fun r n=>r.push (UInt8.ofNat n.toNat)) acc).data.toList=acc.data.toList++a:=fun a=>by
  induction a with
  |nil=>intro acc;simp[Gj]
  |cons x a ih=>
   intro acc
   simp only[Gj,List.map_cons,List.foldl_cons]at ih ⊢
   rw[ih];simp
 have e:∀a:List UInt8,(PS (Gj a)).data.toList=a:=fun a=>by
  have:=e0 a ByteArray.empty
  simpa[PS]using this
 rw[←e a,←e b,h]
theorem VA {l:List A7}(hl:l.length≤10){a b:List BD}(ha:RI l (G9 a))(hb:RI l (G9 b))(h:Gt a=Gt b):a=b:=HF (LT hl ha hb (Ya h))
theorem UI {N:Nat}(hN:40000000≤N){l:List A7}(hl:l.length≤10){s:List BD}(g:Gd l (G9 s)):L9 N s=some (Gt s):=by
 have:=g.len
 rw[List.length_map]at this
 rw[YC hN hl (by omega) g.wf];rfl
def IN (out:List (List BD)):List (ByteArray×Bool):=out.map fun s=>(Gt s,true)
theorem VF (out:List (List BD)) (k:ByteArray):∃b,IS (IN out) k false=some (decide (∃s∈out,Gt s=k),b):=by
 unfold IS IN
 induction out with
 |nil=>exact⟨false,by simp⟩
 |cons x out ih=>
  obtain⟨b,ih⟩:=ih;rw[List.map_cons,List.find?_cons]
  by_cases h:Gt x=k
  ·exact⟨true,by simp[h]⟩
  refine⟨b,?_⟩;simp only[h,decide_false];rw[ih];simp[h]
theorem UX {out:List (List BD)}{s:List BD}(h:¬∃t∈out,Gt t=Gt s):HV (IN out) (Gt s) true=some (IN (out++[s])):=by
 unfold HV;rw[if_neg]
 ·simp[IN]
 intro e
 rw[List.any_eq_true]at e
 obtain⟨p,hp,he⟩:=e
 simp only[IN,List.mem_map]at hp
 obtain⟨t,ht,rfl⟩:=hp;exact h ⟨t,ht,by simpa using he⟩
theorem Qy {N:Nat} (hN:40000000≤N) {l:List A7} (hl:l.length≤10) {R:List (List BD)} (hR:∀s∈R,Gd l (G9 s)) (hc:∀L:List (List BD),L.Nodup→(∀s∈L,s∈R)→L.length≤4096):
 ∃ m out,G8 (fun(s11:(List (ByteArray×Bool))×(List (List A0))) (y10:(List A0))=>
  (
   (L9 N y10).bind fun r17=>
   (IS s11.1 r17 (false:Bool)).bind fun r18=>
   if r18.1=true then
    some (.inl (s11.1,s11.2))
   else
    (HV s11.1 r17 true).bind fun l20=>
    (H8 s11.2 ([y10])).bind fun l22=>
    ((
     if cmp .gtr (Ar.len l22) 4096=true then
      none
     else
      some ()
    ):Option (Unit)).bind fun s23=>
    if(⟨l,false⟩:B3).full=true then
     some (.inr (l20,l22))
    else
     some (.inl (l20,l22))
   :Option (((List (ByteArray×Bool))×(List (List A0))) ⊕ (((List (ByteArray×Bool))×(List (List A0))))))
  ) R (([]:List (ByteArray×Bool)),[])=some (.inl (m,out))∧out.Nodup∧∀s,s∈out↔s∈R:=by
 obtain⟨s',h1,p,out,h2,h3,h4,h5⟩:=V9 (R:=(List (ByteArray×Bool))×(List (List A0))) (step:=fun(s11:(List (ByteArray×Bool))×(List (List A0))) (y10:(List A0))=>
  (
   (L9 N y10).bind fun r17=>
   (IS s11.1 r17 (false:Bool)).bind fun r18=>
   if r18.1=true then
    some (.inl (s11.1,s11.2))
   else
    (HV s11.1 r17 true).bind fun l20=>
    (H8 s11.2 ([y10])).bind fun l22=>
    ((
     if cmp .gtr (Ar.len l22) 4096=true then
      none
     else
      some ()
    ):Option (Unit)).bind fun s23=>
    if(⟨l,false⟩:B3).full=true then
     some (.inr (l20,l22))
    else
     some (.inl (l20,l22))
   :Option (((List (ByteArray×Bool))×(List (List A0))) ⊕ (((List (ByteArray×Bool))×(List (List A0)))))))
  (fun r s=>∃p out,p++r=R∧s=(IN out,out)∧out.Nodup∧∀x,x∈out↔x∈p) (fun y r s ⟨p,out,e1,e2,e3,e4⟩=>by
   subst e2
   have hy:y∈R:=by rw[←e1];simp
   have hout:∀x∈out,x∈R:=fun x hx=>by rw[←e1];simp[(e4 x).1 hx]
   rw[UI hN hl (hR y hy)];simp only[Option.bind_some];obtain⟨b,hb⟩:=VF out (Gt y);rw[hb];simp only[Option.bind_some];have hiff:(∃s∈out,Gt s=Gt y)↔y∈out:=⟨fun⟨s,hs,e⟩=>by rw[←VA hl (hR s (hout s hs)).wf (hR y hy).wf e];exact hs,fun h=>⟨y,h,rfl⟩⟩
   by_cases hm:y∈out
   ·rw[if_pos (decide_eq_true (hiff.2 hm))];refine⟨_,rfl,p++[y],out,by simpa using e1,rfl,e3,fun x=>?_⟩;rw[e4,List.mem_append,List.mem_singleton]
    constructor
    ·exact .inl
    rintro(h|rfl)
    ·exact h
    exact(e4 _).1 hm
   have hn:(out++[y]).Nodup:=by
    rw[List.nodup_append];exact⟨e3,by simp,fun a ha b hb'=>by rw[List.mem_singleton.1 hb'];intro e;exact hm (e▸ha)⟩
   have hlen:(out++[y]).length≤4096:=hc _ hn fun x hx=>by
    rcases List.mem_append.1 hx with h|h
    ·exact hout x h
    rw[List.mem_singleton.1 h];exact hy
   rw[if_neg (by simpa using fun x hx e=>hm (hiff.1 ⟨x,hx,e⟩)),UX (fun e=>hm (hiff.1 e))];simp only[Option.bind_some];rw[M2 (by simp at hlen ⊢;omega)];simp only[Option.bind_some];rw[if_neg (S9 (by rw[B1];omega))];refine⟨_,rfl,p++[y],out++[y],by simpa using e1,rfl,hn,fun x=>?_⟩
   rw[List.mem_append,List.mem_append,e4]) (l:=R) (s:=([],[])) ⟨[],[],rfl,rfl,by simp,by simp⟩
 subst h3
 rw[append_nil]at h2
 subst h2;exact⟨_,_,h1,h4,h5⟩
def Eg (N n:Nat)(c:B3)(p:A1)(o:List BD)(f:Int):Option (List (List BD)):=
 if p.Op=0 then J5 N c p o f else if p.Op=1 then L4 N n c p o f else if p.Op=2 then L5 N n c p o f else if p.Op=3 then L6 N n c p o f else if p.Op=4 then K5 N n c p o f else E5 N n c p o f
def Yl (N n:Nat)(l:List A7)(p:A1)(o:List BD)(f:Int):Prop:=∃L,C8 N n ⟨l,false⟩ p o f=some L∧L.Nodup∧∀s,s∈L↔Sm l p (G9 o) f (G9 s)
theorem Fe {l:List A7} {p:A1} (hw:Gx p) (hs:Ja l.length p) {b:List PR} {f:Int} (ho:Il l b f) {L:List (List BD)} (hn:L.Nodup) (h:∀s∈L,Sm l p b f (G9 s)):L.length≤1500:=by
 have:=card hw hs (L:=L.map G9) (by
  rw[List.Nodup,List.pairwise_map]
  exact hn.imp fun hne e=>hne (HF e)) fun s hs=>by
   obtain⟨t,ht,rfl⟩:=List.mem_map.1 hs;exact⟨((h t ht).res hw ho).gd,b,f,h t ht⟩
 rwa[List.length_map]at this
theorem Ac5 {N:Nat} (hN:40000000≤N) {l:List A7} (hl:l.length≤10) {p:A1} (hw:Gx p) (hs:Ja l.length p) {o:List BD} {f:Int} (ho:Il l (G9 o) f) {n:Nat} {R:List (List BD)} (h:Eg N n ⟨l,false⟩ p o f=some R) (hm:∀s,s∈R↔Sm l p (G9 o) f (G9 s)):Yl N (n+1) l p o f:=by
 obtain⟨m,out,h1,h2,h3⟩:=Qy hN hl (R:=R) (fun s hs=>(((hm s).1 hs).res hw ho).gd) fun L hL hsub=>by have:=Fe hw hs ho hL fun s hs=>(hm s).1 (hsub s hs);omega
 refine⟨out,?_,h2,fun s=>(h3 s).trans (hm s)⟩;have hop:=hw.self.op;unfold C8 Au
 have key:∀{F:List (List BD)→Option (List (List BD))},((B6 ([fun y1 y2 y3 y4=>J5 N y1 y2 y3 y4,fun y1 y2 y3 y4=>L4 N n y1 y2 y3 y4,fun y1 y2 y3 y4=>L5 N n y1 y2 y3 y4,fun y1 y2 y3 y4=>L6 N n y1 y2 y3 y4,fun y1 y2 y3 y4=>K5 N n y1 y2 y3 y4,fun y1 y2 y3 y4=>E5 N n y1 y2 y3 y4,fun y1 y2 y3 y4=>E5 N n y1 y2 y3 y4,fun y1 y2 y3 y4=>E5 N n y1 y2 y3 y4]:List (B3→A1→(List A0)→Int→Option (List (List A0)))) p.Op).bind fun f7=>(f7 ⟨l,false⟩ p o f).bind F)=F R:=by
  intro F
  have hb:∀{g:B3→A1→(List A0)→Int→Option (List (List A0))} {L:List (B3→A1→(List A0)→Int→Option (List (List A0)))} {i:Int},B6 L i=some g→g ⟨l,false⟩ p o f=some R→((B6 L i).bind fun f7=>(f7 ⟨l,false⟩ p o f).bind F)=F R:=fun e1 e2=>by rw[e1];simp only[Option.bind_some,e2]
  have hc:p.Op=0∨p.Op=1∨p.Op=2∨p.Op=3∨p.Op=4∨p.Op=5∨p.Op=6∨p.Op=7:=by omega
  unfold Eg at h
  rcases hc with e|e|e|e|e|e|e|e<;>(rw[e]at h ⊢;exact hb rfl (by simpa using h))
 simp only[Option.bind_some];rw[key,h1];rfl
end
end Go.Ab
namespace Go.Ab
open Classical
noncomputable section
theorem Bx {α β A B:Type}{L:List α}{N:Nat}{step:Int→Option (List β×(Int ⊕ A))}{u:A}{f:A→Option (List β×B)}{y:B}{Q:α→β→Prop}{G:β→Prop}(hN:L.length<N)
 (hs:∀(i:Nat) x,L[i]? =some x→(i:Int)<L.length→x∈L→∃w,step (i:Int)=some (w,.inl ((i:Int)+1))∧∀s,s∈w↔Q x s) (he:step (L.length:Int)=some ([],.inr u)) (hf:f u=some ([],y)) (hG:∀s,(∃x∈L,Q x s)↔G s):∃W,N2 (V5 step N 0) f=some (W,y)∧∀s,s∈W↔G s:=by
 obtain⟨W,h1,h2⟩:=NK hN hs he;exact⟨W++[],Fg h1 hf,fun s=>by rw[append_nil];exact(h2 s).trans (hG s)⟩
theorem Ka {β:Type}{m:Option (List β×Unit)}{G:β→Prop}(h:∃W,m=some (W,())∧∀s,s∈W↔G s):∃R,(m.bind fun q=>some q.1)=some R∧∀s,s∈R↔G s:=by
 obtain⟨W,h1,h2⟩:=h;exact⟨W,by rw[h1];rfl,h2⟩
theorem Fp {β A:Type}{x:β}{o:A}{P:β→Prop}(h:∀s,s=x↔P s):∃w,N2 (some ([x],())) (fun _=>some ([],o))=some (w,o)∧∀s,s∈w↔P s:=⟨[x],rfl,fun s=>by rw[List.mem_singleton];exact h s⟩
section
variable {N:Nat}(hN:40000000≤N){l:List A7}(hl:l.length≤10)
include hN hl
theorem XC {o u:List BD}{f:Int}(ho:Il l (G9 o) f)(r:JU l f (G9 u)):∃c,K6 N o u=some c∧G9 c=mrg (G9 o) (G9 u):=by
 have h1:=ho.gd.len;have h2:=r.gd.len
 rw[List.length_map]at h1 h2
 exact Lw (n:=l.length) (by omega) (by omega) (by omega) ho.gd.asc r.gd.asc (ho.apart r) ho.gd.wf.ins r.gd.wf.ins
theorem XB {u t:List BD}{f g:Int}(r:JU l f (G9 u))(q:JU l g (G9 t))(hd:BT (G9 u) (G9 t)):∃c,K6 N u t=some c∧G9 c=mrg (G9 u) (G9 t):=by
 have h1:=r.gd.len;have h2:=q.gd.len
 rw[List.length_map]at h1 h2
 exact Lw (n:=l.length) (by omega) (by omega) (by omega) r.gd.asc q.gd.asc hd r.gd.wf.ins q.gd.wf.ins
theorem Xz {u:List BD}{f:Int}(r:JU l f (G9 u)):K3 N u=some (Y6 (G9 u)):=by
 have h1:=r.gd.len
 rw[List.length_map]at h1
 exact PY (fun e=>r.ne (by rw[e];rfl)) (by omega)
theorem TA {q:A1} {o:List BD} {f:Int} {n:Nat} (wq:Gx q) (sq:Ja l.length q) (ho:Il l (G9 o) f) (hq:Yl N n l q o f) {x5:List BD→Int→Option (List (List BD))} {Qr:List BD→List BD→Prop}
 (hr:∀u,Sm l q (G9 o) f (G9 u)→∀r9,G9 r9=mrg (G9 o) (G9 u)→∃T,x5 r9 (Y6 (G9 u)+1)=some T∧T.length≤4096∧∀t,t∈T↔Qr u t) (hres:∀u t,Sm l q (G9 o) f (G9 u)→Qr u t→JU l (Y6 (G9 u)+1) (G9 t)):
 ∃R,K4 N (n+2) ⟨l,false⟩ q o f x5=some R∧∀s,s∈R↔∃u t,Sm l q (G9 o) f (G9 u)∧Qr u t∧G9 s=mrg (G9 u) (G9 t):=by
 obtain⟨L,h1,h2,h3⟩:=hq;have hc:=Fe wq sq ho h2 fun s hs=>(h3 s).1 hs;unfold K4 N8;refine Ka ?_;rw[h1];simp only[Option.bind_some];refine Bx (L:=L) (u:=.inl ()) (Q:=fun u s=>∃t,Qr u t∧G9 s=mrg (G9 u) (G9 t)) (by omega) ?_ ?_ rfl ?_
 ·intro i u hu hi hm;have hsm:=(h3 u).1 hm;have r:=hsm.res wq ho;have hlst:=r.gd.lst r.ne;obtain⟨c,hc1,hc2⟩:=XC hN hl ho r;obtain⟨T,t1,t2,t3⟩:=hr u hsm c hc2;have e:ar .add .i64 (i:Int) 1=i+1:=C4 (by omega) (by omega);rw[if_pos (P3 hi),C7,hu];simp only[Option.bind_some];rw[hc1,Xz hN hl r];simp only[Option.bind_some];rw[C4 (a:=Y6 (G9 u)) (by omega) (by omega),t1];simp only[Option.bind_some,e];refine Bx (L:=T) (u:=.inl ()) (Q:=fun t s=>G9 s=mrg (G9 u) (G9 t)) (by omega) ?_ ?_ rfl ?_
  ·intro j t ht hj hmt;have qr:=(t3 t).1 hmt;have rt:=hres u t hsm qr;obtain⟨d,d1,d2⟩:=XB hN hl r rt (r.seq rt).2;have e:ar .add .i64 (j:Int) 1=j+1:=C4 (by omega) (by omega);rw[if_pos (P3 hj),C7,ht];simp only[Option.bind_some,Bool.false_eq_true,if_false,d1,e];exact Fp fun s=>⟨fun e=>by rw[e,d2],fun e=>HF (e.trans d2.symm)⟩
  ·rw[if_neg S4]
  intro s
  constructor
  ·rintro⟨t,ht,e⟩;exact⟨t,(t3 t).1 ht,e⟩
  rintro⟨t,ht,e⟩;exact⟨t,(t3 t).2 ht,e⟩
 ·rw[if_neg S4]
 intro s
 constructor
 ·rintro⟨u,hu,t,ht,e⟩;exact⟨u,t,(h3 u).1 hu,ht,e⟩
 rintro⟨u,t,hu,ht,e⟩;exact⟨u,(h3 u).2 hu,t,ht,e⟩
def mu (l:List A7)(p:A1)(f:Nat):Nat:=p.pre.length*(l.length+2)+(l.length - f)
omit hN hl in
theorem Dv {p q:A1}{f g:Nat}(h:q.pre.length<p.pre.length):mu l q g+1≤mu l p f:=by
 unfold mu;have:=Nat.mul_le_mul_right (l.length+2) (show q.pre.length+1≤p.pre.length from h)
 rw[add_mul]at this
 omega
omit hN hl in
theorem TS {p:A1}{f g:Nat}(h:f<g)(hg:g≤l.length):mu l p g+1≤mu l p f:=by unfold mu;omega
def IHk (N:Nat)(l:List A7)(k:Nat):Prop:=∀(p:A1) (o:List BD) (f n:Nat),mu l p f≤k→8*k+8≤n→p.pre.length≤64→Gx p→Ja l.length p→Il l (G9 o) f→Yl N n l p o f
omit hN hl in
theorem Lv {u:List PR}{f:Int}(r:JU l f u)(h0:0≤f):∃g:Nat,Y6 u+1=(g:Int)∧g≤l.length∧f<g:=by
 have:=r.gd.lst r.ne;obtain⟨x,_,hx,e⟩:=DK r.ne;have:=r.ge x hx;exact⟨(Y6 u+1).toNat,by omega,by omega,by omega⟩
theorem SU {p:A1}(hw:Gx p)(h0:p.Op=0){o:List BD}{f:Nat}(ho:Il l (G9 o) f)(n:Nat):∃R,Eg N n ⟨l,false⟩ p o f=some R∧∀s,s∈R↔Sm l p (G9 o) f (G9 s):=by
 have:=ho.f1;refine⟨_,by unfold Eg;rw[if_pos h0];exact UW hN hl hw.self.cond ho.gd false (by omega),fun s=>?_⟩;rw[Lu,Sm.i0 h0]
 constructor
 ·rintro⟨j,h1,h2,h3,rfl⟩;exact⟨j,by omega,by omega,h3,rfl⟩
 rintro⟨j,h1,h2,h3,e⟩;exact⟨j,by omega,by omega,h3,HF (e.trans rfl)⟩
theorem UC {L:List (List BD)}(hL:L.length≤1000000):∃R,N6 N L=some R∧∀s,s∈R↔s∈L:=by
 unfold N6 E3;refine Ka ?_;refine Bx (L:=L) (u:=()) (Q:=fun x s=>s=x) (by omega) ?_ ?_ rfl ?_
 ·intro i u hu hi hm;have e:ar .add .i64 (i:Int) 1=i+1:=C4 (by omega) (by omega);rw[if_pos (P3 hi),C7,hu];simp only[Option.bind_some,e];exact Fp fun s=>Iff.rfl
 ·rw[if_neg S4]
 intro s;simp
theorem XR {k:Nat} (ih:IHk N l k) {p:A1} (hw:Gx p) (hp:p.pre.length≤64) (hs:Ja l.length p) (h0:p.Op=1) {o:List BD} {f:Nat} (ho:Il l (G9 o) f) {n:Nat} (hmu:mu l p f≤k+1) (hn:8*k+15≤n):∃R,Eg N n ⟨l,false⟩ p o f=some R∧∀s,s∈R↔Sm l p (G9 o) f (G9 s):=by
 unfold Eg;rw[if_neg (by omega),if_pos h0];obtain⟨n,rfl⟩:∃m,n=m+1:=⟨n - 1,by omega⟩;unfold L4
 match ha:p.cL with
 |[]=>exact absurd ha (hw.self.a1 (by omega) (by omega))
 |[q]=>
  have hq:q∈p.cL:=by rw[ha];simp
  have:=Dv (l:=l) (f:=f) (g:=f) (O5 hq);obtain⟨L,h1,h2,h3⟩:=ih q o f n (by omega) (by omega) (by have:=O5 hq;omega) (hw.arg hq) (hs.arg hq) ho;have hc:=Fe (hw.arg hq) (hs.arg hq) ho h2 fun s hs=>(h3 s).1 hs;obtain⟨R,h4,h5⟩:=UC hN hl (L:=L) (by omega);rw[if_pos (show cmp .eql (Ar.len [q]) 1=true from rfl),Hl];simp only[Option.bind_some];rw[h1];simp only[Option.bind_some];rw[h4];exact⟨R,rfl,fun s=>(h5 s).trans ((h3 s).trans (Sm.i1 h0 ha).symm)⟩
 | q::q'::r=>
  have hq:q∈p.cL:=by rw[ha];simp
  have hwr:Gx {p with cL:=q'::r}:=hw.sub (by omega) (by omega) (fun x hx=>by rw[ha];exact List.mem_cons_of_mem _ hx) (by simp);have hsr:Ja l.length {p with cL:=q'::r}:=hs.tail ha;rw[if_neg (by rw[C0,B1];simp;omega),Co,Hl];simp only[Option.bind_some];obtain⟨n,rfl⟩:∃m,n=m+2:=⟨n - 2,by omega⟩;have m1:=Dv (l:=l) (f:=f) (g:=f) (O5 hq)
  obtain⟨R,h1,h2⟩:=TA hN hl (hw.arg hq) (hs.arg hq) ho (ih q o f n (by omega) (by omega) (by have:=O5 hq;omega) (hw.arg hq) (hs.arg hq) ho) (x5:=fun y1 y2=>J4 N (n+2) y1 y2 ⟨l,false⟩ {p with cL:=q'::r})
   (Qr:=fun u t=>Sm l {p with cL:=q'::r} (mrg (G9 o) (G9 u)) (Y6 (G9 u)+1) (G9 t)) (fun u hu r9 e9=>by
    have ru:=hu.res (hw.arg hq) ho;obtain⟨g,hg,hgl,hfg⟩:=Lv ru ho.f0
    have ho':Il l (G9 r9) (g:Int):=by rw[e9,←hg];exact ho.next ru
    have m2:=Dv (l:=l) (f:=f) (g:=g) (Js ha);obtain⟨T,t1,t2,t3⟩:=ih {p with cL:=q'::r} r9 g (n+1) (by omega) (by omega) (by have:=Js ha;omega) hwr hsr ho';have hc:=Fe hwr hsr ho' t2 fun s hs=>(t3 s).1 hs;refine⟨T,?_,by omega,fun t=>?_⟩
    ·unfold J4;rw[hg,t1];rfl
    rw[t3,e9,hg]) (fun u t hu ht=>ht.res hwr (ho.next (hu.res (hw.arg hq) ho)))
  rw[h1];refine⟨R,rfl,fun s=>(h2 s).trans ?_⟩;rw[Sm.i1c h0 ha]
  constructor
  ·rintro⟨u,t,a,b,c⟩;exact⟨G9 u,G9 t,a,b,c⟩
  rintro⟨u,t,a,b,c⟩;exact⟨u.map Jm,t.map Jm,by rw[P1];exact a,by simp only[P1];exact b,by rw[P1,P1];exact c⟩
end
end
end Go.Ab
namespace Go.Ab
open Classical
noncomputable section
section
variable {N:Nat}(hN:40000000≤N){l:List A7}(hl:l.length≤10)
include hN hl
theorem XS {k:Nat} (ih:IHk N l k) {p:A1} (hw:Gx p) (hp:p.pre.length≤64) (hs:Ja l.length p) (h0:p.Op=2) {o:List BD} {f:Nat} (ho:Il l (G9 o) f) {n:Nat} (hmu:mu l p f≤k+1) (hn:8*k+15≤n):∃R,Eg N n ⟨l,false⟩ p o f=some R∧∀s,s∈R↔Sm l p (G9 o) f (G9 s):=by
 unfold Eg;rw[if_neg (by omega),if_neg (by omega),if_pos h0];obtain⟨n,rfl⟩:∃m,n=m+2:=⟨n - 2,by omega⟩;unfold L5 P7;have hal:=Bw p;refine Ka ?_;refine Bx (L:=p.cL) (u:=()) (Q:=fun q s=>Sm l q (G9 o) f (G9 s)) (by omega) ?_ ?_ rfl ?_
 ·intro i q hu hi hq;have:=Dv (l:=l) (f:=f) (g:=f) (O5 hq);obtain⟨L,h1,h2,h3⟩:=ih q o f n (by omega) (by omega) (by have:=O5 hq;omega) (hw.arg hq) (hs.arg hq) ho;have hc:=Fe (hw.arg hq) (hs.arg hq) ho h2 fun s hs=>(h3 s).1 hs;have e:ar .add .i64 (i:Int) 1=i+1:=C4 (by omega) (by omega);rw[if_pos (P3 hi),C7,hu];simp only[Option.bind_some,e];rw[h1];simp only[Option.bind_some];refine Bx (L:=L) (u:=()) (Q:=fun x s=>s=x) (by omega) ?_ ?_ rfl ?_
  ·intro j u hu hj hm;have e:ar .add .i64 (j:Int) 1=j+1:=C4 (by omega) (by omega);rw[if_pos (P3 hj),C7,hu];simp only[Option.bind_some,e];exact Fp fun s=>Iff.rfl
  ·rw[if_neg S4]
  intro s
  constructor
  ·rintro⟨x,hx,rfl⟩;exact(h3 _).1 hx
  intro h;exact⟨s,(h3 s).2 h,rfl⟩
 ·rw[if_neg S4]
 intro s;exact(Sm.i2 h0).symm
theorem VJ {k:Nat} (ih:IHk N l k) {p:A1} (hw:Gx p) (hp:p.pre.length≤64) (hs:Ja l.length p) (h0:5≤p.Op) {o:List BD} {f:Nat} (ho:Il l (G9 o) f) {n:Nat} (hmu:mu l p f≤k+1) (hn:8*k+15≤n):∃R,Eg N n ⟨l,false⟩ p o f=some R∧∀s,s∈R↔Sm l p (G9 o) f (G9 s):=by
 unfold Eg;rw[if_neg (by omega),if_neg (by omega),if_neg (by omega),if_neg (by omega),if_neg (by omega)];obtain⟨n,rfl⟩:∃m,n=m+2:=⟨n - 2,by omega⟩;unfold E5 N9;obtain⟨q,ha⟩:=hw.self.a2 (by omega);have hop:=hw.self.op
 have hq:q∈p.cL:=by rw[ha];simp
 have:=Dv (l:=l) (f:=f) (g:=f) (O5 hq);obtain⟨L,h1,h2,h3⟩:=ih q o f n (by omega) (by omega) (by have:=O5 hq;omega) (hw.arg hq) (hs.arg hq) ho;have hc:=Fe (hw.arg hq) (hs.arg hq) ho h2 fun s hs=>(h3 s).1 hs;refine Ka ?_;rw[ha,Hl];simp only[Option.bind_some];rw[h1];simp only[Option.bind_some];refine Bx (L:=L) (u:=()) (Q:=fun x s=>Dg l p (G9 o) (G9 x)=true∧s=x) (by omega) ?_ ?_ rfl ?_
 ·intro j u hu hj hm;have ru:=((h3 u).1 hm).res (hw.arg hq) ho;have e:ar .add .i64 (j:Int) 1=j+1:=C4 (by omega) (by omega);rw[if_pos (P3 hj),C7,hu];simp only[Option.bind_some,e];rw[UJ hN hl hw.self.cond ⟨h0,hop.2⟩ ho.gd ru.gd (fun e=>ru.ne (by rw[e];rfl)) (ho.apart ru)];simp only[Option.bind_some]
  by_cases hk:Dg l p (G9 o) (G9 u)=true
  ·rw[if_pos hk];exact Fp fun s=>⟨fun e=>⟨hk,e⟩,fun e=>e.2⟩
  rw[if_neg hk];exact⟨[],rfl,fun s=>⟨fun h=>absurd h List.not_mem_nil,fun h=>absurd h.1 hk⟩⟩
 ·rw[if_neg S4]
 intro s;rw[Sm.i5 h0 hop.2 ha]
 constructor
 ·rintro⟨x,hx,hk,rfl⟩;exact⟨(h3 _).1 hx,hk⟩
 rintro⟨h,hk⟩;exact⟨s,(h3 s).2 h,hk,rfl⟩
theorem VK {k:Nat} (ih:IHk N l k) {p:A1} (hw:Gx p) (hp:p.pre.length≤64) (hs:Ja l.length p) (h0:p.Op=4) {o:List BD} {f:Nat} (ho:Il l (G9 o) f) {n:Nat} (hmu:mu l p f≤k+1) (hn:8*k+15≤n):∃R,Eg N n ⟨l,false⟩ p o f=some R∧∀s,s∈R↔Sm l p (G9 o) f (G9 s):=by
 unfold Eg;rw[if_neg (by omega),if_neg (by omega),if_neg (by omega),if_neg (by omega),if_pos h0];obtain⟨n,rfl⟩:∃m,n=m+2:=⟨n - 2,by omega⟩;unfold K5 O0;obtain⟨q,ha⟩:=hw.self.a2 (by omega)
 have hq:q∈p.cL:=by rw[ha];simp
 have m1:=Dv (l:=l) (f:=f) (g:=f) (O5 hq);obtain⟨L,h1,h2,h3⟩:=ih q o f n (by omega) (by omega) (by have:=O5 hq;omega) (hw.arg hq) (hs.arg hq) ho;have hc:=Fe (hw.arg hq) (hs.arg hq) ho h2 fun s hs=>(h3 s).1 hs
 have hi:B6 p.cL 0=some q:=by rw[ha];rfl
 rw[hi];simp only[Option.bind_some];rw[h1];simp only[Option.bind_some];obtain⟨n,rfl⟩:∃m,n=m+2:=⟨n - 2,by omega⟩
 obtain⟨R,r1,r2⟩:=TA hN hl (hw.arg hq) (hs.arg hq) ho (ih q o f n (by omega) (by omega) (by have:=O5 hq;omega) (hw.arg hq) (hs.arg hq) ho) (x5:=fun y1 y2=>H7 N (n+2) y1 y2 ⟨l,false⟩ p)
  (Qr:=fun u t=>Sm l p (mrg (G9 o) (G9 u)) (Y6 (G9 u)+1) (G9 t)) (fun u hu r9 e9=>by
   have ru:=hu.res (hw.arg hq) ho;obtain⟨g,hg,hgl,hfg⟩:=Lv ru ho.f0
   have ho':Il l (G9 r9) (g:Int):=by rw[e9,←hg];exact ho.next ru
   have m2:=TS (p:=p) (show f<g by omega) hgl;obtain⟨T,t1,t2,t3⟩:=ih p r9 g (n+1) (by omega) (by omega) hp hw hs ho';have hc:=Fe hw hs ho' t2 fun s hs=>(t3 s).1 hs;refine⟨T,?_,by omega,fun t=>?_⟩
   ·unfold H7;rw[hg,t1];rfl
   rw[t3,e9,hg]) (fun u t hu ht=>ht.res hw (ho.next (hu.res (hw.arg hq) ho)))
 obtain ⟨W, w1,w2⟩:=NK (L:=L) (N:=N) (A:=Unit ⊕ Unit) (u:=.inl ()) (Q:=fun x s=>s=x) (step:=fun(s3:Int)=>
         (
          if cmp .lss s3 (Ar.len L)=true then
           (B6 L s3).bind fun x9=>
           if(⟨l,false⟩:B3).full=true then
            some ([],.inr (.inr ()))
           else
            N2 (some ([x9],())) fun _=>
            some ([],.inl (ar .add .i64 s3 1))
          else
           some ([],.inr (.inl ()))
          :Option (List (List A0)×((Int) ⊕ (Unit ⊕ Unit))))) (by omega) (fun j u hu hj hm=>by
  have e:ar .add .i64 (j:Int) 1=j+1:=C4 (by omega) (by omega);rw[if_pos (P3 hj),C7,hu];simp only[Option.bind_some,e,Bool.false_eq_true,if_false]
  exact Fp fun s=>Iff.rfl) (by rw[if_neg S4])
 obtain ⟨V,v1,v2⟩:=Mc (L:=R) (R:=Unit) (Q:=fun x s=>s=x) (body:=fun(_:Unit) (y15:(List A0))=>
         (
          N2 (some ([y15],())) fun _=>
          some ([],.inl ())
          :Option (List (List A0)×(Unit ⊕ Unit)))) fun x hx=>Fp fun s=>Iff.rfl
 refine⟨W++(V++[]),?_,fun s=>?_⟩
 ·refine(congrArg (fun m:Option (List (List BD)×Unit)=>m.bind fun q=>some q.1) (Fg (o:=()) (w':=V++[]) w1 ?_)).trans rfl
  dsimp only
  rw[r1];simp only[Option.bind_some];exact Fg v1 rfl
 rw[append_nil,List.mem_append,w2,v2,Sm.i4 h0 ha];refine or_congr ?_ ?_
 ·constructor
  ·rintro⟨x,hx,rfl⟩;exact(h3 _).1 hx
  intro h;exact⟨s,(h3 s).2 h,rfl⟩
 constructor
 ·rintro⟨x,hx,rfl⟩;obtain⟨u,t,a,b,c⟩:=(r2 _).1 hx;exact⟨G9 u,G9 t,a,b,c⟩
 rintro⟨u,t,a,b,c⟩;exact⟨s,(r2 s).2 ⟨u.map Jm,t.map Jm,by rw[P1];exact a,by simp only[P1];exact b,by rw[P1,P1];exact c⟩,rfl⟩
def Wh :List (List (List BD))→List PR→List PR→Prop
 |[],w,s=>s=w
 |L::r,w,s=>∃u∈L,BT w (G9 u)∧Wh r (mrg w (G9 u)) s
omit hN hl in
theorem Wh.snoc :∀{P:List (List (List BD))} {L:List (List BD)} {w s:List PR},Wh (P++[L]) w s↔∃t,Wh P w t∧∃u∈L,BT t (G9 u)∧s=mrg t (G9 u)
 |[],L,w,s=>by simp[Wh]
 |M::P,L,w,s=>by
  show(∃u∈M,BT w (G9 u)∧Wh (P++[L]) (mrg w (G9 u)) s)↔_
  constructor
  ·rintro⟨u,hu,ha,h⟩;obtain⟨t,ht,h⟩:=Wh.snoc.1 h;exact⟨t,⟨u,hu,ha,ht⟩,h⟩
  rintro⟨t,⟨u,hu,ha,ht⟩,h⟩;exact⟨u,hu,ha,Wh.snoc.2 ⟨t,ht,h⟩⟩
theorem QP {f:Int}:∀{P:List (List (List BD))} {w:List BD} {n:Nat},P.length<n→(∀L∈P,L.length≤4096∧∀u∈L,JU l f (G9 u))→Gd l (G9 w)→∃R,S1 N n P w=some R∧∀s,s∈R↔Wh P (G9 w) (G9 s)
 |[],w,n,hn,_,_=>by
  obtain⟨n,rfl⟩:∃m,n=m+1:=⟨n - 1,by omega⟩;unfold S1;refine⟨[w],by rw[if_pos (show cmp .eql (Ar.len ([]:List (List (List BD)))) 0=true from rfl)];rfl,fun s=>?_⟩;rw[List.mem_singleton];exact⟨fun e=>by rw[e];rfl,fun e=>HF e⟩
 | L::P,w,n,hn,hP,gw=>by
  obtain⟨n,rfl⟩:∃m,n=m+1:=⟨n - 1,by omega⟩;unfold S1;have hwl:=gw.len
  rw[List.length_map]at hwl
  obtain⟨hLl,hL⟩:=hP L (by simp);refine Ka ?_;rw[if_neg (by rw[C0,B1];simp;omega),Hl];simp only[Option.bind_some];refine Bx (L:=L) (u:=()) (Q:=fun u s=>BT (G9 w) (G9 u)∧Wh P (mrg (G9 w) (G9 u)) (G9 s)) (by omega) ?_ ?_ rfl ?_
  ·intro i u hu hi hm;have ru:=hL u hm;have hul:=ru.gd.len
   rw[List.length_map]at hul
   have e:ar .add .i64 (i:Int) 1=i+1:=C4 (by omega) (by omega);rw[if_pos (P3 hi),C7,hu];simp only[Option.bind_some,e];rw[UG hN (by omega) (by omega),Co];simp only[Option.bind_some]
   by_cases ha:BT (G9 w) (G9 u)
   ·rw[Kl.2 ha,if_pos (show nt false=true from rfl)];obtain⟨c,c1,c2⟩:=Lw (N:=N) (n:=l.length) (by omega) (by omega) (by omega) gw.asc ru.gd.asc ha gw.wf.ins ru.gd.wf.ins;obtain⟨R,r1,r2⟩:=QP (P:=P) (w:=c) (n:=n) (by simp at hn;omega) (fun L hL=>hP L (by simp[hL])) (by rw[c2];exact gw.mrg ru.gd ha);rw[c1];simp only[Option.bind_some];rw[r1];refine⟨R++[],Fg rfl rfl,fun s=>?_⟩;rw[append_nil,r2,c2];exact⟨fun h=>⟨ha,h⟩,fun h=>h.2⟩
   have:Cv (G9 w) (G9 u)=true:=by
    cases h:Cv (G9 w) (G9 u)with
    |true=>rfl
    |false=>exact absurd (Kl.1 h) ha
   rw[this,if_neg (show¬nt true=true by decide)];exact⟨[],rfl,fun s=>⟨fun h=>absurd h List.not_mem_nil,fun h=>absurd h.1 ha⟩⟩
  ·rw[if_neg S4]
  intro s
  constructor
  ·rintro⟨u,hu,ha,h⟩;exact⟨u,hu,ha,h⟩
  rintro⟨u,hu,ha,h⟩;exact⟨u,hu,ha,h⟩
omit hN hl in
theorem Ae3 {G:A1→List (List BD)} {b:List PR} {f:Int}:∀(n:Nat) {r:List A1} {p:A1},r.length≤n→p.Op=3→p.cL=r→r≠[]→(∀q∈r,∀s,s∈G q↔Sm l q b f (G9 s))→∀s,Wh (r.map G) [] s↔Sm l p b f s:=by
 intro n
 induction n with
 |zero=>intro r p hl _ _ hn;exact absurd (List.eq_nil_of_length_eq_zero (by omega)) hn
 | succ n ih=>
  intro r p hln h0 ha hn hG s
  rcases List.eq_nil_or_concat r with rfl|⟨m,q,rfl⟩
  ·exact absurd rfl hn
  rw[List.concat_eq_append]at *
  rw[List.map_append,List.map_cons,List.map_nil,Wh.snoc]
  by_cases hm:m=[]
  ·subst hm;rw[Sm.i3 h0 ha]
   constructor
   ·rintro⟨t,ht,u,hu,_,e⟩;have ht:t=[]:=ht;rw[e,ht,FY];exact(hG q (by simp) u).1 hu
   intro h;refine⟨[],rfl,s.map Jm,(hG q (by simp) _).2 (by rw[P1];exact h),fun x hx=>absurd hx List.not_mem_nil,?_⟩;rw[P1,FY]
  rw[Sm.i3c h0 ha hm];have ih':=fun t=>ih (r:=m) (p:={p with cL:=m}) (by simp at hln;omega) h0 rfl hm (fun q hq=>hG q (by simp[hq])) t
  constructor
  ·rintro⟨t,ht,u,hu,hd,e⟩;exact⟨t,G9 u,(ih' t).1 ht,(hG q (by simp) u).1 hu,hd,e⟩
  rintro⟨t,u,ht,hu,hd,e⟩;exact⟨t,(ih' t).2 ht,u.map Jm,(hG q (by simp) _).2 (by rw[P1];exact hu),by rw[P1];exact hd,by rw[P1];exact e⟩
theorem XT {k:Nat} (ih:IHk N l k) {p:A1} (hw:Gx p) (hp:p.pre.length≤64) (hs:Ja l.length p) (h0:p.Op=3) {o:List BD} {f:Nat} (ho:Il l (G9 o) f) {n:Nat} (hmu:mu l p f≤k+1) (hn:8*k+15≤n):∃R,Eg N n ⟨l,false⟩ p o f=some R∧∀s,s∈R↔Sm l p (G9 o) f (G9 s):=by
 unfold Eg;rw[if_neg (by omega),if_neg (by omega),if_neg (by omega),if_pos h0];obtain⟨n,rfl⟩:∃m,n=m+2:=⟨n - 2,by omega⟩;unfold L6 P8;have hal:=Bw p
 let G:A1→List (List BD):=fun q=>(C8 N n ⟨l,false⟩ q o f).getD []
 have hG:∀q∈p.cL,C8 N n ⟨l,false⟩ q o f=some (G q)∧(∀s,s∈G q↔Sm l q (G9 o) f (G9 s))∧(G q).length≤1500:=fun q hq=>by
  have:=Dv (l:=l) (f:=f) (g:=f) (O5 hq);obtain⟨L,h1,h2,h3⟩:=ih q o f n (by omega) (by omega) (by have:=O5 hq;omega) (hw.arg hq) (hs.arg hq) ho;have hc:=Fe (hw.arg hq) (hs.arg hq) ho h2 fun s hs=>(h3 s).1 hs
  have e:G q=L:=by show(C8 N n ⟨l,false⟩ q o f).getD []=L;rw[h1];rfl
  exact⟨by rw[e];exact h1,by rw[e];exact h3,by rw[e];exact hc⟩
 have key:∀(k i M:Nat) (acc:List (List (List BD))),i+k=p.cL.length→k<M→acc.length≤i→V5 (fun(s1:(List (List (List A0)))×Int)=>
  (
   if cmp .lss s1.2 (Ar.len p.cL)=true then
    (B6 p.cL s1.2).bind fun x8=>
    (C8 N n ⟨l,false⟩ x8 o f).bind fun r9=>
    (H8 s1.1 ([r9])).bind fun l11=>
    some ([],.inl (l11,ar .add .i64 s1.2 1))
   else
    some ([],.inr s1.1)
   :Option (List (List A0)×(((List (List (List A0)))×Int) ⊕ (((List (List (List A0))))))))) M (acc,(i:Int))=some ([],acc++(p.cL.drop i).map G):=by
  intro k
  induction k with
  |zero=>
   intro i M acc hi hM _;obtain⟨M,rfl⟩:∃m,M=m+1:=⟨M - 1,by omega⟩;rw[List.drop_eq_nil_of_le (by omega)];unfold V5
   dsimp only
   rw[if_neg (W9 (by rw[B1];omega))];simp
  |succ k ihk=>
   intro i M acc hi hM hacc;obtain⟨M,rfl⟩:∃m,M=m+1:=⟨M - 1,by omega⟩
   have hlt:i<p.cL.length:=by omega
   have e:ar .add .i64 (i:Int) 1=i+1:=C4 (by omega) (by omega);rw[List.drop_eq_getElem_cons hlt];unfold V5
   dsimp only
   rw[if_pos (P3 (by omega)),C7,List.getElem?_eq_getElem hlt];simp only[Option.bind_some];rw[(hG _ (List.getElem_mem hlt)).1];simp only[Option.bind_some];rw[M2 (by simp;omega)];simp only[Option.bind_some,e];rw[show((i:Int)+1)=((i+1:Nat):Int) by omega,ihk (i+1) M _ (by omega) (by omega) (by simp;omega),List.map_cons,List.append_assoc];rfl
 have hk:=key p.cL.length 0 N [] (by omega) (by omega) (by simp)
 simp only[List.drop_zero,List.nil_append]at hk
 have hk':((0:Nat):Int)=0:=rfl
 rw[hk']at hk
 obtain⟨R,r1,r2⟩:=QP hN hl (f:=f) (P:=p.cL.map G) (w:=[]) (n:=N) (by simp;omega) (fun L hL=>by
  obtain⟨q,hq,rfl⟩:=List.mem_map.1 hL;obtain⟨_,h2,h3⟩:=hG q hq
  exact⟨by omega,fun u hu=>((h2 u).1 hu).res (hw.arg hq) ho⟩) (Gd.nil l)
 refine Ka ⟨[]++(R++[]),Fg hk ?_,fun s=>?_⟩
 ·rw[if_pos (show nt (⟨l,false⟩:B3).full=true from rfl),r1];simp only[Option.bind_some];exact Fg rfl rfl
 rw[List.nil_append,append_nil,r2];exact Ae3 _ (Nat.le_refl _) h0 rfl (hw.self.a1 (by omega) (by omega)) (fun q hq=>(hG q hq).2.1) _
theorem Vb :∀k,IHk N l k:=by
 intro k
 induction k with
 |zero=>
  intro p o f n hmu;exfalso;have h1:=A1.pre_eq p
  have:1≤p.pre.length:=by rw[h1];simp
  unfold mu at hmu
  have:=Nat.mul_le_mul_right (l.length+2) this;omega
 | succ k ih=>
  intro p o f n hmu hn hp hw hs ho;obtain⟨n,rfl⟩:∃m,n=m+1:=⟨n - 1,by omega⟩;have hop:=hw.self.op
  have hf:∃R,Eg N n ⟨l,false⟩ p o f=some R∧∀s,s∈R↔Sm l p (G9 o) f (G9 s):=by
   by_cases h0:p.Op=0
   ·exact SU hN hl hw h0 ho n
   by_cases h1:p.Op=1
   ·exact XR hN hl ih hw hp hs h1 ho hmu (by omega)
   by_cases h2:p.Op=2
   ·exact XS hN hl ih hw hp hs h2 ho hmu (by omega)
   by_cases h3:p.Op=3
   ·exact XT hN hl ih hw hp hs h3 ho hmu (by omega)
   by_cases h4:p.Op=4
   ·exact VK hN hl ih hw hp hs h4 ho hmu (by omega)
   exact VJ hN hl ih hw hp hs (by omega) ho hmu (by omega)
  obtain⟨R,h1,h2⟩:=hf;exact Ac5 hN hl hw hs ho h1 h2
end
end
end Go.Ab
namespace Go.Ab
open Classical
noncomputable section
def Tj (out:List (List PR))(s:List PR):List (List PR):=if s∈out then out else out++[s]
def Nd (P:List PR→Prop)(out:List (List PR)):Prop:=out.Nodup∧∀s∈out,P s
theorem Nd.nil (P:List PR→Prop):Nd P []:=⟨List.nodup_nil,fun _ h=>absurd h List.not_mem_nil⟩
theorem Nd.add {P:List PR→Prop}{out:List (List PR)}{s:List PR}(h:Nd P out)(hs:P s):Nd P (Tj out s):=by
 unfold Tj
 split
 ·exact h
 rename_i hin;refine⟨List.nodup_append.2 ⟨h.1,by simp,fun a ha b hb e=>hin (by rw[←List.mem_singleton.1 hb,←e];exact ha)⟩,fun x hx=>?_⟩
 rcases List.mem_append.1 hx with hx|hx
 ·exact h.2 x hx
 rw[List.mem_singleton.1 hx];exact hs
theorem Zj {out:List (List PR)}{s t:List PR}:t∈Tj out s↔t∈out∨t=s:=by
 unfold Tj
 split
 ·rename_i h;exact⟨.inl,fun e=>e.elim id fun e=>e▸h⟩
 rw[List.mem_append,List.mem_singleton]
def addL (out L:List (List PR)):List (List PR):=L.foldl Tj out
theorem Mp {s:List PR}:∀{L out:List (List PR)},s∈addL out L↔s∈out∨s∈L
 |[],out=>by simp[addL]
 |t::L,out=>by
  show s∈addL (Tj out t) L↔_
  rw[Mp,Zj,List.mem_cons,or_assoc]
theorem Nd.addL {P:List PR→Prop}:∀{L out:List (List PR)},Nd P out→(∀s∈L,P s)→Nd P (addL out L)
 |[],_,h,_=>h
 |t::L,out,h,hp=>Nd.addL (L:=L) (h.add (hp t (by simp))) fun s hs=>hp s (by simp[hs])
theorem Yk (out A B:List (List PR)):addL out (A++B)=addL (addL out A) B:=List.foldl_append
theorem Ea {α:Type}{L:List α}{N:Nat}{step:(List (List PR))×Int→Option (((List (List PR))×Int) ⊕ List (List PR))}(P:List PR→Prop)(F:α→List (List PR)){Mg:List (List PR)}(hN:L.length<N)(hl:L.length<1000000000)(h0:Nd P Mg)(hP:∀x∈L,∀s∈F x,P s)
 (hs:∀out (i:Nat) x,L[i]? =some x→(i:Int)<L.length→x∈L→ar .add .i64 (i:Int) 1=i+1→Nd P out→step (out,(i:Int))=some (.inl (addL out (F x),(i:Int)+1))) (he:∀out,step (out,(L.length:Int))=some (.inr out)):loopN step N (Mg,0)=some (addL Mg (L.flatMap F)):=by
 have h:=(Fs (L:=L) (N:=N) (step:=step) (fun o i=>(o,i)) (fun o x=>addL o (F x)) (fun o=>o) (fun _=>Nd P) hN hl h0 (fun o i x a b c d e=>⟨hs o i x a b c d e,e.addL (hP x c)⟩) he).1;rw[h]
 congr 1
 clear h hP hs he h0 hN hl
 induction L generalizing Mg with
 |nil=>rfl
 |cons a L ih=>rw[List.foldl_cons,ih,List.flatMap_cons,Yk]
theorem Ku {l:List A7}{p:A1}(hw:Gx p)(hs:Ja l.length p){b:List PR}{f:Int}(ho:Il l b f){out:List (List PR)}(h:Nd (Sm l p b f) out):out.length≤1500:=card hw hs h.1 fun s m=>⟨((h.2 s m).res hw ho).gd,b,f,h.2 s m⟩
def Dc (r:Option (List (List PR)))(l:List A7)(p:A1)(b:List PR)(f:Int):Prop:=∃L,r=some L∧L.Nodup∧∀s,s∈L↔Sm l p b f s
theorem Dc.of {l:List A7}{p:A1}{b:List PR}{f:Int}{L:List (List PR)}(h:∀s,s∈L↔Sm l p b f s):Dc ((some (addL [] L)).bind fun s=>some s) l p b f:=
 ⟨_,rfl,((Nd.nil fun _=>True).addL fun _ _=>trivial).1,fun s=>by rw[Mp];simpa using h s⟩
theorem Dc.mk {x:Option (List (List PR))}{l:List A7}{p:A1}{b:List PR}{f:Int}(h:∃L,x=some L∧L.Nodup∧∀s,s∈L↔Sm l p b f s):Dc (x.bind fun s=>some s) l p b f:=by
 obtain⟨L,rfl,h⟩:=h;exact⟨L,rfl,h⟩
section
variable {N:Nat}(hN:40000000≤N){l:List A7}(hl:l.length≤10)
include hN hl
theorem Lk {p:A1}(hw:Gx p)(hs:Ja l.length p){b:List PR}{f:Int}(ho:Il l b f){out:List (List PR)}(h:Nd (Sm l p b f) out)(s:List PR):S2 N out s=some (Tj out s):=by
 have hc:=Ku hw hs ho h
 exact WL hN (by omega) fun x hx=>by have:=((h.2 x hx).res hw ho).gd.len;omega
theorem Ty {o u:List PR}{f:Int}(ho:Il l o f)(r:JU l f u):G3 N o u=some (mrg o u):=by
 have h1:=ho.gd.len;have h2:=r.gd.len;exact EB hN (by omega)
theorem Tx {u t:List PR}{f g:Int}(r:JU l f u)(q:JU l g t):G3 N u t=some (mrg u t):=by
 have h1:=r.gd.len;have h2:=q.gd.len;exact EB hN (by omega)
theorem NC {u:List PR}{f:Int}(r:JU l f u):∃x,B6 u (ar .sub .i64 (Ar.len u) 1)=some x∧ar .add .i64 x.At 1=Y6 u+1:=by
 have h1:=r.gd.len;have h4:=r.gd.lst r.ne;obtain⟨x,h2,_,h3⟩:=DK r.ne;exact⟨x,by rw[Hk r.ne (by omega),h2],by rw[h3]at h4 ⊢;exact C4 (by omega) (by omega)⟩
def IHr (N:Nat)(l:List A7)(k:Nat):Prop:=∀(p:A1) (b:List PR) (f n:Nat),mu l p f≤k→8*k+8≤n→p.pre.length≤64→Gx p→Ja l.length p→Il l b f→
 Dc (J9 N n p l b f) l p b f∧(p.Op=1→Dc (Y3 N n p.cL l b f) l p b f)∧(p.Op=4→Dc (V2 N n p l b f) l p b f)
omit hN hl in
theorem My {k:Nat}(ih:IHr N l k){p q:A1}(hw:Gx p)(hp:p.pre.length≤64)(hs:Ja l.length p)(hq:q∈p.cL){b:List PR}{f:Nat}(ho:Il l b f){n:Nat}(hmu:mu l p f≤k+1)(hn:8*k+8≤n):∃L,J9 N n q l b f=some L∧L.Nodup∧(∀s,s∈L↔Sm l q b f s)∧L.length≤1500∧∀s∈L,JU l f s:=by
 have m:=O5 hq;have m1:=Dv (l:=l) (f:=f) (g:=f) m;obtain⟨L,h1,h2,h3⟩:=(ih q b f n (by omega) hn (by omega) (hw.arg hq) (hs.arg hq) ho).1;exact⟨L,h1,h2,h3,Ku (hw.arg hq) (hs.arg hq) ho ⟨h2,fun s hs=>(h3 s).1 hs⟩,fun s h=>((h3 s).1 h).res (hw.arg hq) ho⟩
theorem Qn {p:A1} (hw:Gx p) (hs:Ja l.length p) {b u:List PR} {f:Int} (ho:Il l b f) (ru:JU l f u) {T out:List (List PR)} (hT:T.length≤1500) (hr:∀t∈T,JU l (Y6 u+1) t) (hP:∀t∈T,Sm l p b f (mrg u t)) (hg:Nd (Sm l p b f) out) {step:(List (List PR))×Int→Option (((List (List PR))×Int) ⊕ List (List PR))}
 (hst:∀o i,step (o,i)=if cmp .lss i (Ar.len T)=true then(B6 T i).bind fun x=>(G3 N u x).bind fun r=>(S2 N o r).bind fun l=>some (.inl (l,ar .add .i64 i 1))else some (.inr o)):loopN step N (out,0)=some (addL out (T.map (mrg u))):=by
 rw[Ea (L:=T) (N:=N) (step:=step) (Sm l p b f) (fun t=>[mrg u t]) (by omega) (by omega) hg (fun t ht s hs=>by rw[List.mem_singleton.1 hs];exact hP t ht) (fun o i t ht hi hm e hg=>by
  rw[hst,if_pos (show cmp .lss (i:Int) (Ar.len T)=true from Av hi),C7,ht];simp only[Option.bind_some];rw[Tx hN hl ru (hr t hm)];simp only[Option.bind_some]
  rw[Lk hN hl hw hs ho hg,e];rfl) (fun o=>by rw[hst,if_neg (show¬cmp .lss (T.length:Int) (Ar.len T)=true from W9 (Int.lt_irrefl _))]),←List.map_eq_flatMap]
theorem TI {k:Nat} (ih:IHr N l k) {p:A1} (hw:Gx p) (hp:p.pre.length≤64) (hs:Ja l.length p) (h0:p.Op=1) {b:List PR} {f:Nat} (ho:Il l b f) {n:Nat} (hmu:mu l p f≤k+1) (hn:8*k+9≤n):Dc (Y3 N n p.cL l b f) l p b f:=by
 obtain⟨n,rfl⟩:∃m,n=m+1:=⟨n - 1,by omega⟩;unfold Y3
 match ha:p.cL with
 |[]=>exact absurd ha (hw.self.a1 (by omega) (by omega))
 | q::r=>
  obtain⟨L,h1,h2,h3,hc,hr⟩:=My ih hw hp hs (q:=q) (by rw[ha];simp) ho hmu (n:=n) (by omega);rw[Hl];simp only[Option.bind_some];rw[h1];simp only[Option.bind_some]
  cases r with
  |nil=>
   rw[if_pos (show cmp .eql (Ar.len [q]) 1=true from rfl)];exact⟨L,rfl,h2,fun s=>(h3 s).trans (Sm.i1 h0 ha).symm⟩
  | cons q' r=>
   have hwr:Gx {p with cL:=q'::r}:=hw.sub (by omega) (by omega) (fun x hx=>by rw[ha];exact List.mem_cons_of_mem _ hx) (by simp)
   let T:List PR→List (List PR):=fun u=>(Y3 N n (q'::r) l (mrg b u) (Y6 u+1)).getD []
   have hT:∀u∈L,Y3 N n (q'::r) l (mrg b u) (Y6 u+1)=some (T u)∧(T u).length≤1500∧(∀t,t∈T u↔Sm l {p with cL:=q'::r} (mrg b u) (Y6 u+1) t)∧∀t∈T u,JU l (Y6 u+1) t:=fun u hu=>by
    obtain⟨g,hg,hgl,hfg⟩:=Lv (hr u hu) ho.f0
    have ho':Il l (mrg b u) (g:Int):=by rw[←hg];exact ho.next (hr u hu)
    have m:=Js ha;have m2:=Dv (l:=l) (f:=f) (g:=g) m;obtain⟨S,t1,t2,t3⟩:=(ih {p with cL:=q'::r} (mrg b u) g n (by omega) (by omega) (by omega) hwr (hs.tail ha) ho').2.1 h0
    have e:T u=S:=by show(Y3 N n (q'::r) l (mrg b u) (Y6 u+1)).getD []=S;rw[hg,t1];rfl
    rw[e,hg];exact⟨t1,Ku hwr (hs.tail ha) ho' ⟨t2,fun s hs=>(t3 s).1 hs⟩,t3,fun t ht=>((t3 t).1 ht).res hwr ho'⟩
   have hP:∀u∈L,∀t∈T u,Sm l p b f (mrg u t):=fun u hu t ht=>Sm.seq h0 ha ((h3 u).1 hu) (((hT u hu).2.2.1 t).1 ht)
   rw[if_neg (by rw[C0,B1];simp;omega),Co,Ea (L:=L) (N:=N) (Sm l p b f) (fun u=>(T u).map (mrg u)) (by omega) (by omega) (Nd.nil _) (fun u hu s hs=>by
    obtain⟨t,ht,rfl⟩:=List.mem_map.1 hs
    exact hP u hu t ht) (fun out i u hu hi hm e hg=>by
    obtain⟨t1,t2,t3,t4⟩:=hT u hm;obtain⟨x,hx1,hx2⟩:=NC hN hl (hr u hm)
    dsimp only
    rw[if_pos (P3 hi),C7,hu];simp only[Option.bind_some];rw[Ty hN hl ho (hr u hm),hx1];simp only[Option.bind_some];rw[hx2,t1];simp only[Option.bind_some,e]
    rw[Qn hN hl hw hs ho (hr u hm) t2 t4 (hP u hm) hg fun _ _=>rfl];rfl) (fun out=>by dsimp only;rw[if_neg S4])]
   refine Dc.of fun s=>?_;simp only[List.mem_flatMap,List.mem_map];rw[Sm.i1c h0 ha]
   constructor
   ·rintro⟨u,hu,t,ht,rfl⟩;exact⟨u,t,(h3 u).1 hu,((hT u hu).2.2.1 t).1 ht,rfl⟩
   rintro⟨u,t,hu,ht,rfl⟩;exact⟨u,(h3 u).2 hu,t,((hT u ((h3 u).2 hu)).2.2.1 t).2 ht,rfl⟩
theorem Qo {k:Nat} (ih:IHr N l k) {p:A1} (hw:Gx p) (hp:p.pre.length≤64) (hs:Ja l.length p) (h0:p.Op=4) {b:List PR} {f:Nat} (ho:Il l b f) {n:Nat} (hmu:mu l p f≤k+1) (hn:8*k+9≤n):Dc (V2 N n p l b f) l p b f:=by
 obtain⟨n,rfl⟩:∃m,n=m+1:=⟨n - 1,by omega⟩;unfold V2;obtain⟨q,ha⟩:=hw.self.a2 (by omega);obtain⟨L,h1,h2,h3,hc,hr⟩:=My ih hw hp hs (q:=q) (by rw[ha];simp) ho hmu (n:=n) (by omega)
 have hi0:B6 p.cL 0=some q:=by rw[ha];rfl
 rw[hi0];simp only[Option.bind_some];rw[h1];simp only[Option.bind_some]
 let T:List PR→List (List PR):=fun u=>(V2 N n p l (mrg b u) (Y6 u+1)).getD []
 have hT:∀u∈L,V2 N n p l (mrg b u) (Y6 u+1)=some (T u)∧(T u).length≤1500∧(∀t,t∈T u↔Sm l p (mrg b u) (Y6 u+1) t)∧∀t∈T u,JU l (Y6 u+1) t:=fun u hu=>by
  obtain⟨g,hg,hgl,hfg⟩:=Lv (hr u hu) ho.f0
  have ho':Il l (mrg b u) (g:Int):=by rw[←hg];exact ho.next (hr u hu)
  have m2:=TS (p:=p) (show f<g by omega) hgl;obtain⟨S,t1,t2,t3⟩:=(ih p (mrg b u) g n (by omega) (by omega) hp hw hs ho').2.2 h0
  have e:T u=S:=by show(V2 N n p l (mrg b u) (Y6 u+1)).getD []=S;rw[hg,t1];rfl
  rw[e,hg];exact⟨t1,Ku hw hs ho' ⟨t2,fun s hs=>(t3 s).1 hs⟩,t3,fun t ht=>((t3 t).1 ht).res hw ho'⟩
 have hP1:∀u∈L,Sm l p b f u:=fun u hu=>.plus1 h0 ha ((h3 u).1 hu);have hP:∀u∈L,∀t∈T u,Sm l p b f (mrg u t):=fun u hu t ht=>Sm.plus h0 ha ((h3 u).1 hu) (((hT u hu).2.2.1 t).1 ht)
 rw[Ea (L:=L) (N:=N) (Sm l p b f) (fun u=>u::(T u).map (mrg u)) (by omega) (by omega) (Nd.nil _) (fun u hu s hs=>by
  rcases List.mem_cons.1 hs with rfl|hs
  ·exact hP1 _ hu
  ·obtain⟨t,ht,rfl⟩:=List.mem_map.1 hs
   exact hP u hu t ht) (fun out i u hu hi hm e hg=>by
  obtain⟨t1,t2,t3,t4⟩:=hT u hm;obtain⟨x,hx1,hx2⟩:=NC hN hl (hr u hm)
  dsimp only
  rw[if_pos (P3 hi),C7,hu];simp only[Option.bind_some];rw[Lk hN hl hw hs ho hg,Ty hN hl ho (hr u hm),hx1];simp only[Option.bind_some];rw[hx2,t1];simp only[Option.bind_some,e]
  rw[Qn hN hl hw hs ho (hr u hm) t2 t4 (hP u hm) (hg.add (hP1 u hm)) fun _ _=>rfl];rfl) (fun out=>by dsimp only;rw[if_neg S4])]
 refine Dc.of fun s=>?_;simp only[List.mem_flatMap,List.mem_cons,List.mem_map];rw[Sm.i4 h0 ha]
 constructor
 ·rintro⟨u,hu,rfl|⟨t,ht,rfl⟩⟩
  ·exact .inl ((h3 _).1 hu)
  exact .inr ⟨u,t,(h3 u).1 hu,((hT u hu).2.2.1 t).1 ht,rfl⟩
 rintro(h|⟨u,t,hu,ht,rfl⟩)
 ·exact⟨s,(h3 s).2 h,.inl rfl⟩
 exact⟨u,(h3 u).2 hu,.inr ⟨t,((hT u ((h3 u).2 hu)).2.2.1 t).2 ht,rfl⟩⟩
theorem YN {k:Nat} (ih:IHr N l k) {p:A1} (hw:Gx p) (hp:p.pre.length≤64) (hs:Ja l.length p) (h0:p.Op=2) {b:List PR} {f:Nat} (ho:Il l b f) {n:Nat} (hmu:mu l p f≤k+1) (hn:8*k+9≤n):Dc (DF N n p.cL l b f) l p b f:=by
 obtain⟨n,rfl⟩:∃m,n=m+1:=⟨n - 1,by omega⟩;unfold DF;have hal:=Bw p
 let S:A1→List (List PR):=fun q=>(J9 N n q l b f).getD []
 have hS:∀q∈p.cL,J9 N n q l b f=some (S q)∧(S q).length≤1500∧∀s,s∈S q↔Sm l q b f s:=fun q hq=>by
  obtain⟨L,h1,_,h3,hc,_⟩:=My ih hw hp hs hq ho hmu (n:=n) (by omega)
  have e:S q=L:=by show(J9 N n q l b f).getD []=L;rw[h1];rfl
  rw[e];exact⟨h1,hc,h3⟩
 have hP:∀q∈p.cL,∀s∈S q,Sm l p b f s:=fun q hq s hs=>.alt h0 hq (((hS q hq).2.2 s).1 hs)
 rw[Ea (L:=p.cL) (N:=N) (Sm l p b f) S (by omega) (by omega) (Nd.nil _) hP (fun out i q hu hi hq e hg=>by
  obtain⟨h1,hc,h3⟩:=hS q hq
  dsimp only
  rw[if_pos (P3 hi),C7,hu];simp only[Option.bind_some];rw[h1];simp only[Option.bind_some,e]
  rw[Ea (L:=S q) (N:=N) (Sm l p b f) (fun s=>[s]) (by omega) (by omega) hg (fun s hm x hx=>by rw[List.mem_singleton.1 hx];exact hP q hq s hm) (fun out j u hu hj hm e hg=>by
   dsimp only
   rw[if_pos (P3 hj),C7,hu];simp only[Option.bind_some]
   rw[Lk hN hl hw hs ho hg,e];rfl) (fun out=>by dsimp only;rw[if_neg S4]),←List.map_eq_flatMap,List.map_id'];rfl) (fun out=>by dsimp only;rw[if_neg S4])]
 refine Dc.of fun s=>?_;rw[List.mem_flatMap,Sm.i2 h0];exact⟨fun⟨q,hq,h⟩=>⟨q,hq,((hS q hq).2.2 s).1 h⟩,fun⟨q,hq,h⟩=>⟨q,hq,((hS q hq).2.2 s).2 h⟩⟩
omit hN hl in
theorem Va (p:A1):(⟨p.Op,p.cL,p.Typ,p.Var,p.cQ,p.Span,p.cN⟩:A1)=p:=by cases p;rfl
theorem YO {k:Nat} (ih:IHr N l k) {p:A1} (hw:Gx p) (hp:p.pre.length≤64) (hs:Ja l.length p) (h0:p.Op=3) {b:List PR} {f:Nat} (ho:Il l b f) {n:Nat} (hmu:mu l p f≤k+1) (hn:8*k+9≤n):Dc (DG N n p.cL l b f) l p b f:=by
 obtain⟨n,rfl⟩:∃m,n=m+1:=⟨n - 1,by omega⟩;unfold DG;have hal:=Bw p;have hpos:=List.length_pos_iff.2 (hw.self.a1 (by omega) (by omega));have hsub:∀q∈p.cL,∃L,J9 N n q l b f=some L∧L.Nodup∧(∀s,s∈L↔Sm l q b f s)∧L.length≤1500∧∀s∈L,JU l f s:=fun q hq=>My ih hw hp hs hq ho hmu (by omega);obtain⟨L0,a1,a2,a3,_,_⟩:=hsub _ (List.getElem_mem hpos)
 have hi0:B6 p.cL 0=some p.cL[0]:=by have:=C7 (l:=p.cL) (i:=0);rw[List.getElem?_eq_getElem hpos]at this;exact this
 rw[hi0];simp only[Option.bind_some];rw[a1];simp only[Option.bind_some]
 have hwt:∀i,1≤i→i≤p.cL.length→Gx {p with cL:=p.cL.take i}∧Ja l.length {p with cL:=p.cL.take i}∧p.cL.take i≠[]:=fun i h1 h2=>by
  have hne:p.cL.take i≠[]:=fun e=>by
   have:=congrArg List.length e
   rw[List.length_take,List.length_nil]at this;omega
  refine⟨hw.sub (by omega) (by omega) (fun x hx=>List.mem_of_mem_take hx) hne,hs.mono ?_ fun k=>k.sub fun x hx=>List.mem_of_mem_take hx,hne⟩;rw[JF,Fc];have:p.cL=p.cL.take i++p.cL.drop i:=(List.take_append_drop i _).symm
  conv=>rhs;rw[this,BO,countP_append]
  omega
 suffices key:∀(k i M:Nat) (acc:List (List PR)) (step:(List (List PR))×Int→Option (((List (List PR))×Int) ⊕ List (List PR))),i+k=p.cL.length→k<M→1≤i→acc.Nodup→(∀s,s∈acc↔Sm l {p with cL:=p.cL.take i} b f s)→
  (∀ o j, step (o,j)=if cmp .lss j (Ar.len p.cL)=true then(B6 p.cL j).bind fun x5=>(J9 N n x5 l b f).bind fun r6=>
   (loopN
    (fun (s7:(List (List A2))×Int)=>
     (
      if cmp .lss s7.2 (Ar.len o)=true then
       (loopN
        (fun(s10:(List (List A2))×Int)=>
         (
          if cmp .lss s10.2 (Ar.len r6)=true then
           (B6 o s7.2).bind fun x13=>
           (B6 r6 s10.2).bind fun x14=>
           (BJ N x13 x14).bind fun r15=>
           if r15=true then
            (B6 o s7.2).bind fun x16=>
            (B6 r6 s10.2).bind fun x17=>
            (G3 N x16 x17).bind fun r18=>
            (S2 N s10.1 r18).bind fun l19=>
            some (.inl (l19,ar .add .i64 s10.2 1))
           else
            some (.inl (s10.1,ar .add .i64 s10.2 1))
          else
           some (.inr s10.1)))
        N (s7.1,0)).bind fun s12=>
       some (.inl (s12,ar .add .i64 s7.2 1))
      else
       some (.inr s7.1)))
    N ([],0)).bind fun s9=>some (.inl (s9,ar .add .i64 j 1))else some (.inr o))→∃out,loopN step M (acc,(i:Int))=some out∧out.Nodup∧∀s,s∈out↔Sm l p b f s by
  exact Dc.mk (key (p.cL.length - 1) 1 N L0 _ (by omega) (by omega) (Nat.le_refl _) a2 (fun s=>by
   rw[a3];refine(Sm.i3 (p:={p with cL:=p.cL.take 1}) h0 ?_).symm
   show p.cL.take 1=[p.cL[0]]
   rw[List.take_succ_eq_append_getElem hpos];simp) fun _ _=>rfl)
 intro k
 induction k with
 |zero=>
  intro i M acc step hi hM h1 hn hm hst;obtain⟨M,rfl⟩:∃m,M=m+1:=⟨M - 1,by omega⟩;refine⟨acc,?_,hn,fun s=>?_⟩
  ·unfold loopN;rw[hst,if_neg (W9 (by rw[B1];omega))]
  rw[hm,List.take_of_length_le (by omega),Va p]
 | succ k ihk=>
  intro i M acc step hi hM h1 hnd hm hst;obtain⟨M,rfl⟩:∃m,M=m+1:=⟨M - 1,by omega⟩
  have hlt:i<p.cL.length:=by omega
  have e:ar .add .i64 (i:Int) 1=i+1:=C4 (by omega) (by omega);obtain⟨S,b1,b2,b3,hcs,hrs⟩:=hsub _ (List.getElem_mem hlt);obtain⟨wt,st,hne⟩:=hwt i h1 (by omega);obtain⟨wt1,st1,_⟩:=hwt (i+1) (by omega) (by omega);have hca:=Ku wt st ho ⟨hnd,fun s hs=>(hm s).1 hs⟩;have htk:({p with cL:=p.cL.take (i+1)}:A1).cL=p.cL.take i++[p.cL[i]]:=List.take_succ_eq_append_getElem hlt
  let F:List PR→List PR→List (List PR):=fun u t=>if Cv u t=true then[]else[mrg u t]
  have hF:∀{u t s},s∈F u t↔BT u t∧s=mrg u t:=fun{u t s}=>by
   show s∈(if Cv u t=true then[]else[mrg u t])↔_
   rw[←Kl];cases Cv u t<;>simp
  have hP:∀u∈acc,∀t∈S,∀s∈F u t,Sm l {p with cL:=p.cL.take (i+1)} b f s:=fun u hu t ht s hs=>by
   obtain⟨hd,rfl⟩:=hF.1 hs;exact Sm.all h0 htk hne ((hm u).1 hu) ((b3 t).1 ht) hd
  obtain⟨res,r1,r2,r3⟩:=ihk (i+1) M (addL [] (acc.flatMap fun u=>S.flatMap (F u))) step (by omega) (by omega) (by omega) ((Nd.nil fun _=>True).addL fun _ _=>trivial).1 (fun s=>by
   rw[Mp,Sm.i3c (p:={p with cL:=p.cL.take (i+1)}) h0 htk hne];simp only[List.not_mem_nil,false_or,List.mem_flatMap,hF]
   constructor
   ·rintro⟨u,hu,t,ht,hd,rfl⟩;exact⟨u,t,(hm u).1 hu,(b3 t).1 ht,hd,rfl⟩
   rintro⟨u,t,hu,ht,hd,rfl⟩;exact⟨u,(hm u).2 hu,t,(b3 t).2 ht,hd,rfl⟩) hst
  refine⟨res,?_,r2,r3⟩;unfold loopN;rw[hst,if_pos (P3 (by omega)),C7,List.getElem?_eq_getElem hlt];simp only[Option.bind_some];rw[b1];simp only[Option.bind_some]
  rw [Ea (L:=acc) (N:=N) (Sm l {p with cL:=p.cL.take (i+1)} b f) (fun u=>S.flatMap (F u)) (by omega) (by omega) (Nd.nil _) (fun u hu s hs=>by
   obtain⟨t,ht,hs⟩:=List.mem_flatMap.1 hs
   exact hP u hu t ht s hs) (fun out j u hu hj hmu e hg=>by
   have ru:=((hm u).1 hmu).res wt ho;have hul:=ru.gd.len
   dsimp only
   rw[if_pos (P3 hj),Ea (L:=S) (N:=N) (Sm l {p with cL:=p.cL.take (i+1)} b f) (F u) (by omega) (by omega) hg (hP u hmu) (fun out m t ht hmm hmt e hg=>by
    have htl:=(hrs t hmt).gd.len
    dsimp only
    rw[if_pos (P3 hmm),C7,hu,C7,ht];simp only[Option.bind_some];rw[Vk hN (by omega) (by omega)];simp only[Option.bind_some,e]
    show _=some (Sum.inl (addL out (if Cv u t=true then[]else[mrg u t]),_))
    cases Cv u t with
    |true=>rfl
    |false=>
     rw[if_pos (show(!false)=true from rfl),Tx hN hl ru (hrs t hmt)];simp only[Option.bind_some]
     rw[Lk hN hl wt1 st1 ho hg];rfl) (fun out=>by dsimp only;rw[if_neg S4])]
   simp only[Option.bind_some,e]) (fun out=>by dsimp only;rw[if_neg S4])]
  simp only[Option.bind_some,e];rw[show((i:Int)+1)=((i+1:Nat):Int) by omega];exact r1
theorem Ad0 :∀k,IHr N l k:=by
 intro k
 induction k with
 |zero=>
  intro p o f n hmu;exfalso;have:=Nat.mul_le_mul_right (l.length+2) (show 1≤p.pre.length by rw[A1.pre_eq p];simp)
  unfold mu at hmu
  omega
 | succ k ih=>
  intro p b f n hmu hn hp hw hs ho;have hop:=hw.self.op;refine⟨?_,fun h=>TI hN hl ih hw hp hs h ho hmu (by omega),fun h=>Qo hN hl ih hw hp hs h ho hmu (by omega)⟩;obtain⟨n,rfl⟩:∃m,n=m+1:=⟨n - 1,by omega⟩;have wrap:∀{r:Option (List (List PR))},Dc r l p b f→Dc (r.bind fun s=>some s) l p b f:=fun{r} ⟨L,e,h⟩=>⟨L,by rw[e];rfl,h⟩;unfold J9;simp only[C0,decide_eq_true_eq];have hf1:=ho.f1
  by_cases h0:p.Op=0
  ·rw[if_pos h0,Vh hN hl hw.self.cond ho.gd (by omega)];refine⟨_,rfl,Kj fun i j e=>by simp at e;omega,fun s=>?_⟩;rw[Lu,Sm.i0 h0];exact⟨fun⟨j,h1,h2,h3,h4⟩=>⟨j,by omega,by omega,h3,h4⟩,fun⟨j,h1,h2,h3,h4⟩=>⟨j,by omega,by omega,h3,h4⟩⟩
  rw[if_neg h0]
  by_cases h1:p.Op=1
  ·rw[if_pos h1];exact wrap (TI hN hl ih hw hp hs h1 ho hmu (by omega))
  rw[if_neg h1]
  by_cases h2:p.Op=2
  ·rw[if_pos h2];exact wrap (YN hN hl ih hw hp hs h2 ho hmu (by omega))
  rw[if_neg h2]
  by_cases h3:p.Op=3
  ·rw[if_pos h3];exact wrap (YO hN hl ih hw hp hs h3 ho hmu (by omega))
  rw[if_neg h3]
  by_cases h4:p.Op=4
  ·rw[if_pos h4];exact wrap (Qo hN hl ih hw hp hs h4 ho hmu (by omega))
  rw[if_neg h4];obtain⟨q,ha⟩:=hw.self.a2 (by omega);obtain⟨L,l1,l2,l3,hc,hr⟩:=My ih hw hp hs (q:=q) (by rw[ha];simp) ho hmu (n:=n) (by omega)
  have hi0:B6 p.cL 0=some q:=by rw[ha];rfl
  rw[hi0];simp only[Option.bind_some];rw[l1];simp only[Option.bind_some]
  have hlen:∀(A:List (List PR)) (o:List (List PR)),(A.foldl (fun o x=>if Dg l p b x=true then o++[x]else o) o)=o++A.filter fun s=>Dg l p b s:=fun A=>by
   induction A with
   |nil=>intro o;simp
   |cons a A ih=>intro o;rw[List.foldl_cons,ih,List.filter_cons];split<;>simp
  rw[(Fs (L:=L) (N:=N) (fun o i=>(o,i)) (fun(o:List (List PR)) x=>if Dg l p b x=true then o++[x]else o) (fun o=>o) (fun i o=>o.length≤i) (by omega) (by omega) (show List.length []≤0 from Nat.le_refl 0) (fun o i x hx hi hm e ho'=>?_) fun o=>by first|dsimp only;rw[if_neg S4]|rw[if_neg S4]).1]
  ·rw[hlen];exact⟨_,rfl,l2.filter _,fun s=>by rw[List.nil_append,List.mem_filter,l3,Sm.i5 (by omega) hop.2 ha]⟩
  have ru:=hr x hm
  dsimp only
  rw[if_pos (P3 hi),C7,hx];simp only[Option.bind_some];rw[Vf hN hl hw.self.cond ⟨by omega,hop.2⟩ ho.gd ru.gd ru.ne (ho.apart ru)];simp only[Option.bind_some,e]
  by_cases hk:Dg l p b x=true
  ·rw[if_pos hk,if_pos hk,M2 (by simp;omega)];exact⟨rfl,by simp;omega⟩
  rw[if_neg hk,if_neg hk];exact⟨rfl,by omega⟩
end
end
end Go.Ab
namespace Go.Ab
open Classical
noncomputable section
def M4 :List Int→List Int→Int
 |[],[]=>0
 |[],_::_=> -1
 |_::_,[]=>1
 |x::a,y::b=>if x<y then -1 else if y<x then 1 else M4 a b
theorem Ft :∀a:List Int,M4 a a=0
 |[]=>rfl
 |x::a=>by simp[M4,Ft a]
theorem Ud :∀{a b:List Int},M4 a b=0→a=b
 |[],[],_=>rfl
 |[],_::_,h=>by simp[M4]at h
 |_::_,[],h=>by simp[M4]at h
 |x::a,y::b,h=>by
  unfold M4 at h
  split at h
  ·cases h
  split at h
  ·cases h
  rw[Ud h];congr 1;omega
theorem QX :∀a b:List Int,M4 b a= - M4 a b
 |[],[]=>rfl
 |[],_::_=>rfl
 |_::_,[]=>rfl
 |x::a,y::b=>by
  unfold M4;rw[QX a b]
  split<;>split<;>first|omega|rfl
theorem IL :∀{a b c:List Int},M4 a b<0→M4 b c<0→M4 a c<0
 |[],[],_,h,_=>by simp[M4]at h
 |_::_,[],_,h,_=>by simp[M4]at h
 |_,_::_,[],_,h=>by simp[M4]at h
 |[],_::_,_::_,_,_=>by simp[M4]
 | x::a,y::b,z::c,h1,h2=>by
  unfold M4 at h1 h2 ⊢
  by_cases h3:x<z
  ·rw[if_pos h3];decide
  rw[if_neg h3]
  by_cases h4:x<y
  ·by_cases h5:y<z
   ·omega
   rw[if_neg h5]at h2
   have:z<y:=by omega
   rw[if_pos this]at h2;cases h2
  rw[if_neg h4]at h1
  by_cases h5:y<x
  ·rw[if_pos h5]at h1;cases h1
  rw[if_neg h5]at h1
  by_cases h6:y<z
  ·omega
  rw[if_neg h6]at h2
  by_cases h7:z<y
  ·rw[if_pos h7]at h2;cases h2
  rw[if_neg h7]at h2
  rw[if_neg (by omega)];exact IL h1 h2
def Yy (a b:Int):Int:=if a<b then -1 else if b<a then 1 else 0
theorem FD (N:Nat)(a b:Int):J0 N a b=some (Yy a b):=by
 unfold J0 Bv Yy;simp only[Option.bind_some,F6,C2,Q6,decide_true,Bool.not_true,Bool.false_eq_true,if_false,decide_eq_true_eq]
 split
 ·rfl
 split<;>rfl
theorem or_eq {N:Nat} (hN:40000000≤N) {l:List Int} (hl:l.length≤1000):BF N l=some (P9 id l):=by
 unfold BF;rw[F5 l (by omega) (mk:=fun(_:Unit) i=>i) (body:=As fun x=>some x) (fin:=fun _=>.inl ()) (s:=()) (by omega) ?_ ?_]
 ·rw[X4 (F:=fun x=>some x) (f:=id) fun x _=>rfl]
  by_cases h:P9 id l=0
  ·rw[if_pos h,h];rfl
  rw[if_neg h];rfl
 ·intro s i x hx hi;have e:ar .add .i64 (i:Int) 1=i+1:=C4 (by omega) (by omega);simp only[C2,B1,hi,decide_true,if_true,C7,hx,Option.bind_some,e,As]
  split<;>rfl
 intro s;simp[C2,B1]
def Nf (r:Hx):List Int:=[r.Time,r.Source,r.Seq]
def BY (x:E0):List Int:=[x.Ref.Time,x.Ref.Source,x.Ref.Seq,x.Var]
theorem lex3 (a1 a2 a3 b1 b2 b3:Int):M4 [a1,a2,a3] [b1,b2,b3]=P9 id [Yy a1 b1,Yy a2 b2,Yy a3 b3]:=by
 simp only[M4,P9,Yy,id]
 repeat' split
 all_goals first|rfl|omega
theorem lex4 (a1 a2 a3 a4 b1 b2 b3 b4:Int):M4 [a1,a2,a3,a4] [b1,b2,b3,b4]=P9 id [M4 [a1,a2,a3] [b1,b2,b3],Yy a4 b4]:=by
 simp only[M4,P9,Yy,id]
 repeat' split
 all_goals first|rfl|omega
theorem YL {N:Nat}(hN:40000000≤N)(a b:Hx):DZ N a b=some (M4 (Nf a) (Nf b)):=by
 unfold DZ;rw[FD,FD,FD];simp only[Option.bind_some];rw[or_eq hN (by simp),Nf,Nf,lex3];rfl
theorem QF (N:Nat)(a b:Hx):BN N a b=some (M4 (Nf a) (Nf b)):=by
 unfold BN Nf;simp only[F6,C2,Q6,M4,decide_eq_true_eq,Bool.not_eq_true',decide_eq_false_iff_not]
 repeat' split
 all_goals first|rfl|omega
theorem XW {N:Nat}(hN:40000000≤N)(a b:A7):Bu N a b=some (M4 [a.Time,a.Source,a.Seq] [b.Time,b.Source,b.Seq]):=by
 unfold Bu Cz;simp only[Option.bind_some,FD];rw[or_eq hN (by simp),←lex3];simp only[L7,C0,Bool.and_true,Bool.and_eq_true,decide_eq_true_eq,Option.bind_some]
 by_cases h:a.Time=b.Time∧a.Source=b.Source∧a.Seq=b.Seq
 ·rw[if_pos h,h.1,h.2.1,h.2.2,Ft]
 rw[if_neg h]
theorem Yc {N:Nat}(hN:40000000≤N)(a b:E0):W0 N a b=some (M4 (BY a) (BY b)):=by
 unfold W0;rw[YL hN,FD];simp only[Option.bind_some];rw[or_eq hN (by simp),BY,BY,lex4];rfl
theorem Vd (N:Nat) (a b:E0):CT N a b=some (M4 (BY a) (BY b)):=by
 unfold CT;rw[QF,BY,BY,lex4];simp only[Option.bind_some,P9,id,Nf,F6,C2,Q6,Yy]
 by_cases h:M4 [a.Ref.Time,a.Ref.Source,a.Ref.Seq] [b.Ref.Time,b.Ref.Source,b.Ref.Seq]=0
 ·simp only[h,decide_true,Bool.not_true,Bool.false_eq_true,if_false,if_true,decide_eq_true_eq]
  repeat' split
  all_goals first|rfl|omega
 simp[h]
def mO :List E0→List E0→Int
 |[],[]=>0
 |[],_::_=> -1
 |_::_,[]=>1
 |x::a,y::b=>if M4 (BY x) (BY y)≠0 then M4 (BY x) (BY y)else mO a b
def Ng (m:List E0):List Int:=m.flatMap BY
theorem Uc :∀{a b:List Int} (c d:List Int),a.length=b.length→M4 (a++c) (b++d)=if M4 a b≠0 then M4 a b else M4 c d
 |[],[],c,d,_=>by simp[M4]
 |[],_::_,_,_,h=>by simp at h
 |_::_,[],_,_,h=>by simp at h
 |x::a,y::b,c,d,h=>by
  simp only[List.cons_append,M4];have ih:=Uc (a:=a) (b:=b) c d (by simpa using h)
  by_cases h1:x<y
  ·simp[h1]
  by_cases h2:y<x
  ·simp[h1,h2]
  simp only[h1,h2,if_false];exact ih
theorem NJ :∀a b:List E0,mO a b=M4 (Ng a) (Ng b)
 |[],[]=>rfl
 |[],y::b=>by simp[mO,Ng,BY,M4]
 |x::a,[]=>by simp[mO,Ng,BY,M4]
 |x::a,y::b=>by
  simp only[mO,Ng,List.flatMap_cons];rw[Uc _ _ (by simp[BY])];have:=NJ a b;rw[this];rfl
theorem TZ {N:Nat} {a b:List E0} {step:Int→Option (Int ⊕ (Unit ⊕ Int))} {k:Unit ⊕ Int→Option Int} (hN:a.length<N) (hl:a.length≤1000000)
 (hs:∀(i:Nat) (h1:i<a.length) (h2:i<b.length),step (i:Int)=if cmp .neq (M4 (BY a[i]) (BY b[i])) 0=true then some (.inr (.inr (M4 (BY a[i]) (BY b[i]))))else some (.inl (ar .add .i64 (i:Int) 1)))
 (he:∀i:Nat,i≤a.length→i≤b.length→i=a.length∨i=b.length→∃r,step (i:Int)=some (.inr r)∧k r=some (if a.length<b.length then -1 else if b.length<a.length then 1 else 0)) (hk:∀c,k (.inr c)=some c):(loopN step N 0).bind k=some (mO a b):=by
 have key:∀(d i N:Nat),i+d=a.length→d<N→i≤b.length→(loopN step N (i:Int)).bind k=some (mO (a.drop i) (b.drop i)):=by
  have hend:∀(i N:Nat),i≤a.length→i≤b.length→i=a.length∨i=b.length→(loopN step (N+1) (i:Int)).bind k=some (mO (a.drop i) (b.drop i)):=fun i N h1 h2 h=>by
   obtain⟨r,e1,e2⟩:=he i h1 h2 h;simp only[loopN,e1,Option.bind_some,e2]
   by_cases ha:i<a.length
   ·rw[List.drop_eq_getElem_cons ha,List.drop_eq_nil_of_le (show b.length≤i by omega),if_neg (by omega),if_pos (by omega)];rfl
   rw[List.drop_eq_nil_of_le (show a.length≤i by omega)]
   by_cases hb:i<b.length
   ·rw[List.drop_eq_getElem_cons hb,if_pos (by omega)];rfl
   rw[List.drop_eq_nil_of_le (show b.length≤i by omega),if_neg (by omega),if_neg (by omega)];rfl
  intro d
  induction d with
  |zero=>
   intro i N hi hN hb;obtain⟨N,rfl⟩:∃m,N=m+1:=⟨N - 1,by omega⟩;exact hend i N (by omega) hb (by omega)
  |succ d ih=>
   intro i N hi hN hb;obtain⟨N,rfl⟩:∃m,N=m+1:=⟨N - 1,by omega⟩
   by_cases h:i=b.length
   ·exact hend i N (by omega) hb (.inr h)
   have ha:i<a.length:=by omega
   have hb:i<b.length:=by omega
   rw[List.drop_eq_getElem_cons ha,List.drop_eq_getElem_cons hb,mO];unfold loopN;rw[hs i ha hb,C4 (by omega) (by omega)]
   by_cases hz:M4 (BY a[i]) (BY b[i])=0
   ·rw[if_neg (show¬(cmp .neq (M4 (BY a[i]) (BY b[i])) 0=true)from J7 hz),if_neg (by simpa using hz)];exact ih (i+1) N (by omega) (by omega) (by omega)
   rw[if_pos (show cmp .neq (M4 (BY a[i]) (BY b[i])) 0=true from K1 hz),if_pos hz];exact hk _
 simpa using key a.length 0 N (by omega) hN (by omega)
theorem OT {N:Nat} (hN:40000000≤N) {x y:E4} (hx:x.cO.length≤1000000) (hy:y.cO.length≤1000000):Am N x y=some (mO x.cO y.cO):=by
 obtain⟨a⟩:=x;obtain⟨b⟩:=y
 dsimp only at hx hy ⊢
 unfold Am D8
 dsimp only
 refine congrArg (fun o:Option Int=>o.bind fun r1=>some r1) (TZ (a:=a) (b:=b) (by omega) hx (fun i h1 h2=>?_) (fun i h1 h2 h=>?_) fun _=>rfl)
 ·rw[if_pos (P3 (by omega)),C7,List.getElem?_eq_getElem h1];simp only[Option.bind_some];rw[if_neg (by rw[M1,B1];simp;omega),C7,List.getElem?_eq_getElem h2];simp only[Option.bind_some];rw[Yc hN];rfl
 by_cases ha:i<a.length
 ·refine⟨.inr 1,?_,?_⟩
  ·rw[if_pos (P3 (by omega)),C7,List.getElem?_eq_getElem ha];simp only[Option.bind_some];rw[if_pos (by rw[M1,B1];simp;omega)]
  rw[if_neg (show¬a.length<b.length by omega),if_pos (show b.length<a.length by omega)]
 refine⟨.inl (),by rw[if_neg (W9 (by rw[B1];omega))],?_⟩
 dsimp only
 by_cases hb:a.length<b.length
 ·rw[if_pos (Av (by rw[B1,B1];omega)),if_pos hb]
 rw[if_neg (W9 (by rw[B1,B1];omega)),if_neg hb,if_neg (show¬b.length<a.length by omega)]
theorem OH {N:Nat}(hN:40000000≤N){x y:E4}(hx:x.cO.length≤1000000)(hy:y.cO.length≤1000000):M6 N x y=some (mO x.cO y.cO):=by
 obtain⟨a⟩:=x;obtain⟨b⟩:=y
 dsimp only at hx hy ⊢
 unfold M6;refine TZ (a:=a) (b:=b) (by omega) hx (fun i h1 h2=>?_) (fun i h1 h2 h=>⟨.inl (),by rw[if_neg (by simp only[L7,C2,B1];simp;omega)],?_⟩) fun _=>rfl
 ·rw[if_pos (by simp only[L7,C2,B1];simp;omega),C7,List.getElem?_eq_getElem h1,C7,List.getElem?_eq_getElem h2];simp only[Option.bind_some];rw[Vd];rfl
 dsimp only
 by_cases hb:a.length<b.length
 ·rw[if_pos (Av (by rw[B1,B1];omega)),if_pos hb]
 rw[if_neg (W9 (by rw[B1,B1];omega)),if_neg hb]
 by_cases hc:b.length<a.length
 ·rw[if_pos (X0 (by rw[B1,B1];omega)),if_pos hc]
 rw[if_neg (S9 (by rw[B1,B1];omega)),if_neg hc]
end
end Go.Ab
namespace Go.Ab
open Classical
noncomputable section
def Ac (e:A7):List Int:=[e.Time,e.Source,e.Seq]
def HG (e:A7):Bool:=(an (an (an (an (an (cmp .geq e.Time 0) (cmp .leq e.Time 1099511627776)) (cmp .geq e.Source 0)) (cmp .lss e.Source 8)) (cmp .geq e.Seq 0)) (cmp .leq e.Seq 1099511627776))
def Cl (a b:A7):Bool:=decide (a.Source=b.Source)&&decide (a.Seq=b.Seq)
def MS (l:List A7)(i:Nat):Int:=
 match l[i]? with
 |none=>0
 |some e=>if HG e=false then 2 else if 0<i∧0≤M4 (Ac ((l[i - 1]?).getD e)) (Ac e)then 14 else if(l.take i).any (fun x=>Cl x e)=true then 7 else 0
def MN (l:List A7):Int:=if 4096<l.length then 5 else P9 (MS l) (List.range l.length)
theorem Wz {N : Nat} (hN:40000000≤N) {l:List A7} (hl:l.length≤4096) {i:Nat} (hi:i<l.length):(loopN
                    (fun(s10:Int)=>
                     (
                      if cmp .lss s10 (i:Int)=true then
                       (B6 l s10).bind fun x12=>
                       (Cs N x12 l[i]).bind fun r14=>
                       if r14=true then
                        some (.inr (.inr ()))
                       else
                        some (.inl (ar .add .i64 s10 1))
                      else
                       some (.inr (.inl ()))
                      :Option ((Int) ⊕ (Unit ⊕ Unit))))
                    N 0)=some (if(l.take i).any (fun x=>Cl x l[i])=true then .inr ()else .inl ()):=by
 have hlen:(l.take i).length=i:=by rw[List.length_take];omega
 rw [BQ (l:=l.take i) (fun x=>Cl x l[i]) (by omega) (by omega) (fun j x hx hj=>by
     have hji:j<i:=by omega
     have e:ar .add .i64 (j:Int) 1=j+1:=C4 (by omega) (by omega)
     rw[List.getElem?_take_of_lt hji]at hx
     rw[if_pos (Av (by omega)),C7,hx];simp only[Option.bind_some,e,Cs,C0,L7];unfold Cl
     split<;>rfl) (by rw[hlen,if_neg (W9 (Int.lt_irrefl _))])]
theorem YQ {N:Nat} (hN:40000000≤N) {l:List A7}:CX N l=some (MN l):=by
 unfold CX MN
 by_cases h1:4096<l.length
 ·rw[if_pos (X0 (by rw[B1];omega)),if_pos h1]
 rw[if_neg (S9 (by rw[B1];omega)),if_neg h1];have hr:(List.range l.length).length=l.length:=List.length_range;rw[F5 (List.range l.length) (by omega) (mk:=fun(_:Unit) i=>i) (body:=As fun i=>some (MS l i)) (fin:=fun _=>.inl ()) (s:=()) (by omega) ?_ ?_]
 ·rw[X4 (F:=fun i=>some (MS l i)) (f:=MS l) fun x _=>rfl]
  by_cases h:P9 (MS l) (List.range l.length)=0
  ·rw[if_pos h,h];rfl
  rw[if_neg h];rfl
 ·intro s i x hx hi
  have hil:i<l.length:=by omega
  rw[List.getElem?_range hil]at hx
  cases hx;have e:ar .add .i64 (i:Int) 1=i+1:=C4 (by omega) (by omega);rw[if_pos (P3 (by omega)),Et hil];simp only[Option.bind_some];rw[Wz hN (by omega) hil]
  have hbs:MS l i=if HG l[i]=false then 2 else if 0<i∧0≤M4 (Ac ((l[i - 1]?).getD l[i])) (Ac l[i])then 14 else if(l.take i).any (fun x=>Cl x l[i])=true then 7 else 0:=by
   unfold MS;rw[List.getElem?_eq_getElem hil]
  unfold Ds Ct As;simp only[Option.bind_some,e];rw[hbs];have hp:(an (an (an (an (an (cmp .geq l[i].Time 0) (cmp .leq l[i].Time 1099511627776)) (cmp .geq l[i].Source 0)) (cmp .lss l[i].Source 8)) (cmp .geq l[i].Seq 0)) (cmp .leq l[i].Seq 1099511627776))=HG l[i]:=rfl;rw[hp]
  cases HG l[i]with
  |false=>rfl
  | true=>
   rw[if_neg (show¬(nt true=true) by decide),if_neg (show¬(true=false) by decide)]
   by_cases h0:0<i
   ·rw[if_pos (X0 (by omega))]
    have e1:ar .sub .i64 (i:Int) 1=((i - 1:Nat):Int):=by rw[FN (by omega) (by omega)];omega
    have hi1:i - 1<l.length:=by omega
    rw[e1,Et hi1,List.getElem?_eq_getElem hi1];simp only[Option.bind_some,QF,Option.getD_some];have hk:M4 (Nf ⟨l[i - 1].Time,l[i - 1].Source,l[i - 1].Seq⟩) (Nf ⟨l[i].Time,l[i].Source,l[i].Seq⟩)=M4 (Ac l[i - 1]) (Ac l[i]):=rfl;rw[hk]
    by_cases h2:0≤M4 (Ac l[i - 1]) (Ac l[i])
    ·rw[if_pos (show cmp .geq (M4 (Ac l[i - 1]) (Ac l[i])) 0=true by rw[M1];exact decide_eq_true h2),if_pos (show 0<i∧0≤M4 (Ac l[i - 1]) (Ac l[i])from⟨h0,h2⟩)];rfl
    rw[if_neg (show¬(cmp .geq (M4 (Ac l[i - 1]) (Ac l[i])) 0=true) by rw[M1];simpa using h2),if_neg (show¬(0<i∧0≤M4 (Ac l[i - 1]) (Ac l[i]))from fun h=>h2 h.2)];cases(l.take i).any fun x=>Cl x l[i]<;>rfl
   rw[if_neg (S9 (by omega)),if_neg (show¬(0<i∧0≤M4 (Ac ((l[i - 1]?).getD l[i])) (Ac l[i]))from fun h=>h0 h.1)];cases(l.take i).any fun x=>Cl x l[i]<;>rfl
 intro s;rw[hr,if_neg S4]
def Ee (p:List A7):List (D2×Bool):=p.map fun e=>(⟨e.Source,e.Seq⟩,true)
theorem VG (p:List A7) (e:A7):∃b,IS (Ee p) ⟨e.Source,e.Seq⟩ false=some (p.any fun x=>Cl x e,b):=by
 unfold IS Ee
 induction p with
 |nil=>exact⟨false,by simp⟩
 | cons x p ih=>
  obtain⟨b,ih⟩:=ih;rw[List.map_cons,List.find?_cons,List.any_cons]
  by_cases h:(⟨x.Source,x.Seq⟩:D2)=⟨e.Source,e.Seq⟩
  ·have ht:Cl x e=true:=by
    simp only[D2.mk.injEq]at h
    simp[Cl,h.1,h.2]
   exact⟨true,by simp[h,ht]⟩
  have ht:Cl x e=false:=by
   simp only[D2.mk.injEq]at h
   simp only[Cl,Bool.and_eq_false_iff,decide_eq_false_iff_not]
   by_cases h1:x.Source=e.Source
   ·exact .inr fun h2=>h ⟨h1,h2⟩
   exact .inl h1
  refine⟨b,?_⟩;simp only[h,decide_false,ht,Bool.false_or];exact ih
theorem UY {p:List A7}{e:A7}(h:(p.any fun x=>Cl x e)=false):HV (Ee p) ⟨e.Source,e.Seq⟩ true=some (Ee (p++[e])):=by
 unfold HV;rw[if_neg]
 ·simp[Ee]
 intro c
 rw[List.any_eq_true]at c
 obtain⟨q,hq,he⟩:=c
 simp only[Ee,List.mem_map]at hq
 obtain⟨x,hx,rfl⟩:=hq
 rw[List.any_eq_false]at h
 refine h x hx ?_
 simp only[decide_eq_true_eq,D2.mk.injEq]at he
 simp[Cl,he.1,he.2]
theorem Xu {B:Type} {N n:Nat} {M:Nat→B} {step:(Int×B)→Option ((Int×B) ⊕ (B ⊕ (Int×B)))} (f:Nat→Int) {k:B ⊕ (Int×B)→Option Int} (hN:n<N) (hn:n<1000000000)
 (hs:∀i:Nat,i<n→ar .add .i64 (i:Int) 1=i+1→step ((i:Int),M i)=some (if f i=0 then .inl ((i:Int)+1,M (i+1))else .inr (.inr (f i,M i)))) (he:step ((n:Int),M n)=some (.inr (.inl (M n)))) (h0:∀m,k (.inl m)=some 0) (h1:∀c m,k (.inr (c,m))=some c):(loopN step N (0,M 0)).bind k=some (P9 f (List.range n)):=by
 have key:∀(d i N:Nat),i+d=n→d<N→(loopN step N ((i:Int),M i)).bind k=some (P9 f (List.range' i d)):=by
  intro d
  induction d with
  |zero=>
   intro i N hi hN;obtain⟨N,rfl⟩:∃m,N=m+1:=⟨N - 1,by omega⟩;obtain rfl:i=n:=hi;simp only[loopN,he,Option.bind_some,h0];rfl
  |succ d ih=>
   intro i N hi hN;obtain⟨N,rfl⟩:∃m,N=m+1:=⟨N - 1,by omega⟩;rw[List.range'_succ]
   by_cases hf:f i=0
   ·simp only[loopN,hs i (by omega) (C4 (by omega) (by omega)),P9,hf,if_true];exact ih (i+1) N (by omega) (by omega)
   simp only[loopN,hs i (by omega) (C4 (by omega) (by omega)),P9,hf,if_false,Option.bind_some,h1]
 rw[List.range_eq_range'];exact key n 0 N (by omega) hN
theorem YI {N:Nat} (hN:40000000≤N) {l:List A7}:BV N l=some (MN l):=by
 unfold BV MN
 by_cases h1:4096<l.length
 ·rw[if_pos (X0 (by rw[B1];omega)),if_pos h1]
 rw[if_neg (S9 (by rw[B1];omega)),if_neg h1];refine Xu (M:=fun i=>Ee (l.take i)) (MS l) (by omega) (by omega) (fun i hil e=>?_) (by dsimp only;rw[if_neg S4]) (fun _=>rfl) (fun _ _=>rfl);obtain⟨b,hb⟩:=VG (l.take i) l[i];have hp:CK N l[i]=some (HG l[i]):=rfl;have hst:Cp N l[i]=some ⟨l[i].Source,l[i].Seq⟩:=rfl
 dsimp only
 rw[if_pos (P3 (by omega)),Et hil];simp only[Option.bind_some];unfold MS;rw[hp,hst,List.getElem?_eq_getElem hil];simp only[Option.bind_some,hb,e]
 cases HG l[i]with
 |false=>rfl
 | true=>
  rw[if_neg (show¬(nt true=true) by decide),if_neg (show¬(true=false) by decide)]
  have ht:(if(l.take i).any (fun x=>Cl x l[i])=true then some (.inr (.inr (7,Ee (l.take i))))else(HV (Ee (l.take i)) ⟨l[i].Source,l[i].Seq⟩ true).bind fun l15=>some (.inl ((i:Int)+1,l15)):Option ((Int×(List (D2×Bool))) ⊕ (((List (D2×Bool))) ⊕ (Int×(List (D2×Bool))))))=some (if(if(l.take i).any (fun x=>Cl x l[i])=true then(7:Int)else 0)=0 then .inl ((i:Int)+1,Ee (l.take (i+1)))else .inr (.inr (if(l.take i).any (fun x=>Cl x l[i])=true then(7:Int)else 0,Ee (l.take i)))):=by
   by_cases h7:(l.take i).any (fun x=>Cl x l[i])=true
   ·simp only[h7,if_true];rfl
   rw[if_neg h7,if_neg h7,UY (by simpa using h7),List.take_succ_eq_append_getElem hil];rfl
  by_cases h0:0<i
  ·have hi1:i - 1<l.length:=by omega
   rw[if_pos (X0 (by omega)),show ar .sub .i64 (i:Int) 1=((i - 1:Nat):Int) by rw[FN (by omega) (by omega)];omega,Et hi1,List.getElem?_eq_getElem hi1];simp only[Option.bind_some,XW hN,Option.getD_some];have hk:M4 [l[i - 1].Time,l[i - 1].Source,l[i - 1].Seq] [l[i].Time,l[i].Source,l[i].Seq]=M4 (Ac l[i - 1]) (Ac l[i]):=rfl;rw[hk]
   by_cases h2:0≤M4 (Ac l[i - 1]) (Ac l[i])
   ·rw[if_pos (show cmp .geq (M4 (Ac l[i - 1]) (Ac l[i])) 0=true by rw[M1];exact decide_eq_true h2),if_pos (show 0<i∧0≤M4 (Ac l[i - 1]) (Ac l[i])from⟨h0,h2⟩)];rfl
   rw[if_neg (show¬(cmp .geq (M4 (Ac l[i - 1]) (Ac l[i])) 0=true) by rw[M1];simpa using h2),if_neg (show¬(0<i∧0≤M4 (Ac l[i - 1]) (Ac l[i]))from fun h=>h2 h.2)];exact ht
  rw[if_neg (S9 (by omega)),if_neg (show¬(0<i∧0≤M4 (Ac ((l[i - 1]?).getD l[i])) (Ac l[i]))from fun h=>h0 h.1)];exact ht
theorem Uq {l:List A7} (hl:l.length≤10) (h:MN l=0):∀(d i:Nat),i+d+1<l.length→∀(h1:i<l.length) (h2:i+d+1<l.length),M4 (Ac l[i]) (Ac l[i+d+1])<0:=by
 have hc:∀i,i<l.length→MS l i=0:=by
  unfold MN at h
  rw[if_neg (by omega)]at h
  exact fun i hi=>CE.1 h i (List.mem_range.2 hi)
 have h1:∀i,∀(h2:i+1<l.length),M4 (Ac l[i]) (Ac l[i+1])<0:=fun i h2=>by
  have:=hc (i+1) h2
  unfold MS at this
  rw[List.getElem?_eq_getElem h2]at this
  dsimp only at this
  split at this
  ·cases this
  split at this
  ·cases this
  rename_i hh
  have hi:i<l.length:=by omega
  simp only[Nat.add_sub_cancel,List.getElem?_eq_getElem hi,Option.getD_some,not_and]at hh
  have:=hh (by omega);omega
 intro d
 induction d with
 |zero=>intro i _ _ h2;exact h1 i h2
 |succ d ih=>
  intro i _ hi h2;exact IL (ih i (by omega) hi (by omega)) (h1 (i+d+1) h2)
end
end Go.Ab
