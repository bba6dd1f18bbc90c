/- . -/
import Derived.Test.YtjhobbohibnioaaGreatDoorF18
set_option linter.all false
open Go.Ab.Ar (an ar cmp)
namespace Go.Ab
open Classical
noncomputable section
structure WfN (y:A1):Prop where
 op:0≤y.Op∧y.Op≤7
 var:y.Op=0→0≤y.Var∧y.Var<16
 a0:y.Op=0→y.cL=[]
 a1:1≤y.Op→y.Op≤3→y.cL≠[]
 a2:4≤y.Op→∃q,y.cL=[q]
 cond:y.cN.bulk≤16777216
def Ga (p:A1):Prop:=∀y∈p.pre,WfN y
theorem Ap5 {N:Nat} (hN:40000000≤N) {x:A1} (hb:x.bulk≤16777216) (h:Ag4 N x=0):Ga x∧x.pre.length≤64:=by
 unfold Ag4 at h
 by_cases hr:Y0 N x=0
 ·rw [A0 (by omega)]at h
  by_cases ha:x.pre.any (fun y=>cmp .geq y.Op 8)=true
  ·rw[A2 ha]at h;cases h
  obtain⟨hp,hd,hg⟩:=MS hr;refine⟨fun y hy=>?_,hp⟩;have h1:=Ji x y hy;have h2:=V2 y
  have hyb:y.bulk≤16777216:=by omega
  have hyl:y.cL.length≤64:=by omega
  obtain⟨ho,s,ng,hs,hc⟩:=SZ hN hyb hyl (hg y hy)
  have h7:y.Op≤7:=by
   rw[Be,IA]at ha
   have:=ha y hy
   rw[R4]at this
   grind
  have hz:=AV2 hN N y.cN (⟨0,[],0,0,0,(⟨0,0,⟨#[]⟩⟩:B1)⟩:B6) (by omega) (by omega);have h1:=KJ hN (by omega) ho.1 ho.2 hs hz
  rw[(Hu hN hyb hyl).2,hg y hy]at h1
  have h1:=BL h1
  by_cases har:s.cS≤y.cL.length∧(y.cL.length:Int)≤s.most
  ·rw[A2 har]at h1
   unfold Ol at h1
   by_cases e1:GH s.cO y.Typ 15=true
   ·rw[A2 e1]at h1;cases h1
   rw[A0 e1]at h1
   by_cases e2:GH s.cO y.Var 15=true
   ·rw[A2 e2]at h1;cases h1
   have ht:=hs.tab
   have hop:y.Op=0∨y.Op=1∨y.Op=2∨y.Op=3∨y.Op=4∨y.Op=5∨y.Op=6∨y.Op=7:=by omega
   refine⟨⟨ho.1,h7⟩,?_,?_,?_,?_,by omega⟩
   ·intro h0
    rw[h0]at ht
    have hs:s.cO=true:=by cases ht;rfl
    rw[hs]at e2
    unfold GH at e2
    grind
   ·intro h0
    rw[h0]at ht
    have hm:s.most=0:=by cases ht;rfl
    exact HA (by omega)
   ·intro h0 h3
    have hm:1≤s.cS:=by
     have:y.Op=1∨y.Op=2∨y.Op=3:=by omega
     rcases this with h|h|h<;>rw[h]at ht<;>cases ht<;>decide
    grind
   intro h0
   have hm:s.cS=1∧s.most=1:=by
    have:y.Op=4∨y.Op=5∨y.Op=6∨y.Op=7:=by omega
    rcases this with h|h|h|h<;>rw[h]at ht<;>cases ht<;>decide
   have hl:y.cL.length=1:=by omega
   match he:y.cL,hl with
   |[q],_=>grind
  omega
 omega
theorem U4 {y:A1}:∀{l:List A1},y∈A1.pres l↔∃a∈l,y∈a.pre
 |[]=>by simp[A1.pres]
 |a::l=>by simp only[A1.pres,CU,U4 (l:=l),Gg];simp_all
theorem Ga.self {p:A1}(h:Ga p):WfN p:=h p (Gz p)
theorem Ga.arg {p q:A1}(h:Ga p)(hq:q∈p.cL):Ga q:=fun y hy=>h y (by rw[A1.pre_eq];exact List.mem_cons_of_mem _ (U4.2 ⟨q,hq,hy⟩))
theorem Ga.sub {p:A1}{r:List A1}(h:Ga p)(h1:1≤p.Op)(h3:p.Op≤3)(hr:∀q∈r,q∈p.cL)(hn:r≠[]):Ga {p with cL:=r}:=by
 intro y hy
 rw[A1.pre_eq]at hy
 rcases List.mem_cons.1 hy with rfl|hy
 ·exact⟨h.self.op,fun e=>by have:p.Op=0:=e;omega,fun e=>by have:p.Op=0:=e;omega,fun _ _=>hn,fun e=>by have:4≤p.Op:=e;omega,h.self.cond⟩
 obtain⟨q,hq,hy⟩:=U4.1 hy;exact h.arg (hr q hq) y hy
inductive Sm (l:List A8):A1→List PR→Int→List PR→Prop
 |ev {p:A1} {b:List PR} {f:Int} {j:Nat}:p.Op=0→f≤j→j<l.length→AU9 l p b j=true→Sm l p b f [⟨p.Var,j⟩]
 |seq1 {p q:A1} {b:List PR} {f:Int} {s:List PR}:p.Op=1→p.cL=[q]→Sm l q b f s→Sm l p b f s
 |seq {p q q':A1} {r:List A1} {b:List PR} {f:Int} {s t:List PR}:p.Op=1→p.cL=q::q'::r→Sm l q b f s→Sm l {p with cL:=q'::r} (mrg b s) (S4 s+1) t→Sm l p b f (mrg s t)
 |alt {p q:A1} {b:List PR} {f:Int} {s:List PR}:p.Op=2→q∈p.cL→Sm l q b f s→Sm l p b f s
 |all1 {p q:A1} {b:List PR} {f:Int} {s:List PR}:p.Op=3→p.cL=[q]→Sm l q b f s→Sm l p b f s
 |all {p q:A1} {r:List A1} {b:List PR} {f:Int} {s t:List PR}:p.Op=3→p.cL=r++[q]→r≠[]→Sm l {p with cL:=r} b f s→Sm l q b f t→O1 s t→Sm l p b f (mrg s t)
 |plus1 {p q:A1} {b:List PR} {f:Int} {s:List PR}:p.Op=4→p.cL=[q]→Sm l q b f s→Sm l p b f s
 |plus {p q:A1} {b:List PR} {f:Int} {s t:List PR}:p.Op=4→p.cL=[q]→Sm l q b f s→Sm l p (mrg b s) (S4 s+1) t→Sm l p b f (mrg s t)
 |some {p q:A1} {b:List PR} {f:Int} {s:List PR}:5≤p.Op→p.Op≤7→p.cL=[q]→Sm l q b f s→Bz l p b s=true→Sm l p b f s
theorem Sm.i0 {l:List A8} {p:A1} {b:List PR} {f:Int} {s:List PR} (h0:p.Op=0):Sm l p b f s↔∃j:Nat,f≤j∧j<l.length∧AU9 l p b j=true∧s=[⟨p.Var,j⟩]:=by
 constructor
 ·intro h
  cases h with
  |ev e0 e1 e2 e3=>grind
  |_=>omega
 rintro⟨j,e1,e2,e3,rfl⟩;exact .ev h0 e1 e2 e3
theorem Sm.i1 {l:List A8} {p q:A1} {b:List PR} {f:Int} {s:List PR} (h0:p.Op=1) (ha:p.cL=[q]):Sm l p b f s↔Sm l q b f s:=by
 constructor
 ·intro h
  cases h with
  |seq1 e0 ea hs=>rw[ha]at ea;simp_all
  |seq e0 ea hs ht=>rw[ha]at ea;cases ea
  |_=>omega
 exact .seq1 h0 ha
theorem Sm.i1c {l:List A8} {p q q':A1} {r:List A1} {b:List PR} {f:Int} {s:List PR} (h0:p.Op=1) (ha:p.cL=q::q'::r):Sm l p b f s↔∃u t,Sm l q b f u∧Sm l {p with cL:=q'::r} (mrg b u) (S4 u+1) t∧s=mrg u t:=by
 constructor
 ·intro h
  cases h with
  |seq1 e0 ea hs=>rw[ha]at ea;cases ea
  |seq e0 ea hs ht=>rw[ha]at ea;grind
  |_=>omega
 rintro⟨u,t,hs,ht,rfl⟩;exact .seq h0 ha hs ht
theorem Sm.i2 {l:List A8} {p:A1} {b:List PR} {f:Int} {s:List PR} (h0:p.Op=2):Sm l p b f s↔∃q∈p.cL,Sm l q b f s:=by
 constructor
 ·intro h
  cases h with
  |alt e0 ea hs=>grind
  |_=>omega
 rintro⟨q,ha,hs⟩;exact .alt h0 ha hs
theorem Sm.i3 {l:List A8} {p q:A1} {b:List PR} {f:Int} {s:List PR} (h0:p.Op=3) (ha:p.cL=[q]):Sm l p b f s↔Sm l q b f s:=by
 constructor
 ·intro h
  cases h with
  |all1 e0 ea hs=>rw[ha]at ea;simp_all
  |all e0 ea en hs ht hd=>
   rw[ha]at ea
   exact absurd (LG (s₁:=[]) ea rfl).symm en
  |_=>omega
 exact .all1 h0 ha
theorem Sm.i3c {l:List A8} {p q:A1} {r:List A1} {b:List PR} {f:Int} {s:List PR} (h0:p.Op=3) (ha:p.cL=r++[q]) (hr:r≠[]):Sm l p b f s↔∃u t,Sm l {p with cL:=r} b f u∧Sm l q b f t∧O1 u t∧s=mrg u t:=by
 constructor
 ·intro h
  cases h with
  |all1 e0 ea hs=>
   rw[ha]at ea
   exact absurd (LG (s₂:=[]) ea rfl) hr
  |all e0 ea en hs ht hd=>
   rw[ha]at ea
   have e1:=LG ea rfl;have e2:=List.append_inj_right' ea rfl
   grind
  |_=>omega
 rintro⟨u,t,hs,ht,hd,rfl⟩;exact .all h0 ha hr hs ht hd
theorem Sm.i4 {l:List A8} {p q:A1} {b:List PR} {f:Int} {s:List PR} (h0:p.Op=4) (ha:p.cL=[q]):Sm l p b f s↔Sm l q b f s∨∃u t,Sm l q b f u∧Sm l p (mrg b u) (S4 u+1) t∧s=mrg u t:=by
 constructor
 ·intro h
  cases h with
  |plus1 e0 ea hs=>rw[ha]at ea;simp_all
  |plus e0 ea hs ht=>rw[ha]at ea;grind
  |_=>omega
 rintro(hs|⟨u,t,hs,ht,rfl⟩)
 ·exact .plus1 h0 ha hs
 exact .plus h0 ha hs ht
theorem Sm.i5 {l:List A8} {p q:A1} {b:List PR} {f:Int} {s:List PR} (h0:5≤p.Op) (h1:p.Op≤7) (ha:p.cL=[q]):Sm l p b f s↔Sm l q b f s∧Bz l p b s=true:=by
 constructor
 ·intro h
  cases h with
  |some e0 e1 ea hs hk=>rw[ha]at ea;simp_all
  |_=>omega
 rintro⟨hs,hk⟩;exact .some h0 h1 ha hs hk
structure KW (l:List A8) (b:List PR) (f:Int):Prop where
 gd:Gd l b
 lt:∀x∈b,x.At<f
 f0:0≤f
 f1:f≤l.length
structure GR (l:List A8) (f:Int) (s:List PR):Prop where
 gd:Gd l s
 ge:∀x∈s,f≤x.At
 ne:s≠[]
theorem KW.apart {l:List A8}{b s:List PR}{f:Int}(h:KW l b f)(r:GR l f s):O1 b s:=fun x hx y hy=>by have:=h.lt x hx;have:=r.ge y hy;omega
theorem KW.next {l:List A8}{b s:List PR}{f:Int}(h:KW l b f)(r:GR l f s):KW l (mrg b s) (S4 s+1):=by
 have hl:=r.gd.lst r.ne;refine⟨h.gd.mrg r.gd (h.apart r),fun x hx=>?_,by omega,by omega⟩
 rcases M2.1 hx with hx|hx
 ·obtain⟨y,_,hy,e⟩:=FE r.ne;have:=h.lt x hx;have:=r.ge y hy;omega
 have:=Ie r.gd.asc x hx;omega
theorem GR.seq {l:List A8} {s t:List PR} {f:Int} (r:GR l f s) (q:GR l (S4 s+1) t):GR l f (mrg s t)∧O1 s t:=by
 have ha:O1 s t:=fun x hx y hy=>by have:=Ie r.gd.asc x hx;have:=q.ge y hy;omega
 refine⟨⟨r.gd.mrg q.gd ha,fun x hx=>?_,fun e=>?_⟩,ha⟩
 ·rcases M2.1 hx with hx|hx
  ·exact r.ge x hx
  obtain⟨y,_,hy,e⟩:=FE r.ne;have:=r.ge y hy;have:=q.ge x hx;omega
 have h1:=J6 List.length e
 rw[Kx,W9]at h1
 have:=List.length_pos_iff.2 r.ne;omega
theorem GR.all {l:List A8}{s t:List PR}{f:Int}(r:GR l f s)(q:GR l f t)(ha:O1 s t):GR l f (mrg s t):=by
 refine⟨r.gd.mrg q.gd ha,fun x hx=>(M2.1 hx).elim (r.ge x) (q.ge x),fun e=>?_⟩;have h1:=J6 List.length e
 rw[Kx,W9]at h1
 have:=List.length_pos_iff.2 r.ne;omega
theorem Sm.res {l:List A8} {p:A1} {b:List PR} {f:Int} {s:List PR} (h:Sm l p b f s):Ga p→KW l b f→GR l f s:=by
 induction h with
 |@ev p b f j h0 hf hj ht=>
  intro hw ho;refine⟨⟨fun x hx=>?_,LL _ _⟩,fun x hx=>?_,by simp⟩
  ·rw[List.mem_singleton.1 hx];exact⟨hw.self.var h0,by simp_all⟩
  simp_all
 |seq1 h0 ha _ ih=>intro hw ho;exact ih (hw.arg (by rw[ha];simp)) ho
 |@seq p q q' r b f s t h0 ha _ _ ih1 ih2=>
  intro hw ho;have r1:=ih1 (hw.arg (by rw[ha];simp)) ho;have r2:=ih2 (hw.sub (by omega) (by omega) (fun x hx=>by rw[ha];simp_all) (by simp)) (ho.next r1);exact(r1.seq r2).1
 |alt h0 ha _ ih=>intro hw ho;exact ih (hw.arg ha) ho
 |all1 h0 ha _ ih=>intro hw ho;exact ih (hw.arg (by rw[ha];simp)) ho
 |@all p q r b f s t h0 ha hn _ _ hd ih1 ih2=>
  intro hw ho;exact(ih1 (hw.sub (by omega) (by omega) (fun x hx=>by rw[ha];simp[hx]) hn) ho).all (ih2 (hw.arg (by rw[ha];simp)) ho) hd
 |plus1 h0 ha _ ih=>intro hw ho;exact ih (hw.arg (by rw[ha];simp)) ho
 |@plus p q b f s t h0 ha _ _ ih1 ih2=>
  intro hw ho;have r1:=ih1 (hw.arg (by rw[ha];simp)) ho;exact(r1.seq (ih2 hw (ho.next r1))).1
 |some h0 h1 ha _ _ ih=>intro hw ho;exact ih (hw.arg (by rw[ha];simp)) ho
def Vs (p:A1)(v:Int):Prop:=∃y∈p.pre,y.Op=0∧y.Var=v
theorem Vs.arg {p q:A1}{v:Int}(hq:q∈p.cL)(h:Vs q v):Vs p v:=by
 obtain⟨y,hy,h⟩:=h;exact⟨y,by rw[A1.pre_eq];exact CI _ (U4.2 ⟨q,hq,hy⟩),h⟩
theorem Vs.sub {p:A1}{r:List A1}{v:Int}(h0:p.Op≠0)(hr:∀q∈r,q∈p.cL)(h:Vs {p with cL:=r} v):Vs p v:=by
 obtain⟨y,hy,h1,h2⟩:=h
 rw[A1.pre_eq]at hy
 rcases List.mem_cons.1 hy with rfl|hy
 ·simp_all
 obtain⟨q,hq,hy⟩:=U4.1 hy;exact Vs.arg (hr q hq) ⟨y,hy,h1,h2⟩
theorem Sm.vars {l:List A8} {p:A1} {b:List PR} {f:Int} {s:List PR} (h:Sm l p b f s):∀x∈s,Vs p x.Var:=by
 induction h with
 |@ev p b f j h0 hf hj ht=>intro x hx;rw[List.mem_singleton.1 hx];exact⟨p,Gz p,h0,rfl⟩
 |seq1 h0 ha _ ih=>intro x hx;exact Vs.arg (by rw[ha];simp) (ih x hx)
 |@seq p q q' r b f s t h0 ha _ _ ih1 ih2=>
  intro x hx
  rcases M2.1 hx with hx|hx
  ·exact Vs.arg (by rw[ha];simp) (ih1 x hx)
  exact Vs.sub (by omega) (fun x hx=>by rw[ha];simp_all) (ih2 x hx)
 |alt h0 ha _ ih=>intro x hx;exact Vs.arg ha (ih x hx)
 |all1 h0 ha _ ih=>intro x hx;exact Vs.arg (by rw[ha];simp) (ih x hx)
 |@all p q r b f s t h0 ha hn _ _ hd ih1 ih2=>
  intro x hx
  rcases M2.1 hx with hx|hx
  ·exact Vs.sub (by omega) (fun x hx=>by rw[ha];simp[hx]) (ih1 x hx)
  exact Vs.arg (by rw[ha];simp) (ih2 x hx)
 |plus1 h0 ha _ ih=>intro x hx;exact Vs.arg (by rw[ha];simp) (ih x hx)
 |@plus p q b f s t h0 ha _ _ ih1 ih2=>
  intro x hx
  rcases M2.1 hx with hx|hx
  ·exact Vs.arg (by rw[ha];simp) (ih1 x hx)
  simp_all
 |some h0 h1 ha _ _ ih=>intro x hx;exact Vs.arg (by rw[ha];simp) (ih x hx)
def W5 (p:A1):Nat:=p.pre.countP fun y=>decide (y.Op=0)
def Bo (p:A1):Prop:=∀y∈p.pre,y.Op≠4
theorem Fa (p:A1):W5 p=(if p.Op=0 then 1 else 0)+(A1.pres p.cL).countP fun y=>decide (y.Op=0):=by
 unfold W5;rw[A1.pre_eq,List.countP_cons]
 by_cases h:p.Op=0<;>simp[h]<;>omega
theorem Nl (p:A1)(r:List A1):W5 {p with cL:=r}=(if p.Op=0 then 1 else 0)+(A1.pres r).countP fun y=>decide (y.Op=0):=Fa _
theorem Rs {q:A1}:∀{l:List A1},q∈l→W5 q≤(A1.pres l).countP fun y=>decide (y.Op=0)
 |a::l,h=>by
  simp only[A1.pres,DT]
  rcases List.mem_cons.1 h with rfl|h
  ·simp[W5]
  have:=Rs h;omega
theorem KD {p q:A1}(h:q∈p.cL):W5 q≤W5 p:=by rw[Fa p];have:=Rs h;omega
theorem Bo.arg {p q:A1}(h:Bo p)(hq:q∈p.cL):Bo q:=fun y hy=>h y (by rw[A1.pre_eq];exact List.mem_cons_of_mem _ (U4.2 ⟨q,hq,hy⟩))
theorem Bo.sub {p:A1}{r:List A1}(h:Bo p)(hr:∀q∈r,q∈p.cL):Bo {p with cL:=r}:=by
 intro y hy
 rw[A1.pre_eq]at hy
 rcases List.mem_cons.1 hy with rfl|hy
 ·exact h p (Gz p)
 obtain⟨q,hq,hy⟩:=U4.1 hy;exact h.arg (hr q hq) y hy
def Sml (n:Nat)(p:A1):Prop:=(W5 p+1) ^ n≤1500∨(Bo p∧2≤n∧n ^ W5 p≤1500)
theorem Sml.mono {n:Nat}{p q:A1}(h:Sml n p)(h1:W5 q≤W5 p)(h2:Bo p→Bo q):Sml n q:=by
 rcases h with h|⟨a,b,c⟩
 ·exact .inl (N5 (IH (by omega) n) h)
 exact .inr ⟨h2 a,b,N5 (DU (by omega) h1) c⟩
theorem Sml.arg {n:Nat}{p q:A1}(h:Sml n p)(hq:q∈p.cL):Sml n q:=h.mono (KD hq) fun k=>k.arg hq
theorem Sml.tail {n:Nat}{p q:A1}{r:List A1}(h:Sml n p)(ha:p.cL=q::r):Sml n {p with cL:=r}:=by
 refine h.mono ?_ fun k=>k.sub fun x hx=>by rw[ha];simp_all
 rw[Nl,Fa,ha];simp[A1.pres]
theorem BJ:∀(r m:List A1),A1.pres (r++m)=A1.pres r++A1.pres m
 |[],m=>by simp[A1.pres]
 |a::r,m=>by simp[A1.pres,BJ r m]
def MA (V:List Int):Nat→Int→List (List PR)
 |0,_=>[[]]
 |m+1,k=>MA V m (k+1)++V.flatMap fun v=>(MA V m (k+1)).map fun s=>⟨v,k⟩::s
theorem Qz (V:List Int):∀(m:Nat) (k:Int),(MA V m k).length=(V.length+1) ^ m
 |0,_=>rfl
 | m+1,k=>by
  have ih:=Qz V m (k+1)
  have h:(V.flatMap fun v=>(MA V m (k+1)).map fun s=>(⟨v,k⟩:PR)::s).length=V.length*(V.length+1) ^ m:=by
   clear ih;generalize hE:MA V m (k+1)=E
   have hl:E.length=(V.length+1) ^ m:=by rw[←hE];exact Qz V m (k+1)
   rw[←hl];clear hl hE
   induction V with
   |nil=>simp
   |cons v V ih=>rw[U8,J2,ih,D6,H7,Lf];omega
  rw[MA,J2,ih,h,Le];rw[El _ (V.length+1),Lf];omega
theorem Nm (V:List Int):∀(m:Nat) (k:Int) (s:List PR),Ui s→(∀x∈s,k≤x.At∧x.At<k+m)→(∀x∈s,x.Var∈V)→s∈MA V m k
 |0,k,[],_,_,_=>by simp[MA]
 |0,k,x::s,_,h,_=>by have:=h x (by simp);omega
 |m+1,k,[],ha,_,_=>by
  rw[MA];exact Gq _ (Nm V m (k+1) [] ha (by simp) (by simp))
 | m+1,k,x::s,ha,h,hv=>by
  rw[MA];have ha':=ha
  unfold Ui at ha
  rw[DY]at ha
  have hx:=h x (by simp)
  by_cases e:x.At=k
  ·refine IL _ (List.mem_flatMap.2 ⟨x.Var,hv x (by simp),List.mem_map.2 ⟨s,Nm V m (k+1) s ha.2 (fun y hy=>?_) (fun y hy=>hv y (by simp[hy])),?_⟩⟩)
   ·have:=ha.1 y hy;have:=h y (by simp[hy]);omega
   rw[←e]
  refine Gq _ (Nm V m (k+1) (x::s) ha' (fun y hy=>?_) hv);have:=h y hy
  grind
def Xl (p:A1):List Int:=(p.pre.filter fun y=>decide (y.Op=0)).map (·.Var)
theorem Ap6 (p:A1):(Xl p).length=W5 p:=by grind[Xl,W5]
theorem Vs.mem {p:A1}{v:Int}(h:Vs p v):v∈Xl p:=by
 grind[Xl,Vs]
theorem Bf5 {l:List A8} {p:A1} {L:List (List PR)} (hn:L.Nodup) (h:∀s∈L,Gd l s∧∀x∈s,Vs p x.Var):L.length≤(W5 p+1) ^ l.length:=by
 have:=LN hn (l₂:=MA (Xl p) l.length 0) fun s hs=>by
  obtain⟨g,hv⟩:=h s hs;exact Nm _ _ _ s g.asc (fun x hx=>by have:=(g.wf x hx).2;omega) fun x hx=>(hv x hx).mem
 rwa[Qz,Ap6]at this
theorem Aj4 {α β:Type}(A B:List α)(f:α→α→β):(A.flatMap fun a=>B.map (f a)).length=A.length*B.length:=by
 induction A with
 |nil=>simp
 |cons a A ih=>rw[U8,J2,ih,D6,H7,Lf];omega
theorem Aj5:∀(n:Nat) (p:A1),p.pre.length≤n→Ga p→1≤W5 p
 |0,p,h,_=>by rw[A1.pre_eq]at h;simp at h
 | n+1,p,h,hw=>by
  by_cases h0:p.Op=0
  ·rw[Fa,A2 h0];omega
  have hne:∃q,q∈p.cL:=by
   by_cases h3:p.Op≤3
   ·exact Bi _ (hw.self.a1 (by have:=hw.self.op;omega) h3)
   obtain⟨q,hq⟩:=hw.self.a2 (by omega)
   simp_all
  obtain⟨q,hq⟩:=hne;have:=Aj5 n q (by have:=L4 hq;omega) (hw.arg hq);have:=KD hq;omega
theorem ZI {x y:Nat} (hx:2≤x) (hy:2≤y):x+y≤x*y:=by
 obtain⟨a,rfl⟩:∃a,x=a+2:=⟨x-2,by omega⟩;obtain⟨b,rfl⟩:∃b,y=b+2:=⟨y-2,by omega⟩
 have:(a+2)*(b+2)=a*b+2*a+2*b+4:=by
  rw[BF,E3,E3];omega
 omega
theorem RX {p q:A1}{r:List A1}(ha:p.cL=q::r):({p with cL:=r}:A1).pre.length<p.pre.length:=by
 have h1:=A1.pre_eq ({p with cL:=r}:A1);have h2:=A1.pre_eq p;rw[h1,h2,ha];have:=A1.pre_eq q
 grind[A1.pres]
theorem AB9 {p q:A1}{r:List A1}(ha:p.cL=r++[q]):({p with cL:=r}:A1).pre.length<p.pre.length:=by
 have h1:=A1.pre_eq ({p with cL:=r}:A1);have h2:=A1.pre_eq p;rw[h1,h2,ha,BJ];have:=A1.pre_eq q
 simp_all[A1.pres]
theorem NP {l:List A8} (hl:2≤l.length):∀(n:Nat) (p:A1),p.pre.length≤n→Ga p→Bo p→∃C:List (List PR),C.length≤l.length ^ W5 p∧∀b f s,Sm l p b f s→s∈C
 |0,p,h,_,_=>by rw[A1.pre_eq]at h;simp at h
 | n +1,p,h,hw,hp=>by
  have hop:=hw.self.op;have hnp:=hp p (Gz p)
  have hpow:∀q:A1,Ga q→2≤l.length ^ W5 q:=fun q hq=>by
   have h1:=Aj5 _ q (B3 _) hq;have:=DU (n:=l.length) (by omega) h1
   rw[Nat.pow_one]at this;omega
  by_cases h0:p.Op=0
  ·refine⟨(List.range l.length).map fun(j:Nat)=>[⟨p.Var,(j:Int)⟩],?_,fun b f s hs=>?_⟩
   ·rw[Fa,A2 h0,hw.self.a0 h0,D6,DS];simp[A1.pres]
   obtain⟨j,_,hj,_,rfl⟩:=(Sm.i0 h0).1 hs
   grind
  by_cases h1:p.Op=1
  ·match ha:p.cL with
   |[]=>exact absurd ha (hw.self.a1 (by omega) (by omega))
   |[q]=>
    have hq:q∈p.cL:=by rw[ha];simp
    obtain⟨C,h2,h3⟩:=NP hl n q (by have:=L4 hq;omega) (hw.arg hq) (hp.arg hq);refine⟨C,N5 h2 (DU (by omega) (KD hq)),fun b f s hs=>?_⟩;exact h3 _ _ _ ((Sm.i1 h1 ha).1 hs)
   | q::q'::r=>
    have hq:q∈p.cL:=by rw[ha];simp
    obtain⟨C,h2,h3⟩:=NP hl n q (by have:=L4 hq;omega) (hw.arg hq) (hp.arg hq);obtain⟨D,h4,h5⟩:=NP hl n {p with cL:=q'::r} (by have:=RX ha;omega) (hw.sub (by omega) (by omega) (fun x hx=>by rw[ha];simp_all) (by simp)) (hp.sub fun x hx=>by rw[ha];simp_all);refine⟨C.flatMap fun s=>D.map (mrg s),?_,fun b f s hs=>?_⟩
    ·rw[Aj4,show W5 p=W5 q+W5 {p with cL:=q'::r}from ?_,Nat.pow_add]
     ·exact R5 h2 h4
     rw[Nl,Fa p,ha,A0 h0];rw[A1.pres,DT];unfold W5;omega
    obtain⟨u,t,hu,ht,rfl⟩:=(Sm.i1c h1 ha).1 hs
    grind
  by_cases h2':p.Op=2
  ·match ha:p.cL with
   |[]=>exact absurd ha (hw.self.a1 (by omega) (by omega))
   |[q]=>
    have hq:q∈p.cL:=by rw[ha];simp
    obtain⟨C,h2,h3⟩:=NP hl n q (by have:=L4 hq;omega) (hw.arg hq) (hp.arg hq);refine⟨C,N5 h2 (DU (by omega) (KD hq)),fun b f s hs=>?_⟩;obtain⟨q',ha',hs⟩:=(Sm.i2 h2').1 hs
    rw[ha]at ha'
    rw[List.mem_singleton.1 ha']at hs
    grind
   | q::q'::r=>
    have hq:q∈p.cL:=by rw[ha];simp
    have hws:Ga {p with cL:=q'::r}:=hw.sub (by omega) (by omega) (fun x hx=>by rw[ha];simp_all) (by simp);obtain⟨C,h2,h3⟩:=NP hl n q (by have:=L4 hq;omega) (hw.arg hq) (hp.arg hq);obtain⟨D,h4,h5⟩:=NP hl n {p with cL:=q'::r} (by have:=RX ha;omega) hws (hp.sub fun x hx=>by rw[ha];simp_all);refine⟨C++D,?_,fun b f s hs=>?_⟩
    ·rw[J2,show W5 p=W5 q+W5 {p with cL:=q'::r}from ?_,Nat.pow_add]
     ·have e1:=hpow q (hw.arg hq);have e2:=hpow _ hws;have:=ZI e1 e2;omega
     rw[Nl,Fa p,ha,A0 h0];rw[A1.pres,DT];unfold W5;omega
    obtain⟨x,ha',hs⟩:=(Sm.i2 h2').1 hs
    rw[ha]at ha'
    rcases List.mem_cons.1 ha' with e|hm
    ·rw[e]at hs;grind
    exact IL _ (h5 _ _ _ (Sm.alt (p:={p with cL:=q'::r}) h2' hm hs))
  by_cases h3':p.Op=3
  ·rcases Fs p.cL with ha|⟨r,q,ha⟩
   ·exact absurd ha (hw.self.a1 (by omega) (by omega))
   rw[Fq]at ha
   have hq:q∈p.cL:=by rw[ha];simp
   obtain⟨C,h2,h3⟩:=NP hl n q (by have:=L4 hq;omega) (hw.arg hq) (hp.arg hq)
   by_cases hr:r=[]
   ·subst hr;refine⟨C,N5 h2 (DU (by omega) (KD hq)),fun b f s hs=>?_⟩;exact h3 _ _ _ ((Sm.i3 h3' ha).1 hs)
   have hws:Ga {p with cL:=r}:=hw.sub (by omega) (by omega) (fun x hx=>by rw[ha];simp[hx]) hr;obtain⟨D,h4,h5⟩:=NP hl n {p with cL:=r} (by have:=AB9 ha;omega) hws (hp.sub fun x hx=>by rw[ha];simp[hx]);refine⟨D.flatMap fun s=>C.map (mrg s),?_,fun b f s hs=>?_⟩
   ·rw[Aj4,show W5 p=W5 {p with cL:=r}+W5 q from ?_,Nat.pow_add]
    ·exact R5 h4 h2
    rw[Nl,Fa p,ha,A0 h0,BJ,DT];simp[A1.pres,W5]
   obtain⟨u,t,hu,ht,_,rfl⟩:=(Sm.i3c h3' ha hr).1 hs
   grind
  obtain⟨q,ha⟩:=hw.self.a2 (by omega)
  have hq:q∈p.cL:=by rw[ha];simp
  obtain⟨C,h2,h3⟩:=NP hl n q (by have:=L4 hq;omega) (hw.arg hq) (hp.arg hq);refine⟨C,N5 h2 (DU (by omega) (KD hq)),fun b f s hs=>?_⟩;exact h3 _ _ _ ((Sm.i5 (by omega) hop.2 ha).1 hs).1
theorem card {l:List A8} {p:A1} (hw:Ga p) (hs:Sml l.length p) {L:List (List PR)} (hn:L.Nodup) (h:∀s∈L,Gd l s∧∃b f,Sm l p b f s):L.length≤1500:=by
 rcases hs with hs|⟨h1,h2,h3⟩
 ·refine N5 (Bf5 hn fun s m=>?_) hs;obtain⟨g,b,f,hm⟩:=h s m;exact⟨g,hm.vars⟩
 obtain⟨C,h4,h5⟩:=NP h2 _ p (B3 _) hw h1
 have:=LN hn (l₂:=C) fun s m=>by
  grind
 omega
section
variable {N:Nat}(hN:40000000≤N){l:List A8}(hl:l.length≤10)
include hN hl
def mu (l:List A8)(p:A1)(f:Nat):Nat:=p.pre.length*(l.length+2)+(l.length-f)
omit hN hl in
theorem AP7 {p q:A1}{f g:Nat}(h:q.pre.length<p.pre.length):mu l q g+1≤mu l p f:=by
 unfold mu;have:=G5 (l.length+2) (show q.pre.length+1≤p.pre.length from h)
 rw[E3]at this
 omega
omit hN hl in
theorem Se {u:List PR}{f:Int}(r:GR l f u)(h0:0≤f):∃g:Nat,S4 u+1=(g:Int)∧g≤l.length∧f<g:=by
 have:=r.gd.lst r.ne;obtain⟨x,_,hx,e⟩:=FE r.ne;have:=r.ge x hx;exact⟨(S4 u+1).toNat,by omega,by omega,by omega⟩
end
end
end Go.Ab
namespace Go.Ab
open Classical
noncomputable section
section
variable {N:Nat}(hN:40000000≤N){l:List A8}(hl:l.length≤10)
include hN hl
end
def add1 (out:List (List PR))(s:List PR):List (List PR):=if s∈out then out else out++[s]
def Nd (P:List PR→Prop)(out:List (List PR)):Prop:=out.Nodup∧∀s∈out,P s
theorem Nd.nil (P:List PR→Prop):Nd P []:=⟨List.nodup_nil,fun _ h=>absurd h List.not_mem_nil⟩
theorem Nd.add {P:List PR→Prop}{out:List (List PR)}{s:List PR}(h:Nd P out)(hs:P s):Nd P (add1 out s):=by
 grind[Nd,add1]
def AJ8 (r:Option (List (List PR)))(l:List A8)(p:A1)(b:List PR)(f:Int):Prop:=∃L,r=some L∧L.Nodup∧∀s,s∈L↔Sm l p b f s
theorem AJ8.mk {x:Option (List (List PR))}{l:List A8}{p:A1}{b:List PR}{f:Int}(h:∃L,x=some L∧L.Nodup∧∀s,s∈L↔Sm l p b f s):AJ8 (x.bind fun s=>some s) l p b f:=by
 simp_all[AJ8]
section
variable {N:Nat}(hN:40000000≤N){l:List A8}(hl:l.length≤10)
include hN hl
end
end
end Go.Ab
namespace Go.Ab
open Classical
noncomputable section
def O4:List Int→List Int→Int
 |[],[]=>0
 |[],_::_=> -1
 |_::_,[]=>1
 |x::a,y::b=>if x<y then -1 else if y<x then 1 else O4 a b
theorem JR:∀a:List Int,O4 a a=0
 |[]=>rfl
 |x::a=>by simp[O4,JR a]
theorem Pu:∀{a b:List Int},O4 a b=0→a=b
 |[],[],_=>rfl
 |[],_::_,h=>by grind[O4]
 |_::_,[],h=>by grind[O4]
 |x::a,y::b,h=>by
  unfold O4 at h
  split at h
  ·cases h
  split at h
  ·cases h
  rw[Pu h];grind
theorem YH:∀a b:List Int,O4 b a= - O4 a b
 |[],[]=>rfl
 |[],_::_=>rfl
 |_::_,[]=>rfl
 |x::a,y::b=>by
  unfold O4;rw[YH a b]
  split<;>split<;>first|omega|rfl
theorem Ky:∀{a b c:List Int},O4 a b<0→O4 b c<0→O4 a c<0
 |[],[],_,h,_=>by omega
 |_::_,[],_,h,_=>by grind[O4]
 |_,_::_,[],_,h=>by grind[O4]
 |[],_::_,_::_,_,_=>by simp[O4]
 |x::a,y::b,z::c,h1,h2=>by
  unfold O4 at h1 h2 ⊢
  by_cases h3:x<z
  ·rw[A2 h3];decide
  rw[A0 h3]
  by_cases h4:x<y
  ·omega
  rw[A0 h4]at h1
  by_cases h5:y<x
  ·rw[A2 h5]at h1;cases h1
  rw[A0 h5]at h1
  by_cases h6:y<z
  ·omega
  rw[A0 h6]at h2
  by_cases h7:z<y
  ·rw[A2 h7]at h2;cases h2
  rw[A0 h7]at h2
  rw[A0 (by omega)];exact Ky h1 h2
def UI (a b:Int):Int:=if a<b then -1 else if b<a then 1 else 0
theorem Np (N:Nat)(a b:Int):O8 N a b=some (UI a b):=by
 unfold O8 FZ UI;simp only[A4,N0,D4,Br,G9,AD,J7,G4,H8]
 grind
theorem or_eq {N:Nat} (hN:40000000≤N) {l:List Int} (hl:l.length≤1000):FJ N l=some (Az id l):=by
 unfold FJ;rw[L5 l (by omega) (mk:=fun(_:Unit) i=>i) (body:=Cn fun x=>some x) (fin:=fun _=>.inl ()) (s:=()) (by omega) ?_ ?_]
 ·rw[Bm (F:=fun x=>some x) (f:=id) fun x _=>rfl]
  grind
 ·intro s i x hx hi;have e:ar .add .i64 (i:Int) 1=i+1:=D3 (by omega) (by omega);simp only[D4,B4,hi,G9,D1,F6,hx,A4,e,Cn]
  split<;>rfl
 intro s;simp[D4,B4]
def X8 (r:Q4):List Int:=[r.Time,r.Source,r.Seq]
theorem lex3 (a1 a2 a3 b1 b2 b3:Int):O4 [a1,a2,a3] [b1,b2,b3]=Az id [UI a1 b1,UI a2 b2,UI a3 b3]:=by
 grind[O4,Az,UI]
theorem AC3 (N:Nat)(a b:Q4):GD N a b=some (O4 (X8 a) (X8 b)):=by
 unfold GD X8;simp only[N0,D4,Br,O4,H8,DR,Fu]
 grind
theorem YW {N:Nat}(hN:40000000≤N)(a b:A8):Ce N a b=some (O4 [a.Time,a.Source,a.Seq] [b.Time,b.Source,b.Seq]):=by
 unfold Ce Du;simp only[A4,Np];rw[or_eq hN (by simp),←lex3];simp only[L3,D8,Gi,L9,H8,A4]
 simp_all[O4]
theorem Al9:∀{a b:List Int} (c d:List Int),a.length=b.length→O4 (a++c) (b++d)=if O4 a b≠0 then O4 a b else O4 c d
 |[],[],c,d,_=>by simp[O4]
 |[],_::_,_,_,h=>by simp at h
 |_::_,[],_,_,h=>by simp at h
 |x::a,y::b,c,d,h=>by
  simp only[X2,O4];have ih:=Al9 (a:=a) (b:=b) c d (by grind);omega
mutual
def GK:A3→Nat
 |⟨_,_,ks⟩=>Fi ks+1
def Fi:List A3→Nat
 |[]=>0
 |a::r=>GK a+Fi r
end
mutual
def PX:A3→Nat
 |⟨_,_,ks⟩=>Af9 ks+1
def Af9:List A3→Nat
 |[]=>0
 |a::r=>max (PX a) (Af9 r)
end
theorem HF (d:A3):GK d=Fi d.Kids+1:=by cases d;simp[GK]
theorem Z5 (d:A3):PX d=Af9 d.Kids+1:=by cases d;simp[PX]
theorem Pb:∀l:List A3,Fi l=(l.map GK).sum
 |[]=>rfl
 |a::l=>by simp[Fi,Pb l]
theorem AL6 (d:A3):1≤GK d:=by rw[HF];omega
theorem LT:∀l:List A3,l.length≤Fi l
 |[]=>B3 _
 |a::l=>by have:=LT l;have:=AL6 a;grind[Fi]
theorem Gw:∀{l:List A3} {a:A3},a∈l→GK a≤Fi l
 |b::l,a,h=>by
  simp only[Fi]
  rcases List.mem_cons.1 h with rfl|h
  ·omega
  have:=Gw h;omega
theorem AZ:∀{l:List A3} {a:A3},a∈l→PX a≤Af9 l
 |b::l,a,h=>by
  simp only[Af9]
  rcases List.mem_cons.1 h with rfl|h
  ·omega
  have:=AZ h;omega
mutual
theorem Zj:∀d:A3,PX d≤GK d
 |⟨_,_,ks⟩=>by have:=AH5 ks;simp_all[PX,GK]
theorem AH5:∀l:List A3,Af9 l≤Fi l
 |[]=>B3 _
 |a::l=>by have:=Zj a;have:=AH5 l;grind[Af9,Fi]
end
theorem SR {R α:Type} {f:α→Option Int} {c:α→Nat}:∀(l:List α) (s:Nat),(∀a∈l,f a=some (c a:Int))→s+(l.map c).sum≤1000000000000→
 (K7 (fun(s:Int) x=>(f x).bind fun r=>some (.inl (ar .add .i64 s r))) l (s:Int):Option (Int⊕R))=some (.inl ((s+(l.map c).sum:Nat):Int))
 |[],s,_,_=>by simp[K7]
 |x::l,s,h,hb=>by
  simp only[D5,Ir]at hb ⊢
  simp only[K7,h x (.head _),A4];rw[D3 (by omega) (by omega)];have:=SR (R:=R) l (s+c x) (fun a ha=>h a (.tail _ ha)) (by omega);rw[show((s:Int)+(c x:Int))=((s+c x:Nat):Int) by omega,this]
  grind
theorem Zh {N:Nat} (hN:40000000≤N):∀(n:Nat) (d:A3),PX d≤n→GK d≤30000000→S0 N n d=some (GK d:Int)
 |0,d,h,_=>by rw[Z5]at h;omega
 |n+1,d,h,hs=>by
  have hsz:=HF d;have hdp:=Z5 d;have hl:=LT d.Kids;unfold S0;rw[L5 d.Kids (by omega) (mk:=fun(s:Int) i=>(s,i)) (body:=fun(s:Int) x=>(S0 N n x).bind fun r=>some (.inl (ar .add .i64 s r))) (fin:=fun s=>s) (s:=(1:Int)) (by omega) ?_ ?_]
  ·rw[show(1:Int)=((1:Nat):Int)from rfl,SR (c:=GK) d.Kids 1 (fun a ha=>Zh hN n a (by have:=AZ ha;omega) (by have:=Gw ha;omega)) (by rw[←Pb];omega)];simp only[A4,F3];rw[←Pb];omega
  ·intro s i x hx hi;have e:ar .add .i64 (i:Int) 1=i+1:=D3 (by omega) (by omega);simp only[D4,B4,hi,G9,D1,F6,hx,A4,e];cases S0 N n x<;>rfl
  intro s;simp[D4,B4]
mutual
def dO:A3→A3→Int
 |⟨r,c,ks⟩,⟨r',c',ks'⟩=>if O4 (X8 r) (X8 r')≠0 then O4 (X8 r) (X8 r')else if UI c c'≠0 then UI c c' else Vt ks ks'
def Vt:List A3→List A3→Int
 |[],[]=>0
 |[],_::_=> -1
 |_::_,[]=>1
 |a::l,b::m=>if dO a b≠0 then dO a b else Vt l m
end
theorem AW9 (a b:A3):dO a b=if O4 (X8 a.Ref) (X8 b.Ref)≠0 then O4 (X8 a.Ref) (X8 b.Ref)else if UI a.Choice b.Choice≠0 then UI a.Choice b.Choice else Vt a.Kids b.Kids:=by
 cases a;cases b;simp only[dO]
mutual
def Au2:A3→List Int
 |⟨r,c,ks⟩=>X8 r++(c::Ri ks)
def Ri:List A3→List Int
 |[]=>[0]
 |a::l=>1::(Au2 a++Ri l)
end
mutual
theorem AI0:∀(a b:A3) (u v:List Int),O4 (Au2 a++u) (Au2 b++v)=if dO a b≠0 then dO a b else O4 u v
 |⟨r,c,ks⟩,⟨r',c',ks'⟩,u,v=>by
  simp only[Au2,dO,E6,X2];rw[Al9 _ _ (by simp[X8])]
  by_cases h:O4 (X8 r) (X8 r')=0
  ·simp only[h,ne_eq,not_true,G4,O4,UI];rw[An5 ks ks' u v];omega
  simp[h]
theorem An5:∀(l m:List A3) (u v:List Int),O4 (Ri l++u) (Ri m++v)=if Vt l m≠0 then Vt l m else O4 u v
 |[],[],u,v=>by simp[O4,Ri,Vt]
 |[],_::_,u,v=>by simp[O4,Ri,Vt]
 |_::_,[],u,v=>by simp[O4,Ri,Vt]
 |a::l,b::m,u,v=>by
  simp only[Ri,Vt,X2,E6,O4,Li,G4];rw[AI0 a b,An5 l m];omega
end
theorem QB (a b:A3):dO a b=O4 (Au2 a) (Au2 b):=by
 have:=AI0 a b [] []
 simp_all[O4]
theorem YE {N:Nat} {a b:List A3} {step:Int→Option (Int⊕(Unit⊕Int))} {k:Unit⊕Int→Option Int} (hN:a.length<N) (hl:a.length≤30000000)
 (hs:∀(i:Nat) (h1:i<a.length) (h2:i<b.length),step (i:Int)=if cmp .neq (dO a[i] b[i]) 0=true then some (.inr (.inr (dO a[i] b[i])))else some (.inl (ar .add .i64 (i:Int) 1)))
 (he:∀i:Nat,i≤a.length→i≤b.length→i=a.length∨i=b.length→∃r,step (i:Int)=some (.inr r)∧k r=some (if a.length<b.length then -1 else if b.length<a.length then 1 else 0)) (hk:∀c,k (.inr c)=some c):(loopN step N 0).bind k=some (Vt a b):=by
 have key:∀(d i N:Nat),i+d=a.length→d<N→i≤b.length→(loopN step N (i:Int)).bind k=some (Vt (a.drop i) (b.drop i)):=by
  have hend:∀(i N:Nat),i≤a.length→i≤b.length→i=a.length∨i=b.length→(loopN step (N+1) (i:Int)).bind k=some (Vt (a.drop i) (b.drop i)):=fun i N h1 h2 h=>by
   obtain⟨r,e1,e2⟩:=he i h1 h2 h;simp only[loopN,e1,A4,e2]
   by_cases ha:i<a.length
   ·rw[R7 ha,DW (show b.length≤i by omega),A0 (by omega),A2 (by omega)];simp[Vt]
   rw[DW (show a.length≤i by omega)]
   by_cases hb:i<b.length
   ·rw[R7 hb,A2 (by omega)];simp[Vt]
   grind[Vt]
  intro d
  induction d with
  |zero=>
   intro i N hi hN hb;obtain⟨N,rfl⟩:∃m,N=m+1:=⟨N-1,by omega⟩
   simp_all
  | succ d ih=>
   intro i N hi hN hb;obtain⟨N,rfl⟩:∃m,N=m+1:=⟨N-1,by omega⟩
   by_cases h:i=b.length
   ·grind
   have ha:i<a.length:=by omega
   have hb:i<b.length:=by omega
   rw[R7 ha,R7 hb,Vt];unfold loopN;rw[hs i ha hb,D3 (by omega) (by omega)]
   by_cases hz:dO a[i] b[i]=0
   ·rw[A0 (show¬(cmp .neq (dO a[i] b[i]) 0=true)from K8 hz),A0 (by omega)]
    grind
   rw[A2 (show cmp .neq (dO a[i] b[i]) 0=true from K9 hz),A2 hz];exact hk _
 simpa using key a.length 0 N (by omega) hN (by omega)
theorem Sh {N:Nat} (hN:40000000≤N):∀(n:Nat) (x y:A3),PX x≤n→GK x≤30000000→P7 N n x y=some (dO x y)
 |0,d,_,h,_=>by rw[Z5]at h;omega
 | n+1,x,y,h,hs=>by
  have hsz:=HF x;have hdp:=Z5 x;have hl:=LT x.Kids;unfold P7;rw[YW hN,AW9];simp only[A4]
  change (if cmp .neq (O4 (X8 x.Ref) (X8 y.Ref)) 0=true then some (O4 (X8 x.Ref) (X8 y.Ref))else _)=_
  by_cases h0:O4 (X8 x.Ref) (X8 y.Ref)=0
  ·rw[A0 (K8 h0),A0 (show¬(O4 (X8 x.Ref) (X8 y.Ref)≠0) by omega)]
   by_cases h1:x.Choice<y.Choice
   ·rw[A2 (Z6 h1)];simp[UI,h1]
   rw[A0 (N4 h1)]
   by_cases h2:y.Choice<x.Choice
   ·rw[A2 (Y4 h2)];simp[UI,h1,h2]
   rw[A0 (T9 h2),A0 (by grind[UI])];unfold J3
   generalize x.Kids=a at *
   generalize y.Kids=b at *
   refine J6 (fun o:Option Int=>o.bind fun r1=>some r1) (YE (a:=a) (b:=b) (by omega) (by omega) (fun i h1 h2=>?_) (fun i h1 h2 h=>?_) fun _=>rfl)
   ·rw[A2 (X7 (by omega)),F6,E0 h1];simp only[A4];rw[A0 (by rw[R4,B4];simp;omega),F6,E0 h2];simp only[A4];rw[Sh hN n _ _ (by have:=AZ (G3 h1);omega) (by have:=Gw (G3 h1);omega)];rfl
   by_cases ha:i<a.length
   ·refine⟨.inr 1,?_,?_⟩
    ·rw[A2 (X7 (by omega)),F6,E0 ha];simp only[A4];rw[A2 (by rw[R4,B4];simp;omega)]
    grind
   refine⟨.inl (),by rw[A0 (N4 (by rw[B4];omega))],?_⟩
   dsimp only
   by_cases hb:a.length<b.length
   ·rw[A2 (Z6 (by rw[B4,B4];omega)),A2 hb]
   rw[A0 (N4 (by rw[B4,B4];omega)),A0 hb,A0 (show¬b.length<a.length by omega)]
  rw[A2 (K9 h0),A2 (show O4 (X8 x.Ref) (X8 y.Ref)≠0 from h0)]
theorem AA8 (N:Nat)(a b:Q4):Cq N a b=some (O4 (X8 a) (X8 b)):=by
 unfold Cq EK X8;simp only[N0,D4,Br,D8,O4,H8,DR,Fu]
 grind
theorem SM {N:Nat} (hN:40000000≤N):∀(n:Nat) (x y:A3),PX x≤n→GK x≤30000000→Y1 N n x y=some (dO x y)
 |0,d,_,h,_=>by rw[Z5]at h;omega
 | n+1,x,y,h,hs=>by
  have hsz:=HF x;have hdp:=Z5 x;have hl:=LT x.Kids;unfold Y1;rw[AA8,AW9];simp only[A4]
  by_cases h0:O4 (X8 x.Ref) (X8 y.Ref)=0
  ·rw[A0 (K8 h0),A0 (show¬(O4 (X8 x.Ref) (X8 y.Ref)≠0) by omega)]
   by_cases h1:x.Choice<y.Choice
   ·rw[A2 (K9 (by omega)),A2 (Z6 h1)];simp[UI,h1]
   by_cases h2:y.Choice<x.Choice
   ·rw[A2 (K9 (by omega)),A0 (N4 h1)];simp[UI,h1,h2]
   rw[A0 (K8 (by omega)),A0 (show¬(UI x.Choice y.Choice≠0) by grind[UI])]
   generalize x.Kids=a at *
   generalize y.Kids=b at *
   refine YE (a:=a) (b:=b) (by omega) (by omega) (fun i h1 h2=>?_) (fun i h1 h2 h=>⟨.inl (),by rw[A0 (by simp only[L3,D4,B4];simp;omega)],?_⟩) fun _=>rfl
   ·rw[A2 (by simp only[L3,D4,B4];simp;omega),F6,E0 h1,F6,E0 h2];simp only[A4];rw[SM hN n _ _ (by have:=AZ (G3 h1);omega) (by have:=Gw (G3 h1);omega)];rfl
   dsimp only
   by_cases hb:a.length<b.length
   ·rw[A2 (Z6 (by rw[B4,B4];omega)),A2 hb]
   rw[A0 (N4 (by rw[B4,B4];omega)),A0 hb]
   by_cases hc:b.length<a.length
   ·rw[A2 (Y4 (by rw[B4,B4];omega)),A2 hc]
   rw[A0 (T9 (by rw[B4,B4];omega)),A0 hc]
  rw[A2 (K9 h0),A2 (show O4 (X8 x.Ref) (X8 y.Ref)≠0 from h0)]
def Z3 (e:A8):List Int:=[e.Time,e.Source,e.Seq]
def MX (e:A8):Bool:=(an (an (an (an (an (cmp .geq e.Time 0) (cmp .leq e.Time 1099511627776)) (cmp .geq e.Source 0)) (cmp .lss e.Source 8)) (cmp .geq e.Seq 0)) (cmp .leq e.Seq 1099511627776))
def Fj (a b:A8):Bool:=decide (a.Source=b.Source)&&decide (a.Seq=b.Seq)
def UB (l:List A8)(i:Nat):Int:=
 match l[i]? with
 |none=>0
 |some e=>if MX e=false then 2 else if 0<i∧0≤O4 (Z3 ((l[i-1]?).getD e)) (Z3 e)then 14 else if(l.take i).any (fun x=>Fj x e)=true then 7 else 0
def Cy (l:List A8):Int:=if 4096<l.length then 5 else Az (UB l) (List.range l.length)
theorem Az0 {N : Nat} (hN:40000000≤N) {l:List A8} (hl:l.length≤4096) {i:Nat} (hi:i<l.length):(loopN
                    (fun(s10:Int)=>
                     (
                      if cmp .lss s10 (i:Int)=true then
                       (C3 l s10).bind fun x12=>
                       (HK N x12 l[i]).bind fun r14=>
                       if r14=true then
                        some (.inr (.inr ()))
                       else
                        some (.inl (ar .add .i64 s10 1))
                      else
                       some (.inr (.inl ()))
                      :Option ((Int)⊕(Unit⊕Unit))))
                    N 0)=some (if(l.take i).any (fun x=>Fj x l[i])=true then .inr ()else .inl ()):=by
 have hlen:(l.take i).length=i:=by rw[Bf];omega
 rw [Nf (l:=l.take i) (fun x=>Fj x l[i]) (by omega) (by omega) (fun j x hx hj=>by
     have hji:j<i:=by omega
     have e:ar .add .i64 (j:Int) 1=j+1:=D3 (by omega) (by omega)
     rw[List.getElem?_take_of_lt hji]at hx
     rw[A2 (Z6 (by omega)),F6,hx];simp only[A4,e,HK,D8,L3]
     grind[Fj]) (by rw[hlen,A0 (N4 (Li _))])]
theorem AM9 {N:Nat} (hN:40000000≤N) {l:List A8}:Jc N l=some (Cy l):=by
 unfold Jc Cy
 by_cases h1:4096<l.length
 ·rw[A2 (Y4 (by rw[B4];omega)),A2 h1]
 rw[A0 (T9 (by rw[B4];omega)),A0 h1];have hr:(List.range l.length).length=l.length:=DS;rw[L5 (List.range l.length) (by omega) (mk:=fun(_:Unit) i=>i) (body:=Cn fun i=>some (UB l i)) (fin:=fun _=>.inl ()) (s:=()) (by omega) ?_ ?_]
 ·rw[Bm (F:=fun i=>some (UB l i)) (f:=UB l) fun x _=>rfl]
  grind
 ·intro s i x hx hi
  have hil:i<l.length:=by omega
  rw[II hil]at hx
  cases hx;have e:ar .add .i64 (i:Int) 1=i+1:=D3 (by omega) (by omega);rw[A2 (X7 (by omega)),OM hil];simp only[A4];rw[Az0 hN (by omega) hil]
  have hbs:UB l i=if MX l[i]=false then 2 else if 0<i∧0≤O4 (Z3 ((l[i-1]?).getD l[i])) (Z3 l[i])then 14 else if(l.take i).any (fun x=>Fj x l[i])=true then 7 else 0:=by
   unfold UB;rw[E0 hil]
  unfold Kr MV Cn;simp only[A4,e];rw[hbs];have hp:(an (an (an (an (an (cmp .geq l[i].Time 0) (cmp .leq l[i].Time 1099511627776)) (cmp .geq l[i].Source 0)) (cmp .lss l[i].Source 8)) (cmp .geq l[i].Seq 0)) (cmp .leq l[i].Seq 1099511627776))=MX l[i]:=rfl;rw[hp]
  cases MX l[i]with
  |false=>rfl
  | true=>
   rw[A0 (show¬(Ar.nt true=true) by decide),A0 (show¬(true=false) by decide)]
   by_cases h0:0<i
   ·rw[A2 (Y4 (by omega))]
    have e1:ar .sub .i64 (i:Int) 1=((i-1:Nat):Int):=by rw[Kh (by omega) (by omega)];omega
    have hi1:i-1<l.length:=by omega
    rw[e1,OM hi1,E0 hi1];simp only[A4,AC3,AF];have hk:O4 (X8 ⟨l[i-1].Time,l[i-1].Source,l[i-1].Seq⟩) (X8 ⟨l[i].Time,l[i].Source,l[i].Seq⟩)=O4 (Z3 l[i-1]) (Z3 l[i]):=rfl;rw[hk]
    by_cases h2:0≤O4 (Z3 l[i-1]) (Z3 l[i])
    ·rw[A2 (show cmp .geq (O4 (Z3 l[i-1]) (Z3 l[i])) 0=true by rw[R4];simp_all),A2 (show 0<i∧0≤O4 (Z3 l[i-1]) (Z3 l[i])from⟨h0,h2⟩)];rfl
    rw[A0 (show¬(cmp .geq (O4 (Z3 l[i-1]) (Z3 l[i])) 0=true) by rw[R4];grind),A0 (show¬(0<i∧0≤O4 (Z3 l[i-1]) (Z3 l[i]))from fun h=>h2 h.2)];cases(l.take i).any fun x=>Fj x l[i]<;>rfl
   rw[A0 (T9 (by omega)),A0 (show¬(0<i∧0≤O4 (Z3 ((l[i-1]?).getD l[i])) (Z3 l[i]))from fun h=>h0 h.1)];cases(l.take i).any fun x=>Fj x l[i]<;>rfl
 intro s;rw[hr,A0 FD]
def Jz (p:List A8):List (I1×Bool):=p.map fun e=>(⟨e.Source,e.Seq⟩,true)
theorem Au7 (p:List A8) (e:A8):∃b,Qu (Jz p) ⟨e.Source,e.Seq⟩ false=some (p.any fun x=>Fj x e,b):=by
 unfold Qu Jz
 induction p with
 |nil=>simp_all
 | cons x p ih=>
  obtain⟨b,ih⟩:=ih;rw[D5,List.find?_cons,Er]
  by_cases h:(⟨x.Source,x.Seq⟩:I1)=⟨e.Source,e.Seq⟩
  ·have ht:Fj x e=true:=by
    simp_all[Fj]
   simp_all
  have ht:Fj x e=false:=by
   simp_all[Fj]
  grind
theorem Ar6 {p:List A8}{e:A8}(h:(p.any fun x=>Fj x e)=false):Pg (Jz p) ⟨e.Source,e.Seq⟩ true=some (Jz (p++[e])):=by
 simp_all[Pg,Jz,Fj]
theorem AF0 {B:Type} {N n:Nat} {M:Nat→B} {step:(Int×B)→Option ((Int×B)⊕(B⊕(Int×B)))} (f:Nat→Int) {k:B⊕(Int×B)→Option Int} (hN:n<N) (hn:n<1000000000)
 (hs:∀i:Nat,i<n→ar .add .i64 (i:Int) 1=i+1→step ((i:Int),M i)=some (if f i=0 then .inl ((i:Int)+1,M (i+1))else .inr (.inr (f i,M i)))) (he:step ((n:Int),M n)=some (.inr (.inl (M n)))) (h0:∀m,k (.inl m)=some 0) (h1:∀c m,k (.inr (c,m))=some c):(loopN step N (0,M 0)).bind k=some (Az f (List.range n)):=by
 have key:∀(d i N:Nat),i+d=n→d<N→(loopN step N ((i:Int),M i)).bind k=some (Az f (List.range' i d)):=by
  intro d
  induction d with
  |zero=>
   intro i N hi hN;obtain⟨N,rfl⟩:∃m,N=m+1:=⟨N-1,by omega⟩
   simp_all[loopN,Az]
  | succ d ih=>
   intro i N hi hN;obtain⟨N,rfl⟩:∃m,N=m+1:=⟨N-1,by omega⟩;rw[DO]
   by_cases hf:f i=0
   ·simp only[loopN,hs i (by omega) (D3 (by omega) (by omega)),Az,hf,D1]
    grind
   simp only[loopN,hs i (by omega) (D3 (by omega) (by omega)),Az,hf,G4,A4,h1]
 rw[Gr]
 grind
theorem Ai9 {N:Nat} (hN:40000000≤N) {l:List A8}:BN N l=some (Cy l):=by
 unfold BN Cy
 by_cases h1:4096<l.length
 ·rw[A2 (Y4 (by rw[B4];omega)),A2 h1]
 rw[A0 (T9 (by rw[B4];omega)),A0 h1];refine AF0 (M:=fun i=>Jz (l.take i)) (UB l) (by omega) (by omega) (fun i hil e=>?_) (by dsimp only;rw[A0 FD]) (fun _=>rfl) (fun _ _=>rfl);obtain⟨b,hb⟩:=Au7 (l.take i) l[i];have hp:Jw N l[i]=some (MX l[i]):=rfl;have hst:Ho N l[i]=some ⟨l[i].Source,l[i].Seq⟩:=rfl
 dsimp only
 rw[A2 (X7 (by omega)),OM hil];simp only[A4];unfold UB;rw[hp,hst,E0 hil];simp only[A4,hb,e]
 cases MX l[i]with
 |false=>rfl
 | true=>
  rw[A0 (show¬(Ar.nt true=true) by decide),A0 (show¬(true=false) by decide)]
  have ht:(if(l.take i).any (fun x=>Fj x l[i])=true then some (.inr (.inr (7,Jz (l.take i))))else(Pg (Jz (l.take i)) ⟨l[i].Source,l[i].Seq⟩ true).bind fun l15=>some (.inl ((i:Int)+1,l15)):Option ((Int×(List (I1×Bool)))⊕(((List (I1×Bool)))⊕(Int×(List (I1×Bool))))))=some (if(if(l.take i).any (fun x=>Fj x l[i])=true then(7:Int)else 0)=0 then .inl ((i:Int)+1,Jz (l.take (i+1)))else .inr (.inr (if(l.take i).any (fun x=>Fj x l[i])=true then(7:Int)else 0,Jz (l.take i)))):=by
   by_cases h7:(l.take i).any (fun x=>Fj x l[i])=true
   ·simp_all
   rw[A0 h7,A0 h7,Ar6 (by grind),Bk hil];rfl
  by_cases h0:0<i
  ·have hi1:i-1<l.length:=by omega
   rw[A2 (Y4 (by omega)),show ar .sub .i64 (i:Int) 1=((i-1:Nat):Int) by rw[Kh (by omega) (by omega)];omega,OM hi1,E0 hi1];simp only[A4,YW hN,AF];have hk:O4 [l[i-1].Time,l[i-1].Source,l[i-1].Seq] [l[i].Time,l[i].Source,l[i].Seq]=O4 (Z3 l[i-1]) (Z3 l[i]):=rfl;rw[hk]
   by_cases h2:0≤O4 (Z3 l[i-1]) (Z3 l[i])
   ·rw[A2 (show cmp .geq (O4 (Z3 l[i-1]) (Z3 l[i])) 0=true by rw[R4];simp_all),A2 (show 0<i∧0≤O4 (Z3 l[i-1]) (Z3 l[i])from⟨h0,h2⟩)];rfl
   rw[A0 (show¬(cmp .geq (O4 (Z3 l[i-1]) (Z3 l[i])) 0=true) by rw[R4];grind),A0 (show¬(0<i∧0≤O4 (Z3 l[i-1]) (Z3 l[i]))from fun h=>h2 h.2)];exact ht
  rw[A0 (T9 (by omega)),A0 (show¬(0<i∧0≤O4 (Z3 ((l[i-1]?).getD l[i])) (Z3 l[i]))from fun h=>h0 h.1)];exact ht
end
end Go.Ab
