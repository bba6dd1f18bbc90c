/- GVV3 GVV5 GVV6 GVV7 GVW0 GVW1 GVW2 GVW3 GVW4 GVW5 -/
import Derived.Test.YtjhobbohibnioaaGreatDoorC20
set_option linter.all false
open List (countP_append)
open Go.Ab.Ar (ar)
namespace Go.Ab
noncomputable section
def Mc (b:Bool):B4:=if b=true then⟨1,1,⟨#[]⟩⟩else⟨1,0,⟨#[]⟩⟩
def XL (op:Int)(kinds:List Int)(k:Int):Bool:=
 if op=5∨op=6∨op=7∨op=8 then decide (k=0)else if op=10∨op=11∨op=12 then decide (k=1)else if op=9 then decide (k=kinds.getD 0 0)else true
def Xh (op:Int)(kinds:List Int):Int:=if kinds.all (XL op kinds)=true then 0 else 9
instance (x y:B4):Decidable (x=y):=by
 obtain⟨a,b,c⟩:=x;obtain⟨d,e,f⟩:=y;exact decidable_of_iff (a=d∧b=e∧c=f) (by simp)
def Ya (op:Int)(l:List B4):B4:=
 let a:=l.getD 0 Dt
 let b:=l.getD (l.length - 1) Dt
 if op=9 then Mc (decide (a=l.getD 1 Dt))else if op=5 then⟨0,ar .add .i64 a.Num b.Num,⟨#[]⟩⟩else if op=6 then⟨0,ar .sub .i64 a.Num b.Num,⟨#[]⟩⟩
 else if op=7 then Mc (decide (a.Num<b.Num))else if op=8 then Mc (decide (a.Num≤b.Num))else if op=10 then Mc (decide (a.Num=1)&&decide (b.Num=1))else if op=11 then Mc (decide (a.Num=1)||decide (b.Num=1))else Mc (!decide (a.Num=1))
mutual
def Ry (R:B6→B4×Int):B6→B4×Int
 |⟨op,args,var,field,kind,val⟩=>
  if args.length=0 then R ⟨op,args,var,field,kind,val⟩else
  match UO R args with
  | .inr f=>(Dt,f)
  | .inl l=>if Xh op (l.map (·.Kind))≠0 then(Dt,Xh op (l.map (·.Kind)))else(Ya op l,0)
def UO (R:B6→B4×Int):List B6→List B4 ⊕ Int
 |[]=>.inl []
 |a::r=>if(Ry R a).2≠0 then .inr (Ry R a).2 else match UO R r with| .inr f=>.inr f| .inl l=>.inl ((Ry R a).1::l)
end
def Xq (env:Id)(own:Int)(ev:B5)(x:B6):B4×Int:=if T5 x=0 then Ry (YO env own ev) x else(Dt,T5 x)
end
end Go.Ab
namespace Go.Ab
noncomputable section
open Classical
def Pw (env:Id)(own:Int)(ev:B5)(x:B6):Bool:=decide ((Xq env own ev x).2=0)&&decide ((Xq env own ev x).1=⟨1,1,⟨#[]⟩⟩)
end
end Go.Ab
namespace Go.Ab
noncomputable section
end
end Go.Ab
namespace Go.Ab
noncomputable section
end
end Go.Ab
namespace Go.Ab
open Classical
noncomputable section
abbrev PR :=M9
def mrg :List PR→List PR→List PR
 |[],b=>b
 |x::a,[]=>x::a
 |x::a,y::b=>if x.At<y.At then x::mrg a (y::b)else y::mrg (x::a) b
 termination_by a b=>a.length+b.length
theorem Rh (b:List PR):mrg [] b=b:=by unfold mrg;rfl
theorem Ow (a:List PR):mrg a []=a:=by cases a<;>(unfold mrg;rfl)
theorem Ox (x y:PR)(a b:List PR):mrg (x::a) (y::b)=if x.At<y.At then x::mrg a (y::b)else y::mrg (x::a) b:=by rw[mrg]
theorem HK :∀(n:Nat) (a b:List PR),a.length+b.length≤n→(mrg a b).Perm (a++b)
 |_,[],b,_=>by rw[Rh];exact .refl _
 |_,x::a,[],_=>by rw[Ow];simp
 |0,x::a,y::b,h=>by simp at h
 |n+1,x::a,y::b,h=>by
  simp only[List.length_cons]at h
  rw[Ox]
  split
  ·exact(HK n a (y::b) (by simp;omega)).cons x
  exact((HK n (x::a) b (by simp;omega)).cons y).trans (List.perm_middle.symm)
theorem Co {a b:List PR}{x:PR}:x∈mrg a b↔x∈a∨x∈b:=by rw[(HK _ a b (Nat.le_refl _)).mem_iff,List.mem_append]
theorem Ri (a b:List PR):(mrg a b).length=a.length+b.length:=by rw[(HK _ a b (Nat.le_refl _)).length_eq,List.length_append]
def Vo (a:List PR):Prop:=a.Pairwise fun x y=>x.At<y.At
def Jm (a b:List PR):Prop:=∀x∈a,∀y∈b,x.At≠y.At
theorem MS :∀(n:Nat) {a b:List PR},a.length+b.length≤n→Vo a→Vo b→Jm a b→Vo (mrg a b)
 |_,[],b,_,_,hb,_=>by rw[Rh];exact hb
 |_,x::a,[],_,ha,_,_=>by rw[Ow];exact ha
 |0,x::a,y::b,h,_,_,_=>by simp at h
 | n+1,x::a,y::b,h,ha,hb,hd=>by
  simp only[List.length_cons]at h
  unfold Vo at ha hb
  rw[List.pairwise_cons]at ha hb
  rw[Ox];have hxy:=hd x (by simp) y (by simp)
  split
  ·rename_i hlt;refine List.pairwise_cons.2 ⟨fun z hz=>?_,MS n (by simp;omega) ha.2 (List.pairwise_cons.2 hb) fun u hu v hv=>hd u (by simp[hu]) v hv⟩
   rcases Co.1 hz with hz|hz
   ·exact ha.1 z hz
   rcases List.mem_cons.1 hz with rfl|hz
   ·exact hlt
   have:=hb.1 z hz;omega
  rename_i hlt;refine List.pairwise_cons.2 ⟨fun z hz=>?_,MS n (by simp;omega) (List.pairwise_cons.2 ha) hb.2 fun u hu v hv=>hd u hu v (by simp[hv])⟩
  rcases Co.1 hz with hz|hz
  ·rcases List.mem_cons.1 hz with rfl|hz
   ·omega
   have:=ha.1 z hz;omega
  exact hb.1 z hz
theorem QT {a b:Int}(h0: -9223372036854775808≤a - b)(h1:a - b<9223372036854775808):ar .sub .i64 a b=a - b:=JL h0 h1
def Ww (s:List PR)(i:Int):Bool:=s.any fun x=>decide (x.At=i)
theorem Wv {s:List PR}{i:Int}:Ww s i=true↔∃x∈s,x.At=i:=by simp[Ww]
theorem Uk {α:Type}{l:List α}{i:Int}(h:i<l.length):Ar.cmp .lss i (Ar.len l)=true:=HL h
def Yp (s:List PR):Int:=match s with|[]=>0|x::_=>x.At
def Gr (s:List PR):Int:=match s.getLast? with|none=>0|some x=>x.At
theorem Iv {s:List PR}(h:s≠[]):∃x,s.getLast? =some x∧x∈s∧Gr s=x.At:=by
 cases hs:s.getLast? with
 |none=>exact absurd (List.getLast?_eq_none_iff.1 hs) h
 |some x=>exact⟨x,rfl,List.mem_of_getLast? hs,by simp[Gr,hs]⟩
theorem KZ {s:List PR}(ha:Vo s):∀x∈s,x.At≤Gr s:=by
 intro x hx
 rcases List.eq_nil_or_concat s with rfl|⟨q,y,rfl⟩
 ·cases hx
 rw[List.concat_eq_append]at *
 have e:Gr (q++[y])=y.At:=by simp[Gr]
 rw[e]
 unfold Vo at ha
 rw[List.pairwise_append]at ha
 rcases List.mem_append.1 hx with h|h
 ·have:=ha.2.2 x h y (by simp);omega
 rw[List.mem_singleton.1 h];exact Int.le_refl _
theorem RF :∀{s:List PR} {k:Int} {m:Nat},Vo s→(∀x∈s,k≤x.At∧x.At<k+m)→s.length≤m
 |[],_,_,_,_=>Nat.zero_le _
 |x::s,k,m,ha,h=>by
  unfold Vo at ha
  rw[List.pairwise_cons]at ha
  have hx:=h x (by simp);obtain⟨m,rfl⟩:∃q,m=q+1:=⟨m - 1,by omega⟩
  have:=RF (s:=s) (k:=x.At+1) (m:=m) ha.2 fun y hy=>by have:=ha.1 y hy;have:=h y (by simp[hy]);omega
  simp;omega
end
end Go.Ab
namespace Go.Ab
open Classical
noncomputable section
def rowP (l:List B5)(s:List PR)(b v:Int):List B5:=s.filterMap fun x=>if x.At<b∧x.Var=v then l[x.At.toNat]? else none
def XP (l:List B5)(s:List PR)(b:Int):Id:=⟨(List.range 16).map fun(v:Nat)=>rowP l s b (v:Int)⟩
def WfS (l:List B5)(s:List PR):Prop:=∀x∈s,(0≤x.Var∧x.Var<16)∧(0≤x.At∧x.At<l.length)
end
end Go.Ab
namespace Go.Ab
open Classical
noncomputable section
def Xb (l:List B5)(i:Int):Int:=match l[i.toNat]? with|some e=>e.Time|none=>0
def YY (l:List B5)(p:A1)(b s:List PR)(i:Nat):Bool:=match l[i]? with|some e=>decide (e.Typ=p.Typ)&&(!Ww s i)&&Pw (XP l (mrg b s) i) p.Var e p.cK|none=>false
def XX (l:List B5)(p:A1)(b s:List PR):Bool:= !((List.range l.length).any fun i=>decide (Yp s<(i:Int))&&decide ((i:Int)<Gr s)&&YY l p b s i)
def Ut (l:List B5)(p:A1)(b s:List PR):Bool:=
 if p.Op=6 then decide (ar .sub .i64 (Xb l (Gr s)) (Xb l (Yp s))≤p.Span)else if p.Op=7 then Pw (XP l (mrg b s) l.length) (-1) ⟨0,0,0,0,[]⟩ p.cK else XX l p b s
structure Gd (l:List B5) (s:List PR):Prop where
 wf:WfS l s
 asc:Vo s
theorem Gd.len {l:List B5}{s:List PR}(h:Gd l s):s.length≤l.length:=RF (k:=0) h.asc fun x hx=>by have:=(h.wf x hx).2;omega
theorem Gd.nil (l:List B5):Gd l []:=⟨fun _ h=>absurd h List.not_mem_nil,List.Pairwise.nil⟩
theorem Gd.mrg {l:List B5}{a b:List PR}(ha:Gd l a)(hb:Gd l b)(h:Jm a b):Gd l (mrg a b):=⟨fun x hx=>(Co.1 hx).elim (ha.wf x) (hb.wf x),MS _ (Nat.le_refl _) ha.asc hb.asc h⟩
theorem Gd.lst {l:List B5}{s:List PR}(h:Gd l s)(hn:s≠[]):0≤Gr s∧Gr s<l.length:=by
 obtain⟨x,_,hx,e⟩:=Iv hn;rw[e];exact(h.wf x hx).2
theorem Gd.hd {l:List B5} {s:List PR} (h:Gd l s) (hn:s≠[]):0≤Yp s∧Yp s<l.length∧Yp s≤Gr s∧Ww s (Yp s)=true:=by
 cases s with
 |nil=>exact absurd rfl hn
 |cons x s=>
  have:=(h.wf x (by simp)).2;exact⟨this.1,this.2,KZ h.asc x (by simp),Wv.2 ⟨x,by simp,rfl⟩⟩
end
end Go.Ab
namespace Go.Ab
open Classical
noncomputable section
def Xc (l:List B5)(p:A1)(b:List PR)(i:Nat):Bool:=match l[i]? with|some e=>decide (e.Typ=p.Typ)&&Pw (XP l b i) p.Var e p.cK|none=>false
end
end Go.Ab
namespace Go.Ab
open Classical
noncomputable section
structure WfN (y:A1):Prop where
 op:0≤y.Op∧y.Op≤7
 var:y.Op=0→0≤y.Var∧y.Var<16
 a0:y.Op=0→y.cJ=[]
 a1:1≤y.Op→y.Op≤3→y.cJ≠[]
 a2:4≤y.Op→∃q,y.cJ=[q]
 cond:y.cK.bulk≤16777216
def RJ (p:A1):Prop:=∀y∈p.pre,WfN y
theorem V1 {y : A1}:∀{l:List A1},y∈A1.pres l↔∃a∈l,y∈a.pre
 |[]=>by simp[A1.pres]
 | a :: l => by simp only[A1.pres,List.mem_append,V1 (l:=l),List.mem_cons];constructor
                ·rintro(h|⟨b,h1,h2⟩)
                 ·exact⟨a,.inl rfl,h⟩
                 exact⟨b,.inr h1,h2⟩
                rintro⟨b,rfl|h1,h2⟩
                ·exact .inl h2
                exact .inr ⟨b,h1,h2⟩
theorem RJ.self {p:A1}(h:RJ p):WfN p:=h p (HD p)
theorem RJ.arg {p q:A1}(h:RJ p)(hq:q∈p.cJ):RJ q:=fun y hy=>h y (by rw[A1.pre_eq];exact List.mem_cons_of_mem _ (V1.2 ⟨q,hq,hy⟩))
theorem RJ.sub {p:A1}{r:List A1}(h:RJ p)(h1:1≤p.Op)(h3:p.Op≤3)(hr:∀q∈r,q∈p.cJ)(hn:r≠[]):RJ {p with cJ:=r}:=by
 intro y hy
 rw[A1.pre_eq]at hy
 rcases List.mem_cons.1 hy with rfl|hy
 ·exact⟨h.self.op,fun e=>by have:p.Op=0:=e;omega,fun e=>by have:p.Op=0:=e;omega,fun _ _=>hn,fun e=>by have:4≤p.Op:=e;omega,h.self.cond⟩
 obtain⟨q,hq,hy⟩:=V1.1 hy;exact h.arg (hr q hq) y hy
inductive Sm (l:List B5):A1→List PR→Int→List PR→Prop
 |ev {p:A1} {b:List PR} {f:Int} {j:Nat}:p.Op=0→f≤j→j<l.length→Xc l p b j=true→Sm l p b f [⟨p.Var,j⟩]
 |seq1 {p q:A1} {b:List PR} {f:Int} {s:List PR}:p.Op=1→p.cJ=[q]→Sm l q b f s→Sm l p b f s
 |seq {p q q':A1} {r:List A1} {b:List PR} {f:Int} {s t:List PR}:p.Op=1→p.cJ=q::q'::r→Sm l q b f s→Sm l {p with cJ:=q'::r} (mrg b s) (Gr s+1) t→Sm l p b f (mrg s t)
 |alt {p q:A1} {b:List PR} {f:Int} {s:List PR}:p.Op=2→q∈p.cJ→Sm l q b f s→Sm l p b f s
 |all1 {p q:A1} {b:List PR} {f:Int} {s:List PR}:p.Op=3→p.cJ=[q]→Sm l q b f s→Sm l p b f s
 |all {p q:A1} {r:List A1} {b:List PR} {f:Int} {s t:List PR}:p.Op=3→p.cJ=r++[q]→r≠[]→Sm l {p with cJ:=r} b f s→Sm l q b f t→Jm s t→Sm l p b f (mrg s t)
 |plus1 {p q:A1} {b:List PR} {f:Int} {s:List PR}:p.Op=4→p.cJ=[q]→Sm l q b f s→Sm l p b f s
 |plus {p q:A1} {b:List PR} {f:Int} {s t:List PR}:p.Op=4→p.cJ=[q]→Sm l q b f s→Sm l p (mrg b s) (Gr s+1) t→Sm l p b f (mrg s t)
 |some {p q:A1} {b:List PR} {f:Int} {s:List PR}:5≤p.Op→p.Op≤7→p.cJ=[q]→Sm l q b f s→Ut l p b s=true→Sm l p b f s
theorem Sm.i0 {l:List B5} {p:A1} {b:List PR} {f:Int} {s:List PR} (h0:p.Op=0):Sm l p b f s↔∃j:Nat,f≤j∧j<l.length∧Xc l p b j=true∧s=[⟨p.Var,j⟩]:=by
 constructor
 ·intro h
  cases h with
  |ev e0 e1 e2 e3=>exact⟨_,e1,e2,e3,rfl⟩
  |_=>omega
 rintro⟨j,e1,e2,e3,rfl⟩;exact .ev h0 e1 e2 e3
theorem Sm.i1 {l:List B5} {p q:A1} {b:List PR} {f:Int} {s:List PR} (h0:p.Op=1) (ha:p.cJ=[q]):Sm l p b f s↔Sm l q b f s:=by
 constructor
 ·intro h
  cases h with
  |seq1 e0 ea hs=>rw[ha]at ea;cases ea;exact hs
  |seq e0 ea hs ht=>rw[ha]at ea;cases ea
  |_=>omega
 exact .seq1 h0 ha
theorem Sm.i1c {l:List B5} {p q q':A1} {r:List A1} {b:List PR} {f:Int} {s:List PR} (h0:p.Op=1) (ha:p.cJ=q::q'::r):Sm l p b f s↔∃u t,Sm l q b f u∧Sm l {p with cJ:=q'::r} (mrg b u) (Gr u+1) t∧s=mrg u t:=by
 constructor
 ·intro h
  cases h with
  |seq1 e0 ea hs=>rw[ha]at ea;cases ea
  |seq e0 ea hs ht=>rw[ha]at ea;cases ea;exact⟨_,_,hs,ht,rfl⟩
  |_=>omega
 rintro⟨u,t,hs,ht,rfl⟩;exact .seq h0 ha hs ht
theorem Sm.i2 {l:List B5} {p:A1} {b:List PR} {f:Int} {s:List PR} (h0:p.Op=2):Sm l p b f s↔∃q∈p.cJ,Sm l q b f s:=by
 constructor
 ·intro h
  cases h with
  |alt e0 ea hs=>exact⟨_,ea,hs⟩
  |_=>omega
 rintro⟨q,ha,hs⟩;exact .alt h0 ha hs
theorem Sm.i3 {l:List B5} {p q:A1} {b:List PR} {f:Int} {s:List PR} (h0:p.Op=3) (ha:p.cJ=[q]):Sm l p b f s↔Sm l q b f s:=by
 constructor
 ·intro h
  cases h with
  |all1 e0 ea hs=>rw[ha]at ea;cases ea;exact hs
  |all e0 ea en hs ht hd=>
   rw[ha]at ea
   exact absurd (List.append_inj_left' (s₁:=[]) ea rfl).symm en
  |_=>omega
 exact .all1 h0 ha
theorem Sm.i3c {l:List B5} {p q:A1} {r:List A1} {b:List PR} {f:Int} {s:List PR} (h0:p.Op=3) (ha:p.cJ=r++[q]) (hr:r≠[]):Sm l p b f s↔∃u t,Sm l {p with cJ:=r} b f u∧Sm l q b f t∧Jm u t∧s=mrg u t:=by
 constructor
 ·intro h
  cases h with
  |all1 e0 ea hs=>
   rw[ha]at ea
   exact absurd (List.append_inj_left' (s₂:=[]) ea rfl) hr
  |all e0 ea en hs ht hd=>
   rw[ha]at ea
   have e1:=List.append_inj_left' ea rfl;have e2:=List.append_inj_right' ea rfl;cases e1;cases e2;exact⟨_,_,hs,ht,hd,rfl⟩
  |_=>omega
 rintro⟨u,t,hs,ht,hd,rfl⟩;exact .all h0 ha hr hs ht hd
theorem Sm.i4 {l:List B5} {p q:A1} {b:List PR} {f:Int} {s:List PR} (h0:p.Op=4) (ha:p.cJ=[q]):Sm l p b f s↔Sm l q b f s∨∃u t,Sm l q b f u∧Sm l p (mrg b u) (Gr u+1) t∧s=mrg u t:=by
 constructor
 ·intro h
  cases h with
  |plus1 e0 ea hs=>rw[ha]at ea;cases ea;exact .inl hs
  |plus e0 ea hs ht=>rw[ha]at ea;cases ea;exact .inr ⟨_,_,hs,ht,rfl⟩
  |_=>omega
 rintro(hs|⟨u,t,hs,ht,rfl⟩)
 ·exact .plus1 h0 ha hs
 exact .plus h0 ha hs ht
theorem Sm.i5 {l:List B5} {p q:A1} {b:List PR} {f:Int} {s:List PR} (h0:5≤p.Op) (h1:p.Op≤7) (ha:p.cJ=[q]):Sm l p b f s↔Sm l q b f s∧Ut l p b s=true:=by
 constructor
 ·intro h
  cases h with
  |some e0 e1 ea hs hk=>rw[ha]at ea;cases ea;exact⟨hs,hk⟩
  |_=>omega
 rintro⟨hs,hk⟩;exact .some h0 h1 ha hs hk
structure Zd (l:List B5) (b:List PR) (f:Int):Prop where
 gd:Gd l b
 lt:∀x∈b,x.At<f
 f0:0≤f
 f1:f≤l.length
structure Vt (l:List B5) (f:Int) (s:List PR):Prop where
 gd:Gd l s
 ge:∀x∈s,f≤x.At
 ne:s≠[]
theorem Zd.apart {l:List B5}{b s:List PR}{f:Int}(h:Zd l b f)(r:Vt l f s):Jm b s:=fun x hx y hy=>by have:=h.lt x hx;have:=r.ge y hy;omega
theorem Zd.next {l:List B5}{b s:List PR}{f:Int}(h:Zd l b f)(r:Vt l f s):Zd l (mrg b s) (Gr s+1):=by
 have hl:=r.gd.lst r.ne;refine⟨h.gd.mrg r.gd (h.apart r),fun x hx=>?_,by omega,by omega⟩
 rcases Co.1 hx with hx|hx
 ·obtain⟨y,_,hy,e⟩:=Iv r.ne;have:=h.lt x hx;have:=r.ge y hy;omega
 have:=KZ r.gd.asc x hx;omega
theorem Vt.seq {l:List B5} {s t:List PR} {f:Int} (r:Vt l f s) (q:Vt l (Gr s+1) t):Vt l f (mrg s t)∧Jm s t:=by
 have ha:Jm s t:=fun x hx y hy=>by have:=KZ r.gd.asc x hx;have:=q.ge y hy;omega
 refine⟨⟨r.gd.mrg q.gd ha,fun x hx=>?_,fun e=>?_⟩,ha⟩
 ·rcases Co.1 hx with hx|hx
  ·exact r.ge x hx
  obtain⟨y,_,hy,e⟩:=Iv r.ne;have:=r.ge y hy;have:=q.ge x hx;omega
 have h1:=congrArg List.length e
 rw[Ri,List.length_nil]at h1
 have:=List.length_pos_iff.2 r.ne;omega
theorem Vt.all {l:List B5}{s t:List PR}{f:Int}(r:Vt l f s)(q:Vt l f t)(ha:Jm s t):Vt l f (mrg s t):=by
 refine⟨r.gd.mrg q.gd ha,fun x hx=>(Co.1 hx).elim (r.ge x) (q.ge x),fun e=>?_⟩;have h1:=congrArg List.length e
 rw[Ri,List.length_nil]at h1
 have:=List.length_pos_iff.2 r.ne;omega
def Vs (p:A1)(v:Int):Prop:=∃y∈p.pre,y.Op=0∧y.Var=v
theorem Vs.arg {p q:A1}{v:Int}(hq:q∈p.cJ)(h:Vs q v):Vs p v:=by
 obtain⟨y,hy,h⟩:=h;exact⟨y,by rw[A1.pre_eq];exact List.mem_cons_of_mem _ (V1.2 ⟨q,hq,hy⟩),h⟩
theorem Vs.sub {p:A1}{r:List A1}{v:Int}(h0:p.Op≠0)(hr:∀q∈r,q∈p.cJ)(h:Vs {p with cJ:=r} v):Vs p v:=by
 obtain⟨y,hy,h1,h2⟩:=h
 rw[A1.pre_eq]at hy
 rcases List.mem_cons.1 hy with rfl|hy
 ·exact absurd h1 h0
 obtain⟨q,hq,hy⟩:=V1.1 hy;exact Vs.arg (hr q hq) ⟨y,hy,h1,h2⟩
theorem Sm.vars {l:List B5} {p:A1} {b:List PR} {f:Int} {s:List PR} (h:Sm l p b f s):∀x∈s,Vs p x.Var:=by
 induction h with
 |@ev p b f j h0 hf hj ht=>intro x hx;rw[List.mem_singleton.1 hx];exact⟨p,HD p,h0,rfl⟩
 |seq1 h0 ha _ ih=>intro x hx;exact Vs.arg (by rw[ha];simp) (ih x hx)
 |@seq p q q' r b f s t h0 ha _ _ ih1 ih2=>
  intro x hx
  rcases Co.1 hx with hx|hx
  ·exact Vs.arg (by rw[ha];simp) (ih1 x hx)
  exact Vs.sub (by omega) (fun x hx=>by rw[ha];exact List.mem_cons_of_mem _ hx) (ih2 x hx)
 |alt h0 ha _ ih=>intro x hx;exact Vs.arg ha (ih x hx)
 |all1 h0 ha _ ih=>intro x hx;exact Vs.arg (by rw[ha];simp) (ih x hx)
 |@all p q r b f s t h0 ha hn _ _ hd ih1 ih2=>
  intro x hx
  rcases Co.1 hx with hx|hx
  ·exact Vs.sub (by omega) (fun x hx=>by rw[ha];simp[hx]) (ih1 x hx)
  exact Vs.arg (by rw[ha];simp) (ih2 x hx)
 |plus1 h0 ha _ ih=>intro x hx;exact Vs.arg (by rw[ha];simp) (ih x hx)
 |@plus p q b f s t h0 ha _ _ ih1 ih2=>
  intro x hx
  rcases Co.1 hx with hx|hx
  ·exact Vs.arg (by rw[ha];simp) (ih1 x hx)
  exact ih2 x hx
 |some h0 h1 ha _ _ ih=>intro x hx;exact Vs.arg (by rw[ha];simp) (ih x hx)
end
end Go.Ab
namespace Go.Ab
open Classical
noncomputable section
def HR (p:A1):Nat:=p.pre.countP fun y=>decide (y.Op=0)
def DI (p:A1):Prop:=∀y∈p.pre,y.Op≠4
theorem FC (p:A1):HR p=(if p.Op=0 then 1 else 0)+(A1.pres p.cJ).countP fun y=>decide (y.Op=0):=by
 unfold HR;rw[A1.pre_eq,List.countP_cons]
 by_cases h:p.Op=0<;>simp[h]<;>omega
theorem JF (p:A1)(r:List A1):HR {p with cJ:=r}=(if p.Op=0 then 1 else 0)+(A1.pres r).countP fun y=>decide (y.Op=0):=FC _
theorem Je {q:A1}:∀{l:List A1},q∈l→HR q≤(A1.pres l).countP fun y=>decide (y.Op=0)
 |a::l,h=>by
  simp only[A1.pres,countP_append]
  rcases List.mem_cons.1 h with rfl|h
  ·exact Nat.le_add_right _ _
  have:=Je h;unfold HR at *;omega
theorem Gg {p q:A1}(h:q∈p.cJ):HR q≤HR p:=by rw[FC p];have:=Je h;omega
theorem DI.arg {p q:A1}(h:DI p)(hq:q∈p.cJ):DI q:=fun y hy=>h y (by rw[A1.pre_eq];exact List.mem_cons_of_mem _ (V1.2 ⟨q,hq,hy⟩))
theorem DI.sub {p:A1}{r:List A1}(h:DI p)(hr:∀q∈r,q∈p.cJ):DI {p with cJ:=r}:=by
 intro y hy
 rw[A1.pre_eq]at hy
 rcases List.mem_cons.1 hy with rfl|hy
 ·exact h p (HD p)
 obtain⟨q,hq,hy⟩:=V1.1 hy;exact h.arg (hr q hq) y hy
def Vr (n:Nat)(p:A1):Prop:=(HR p+1) ^ n≤1500∨(DI p∧2≤n∧n ^ HR p≤1500)
theorem Vr.mono {n:Nat}{p q:A1}(h:Vr n p)(h1:HR q≤HR p)(h2:DI p→DI q):Vr n q:=by
 rcases h with h|⟨a,b,c⟩
 ·exact .inl (Nat.le_trans (Nat.pow_le_pow_left (by omega) n) h)
 exact .inr ⟨h2 a,b,Nat.le_trans (Nat.pow_le_pow_right (by omega) h1) c⟩
theorem Vr.arg {n:Nat}{p q:A1}(h:Vr n p)(hq:q∈p.cJ):Vr n q:=h.mono (Gg hq) fun k=>k.arg hq
theorem Vr.tail {n:Nat}{p q:A1}{r:List A1}(h:Vr n p)(ha:p.cJ=q::r):Vr n {p with cJ:=r}:=by
 refine h.mono ?_ fun k=>k.sub fun x hx=>by rw[ha];exact List.mem_cons_of_mem _ hx
 rw[JF,FC,ha];simp only[A1.pres,countP_append];omega
theorem Fk :∀(r m:List A1),A1.pres (r++m)=A1.pres r++A1.pres m
 |[],m=>by simp[A1.pres]
 |a::r,m=>by simp[A1.pres,Fk r m]
def FE (V:List Int):Nat→Int→List (List PR)
 |0,_=>[[]]
 |m+1,k=>FE V m (k+1)++V.flatMap fun v=>(FE V m (k+1)).map fun s=>⟨v,k⟩::s
theorem IB (V:List Int):∀(m:Nat) (k:Int),(FE V m k).length=(V.length+1) ^ m
 |0,_=>rfl
 | m+1,k=>by
  have ih:=IB V m (k+1)
  have h:(V.flatMap fun v=>(FE V m (k+1)).map fun s=>(⟨v,k⟩:PR)::s).length=V.length*(V.length+1) ^ m:=by
   clear ih;generalize hE:FE V m (k+1)=E
   have hl:E.length=(V.length+1) ^ m:=by rw[←hE];exact IB V m (k+1)
   rw[←hl];clear hl hE
   induction V with
   |nil=>simp
   |cons v V ih=>rw[List.flatMap_cons,List.length_append,ih,List.length_map,List.length_cons,Nat.succ_mul];omega
  rw[FE,List.length_append,ih,h,Nat.pow_succ];rw[Nat.mul_comm _ (V.length+1),Nat.succ_mul];omega
theorem Gi (V:List Int):∀(m:Nat) (k:Int) (s:List PR),Vo s→(∀x∈s,k≤x.At∧x.At<k+m)→(∀x∈s,x.Var∈V)→s∈FE V m k
 |0,k,[],_,_,_=>by simp[FE]
 |0,k,x::s,_,h,_=>by have:=h x (by simp);omega
 |m+1,k,[],ha,_,_=>by
  rw[FE];exact List.mem_append_left _ (Gi V m (k+1) [] ha (by simp) (by simp))
 | m+1,k,x::s,ha,h,hv=>by
  rw[FE];have ha':=ha
  unfold Vo at ha
  rw[List.pairwise_cons]at ha
  have hx:=h x (by simp)
  by_cases e:x.At=k
  ·refine List.mem_append_right _ (List.mem_flatMap.2 ⟨x.Var,hv x (by simp),List.mem_map.2 ⟨s,Gi V m (k+1) s ha.2 (fun y hy=>?_) (fun y hy=>hv y (by simp[hy])),?_⟩⟩)
   ·have:=ha.1 y hy;have:=h y (by simp[hy]);omega
   rw[←e]
  refine List.mem_append_left _ (Gi V m (k+1) (x::s) ha' (fun y hy=>?_) hv);have:=h y hy
  rcases List.mem_cons.1 hy with rfl|hy
  ·omega
  have:=ha.1 y hy;omega
def QQ (p:A1):List Int:=(p.pre.filter fun y=>decide (y.Op=0)).map (·.Var)
theorem RO (p:A1):(QQ p).length=HR p:=by unfold QQ HR;rw[List.length_map,List.countP_eq_length_filter]
theorem Vs.mem {p:A1}{v:Int}(h:Vs p v):v∈QQ p:=by
 obtain⟨y,hy,h0,h1⟩:=h;exact List.mem_map.2 ⟨y,List.mem_filter.2 ⟨hy,by simpa using h0⟩,h1⟩
theorem YW {l:List B5} {p:A1} {L:List (List PR)} (hn:L.Nodup) (h:∀s∈L,Gd l s∧∀x∈s,Vs p x.Var):L.length≤(HR p+1) ^ l.length:=by
 have:=List.Nodup.length_le_of_subset hn (l₂:=FE (QQ p) l.length 0) fun s hs=>by
  obtain⟨g,hv⟩:=h s hs;exact Gi _ _ _ s g.asc (fun x hx=>by have:=(g.wf x hx).2;omega) fun x hx=>(hv x hx).mem
 rwa[IB,RO]at this
theorem QX {α β:Type}(A B:List α)(f:α→α→β):(A.flatMap fun a=>B.map (f a)).length=A.length*B.length:=by
 induction A with
 |nil=>simp
 |cons a A ih=>rw[List.flatMap_cons,List.length_append,ih,List.length_map,List.length_cons,Nat.succ_mul];omega
theorem QZ :∀(n:Nat) (p:A1),p.pre.length≤n→RJ p→1≤HR p
 |0,p,h,_=>by rw[A1.pre_eq]at h;simp at h
 | n+1,p,h,hw=>by
  by_cases h0:p.Op=0
  ·rw[FC,if_pos h0];omega
  have hne:∃q,q∈p.cJ:=by
   by_cases h3:p.Op≤3
   ·exact List.exists_mem_of_ne_nil _ (hw.self.a1 (by have:=hw.self.op;omega) h3)
   obtain⟨q,hq⟩:=hw.self.a2 (by omega);exact⟨q,by rw[hq];simp⟩
  obtain⟨q,hq⟩:=hne;have:=QZ n q (by have:=Ek hq;omega) (hw.arg hq);have:=Gg hq;omega
theorem Pg {x y:Nat} (hx:2≤x) (hy:2≤y):x+y≤x*y:=by
 obtain⟨a,rfl⟩:∃a,x=a+2:=⟨x - 2,by omega⟩;obtain⟨b,rfl⟩:∃b,y=b+2:=⟨y - 2,by omega⟩
 have:(a+2)*(b+2)=a*b+2*a+2*b+4:=by
  rw[Nat.mul_add,Nat.add_mul,Nat.add_mul];omega
 omega
theorem QY {p q:A1}{r:List A1}(ha:p.cJ=q::r):({p with cJ:=r}:A1).pre.length<p.pre.length:=by
 have h1:=A1.pre_eq ({p with cJ:=r}:A1);have h2:=A1.pre_eq p;rw[h1,h2,ha];have:=A1.pre_eq q;simp only[A1.pres,List.length_cons,List.length_append,this];omega
theorem TK {p q:A1}{r:List A1}(ha:p.cJ=r++[q]):({p with cJ:=r}:A1).pre.length<p.pre.length:=by
 have h1:=A1.pre_eq ({p with cJ:=r}:A1);have h2:=A1.pre_eq p;rw[h1,h2,ha,Fk];have:=A1.pre_eq q;simp only[A1.pres,List.length_cons,List.length_append,this];omega
theorem GE {l:List B5} (hl:2≤l.length):∀(n:Nat) (p:A1),p.pre.length≤n→RJ p→DI p→∃C:List (List PR),C.length≤l.length ^ HR p∧∀b f s,Sm l p b f s→s∈C
 |0,p,h,_,_=>by rw[A1.pre_eq]at h;simp at h
 | n +1,p,h,hw,hp=>by
  have hop:=hw.self.op;have hnp:=hp p (HD p)
  have hpow:∀q:A1,RJ q→2≤l.length ^ HR q:=fun q hq=>by
   have h1:=QZ _ q (Nat.le_refl _) hq;have:=Nat.pow_le_pow_right (n:=l.length) (by omega) h1
   rw[Nat.pow_one]at this;omega
  by_cases h0:p.Op=0
  ·refine⟨(List.range l.length).map fun(j:Nat)=>[⟨p.Var,(j:Int)⟩],?_,fun b f s hs=>?_⟩
   ·rw[FC,if_pos h0,hw.self.a0 h0,List.length_map,List.length_range];simp[A1.pres]
   obtain⟨j,_,hj,_,rfl⟩:=(Sm.i0 h0).1 hs;exact List.mem_map.2 ⟨j,List.mem_range.2 hj,rfl⟩
  by_cases h1:p.Op=1
  ·match ha:p.cJ with
   |[]=>exact absurd ha (hw.self.a1 (by omega) (by omega))
   |[q]=>
    have hq:q∈p.cJ:=by rw[ha];simp
    obtain⟨C,h2,h3⟩:=GE hl n q (by have:=Ek hq;omega) (hw.arg hq) (hp.arg hq);refine⟨C,Nat.le_trans h2 (Nat.pow_le_pow_right (by omega) (Gg hq)),fun b f s hs=>?_⟩;exact h3 _ _ _ ((Sm.i1 h1 ha).1 hs)
   | q::q'::r=>
    have hq:q∈p.cJ:=by rw[ha];simp
    obtain⟨C,h2,h3⟩:=GE hl n q (by have:=Ek hq;omega) (hw.arg hq) (hp.arg hq);obtain⟨D,h4,h5⟩:=GE hl n {p with cJ:=q'::r} (by have:=QY ha;omega) (hw.sub (by omega) (by omega) (fun x hx=>by rw[ha];exact List.mem_cons_of_mem _ hx) (by simp)) (hp.sub fun x hx=>by rw[ha];exact List.mem_cons_of_mem _ hx);refine⟨C.flatMap fun s=>D.map (mrg s),?_,fun b f s hs=>?_⟩
    ·rw[QX,show HR p=HR q+HR {p with cJ:=q'::r}from ?_,Nat.pow_add]
     ·exact Nat.mul_le_mul h2 h4
     rw[JF,FC p,ha,if_neg h0];rw[A1.pres,countP_append];unfold HR;omega
    obtain⟨u,t,hu,ht,rfl⟩:=(Sm.i1c h1 ha).1 hs;exact List.mem_flatMap.2 ⟨_,h3 _ _ _ hu,List.mem_map.2 ⟨_,h5 _ _ _ ht,rfl⟩⟩
  by_cases h2':p.Op=2
  ·match ha:p.cJ with
   |[]=>exact absurd ha (hw.self.a1 (by omega) (by omega))
   |[q]=>
    have hq:q∈p.cJ:=by rw[ha];simp
    obtain⟨C,h2,h3⟩:=GE hl n q (by have:=Ek hq;omega) (hw.arg hq) (hp.arg hq);refine⟨C,Nat.le_trans h2 (Nat.pow_le_pow_right (by omega) (Gg hq)),fun b f s hs=>?_⟩;obtain⟨q',ha',hs⟩:=(Sm.i2 h2').1 hs
    rw[ha]at ha'
    rw[List.mem_singleton.1 ha']at hs
    exact h3 _ _ _ hs
   | q::q'::r=>
    have hq:q∈p.cJ:=by rw[ha];simp
    have hws:RJ {p with cJ:=q'::r}:=hw.sub (by omega) (by omega) (fun x hx=>by rw[ha];exact List.mem_cons_of_mem _ hx) (by simp);obtain⟨C,h2,h3⟩:=GE hl n q (by have:=Ek hq;omega) (hw.arg hq) (hp.arg hq);obtain⟨D,h4,h5⟩:=GE hl n {p with cJ:=q'::r} (by have:=QY ha;omega) hws (hp.sub fun x hx=>by rw[ha];exact List.mem_cons_of_mem _ hx);refine⟨C++D,?_,fun b f s hs=>?_⟩
    ·rw[List.length_append,show HR p=HR q+HR {p with cJ:=q'::r}from ?_,Nat.pow_add]
     ·have e1:=hpow q (hw.arg hq);have e2:=hpow _ hws;have:=Pg e1 e2;omega
     rw[JF,FC p,ha,if_neg h0];rw[A1.pres,countP_append];unfold HR;omega
    obtain⟨x,ha',hs⟩:=(Sm.i2 h2').1 hs
    rw[ha]at ha'
    rcases List.mem_cons.1 ha' with e|hm
    ·rw[e]at hs;exact List.mem_append_left _ (h3 _ _ _ hs)
    exact List.mem_append_right _ (h5 _ _ _ (Sm.alt (p:={p with cJ:=q'::r}) h2' hm hs))
  by_cases h3':p.Op=3
  ·rcases List.eq_nil_or_concat p.cJ with ha|⟨r,q,ha⟩
   ·exact absurd ha (hw.self.a1 (by omega) (by omega))
   rw[List.concat_eq_append]at ha
   have hq:q∈p.cJ:=by rw[ha];simp
   obtain⟨C,h2,h3⟩:=GE hl n q (by have:=Ek hq;omega) (hw.arg hq) (hp.arg hq)
   by_cases hr:r=[]
   ·subst hr;refine⟨C,Nat.le_trans h2 (Nat.pow_le_pow_right (by omega) (Gg hq)),fun b f s hs=>?_⟩;exact h3 _ _ _ ((Sm.i3 h3' ha).1 hs)
   have hws:RJ {p with cJ:=r}:=hw.sub (by omega) (by omega) (fun x hx=>by rw[ha];simp[hx]) hr;obtain⟨D,h4,h5⟩:=GE hl n {p with cJ:=r} (by have:=TK ha;omega) hws (hp.sub fun x hx=>by rw[ha];simp[hx]);refine⟨D.flatMap fun s=>C.map (mrg s),?_,fun b f s hs=>?_⟩
   ·rw[QX,show HR p=HR {p with cJ:=r}+HR q from ?_,Nat.pow_add]
    ·exact Nat.mul_le_mul h4 h2
    rw[JF,FC p,ha,if_neg h0,Fk,countP_append];simp only[A1.pres,List.append_nil];unfold HR;omega
   obtain⟨u,t,hu,ht,_,rfl⟩:=(Sm.i3c h3' ha hr).1 hs;exact List.mem_flatMap.2 ⟨_,h5 _ _ _ hu,List.mem_map.2 ⟨_,h3 _ _ _ ht,rfl⟩⟩
  obtain⟨q,ha⟩:=hw.self.a2 (by omega)
  have hq:q∈p.cJ:=by rw[ha];simp
  obtain⟨C,h2,h3⟩:=GE hl n q (by have:=Ek hq;omega) (hw.arg hq) (hp.arg hq);refine⟨C,Nat.le_trans h2 (Nat.pow_le_pow_right (by omega) (Gg hq)),fun b f s hs=>?_⟩;exact h3 _ _ _ ((Sm.i5 (by omega) hop.2 ha).1 hs).1
theorem card {l:List B5} {p:A1} (hw:RJ p) (hs:Vr l.length p) {L:List (List PR)} (hn:L.Nodup) (h:∀s∈L,Gd l s∧∃b f,Sm l p b f s):L.length≤1500:=by
 rcases hs with hs|⟨h1,h2,h3⟩
 ·refine Nat.le_trans (YW hn fun s m=>?_) hs;obtain⟨g,b,f,hm⟩:=h s m;exact⟨g,hm.vars⟩
 obtain⟨C,h4,h5⟩:=GE h2 _ p (Nat.le_refl _) hw h1
 have:=List.Nodup.length_le_of_subset hn (l₂:=C) fun s m=>by
  obtain⟨g,b,f,hm⟩:=h s m;exact h5 b f s hm
 omega
end
end Go.Ab
