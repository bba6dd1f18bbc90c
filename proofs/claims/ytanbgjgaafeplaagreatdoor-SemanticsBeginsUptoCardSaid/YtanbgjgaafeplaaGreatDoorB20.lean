/- GTG1 GTG2 GTX4 GTG4 GTC1 GTC2 GTC3 GTC4 -/
import Derived.Test.YtanbgjgaafeplaaGreatDoorB19
set_option linter.all false
open List (any_eq_false)
open Go.Ab.Ar (ar cmp)
namespace Go.Ab
open Classical
noncomputable section
structure Sd (l' l:List A4) (g:A4→A4) (u:Int→Int):Prop where
 mono:∀a b,u a<u b↔a<b
 nn:∀a,0≤u a↔0≤a
 at_:∀j:Nat,j<l'.length→∃i:Nat,u j=i∧l[i]? =(l'[j]?).map g
 typ:∀e,(g e).Typ=e.Typ
def WK (u:Int→Int)(x:PR):PR:=⟨x.Var,u x.At⟩
def Gu (u:Int→Int)(s:List PR):List PR:=s.map (WK u)
def RZ (l:List A4)(s:List PR):Prop:=∀x∈s,∃j:Nat,j<l.length∧x.At=j
def gE (g:A4→A4)(e:DK):DK:=⟨e.cZ.map fun r=>r.map g⟩
theorem Ru {α β:Type}{f g:α→Option β}:∀{l:List α},(∀x∈l,f x=g x)→l.filterMap f=l.filterMap g
 |[],_=>rfl
 |x::l,h=>by rw[List.filterMap_cons,List.filterMap_cons,h x (by simp),Ru fun y hy=>h y (by simp[hy])]
theorem Cj {u:Int→Int} (hm:∀a b,u a<u b↔a<b):∀(n:Nat) (a b:List PR),a.length+b.length≤n→mrg (Gu u a) (Gu u b)=Gu u (mrg a b)
 |_,[],b,_=>by show mrg [] (Gu u b)=_;rw[Hz,Hz]
 |_,x::a,[],_=>by show mrg (Gu u (x::a)) []=_;rw[Jd,Jd]
 |0,x::a,y::b,h=>by simp at h
 |n+1,x::a,y::b,h=>by
  simp only[List.length_cons]at h
  show mrg (WK u x::Gu u a) (WK u y::Gu u b)=_
  rw[Je,Je]
  by_cases hx:x.At<y.At
  ·rw[if_pos hx,if_pos (show(WK u x).At<(WK u y).At from(hm _ _).2 hx)];exact congrArg (WK u x:: ·) (Cj hm n a (y::b) (by simp;omega))
  rw[if_neg hx,if_neg (show¬(WK u x).At<(WK u y).At from fun h=>hx ((hm _ _).1 h))];exact congrArg (WK u y:: ·) (Cj hm n (x::a) b (by simp;omega))
theorem Yy {u:Int→Int}{s:List PR}(h:s≠[]):Sc (Gu u s)=u (Sc s):=by
 cases s with
 |nil=>exact absurd rfl h
 |cons x s=>rfl
theorem Pp {u:Int→Int}{s:List PR}(h:s≠[]):W0 (Gu u s)=u (W0 s):=by
 obtain⟨x,h1,_,h3⟩:=Y7 h;rw[h3];unfold W0 Gu;rw[List.getLast?_map,h1];rfl
theorem RZ.mrg {l:List A4}{a b:List PR}(ha:RZ l a)(hb:RZ l b):RZ l (mrg a b):=fun x hx=>(W6.1 hx).elim (ha x) (hb x)
theorem Sm.inl {l:List A4} {p:A1} {b:List PR} {f:Int} {s:List PR} (h:Sm l p b f s):s≠[]∧RZ l s:=by
 have ne:∀{s t:List PR},s≠[]→mrg s t≠[]:=fun{s t} hs e=>by
  have h1:=congrArg List.length e
  rw[Pl,List.length_nil]at h1
  have:=List.length_pos_iff.2 hs;omega
 induction h with
 |@ev p b f j h0 hf hj ht=>exact⟨by simp,fun x hx=>⟨j,hj,by rw[List.mem_singleton.1 hx]⟩⟩
 |seq1 _ _ _ ih=>exact ih
 |seq _ _ _ _ ih1 ih2=>exact⟨ne ih1.1,ih1.2.mrg ih2.2⟩
 |alt _ _ _ ih=>exact ih
 |all1 _ _ _ ih=>exact ih
 |all _ _ _ _ _ _ ih1 ih2=>exact⟨ne ih1.1,ih1.2.mrg ih2.2⟩
 |plus1 _ _ _ ih=>exact ih
 |plus _ _ _ _ ih1 ih2=>exact⟨ne ih1.1,ih1.2.mrg ih2.2⟩
 |some _ _ _ _ _ ih=>exact ih
namespace Sd
variable {l' l:List A4}{g:A4→A4}{u:Int→Int}(E:Sd l' l g u)
include E
theorem injU {a b:Int}(h:u a=u b):a=b:=by
 have h1:=E.mono a b;have h2:=E.mono b a;omega
theorem lt_lenU {j i:Nat}(hj:j<l'.length)(h:u j=i):i<l.length∧l[i]? =(l'[j]?).map g:=by
 obtain⟨i',h1,h2⟩:=E.at_ j hj
 have:i=i':=by omega
 subst this
 rw[List.getElem?_eq_getElem hj]at h2
 exact⟨(List.getElem?_eq_some_iff.1 h2).1,by rw[List.getElem?_eq_getElem hj];exact h2⟩
theorem rowP_us {s:List PR}(hs:RZ l' s){c c':Int}(hc:∀x∈s,(u x.At<c↔x.At<c'))(v:Int):JN l (Gu u s) c v=(JN l' s c' v).map g:=by
 unfold JN Gu;rw[List.filterMap_map,List.map_filterMap];refine Ru fun x hx=>?_;obtain⟨j,hj,e⟩:=hs x hx;have h1:=hc x hx;obtain⟨i,hi,hl⟩:=E.at_ j hj
 show(if u x.At<c∧x.Var=v then l[(u x.At).toNat]? else none)=_
 by_cases h:x.At<c'∧x.Var=v
 ·rw[if_pos h,if_pos ⟨h1.2 h.1,h.2⟩,e,hi];exact hl
 rw[if_neg h,if_neg fun k=>h ⟨h1.1 k.1,k.2⟩];rfl
theorem envP_us {s:List PR}(hs:RZ l' s){c c':Int}(hc:∀x∈s,(u x.At<c↔x.At<c')):Ha l (Gu u s) c=gE g (Ha l' s c'):=by
 unfold Ha gE;rw[List.map_map];exact congrArg DK.mk (List.map_congr_left fun v _=>E.rowP_us hs hc _)
theorem hasA_us (s:List PR)(i:Int):IC (Gu u s) (u i)=IC s i:=by
 unfold IC Gu;rw[List.any_map];refine congrArg (fun f=>List.any s f) (funext fun x=>?_);exact decide_eq_decide.2 ⟨fun h=>E.injU h,fun h=>congrArg u h⟩
end Sd
structure Cok (g:A4→A4) (c:A7):Prop where
 at_:∀env own ev,Bk (gE g env) own (g ev) c=Bk env own ev c
 no:∀env,Bk (gE g env) (-1) ⟨0,0,0,0,[]⟩ c=Bk env (-1) ⟨0,0,0,0,[]⟩ c
def Tok (l':List A4)(g:A4→A4):Prop:=∀x∈l',∀y∈l',ar .sub .i64 (g x).Time (g y).Time=ar .sub .i64 x.Time y.Time
def Cvx (l':List A4)(u:Int→Int):Prop:=∀a c i:Nat,a<l'.length→c<l'.length→u a<i→(i:Int)<u c→∃j:Nat,j<l'.length∧u j=i
theorem Oy {l:List A4} {p:A1} {b s:List PR}:II l p b s=true↔∀i:Nat,i<l.length→Sc s<(i:Int)→(i:Int)<W0 s→Gn l p b s i=false:=by
 unfold II;rw[Bool.not_eq_true',any_eq_false]
 constructor
 ·intro h i hi h1 h2;have:=h i (List.mem_range.2 hi)
  simpa[h1,h2]using this
 intro h i hi
 by_cases h1:Sc s<(i:Int)∧(i:Int)<W0 s
 ·simp[h i (List.mem_range.1 hi) h1.1 h1.2]
 simp only[Bool.and_eq_true,decide_eq_true_eq];exact fun h=>h1 h.1
namespace Sd
variable {l' l:List A4}{g:A4→A4}{u:Int→Int}(E:Sd l' l g u)
include E
theorem testE_us {p:A1}(hc:Cok g p.cS){b:List PR}(hb:RZ l' b){j i:Nat}(hj:j<l'.length)(hi:u j=i):testE l p (Gu u b) i=testE l' p b j:=by
 unfold testE;rw[(E.lt_lenU hj hi).2,List.getElem?_eq_getElem hj]
 show(decide ((g l'[j]).Typ=p.Typ)&&Bk (Ha l (Gu u b) i) p.Var (g l'[j]) p.cS)=(decide (l'[j].Typ=p.Typ)&&Bk (Ha l' b j) p.Var l'[j] p.cS)
 rw[E.typ,E.envP_us hb (c:=i) (c':=j) fun x _=>by rw[←hi];exact E.mono _ _,hc.at_]
theorem badAt_us {p:A1}(hc:Cok g p.cS){b s:List PR}(hb:RZ l' b)(hs:RZ l' s){j i:Nat}(hj:j<l'.length)(hi:u j=i):Gn l p (Gu u b) (Gu u s) i=Gn l' p b s j:=by
 unfold Gn;rw[(E.lt_lenU hj hi).2,List.getElem?_eq_getElem hj,Cj E.mono _ _ _ (Nat.le_refl _)]
 show(decide ((g l'[j]).Typ=p.Typ)&&(!IC (Gu u s) i)&&Bk (Ha l (Gu u (mrg b s)) i) p.Var (g l'[j]) p.cS)=(decide (l'[j].Typ=p.Typ)&&(!IC s j)&&Bk (Ha l' (mrg b s) j) p.Var l'[j] p.cS)
 rw[E.typ,E.envP_us (hb.mrg hs) (c:=i) (c':=j) fun x _=>by rw[←hi];exact E.mono _ _,hc.at_,←hi,E.hasA_us]
theorem timeA_us {j:Int}{n:Nat}(e:j=n)(h:n<l'.length):∃x∈l',Kk l (u j)=(g x).Time∧Kk l' j=x.Time:=by
 subst e;obtain⟨i,hi,hl⟩:=E.at_ n h;refine⟨l'[n],List.getElem_mem h,?_,?_⟩
 ·unfold Kk;rw[hi,Int.toNat_natCast,hl,List.getElem?_eq_getElem h];rfl
 unfold Kk;rw[Int.toNat_natCast,List.getElem?_eq_getElem h]
theorem endsU {s:List PR}(hs:RZ l' s)(hn:s≠[]):(∃j:Nat,j<l'.length∧Sc s=j)∧∃j:Nat,j<l'.length∧W0 s=j:=by
 obtain⟨x,_,h2,h3⟩:=Y7 hn;refine⟨?_,by rw[h3];exact hs x h2⟩
 cases s with
 |nil=>exact absurd rfl hn
 |cons y s=>exact hs y (by simp)
theorem keeps_us {p:A1} (hc:Cok g p.cS) (ht:Tok l' g) {b s:List PR} (hb:RZ l' b) (hs:RZ l' s) (hn:s≠[]) (h57:5≤p.Op∧p.Op≤7):
 (keepsA l p (Gu u b) (Gu u s)=true→keepsA l' p b s=true)∧((p.Op=5→Cvx l' u)→keepsA l' p b s=true→keepsA l p (Gu u b) (Gu u s)=true):=by
 obtain⟨⟨a,ha,ea⟩,⟨c,hc',ec⟩⟩:=E.endsU hs hn;unfold keepsA;rw[Yy hn,Pp hn]
 by_cases h6:p.Op=6
 ·rw[if_pos h6,if_pos h6];obtain⟨x,hx,x1,x2⟩:=E.timeA_us ea ha;obtain⟨y,hy,y1,y2⟩:=E.timeA_us ec hc';rw[x1,x2,y1,y2,ht y hy x hx];exact⟨id,fun _=>id⟩
 rw[if_neg h6,if_neg h6]
 by_cases h7:p.Op=7
 ·rw[if_pos h7,if_pos h7,Cj E.mono _ _ _ (Nat.le_refl _),E.envP_us (hb.mrg hs) (c:=l.length) (c':=l'.length) (fun x hx=>by
   obtain⟨j,hj,e⟩:=(hb.mrg hs) x hx;obtain⟨i,hi,_⟩:=E.at_ j hj;have:=(E.lt_lenU hj hi).1
   rw[e,hi];omega),hc.no]
  exact⟨id,fun _=>id⟩
 rw[if_neg h7,if_neg h7,Oy,Oy,Yy hn,Pp hn]
 constructor
 ·intro h j hj h1 h2;obtain⟨i,hi,_⟩:=E.at_ j hj;rw[←E.badAt_us hc hb hs hj hi];exact h i (E.lt_lenU hj hi).1 (by rw[←hi];exact(E.mono _ _).2 h1) (by rw[←hi];exact(E.mono _ _).2 h2)
 intro hv h i hi h1 h2;obtain⟨j,hj,e⟩:=hv (by omega) a c i ha hc' (by rw[←ea];exact h1) (by rw[←ec];exact h2);rw[E.badAt_us hc hb hs hj e];exact h j hj ((E.mono _ _).1 (by rw[e];exact h1)) ((E.mono _ _).1 (by rw[e];exact h2))
end Sd
theorem Lo {Q:A1→Prop}(hQ:∀y r,Q y→Q {y with cQ:=r}){p:A1}{r:List A1}(h:∀y∈p.pre,Q y)(hr:∀q∈r,q∈p.cQ):∀y∈({p with cQ:=r}:A1).pre,Q y:=by
 intro y hy
 rw[A1.pre_eq]at hy
 rcases List.mem_cons.1 hy with rfl|hy
 ·exact hQ p r (h p (Cd p))
 obtain⟨q,hq,hy⟩:=Q6.1 hy;exact h y (by rw[A1.pre_eq];exact List.mem_cons_of_mem _ (Q6.2 ⟨q,hr q hq,hy⟩))
theorem W9 {Q:A1→Prop}{p q:A1}(h:∀y∈p.pre,Q y)(hq:q∈p.cQ):∀y∈q.pre,Q y:=fun y hy=>h y (by rw[A1.pre_eq];exact List.mem_cons_of_mem _ (Q6.2 ⟨q,hq,hy⟩))
def Qn (g:A4→A4)(V:Prop)(y:A1):Prop:=Cok g y.cS∧(y.Op=5→V)
theorem Li {u:Int→Int}(hm:∀a b,u a<u b↔a<b){s:List PR}(hn:s≠[])(j:Int):W0 s+1≤j↔W0 (Gu u s)+1≤u j:=by
 rw[Pp hn];have:=hm (W0 s) j;omega
theorem Sd.up {l' l:List A4} {g:A4→A4} {u:Int→Int} (E:Sd l' l g u) (ht:Tok l' g) {p:A1} {b:List PR} {f:Int} {s:List PR} (h:Sm l' p b f s):
 (∀y∈p.pre,Qn g (Cvx l' u) y)→RZ l' b→∀f2:Int,(∀j:Int,f≤j↔f2≤u j)→Sm l p (Gu u b) f2 (Gu u s):=by
 have hQ:∀(y:A1) r,Qn g (Cvx l' u) y→Qn g (Cvx l' u) {y with cQ:=r}:=fun y r h=>h
 induction h with
 |@ev p b f j h0 hf hj htt=>
  intro hq hb f2 hF;obtain⟨i,hi,_⟩:=E.at_ j hj
  have e:Gu u [⟨p.Var,(j:Int)⟩]=[⟨p.Var,(i:Int)⟩]:=by simp[Gu,WK,hi]
  rw[e];exact .ev h0 (by rw[←hi];exact(hF j).1 hf) (E.lt_lenU hj hi).1 (by rw[E.testE_us (hq p (Cd p)).1 hb hj hi];exact htt)
 |seq1 h0 ha _ ih=>intro hq hb f2 hF;exact .seq1 h0 ha (ih (W9 hq (by rw[ha];simp)) hb f2 hF)
 |@seq p q q' r b f s t h0 ha hs _ ih1 ih2=>
  intro hq hb f2 hF;rw[←Cj E.mono _ _ _ (Nat.le_refl _)];refine .seq h0 ha (ih1 (W9 hq (by rw[ha];simp)) hb f2 hF) ?_;rw[Cj E.mono _ _ _ (Nat.le_refl _)];exact ih2 (Lo hQ hq fun x hx=>by rw[ha];exact List.mem_cons_of_mem _ hx) (hb.mrg hs.inl.2) _ (Li E.mono hs.inl.1)
 |alt h0 ha _ ih=>intro hq hb f2 hF;exact .alt h0 ha (ih (W9 hq ha) hb f2 hF)
 |all1 h0 ha _ ih=>intro hq hb f2 hF;exact .all1 h0 ha (ih (W9 hq (by rw[ha];simp)) hb f2 hF)
 |@all p q r b f s t h0 ha hn _ _ hd ih1 ih2=>
  intro hq hb f2 hF;rw[←Cj E.mono _ _ _ (Nat.le_refl _)];refine .all h0 ha hn (ih1 (Lo hQ hq fun x hx=>by rw[ha];simp[hx]) hb f2 hF) (ih2 (W9 hq (by rw[ha];simp)) hb f2 hF) ?_;intro x hx y hy;obtain⟨x',hx',rfl⟩:=List.mem_map.1 hx;obtain⟨y',hy',rfl⟩:=List.mem_map.1 hy;exact fun e=>hd x' hx' y' hy' (E.injU e)
 |plus1 h0 ha _ ih=>intro hq hb f2 hF;exact .plus1 h0 ha (ih (W9 hq (by rw[ha];simp)) hb f2 hF)
 |@plus p q b f s t h0 ha hs _ ih1 ih2=>
  intro hq hb f2 hF;rw[←Cj E.mono _ _ _ (Nat.le_refl _)];refine .plus h0 ha (ih1 (W9 hq (by rw[ha];simp)) hb f2 hF) ?_;rw[Cj E.mono _ _ _ (Nat.le_refl _)];exact ih2 hq (hb.mrg hs.inl.2) _ (Li E.mono hs.inl.1)
 |@some p q b f s h0 h1 ha hs hk ih=>
  intro hq hb f2 hF;have hp:=hq p (Cd p);exact .some h0 h1 ha (ih (W9 hq (by rw[ha];simp)) hb f2 hF) ((E.keeps_us hp.1 ht hb hs.inl.2 hs.inl.1 ⟨h0,h1⟩).2 hp.2 hk)
theorem Sd.dn {l' l:List A4} {g:A4→A4} {u:Int→Int} (E:Sd l' l g u) (ht:Tok l' g) {p:A1} {b2:List PR} {f2:Int} {s2:List PR} (h:Sm l p b2 f2 s2):
 (∀y∈p.pre,Qn g True y)→∀(b:List PR) (f:Int),b2=Gu u b→RZ l' b→(∀j:Int,f≤j↔f2≤u j)→(∀x∈s2,∃j:Nat,j<l'.length∧u j=x.At)→∃s,s2=Gu u s∧Sm l' p b f s:=by
 have hQ:∀(y:A1) r,Qn g True y→Qn g True {y with cQ:=r}:=fun y r h=>h
 induction h with
 |@ev p b2 f2 i h0 hf hi htt=>
  intro hq b f eb hb hF hx;obtain⟨j,hj,e⟩:=hx ⟨p.Var,(i:Int)⟩ (by simp)
  simp only at e
  subst eb
  rw[E.testE_us (hq p (Cd p)).1 hb hj e]at htt
  exact⟨[⟨p.Var,(j:Int)⟩],by simp[Gu,WK,e],.ev h0 ((hF j).2 (by rw[e];exact hf)) hj htt⟩
 |seq1 h0 ha _ ih=>
  intro hq b f eb hb hF hx;obtain⟨s,e,hs⟩:=ih (W9 hq (by rw[ha];simp)) b f eb hb hF hx;exact⟨s,e,.seq1 h0 ha hs⟩
 |@seq p q q' r b2 f2 s2 t2 h0 ha _ _ ih1 ih2=>
  intro hq b f eb hb hF hx;obtain⟨s,rfl,hs⟩:=ih1 (W9 hq (by rw[ha];simp)) b f eb hb hF fun x h=>hx x (W6.2 (.inl h));subst eb;obtain⟨t,rfl,ht⟩:=ih2 (Lo hQ hq fun x hx=>by rw[ha];exact List.mem_cons_of_mem _ hx) (mrg b s) (W0 s+1) (Cj E.mono _ _ _ (Nat.le_refl _)) (hb.mrg hs.inl.2) (Li E.mono hs.inl.1) fun x h=>hx x (W6.2 (.inr h));exact⟨mrg s t,Cj E.mono _ _ _ (Nat.le_refl _),.seq h0 ha hs ht⟩
 |alt h0 ha _ ih=>
  intro hq b f eb hb hF hx;obtain⟨s,e,hs⟩:=ih (W9 hq ha) b f eb hb hF hx;exact⟨s,e,.alt h0 ha hs⟩
 |all1 h0 ha _ ih=>
  intro hq b f eb hb hF hx;obtain⟨s,e,hs⟩:=ih (W9 hq (by rw[ha];simp)) b f eb hb hF hx;exact⟨s,e,.all1 h0 ha hs⟩
 |@all p q r b2 f2 s2 t2 h0 ha hn _ _ hd ih1 ih2=>
  intro hq b f eb hb hF hx;obtain⟨s,rfl,hs⟩:=ih1 (Lo hQ hq fun x hx=>by rw[ha];simp[hx]) b f eb hb hF fun x h=>hx x (W6.2 (.inl h));obtain⟨t,rfl,ht⟩:=ih2 (W9 hq (by rw[ha];simp)) b f eb hb hF fun x h=>hx x (W6.2 (.inr h));exact⟨mrg s t,Cj E.mono _ _ _ (Nat.le_refl _),.all h0 ha hn hs ht fun x hx y hy e=>hd (WK u x) (List.mem_map_of_mem hx) (WK u y) (List.mem_map_of_mem hy) (congrArg u e)⟩
 |plus1 h0 ha _ ih=>
  intro hq b f eb hb hF hx;obtain⟨s,e,hs⟩:=ih (W9 hq (by rw[ha];simp)) b f eb hb hF hx;exact⟨s,e,.plus1 h0 ha hs⟩
 |@plus p q b2 f2 s2 t2 h0 ha _ _ ih1 ih2=>
  intro hq b f eb hb hF hx;obtain⟨s,rfl,hs⟩:=ih1 (W9 hq (by rw[ha];simp)) b f eb hb hF fun x h=>hx x (W6.2 (.inl h));subst eb;obtain⟨t,rfl,ht⟩:=ih2 hq (mrg b s) (W0 s+1) (Cj E.mono _ _ _ (Nat.le_refl _)) (hb.mrg hs.inl.2) (Li E.mono hs.inl.1) fun x h=>hx x (W6.2 (.inr h));exact⟨mrg s t,Cj E.mono _ _ _ (Nat.le_refl _),.plus h0 ha hs ht⟩
 |@some p q b2 f2 s2 h0 h1 ha _ hk ih=>
  intro hq b f eb hb hF hx;obtain⟨s,rfl,hs⟩:=ih (W9 hq (by rw[ha];simp)) b f eb hb hF hx;subst eb;have hp:=hq p (Cd p);exact⟨s,rfl,.some h0 h1 ha hs ((E.keeps_us hp.1 ht hb hs.inl.2 hs.inl.1 ⟨h0,h1⟩).1 hk)⟩
end
end Go.Ab
namespace Go.Ab
open Classical
noncomputable section
theorem YU {l:List A4} {k:Nat}:Sd (l.take k) l id id where
 mono a b:=Iff.rfl
 nn a:=Iff.rfl
 typ _:=rfl
 at_ j hj:=by
  rw[List.length_take]at hj
  exact⟨j,rfl,by rw[Option.map_id,id,List.getElem?_take_of_lt (by omega)]⟩
theorem Ag7 (e:DK):gE id e=e:=by
 unfold gE;have:(fun r:List A4=>r.map id)=id:=funext fun r=>List.map_id r;rw[this,List.map_id]
theorem YW (c:A7):Cok id c:=⟨fun env own ev=>by rw[Ag7];rfl,fun env=>by rw[Ag7]⟩
theorem Xo (l:List A4):Tok l id:=fun _ _ _ _=>rfl
theorem NX {l' l:List A4}{u:Int→Int}(E:Sd l' l id u){s:List PR}(hs:RZ l' s):S5 l (Gu u s)=S5 l' s:=by
 unfold S5 Gu;rw[List.map_map];refine congrArg B6.mk (List.map_congr_left fun x hx=>?_);obtain⟨j,hj,e⟩:=hs x hx;obtain⟨i,hi,hl⟩:=E.at_ j hj
 rw[Option.map_id,id]at hl
 show(⟨x.Var,V9 l (u x.At)⟩:D6)=⟨x.Var,V9 l' x.At⟩
 unfold V9;rw[e,hi,Int.toNat_natCast,Int.toNat_natCast,hl]
theorem Al4 {l:List A4}(hl:l.length≤10)(h:Hf l=0){i:Nat}(hi:i<l.length):FL l[i]=true∧∀(j:Nat) (hj:j<i),Cb (l[j]'(by omega)) l[i]=false:=by
 unfold Hf at h
 rw[if_neg (by omega)]at h
 have:=BY.1 h i (List.mem_range.2 hi)
 unfold Kd at this
 rw[List.getElem?_eq_getElem hi]at this
 dsimp only at this
 split at this
 ·cases this
 rename_i h1
 split at this
 ·cases this
 split at this
 ·cases this
 rename_i h3
 rw[Bool.not_eq_true,any_eq_false]at h3
 refine⟨by simpa using h1,fun j hj=>?_⟩;have hm:(l[j]'(by omega))∈l.take i:=List.mem_take_iff_getElem.2 ⟨j,by omega,rfl⟩
 simpa using h3 _ hm
theorem Ad2 {l' l:List A4} {u:Int→Int} (E:Sd l' l id u) (hl:l.length≤10) (hl':l'.length≤10) (h:Hf l=0):Hf l'=0:=by
 have key:∀(j:Nat) (hj:j<l'.length),∃(i:Nat) (hi:i<l.length),u j=i∧l'[j]=l[i]:=fun j hj=>by
  obtain⟨i,hi,he⟩:=E.at_ j hj;have hil:=(E.lt_lenU hj hi).1
  rw[Option.map_id,id,List.getElem?_eq_getElem hj,List.getElem?_eq_getElem hil]at he
  exact⟨i,hil,hi,(Option.some.inj he).symm⟩
 unfold Hf;rw[if_neg (by omega)];refine BY.2 fun j hj=>?_;have hj:=List.mem_range.1 hj;obtain⟨i,hi,hu,he⟩:=key j hj;obtain⟨a1,a2⟩:=Al4 hl h hi;unfold Kd;rw[List.getElem?_eq_getElem hj]
 dsimp only
 rw[if_neg (by rw[he,a1];simp),if_neg,if_neg]
 ·rw[Bool.not_eq_true,any_eq_false];intro x hx;obtain⟨j0,hj0,e0⟩:=List.mem_take_iff_getElem.1 hx;obtain⟨i0,hi0,hu0,he0⟩:=key j0 (by omega)
  have hlt:i0<i:=by have:=(E.mono j0 j).2 (by omega);omega
  rw[←e0,he0,he,a2 i0 hlt];simp
 rintro⟨h0,h1⟩
 have hj1:j - 1<l'.length:=by omega
 obtain⟨i0,hi0,hu0,he0⟩:=key (j - 1) hj1
 have hlt:i0<i:=by have:=(E.mono (j - 1:Nat) j).2 (by omega);omega
 rw[List.getElem?_eq_getElem hj1,Option.getD_some,he0,he]at h1
 obtain⟨d,rfl⟩:∃d,i=i0+d+1:=⟨i - i0 - 1,by omega⟩;have:=PG hl h d i0 hi hi0 hi;omega
theorem PI :∀{a b:List B6},TV a→TV b→(∀x,x∈a↔x∈b)→a=b
 |[],[],_,_,_=>rfl
 |[],y::b,_,_,h=>absurd ((h y).2 (by simp)) List.not_mem_nil
 |x::a,[],_,_,h=>absurd ((h x).1 (by simp)) List.not_mem_nil
 | x::a,y::b,ha,hb,h=>by
  unfold TV at ha hb
  rw[List.pairwise_cons]at ha hb
  have irr:∀z:B6,¬mO z.cR z.cR<0:=fun z=>by rw[Ld];decide
  have asy:∀z w:B6,mO z.cR w.cR<0→¬mO w.cR z.cR<0:=fun z w h=>by rw[Tc];omega
  have hxy:x=y:=by
   rcases List.mem_cons.1 ((h x).1 (by simp))with e|e
   ·exact e
   rcases List.mem_cons.1 ((h y).2 (by simp))with k|k
   ·exact k.symm
   exact absurd (hb.1 x e) (asy x y (ha.1 y k))
  subst hxy;refine congrArg (x:: ·) (PI ha.2 hb.2 fun z=>⟨fun hz=>?_,fun hz=>?_⟩)
  ·rcases List.mem_cons.1 ((h z).1 (List.mem_cons_of_mem _ hz))with e|e
   ·rw[e]at hz;exact absurd (ha.1 x hz) (irr x)
   exact e
  rcases List.mem_cons.1 ((h z).2 (List.mem_cons_of_mem _ hz))with e|e
  ·rw[e]at hz;exact absurd (hb.1 x hz) (irr x)
  exact e
structure Mts (l:List A4) (p:A1) (r:List B6):Prop where
 asc:TV r
 mem:∀x,x∈r↔∃s,Sm l p [] 0 s∧x=S5 l s
theorem Mts.uniq {l:List A4}{p:A1}{r q:List B6}(h:Mts l p r)(k:Mts l p q):r=q:=PI h.asc k.asc fun x=>by rw[h.mem,k.mem]
theorem Yf {N:Nat} (hN:40000000≤N) {p:A1} (hb:p.bulk≤16777216) {l:List A4} (hl:l.length≤10) (hs:(evs p+1) ^ l.length≤1500∨(AU p∧l.length ^ evs p≤1500)) (h1:Nx N p=0) (h2:Hf l=0):
 ∃r,I7 N p l=some (r,0)∧Mts l p r∧(∀x∈r,x.cR.length≤10∧x.cR≠[])∧r.length≤1500:=by
 obtain⟨r,k1,k6,⟨L,_,m2,m3⟩,k3,k4⟩:=ZU hN hb hl hs h1 h2
 have hm:Mts l p r:=⟨k6,fun x=>by
  rw[m3.mem_iff,List.mem_map]
  exact⟨fun⟨s,a,b⟩=>⟨s,(m2 s).1 a,b.symm⟩,fun⟨s,a,b⟩=>⟨s,(m2 s).2 a,b.symm⟩⟩⟩
 refine⟨r,k1,hm,fun x hx=>⟨k3 x hx,fun e=>?_⟩,k4⟩;obtain⟨s,a,rfl⟩:=(hm.mem x).1 hx;exact a.inl.1 (List.map_eq_nil_iff.1 e)
theorem Mts.part {l' l:List A4}{u:Int→Int}(E:Sd l' l id u){p:A1}{r r':List B6}(h:Mts l p r)(h':Mts l' p r'):
 (∀s,Sm l p [] 0 s→(∀x∈s,∃j:Nat,j<l'.length∧u j=x.At)→S5 l s∈r')∧((∀y∈p.pre,y.Op=5→Cvx l' u)→∀x∈r',∃s,Sm l p [] 0 s∧(∀x∈s,∃j:Nat,j<l'.length∧u j=x.At)∧x=S5 l s):=by
 have hF:∀j:Int,0≤j↔0≤u j:=fun j=>(E.nn j).symm
 constructor
 ·intro s hs hx;obtain⟨t,rfl,ht⟩:=E.dn (Xo l') hs (fun y _=>⟨YW _,fun _=>trivial⟩) [] 0 rfl (fun _ h=>absurd h List.not_mem_nil) hF hx;exact(h'.mem _).2 ⟨t,ht,NX E ht.inl.2⟩
 intro hq x hx;obtain⟨t,ht,rfl⟩:=(h'.mem x).1 hx;refine⟨Gu u t,E.up (Xo l') ht (fun y hy=>⟨YW _,hq y hy⟩) (fun _ h=>absurd h List.not_mem_nil) 0 hF,fun x hx=>?_,(NX E ht.inl.2).symm⟩;obtain⟨y,hy,rfl⟩:=List.mem_map.1 hx;obtain⟨j,hj,e⟩:=ht.inl.2 y hy;exact⟨j,hj,by show _=u y.At;rw[e]⟩
theorem Sy {p:A1}{n m:Nat}(h:n≤m)(hs:(evs p+1) ^ m≤1500∨(AU p∧m ^ evs p≤1500)):(evs p+1) ^ n≤1500∨(AU p∧n ^ evs p≤1500):=by
 rcases hs with h1|⟨h1,h2⟩
 ·exact .inl (Nat.le_trans (Nat.pow_le_pow_right (by omega) h) h1)
 exact .inr ⟨h1,Nat.le_trans (Nat.pow_le_pow_left h _) h2⟩
end
end Go.Ab
namespace Go.Ab
open Classical
noncomputable section
theorem Zk {N:Nat} (hN:40000000≤N) {r:List B6} (hr:r.length≤1000000) (hb:∀x∈r,x.cR.length≤1000000) {m:B6} (hm:m.cR.length≤1000000):Dc N r m=some (decide (m∈r)):=by
 unfold Dc
 rw [Fs (l:=r) (fun x=>decide (x=m)) (by omega) (by omega) (fun i x hx hi=>by
     have e:ar .add .i64 (i:Int) 1=i+1:=C4 (by omega) (by omega);have hmx:=List.mem_of_getElem? hx;rw[if_pos (T8 hi),D7,hx];simp only[Option.bind_some];rw[Uk hN (hb x hmx) hm];simp only[Option.bind_some,e]
     by_cases h:x=m
     ·rw[if_pos (by rw[C1,h,Ld];rfl),if_pos (decide_eq_true h)]
     rw[if_neg (by rw[C1];simp;intro e;exact h (by cases x;cases m;have:=Lc e;dsimp only at this;rw[this])),if_neg (by simpa using h)]) (by rw[if_neg X4])]
 have hiff:(r.any fun x=>decide (x=m))=decide (m∈r):=by rw[Bool.eq_iff_iff];simp
 rw[hiff]
 by_cases hs:m∈r
 ·rw[if_pos (decide_eq_true hs),decide_eq_true hs];rfl
 rw[if_neg (by simpa using hs),decide_eq_false hs];rfl
end
end Go.Ab
namespace Go.Ab
open Classical
noncomputable section
theorem HT {α:Type}{N:Nat}{l:List α}{step:Int→Option (Int ⊕ (Unit ⊕ Int))}{k:Unit ⊕ Int→Option Int}(P:α→Bool)(hl:l.length<N)(hN:l.length<1000000000)
 (hstep:∀(i:Nat) x,l[i]? =some x→(i:Int)<l.length→step i=some (if P x=true then .inr (.inr (i:Int))else .inl ((i:Int)+1)))
 (hend:step (l.length:Int)=some (.inr (.inl ()))) (h0:k (.inl ())=some (-1)) (h1:∀i,k (.inr i)=some i):(((loopN step N 0).bind k).bind fun r1=>some (cmp .geq r1 0))=some (l.any P):=by
 obtain⟨j,h,hj⟩:=Mr hl hN P () (fun i=>i) hstep hend;rw[h]
 by_cases ha:l.any P=true
 ·rw[if_pos ha,ha];simp only[Option.bind_some,h1,Q8,decide_eq_true hj]
 rw[if_neg ha];simp only[Option.bind_some,h0,Q8]
 rw[Bool.not_eq_true]at ha
 rw[ha];rfl
theorem hasM {N:Nat} (hN:40000000≤N) {s:List B6} (hl:s.length≤1000000) {f:B6→Option Bool} {P:B6→Bool} (hf:∀x∈s,f x=some (P x)):E4 N s f=some (s.any P):=by
 unfold E4 E7
 exact HT P (by omega) (by omega) (fun i x hx hi=>by
  have e:ar .add .i64 (i:Int) 1=i+1:=C4 (by omega) (by omega);rw[if_pos (T8 hi),D7,hx];simp only[Option.bind_some,hf x (List.mem_of_getElem? hx),e]
  split<;>rfl) (by rw[if_neg X4]) rfl fun _=>rfl
theorem Jm {α:Type} (Q:α→Bool):∀(L a:List α),L.foldl (fun s x=>if Q x=true then s++[x]else s) a=a++L.filter Q
 |[],a=>by simp
 |x::L,a=>by
  rw[List.foldl_cons,Jm Q L]
  by_cases h:Q x=true
  ·rw[if_pos h,List.filter_cons_of_pos h];simp
  rw[if_neg h,List.filter_cons_of_neg h]
theorem Wf {α:Type} {N:Nat} {L:List α} {step:List α×Int→Option ((List α×Int) ⊕ List α)} (Q:α→Bool) (hN:L.length<N) (hl:L.length≤1000000)
 (hs:∀s (i:Nat) x,L[i]? =some x→x∈L→(i:Int)<L.length→ar .add .i64 (i:Int) 1=i+1→s.length<1000000→step (s,(i:Int))=some (.inl (if Q x=true then s++[x]else s,(i:Int)+1)))
 (he:∀s,step (s,(L.length:Int))=some (.inr s)):loopN step N ([],0)=some (L.filter Q):=by
 have h:=(JU (L:=L) (step:=step) (fun(s:List α) i=>(s,i)) (fun s x=>if Q x=true then s++[x]else s) (fun s=>s) (fun i s=>s.length≤i) (s0:=[]) hN (by omega) (by simp)
  (fun s i x hx hi hm e hv=>⟨hs s i x hx hm hi e (by omega),by
   split
   ·rw[List.length_append,List.length_singleton];omega
   omega⟩) he).1
 exact h.trans (congrArg some ((Jm Q L []).trans (List.nil_append _)))
structure Sa (N:Nat) (p:A1) (l:List A4):Prop where
 len:l.length≤10
 sml:(evs p+1) ^ l.length≤1500∨(AU p∧l.length ^ evs p≤1500)
 p0:Nx N p=0
 s0:Hf l=0
theorem Ac5 {N:Nat} (hN:40000000≤N) {p:A1} (hb:p.bulk≤16777216) {l:List A4} (hl:l.length≤16777216):∃b,Ed N p l=some b∧(b=true→Sa N p l):=by
 unfold Ed;obtain⟨b,h1,h2⟩:=Xu hN (p:=p) hb (l:=l) hl;rw[h1];simp only[Option.bind_some]
 cases b with
 |false=>exact⟨false,rfl,fun h=>by cases h⟩
 | true=>
  rw[if_pos rfl];unfold EB;rw[VO hN hb];simp only[Option.bind_some]
  by_cases h3:Nx N p=0
  ·rw[if_neg (P7 h3),ZQ hN];refine⟨_,rfl,fun h=>⟨(h2 rfl).1,(h2 rfl).2,h3,?_⟩⟩
   rw[C1]at h
   exact of_decide_eq_true h
  rw[if_pos (T7 h3)];refine⟨_,rfl,fun h=>?_⟩
  rw[C1]at h
  exact absurd (of_decide_eq_true h) h3
theorem Kv {N:Nat} (hN:40000000≤N) {p:A1} (hb:p.bulk≤16777216) {l:List A4} (g:Sa N p l):
 ∃r,Au N p l=some (r,true)∧Mts l p r∧(∀x∈r,x.cR.length≤10∧x.cR≠[])∧r.length≤1500:=by
 obtain⟨r,k1,k3,k4,k5⟩:=Yf hN hb g.len g.sml g.p0 g.s0;refine⟨r,?_,k3,k4,k5⟩;unfold Au W4;rw[k1];simp only[Option.bind_some];rw[if_pos (by rw[C1];rfl),hasM hN (by omega) (f:=fun y1=>Ak N y1) (P:=fun x=>cmp .eql (Ar.len x.cR) 0) fun x _=>rfl]
 have:(r.any fun x=>cmp .eql (Ar.len x.cR) 0)=false:=by
  rw[any_eq_false];intro x hx;rw[C1,B3]
  simpa using(k4 x hx).2
 simp only[Option.bind_some,this];rfl
theorem Sa.part {N:Nat}{p:A1}{l l':List A4}(g:Sa N p l){u:Int→Int}(E:Sd l' l id u)(h:l'.length≤l.length):Sa N p l':=
 ⟨by have:=g.len;omega,Sy h g.sml,g.p0,Ad2 E g.len (by have:=g.len;omega) g.s0⟩
theorem ZL {N:Nat}(hN:40000000≤N){r q:List B6}(e:r=q)(hr:r.length≤1000000)(hb:∀x∈r,x.cR.length≤1000000):CC N r q=some true:=by subst e;exact VL hN hr hb
end
end Go.Ab
namespace Go.Ab
open Classical
noncomputable section
mutual
def noS :A1→A1
 |⟨op,args,typ,var,_,span,c⟩=>⟨op,Mg args,typ,var,0,span,c⟩
def Mg :List A1→List A1
 |[]=>[]
 |a::r=>noS a::Mg r
end
theorem Ra :∀l:List A1,Mg l=l.map noS
 |[]=>by simp[Mg]
 |a::l=>by simp[Mg,Ra l]
theorem SW (p:A1):noS p={p with cQ:=p.cQ.map noS,cU:=0}:=by cases p;simp only[noS,Ra]
def Zn (p q:A1):Prop:=noS p=noS q
structure RY (p q:A1):Prop where
 op:p.Op=q.Op
 typ:p.Typ=q.Typ
 var:p.Var=q.Var
 span:p.Span=q.Span
 cond:p.cS=q.cS
 args:p.cQ.map noS=q.cQ.map noS
theorem Zn.iff {p q:A1}:Zn p q↔RY p q:=by
 unfold Zn;rw[SW,SW]
 constructor
 ·intro h
  simp only[A1.mk.injEq]at h
  exact⟨h.1,h.2.2.1,h.2.2.2.1,h.2.2.2.2.2.1,h.2.2.2.2.2.2,h.2.1⟩
 rintro⟨h1,h2,h3,h4,h5,h6⟩;rw[h1,h2,h3,h4,h5,h6]
theorem Zn.sub {p q:A1}(h:RY p q){r m:List A1}(e:r.map noS=m.map noS):Zn {p with cQ:=r} {q with cQ:=m}:=Zn.iff.2 ⟨h.op,h.typ,h.var,h.span,h.cond,e⟩
theorem RY.testE {p q:A1}(h:RY p q)(l:List A4)(b:List PR)(j:Nat):testE l p b j=Go.Ab.testE l q b j:=by unfold Go.Ab.testE;rw[h.typ,h.var,h.cond]
theorem RY.keepsA {p q:A1}(h:RY p q)(l:List A4)(b s:List PR):keepsA l p b s=Go.Ab.keepsA l q b s:=by
 have hb:∀i,Gn l p b s i=Gn l q b s i:=fun i=>by unfold Gn;rw[h.typ,h.var,h.cond]
 unfold Go.Ab.keepsA II;rw[h.op,h.span,h.cond];simp only[hb]
mutual
theorem Ur :∀p:A1,(noS p).pre=p.pre.map noS
 |⟨op,args,typ,var,scope,span,c⟩=>by simp only[noS,A1.pre,List.map_cons];rw[NV args]
theorem NV :∀l:List A1,A1.pres (Mg l)=(A1.pres l).map noS
 |[]=>by simp[Mg,A1.pres]
 |a::r=>by simp only[Mg,A1.pres,List.map_append];rw[Ur a,NV r]
end
mutual
theorem Mh :∀p:A1,(noS p).bulk=p.bulk
 |⟨op,args,typ,var,scope,span,c⟩=>by simp only[noS,A1.bulk];rw[Mf args]
theorem Mf :∀l:List A1,A1.bulks (Mg l)=A1.bulks l
 |[]=>by simp[Mg]
 |a::r=>by simp only[Mg,A1.bulks];rw[Mh a,Mf r]
end
theorem Zn.bulk {p q:A1}(h:Zn p q):p.bulk=q.bulk:=by rw[←Mh p,h,Mh]
theorem Aj2 (p:A1):(noS p).Op=p.Op:=by rw[SW]
theorem Us (p:A1):evs (noS p)=evs p:=by
 unfold evs;rw[Ur,List.countP_map]
 exact List.countP_congr fun y _=>by simp only[Function.comp_apply,Aj2]
theorem Zn.evs {p q:A1}(h:Zn p q):evs p=Go.Ab.evs q:=by rw[←Us p,h,Us]
end
end Go.Ab
namespace Go.Ab
open Classical
noncomputable section
theorem Td {S R T:Type}{step:S→Option (S ⊕ R)}{k:R→Option T}{Q:T→Prop}(I:Nat→S→Prop)(n:Nat){s:S}{N:Nat}(hN:n<N)(h0:I 0 s)
 (hs:∀j s,j<n→I j s→∃o,step s=some o∧(match o with| .inl s'=>I (j+1) s'| .inr r=>∃t,k r=some t∧Q t)) (he:∀s,I n s→∃r,step s=some (.inr r)∧∃t,k r=some t∧Q t):∃t,(loopN step N s).bind k=some t∧Q t:=by
 obtain⟨r,h1,h2⟩:=Jg (step:=step) I (fun r=>∃t,k r=some t∧Q t) n 0 s N hN h0 (fun j s _ hj h=>hs j s (by omega) h) fun s h=>he s (by rw[Nat.zero_add]at h;exact h);rw[h1];exact h2
def IdL (to:List Int):Prop:=∀(v:Nat) x,to[v]? =some x→x<0∨x=v
theorem IdL.at {to:List Int}(h:IdL to){v x:Int}(e:B9 to v=some x):x<0∨x=v:=by
 unfold B9 at e
 split at e
 ·have:=h _ _ e;omega
 cases e
theorem JI {α:Type}{l:List α}{j:Nat}(hj:j<l.length):l.take (j+1)=l.take j++[l[j]]:=List.take_succ_eq_append_getElem hj
def PQ (N:Nat)(p:A1):Prop:=∀y∈p.pre,∃s ng,HF N y s ng∧(s.cT=true→0≤y.Var∧y.Var<16)
theorem PQ.arg {N:Nat}{p q:A1}(h:PQ N p)(hq:q∈p.cQ):PQ N q:=W9 h hq
end
end Go.Ab
namespace Go.Ab
open Classical
noncomputable section
theorem RY.noS {p q:A1}(h:RY p q):noS p=Go.Ab.noS q:=Zn.iff.2 h
theorem XH {α:Type}{l:List α}{i:Int}(h0:0≤i)(h1:i<l.length):Uj (inR l i)=some ():=by
 unfold Uj inR;rw[if_pos (decide_eq_true ⟨h0,h1⟩)]
end
end Go.Ab
namespace Go.Ab
open Classical
noncomputable section
end
end Go.Ab
