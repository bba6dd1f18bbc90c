/- GTG1 GTG2 GTX4 GTG4 GTC1 GTC2 GTC3 GTC4 -/
import Derived.Test.YtanbgjgaafeplaaGreatDoorC19
set_option linter.all false
open Go.Ab.Ar (ar)
namespace Go.Ab
open Classical
noncomputable section
structure Vz (l' l:List A4) (g:A4→A4) (u:Int→Int):Prop where
 mono:∀a b,u a<u b↔a<b
 nn:∀a,0≤u a↔0≤a
 at_:∀j:Nat,j<l'.length→∃i:Nat,u j=i∧l[i]? =(l'[j]?).map g
 typ:∀e,(g e).Typ=e.Typ
def Xh (u:Int→Int)(x:PR):PR:=⟨x.Var,u x.At⟩
def Hc (u:Int→Int)(s:List PR):List PR:=s.map (Xh u)
def SQ (l:List A4)(s:List PR):Prop:=∀x∈s,∃j:Nat,j<l.length∧x.At=j
def gE (g:A4→A4)(e:AE):AE:=⟨e.cZ.map fun r=>r.map g⟩
theorem Sj {α β:Type}{f g:α→Option β}:∀{l:List α},(∀x∈l,f x=g x)→l.filterMap f=l.filterMap g
 |[],_=>rfl
 |x::l,h=>by rw[List.filterMap_cons,List.filterMap_cons,h x (by simp),Sj fun y hy=>h y (by simp[hy])]
theorem CD {u:Int→Int} (hm:∀a b,u a<u b↔a<b):∀(n:Nat) (a b:List PR),a.length+b.length≤n→mrg (Hc u a) (Hc u b)=Hc u (mrg a b)
 |_,[],b,_=>by show mrg [] (Hc u b)=_;rw[DW,DW]
 |_,x::a,[],_=>by show mrg (Hc u (x::a)) []=_;rw[HF,HF]
 |0,x::a,y::b,h=>by simp at h
 |n+1,x::a,y::b,h=>by
  simp only[List.length_cons]at h
  show mrg (Xh u x::Hc u a) (Xh u y::Hc u b)=_
  rw[HG,HG]
  by_cases hx:x.At<y.At
  ·rw[if_pos hx,if_pos (show(Xh u x).At<(Xh u y).At from(hm _ _).2 hx)];exact congrArg (Xh u x:: ·) (CD hm n a (y::b) (by simp;omega))
  rw[if_neg hx,if_neg (show¬(Xh u x).At<(Xh u y).At from fun h=>hx ((hm _ _).1 h))];exact congrArg (Xh u y:: ·) (CD hm n (x::a) b (by simp;omega))
theorem YS {u:Int→Int}{s:List PR}(h:s≠[]):Sc (Hc u s)=u (Sc s):=by
 cases s with
 |nil=>exact absurd rfl h
 |cons x s=>rfl
theorem PO {u:Int→Int}{s:List PR}(h:s≠[]):S5 (Hc u s)=u (S5 s):=by
 obtain⟨x,h1,_,h3⟩:=Cs h;rw[h3];unfold S5 Hc;rw[List.getLast?_map,h1];rfl
theorem SQ.mrg {l:List A4}{a b:List PR}(ha:SQ l a)(hb:SQ l b):SQ l (mrg a b):=fun x hx=>(Y3.1 hx).elim (ha x) (hb x)
theorem Sm.inl {l:List A4} {p:A0} {b:List PR} {f:Int} {s:List PR} (h:Sm l p b f s):s≠[]∧SQ l s:=by
 have ne:∀{s t:List PR},s≠[]→mrg s t≠[]:=fun{s t} hs e=>by
  have h1:=congrArg List.length e
  rw[PI,List.length_nil]at h1
  have:=List.length_pos_iff.2 hs;omega
 induction h with
 |@ev p b f j h0 hf hj ht=>exact⟨by simp,fun x hx=>⟨j,hj,by rw[List.mem_singleton.1 hx]⟩⟩
 |seq1 _ _ _ ih=>exact ih
 |seq _ _ _ _ ih1 ih2=>exact⟨ne ih1.1,ih1.2.mrg ih2.2⟩
 |alt _ _ _ ih=>exact ih
 |all1 _ _ _ ih=>exact ih
 |all _ _ _ _ _ _ ih1 ih2=>exact⟨ne ih1.1,ih1.2.mrg ih2.2⟩
 |plus1 _ _ _ ih=>exact ih
 |plus _ _ _ _ ih1 ih2=>exact⟨ne ih1.1,ih1.2.mrg ih2.2⟩
 |some _ _ _ _ _ ih=>exact ih
namespace Vz
variable {l' l:List A4}{g:A4→A4}{u:Int→Int}(E:Vz l' l g u)
include E
theorem injU {a b:Int}(h:u a=u b):a=b:=by
 have h1:=E.mono a b;have h2:=E.mono b a;omega
theorem lt_lenU {j i:Nat}(hj:j<l'.length)(h:u j=i):i<l.length∧l[i]? =(l'[j]?).map g:=by
 obtain⟨i',h1,h2⟩:=E.at_ j hj
 have:i=i':=by omega
 subst this
 rw[List.getElem?_eq_getElem hj]at h2
 exact⟨(List.getElem?_eq_some_iff.1 h2).1,by rw[List.getElem?_eq_getElem hj];exact h2⟩
theorem rowP_us {s:List PR}(hs:SQ l' s){c c':Int}(hc:∀x∈s,(u x.At<c↔x.At<c'))(v:Int):KM l (Hc u s) c v=(KM l' s c' v).map g:=by
 unfold KM Hc;rw[List.filterMap_map,List.map_filterMap];refine Sj fun x hx=>?_;obtain⟨j,hj,e⟩:=hs x hx;have h1:=hc x hx;obtain⟨i,hi,hl⟩:=E.at_ j hj
 show(if u x.At<c∧x.Var=v then l[(u x.At).toNat]? else none)=_
 by_cases h:x.At<c'∧x.Var=v
 ·rw[if_pos h,if_pos ⟨h1.2 h.1,h.2⟩,e,hi];exact hl
 rw[if_neg h,if_neg fun k=>h ⟨h1.1 k.1,k.2⟩];rfl
theorem envP_us {s:List PR}(hs:SQ l' s){c c':Int}(hc:∀x∈s,(u x.At<c↔x.At<c')):Ge l (Hc u s) c=gE g (Ge l' s c'):=by
 unfold Ge gE;rw[List.map_map];exact congrArg AE.mk (List.map_congr_left fun v _=>E.rowP_us hs hc _)
theorem hasA_us (s:List PR)(i:Int):FY (Hc u s) (u i)=FY s i:=by
 unfold FY Hc;rw[List.any_map];refine congrArg (fun f=>List.any s f) (funext fun x=>?_);exact decide_eq_decide.2 ⟨fun h=>E.injU h,fun h=>congrArg u h⟩
end Vz
structure Cok (g:A4→A4) (c:B0):Prop where
 at_:∀env own ev,Z7 (gE g env) own (g ev) c=Z7 env own ev c
 no:∀env,Z7 (gE g env) (-1) ⟨0,0,0,0,[]⟩ c=Z7 env (-1) ⟨0,0,0,0,[]⟩ c
def Tok (l':List A4)(g:A4→A4):Prop:=∀x∈l',∀y∈l',ar .sub .i64 (g x).Time (g y).Time=ar .sub .i64 x.Time y.Time
def Cvx (l':List A4)(u:Int→Int):Prop:=∀a c i:Nat,a<l'.length→c<l'.length→u a<i→(i:Int)<u c→∃j:Nat,j<l'.length∧u j=i
theorem OR {l:List A4} {p:A0} {b s:List PR}:HW l p b s=true↔∀i:Nat,i<l.length→Sc s<(i:Int)→(i:Int)<S5 s→Fs l p b s i=false:=by
 unfold HW;rw[Bool.not_eq_true',List.any_eq_false]
 constructor
 ·intro h i hi h1 h2;have:=h i (List.mem_range.2 hi)
  simpa[h1,h2]using this
 intro h i hi
 by_cases h1:Sc s<(i:Int)∧(i:Int)<S5 s
 ·simp[h i (List.mem_range.1 hi) h1.1 h1.2]
 simp only[Bool.and_eq_true,decide_eq_true_eq];exact fun h=>h1 h.1
namespace Vz
variable {l' l:List A4}{g:A4→A4}{u:Int→Int}(E:Vz l' l g u)
include E
theorem testE_us {p:A0}(hc:Cok g p.cS){b:List PR}(hb:SQ l' b){j i:Nat}(hj:j<l'.length)(hi:u j=i):testE l p (Hc u b) i=testE l' p b j:=by
 unfold testE;rw[(E.lt_lenU hj hi).2,List.getElem?_eq_getElem hj]
 show(decide ((g l'[j]).Typ=p.Typ)&&Z7 (Ge l (Hc u b) i) p.Var (g l'[j]) p.cS)=(decide (l'[j].Typ=p.Typ)&&Z7 (Ge l' b j) p.Var l'[j] p.cS)
 rw[E.typ,E.envP_us hb (c:=i) (c':=j) fun x _=>by rw[←hi];exact E.mono _ _,hc.at_]
theorem badAt_us {p:A0}(hc:Cok g p.cS){b s:List PR}(hb:SQ l' b)(hs:SQ l' s){j i:Nat}(hj:j<l'.length)(hi:u j=i):Fs l p (Hc u b) (Hc u s) i=Fs l' p b s j:=by
 unfold Fs;rw[(E.lt_lenU hj hi).2,List.getElem?_eq_getElem hj,CD E.mono _ _ _ (Nat.le_refl _)]
 show(decide ((g l'[j]).Typ=p.Typ)&&(!FY (Hc u s) i)&&Z7 (Ge l (Hc u (mrg b s)) i) p.Var (g l'[j]) p.cS)=(decide (l'[j].Typ=p.Typ)&&(!FY s j)&&Z7 (Ge l' (mrg b s) j) p.Var l'[j] p.cS)
 rw[E.typ,E.envP_us (hb.mrg hs) (c:=i) (c':=j) fun x _=>by rw[←hi];exact E.mono _ _,hc.at_,←hi,E.hasA_us]
theorem timeA_us {j:Int}{n:Nat}(e:j=n)(h:n<l'.length):∃x∈l',Li l (u j)=(g x).Time∧Li l' j=x.Time:=by
 subst e;obtain⟨i,hi,hl⟩:=E.at_ n h;refine⟨l'[n],List.getElem_mem h,?_,?_⟩
 ·unfold Li;rw[hi,Int.toNat_natCast,hl,List.getElem?_eq_getElem h];rfl
 unfold Li;rw[Int.toNat_natCast,List.getElem?_eq_getElem h]
theorem endsU {s:List PR}(hs:SQ l' s)(hn:s≠[]):(∃j:Nat,j<l'.length∧Sc s=j)∧∃j:Nat,j<l'.length∧S5 s=j:=by
 obtain⟨x,_,h2,h3⟩:=Cs hn;refine⟨?_,by rw[h3];exact hs x h2⟩
 cases s with
 |nil=>exact absurd rfl hn
 |cons y s=>exact hs y (by simp)
theorem keeps_us {p:A0} (hc:Cok g p.cS) (ht:Tok l' g) {b s:List PR} (hb:SQ l' b) (hs:SQ l' s) (hn:s≠[]) (h57:5≤p.Op∧p.Op≤7):
 (keepsA l p (Hc u b) (Hc u s)=true→keepsA l' p b s=true)∧((p.Op=5→Cvx l' u)→keepsA l' p b s=true→keepsA l p (Hc u b) (Hc u s)=true):=by
 obtain⟨⟨a,ha,ea⟩,⟨c,hc',ec⟩⟩:=E.endsU hs hn;unfold keepsA;rw[YS hn,PO hn]
 by_cases h6:p.Op=6
 ·rw[if_pos h6,if_pos h6];obtain⟨x,hx,x1,x2⟩:=E.timeA_us ea ha;obtain⟨y,hy,y1,y2⟩:=E.timeA_us ec hc';rw[x1,x2,y1,y2,ht y hy x hx];exact⟨id,fun _=>id⟩
 rw[if_neg h6,if_neg h6]
 by_cases h7:p.Op=7
 ·rw[if_pos h7,if_pos h7,CD E.mono _ _ _ (Nat.le_refl _),E.envP_us (hb.mrg hs) (c:=l.length) (c':=l'.length) (fun x hx=>by
   obtain⟨j,hj,e⟩:=(hb.mrg hs) x hx;obtain⟨i,hi,_⟩:=E.at_ j hj;have:=(E.lt_lenU hj hi).1
   rw[e,hi];omega),hc.no]
  exact⟨id,fun _=>id⟩
 rw[if_neg h7,if_neg h7,OR,OR,YS hn,PO hn]
 constructor
 ·intro h j hj h1 h2;obtain⟨i,hi,_⟩:=E.at_ j hj;rw[←E.badAt_us hc hb hs hj hi];exact h i (E.lt_lenU hj hi).1 (by rw[←hi];exact(E.mono _ _).2 h1) (by rw[←hi];exact(E.mono _ _).2 h2)
 intro hv h i hi h1 h2;obtain⟨j,hj,e⟩:=hv (by omega) a c i ha hc' (by rw[←ea];exact h1) (by rw[←ec];exact h2);rw[E.badAt_us hc hb hs hj e];exact h j hj ((E.mono _ _).1 (by rw[e];exact h1)) ((E.mono _ _).1 (by rw[e];exact h2))
end Vz
theorem Mh {Q:A0→Prop}(hQ:∀y r,Q y→Q {y with cR:=r}){p:A0}{r:List A0}(h:∀y∈p.pre,Q y)(hr:∀q∈r,q∈p.cR):∀y∈({p with cR:=r}:A0).pre,Q y:=by
 intro y hy
 rw[A0.pre_eq]at hy
 rcases List.mem_cons.1 hy with rfl|hy
 ·exact hQ p r (h p (CA p))
 obtain⟨q,hq,hy⟩:=R6.1 hy;exact h y (by rw[A0.pre_eq];exact List.mem_cons_of_mem _ (R6.2 ⟨q,hr q hq,hy⟩))
theorem Y6 {Q:A0→Prop}{p q:A0}(h:∀y∈p.pre,Q y)(hq:q∈p.cR):∀y∈q.pre,Q y:=fun y hy=>h y (by rw[A0.pre_eq];exact List.mem_cons_of_mem _ (R6.2 ⟨q,hq,hy⟩))
def Qn (g:A4→A4)(V:Prop)(y:A0):Prop:=Cok g y.cS∧(y.Op=5→V)
theorem Md {u:Int→Int}(hm:∀a b,u a<u b↔a<b){s:List PR}(hn:s≠[])(j:Int):S5 s+1≤j↔S5 (Hc u s)+1≤u j:=by
 rw[PO hn];have:=hm (S5 s) j;omega
theorem Vz.up {l' l:List A4} {g:A4→A4} {u:Int→Int} (E:Vz l' l g u) (ht:Tok l' g) {p:A0} {b:List PR} {f:Int} {s:List PR} (h:Sm l' p b f s):
 (∀y∈p.pre,Qn g (Cvx l' u) y)→SQ l' b→∀f2:Int,(∀j:Int,f≤j↔f2≤u j)→Sm l p (Hc u b) f2 (Hc u s):=by
 have hQ:∀(y:A0) r,Qn g (Cvx l' u) y→Qn g (Cvx l' u) {y with cR:=r}:=fun y r h=>h
 induction h with
 |@ev p b f j h0 hf hj htt=>
  intro hq hb f2 hF;obtain⟨i,hi,_⟩:=E.at_ j hj
  have e:Hc u [⟨p.Var,(j:Int)⟩]=[⟨p.Var,(i:Int)⟩]:=by simp[Hc,Xh,hi]
  rw[e];exact .ev h0 (by rw[←hi];exact(hF j).1 hf) (E.lt_lenU hj hi).1 (by rw[E.testE_us (hq p (CA p)).1 hb hj hi];exact htt)
 |seq1 h0 ha _ ih=>intro hq hb f2 hF;exact .seq1 h0 ha (ih (Y6 hq (by rw[ha];simp)) hb f2 hF)
 |@seq p q q' r b f s t h0 ha hs _ ih1 ih2=>
  intro hq hb f2 hF;rw[←CD E.mono _ _ _ (Nat.le_refl _)];refine .seq h0 ha (ih1 (Y6 hq (by rw[ha];simp)) hb f2 hF) ?_;rw[CD E.mono _ _ _ (Nat.le_refl _)];exact ih2 (Mh hQ hq fun x hx=>by rw[ha];exact List.mem_cons_of_mem _ hx) (hb.mrg hs.inl.2) _ (Md E.mono hs.inl.1)
 |alt h0 ha _ ih=>intro hq hb f2 hF;exact .alt h0 ha (ih (Y6 hq ha) hb f2 hF)
 |all1 h0 ha _ ih=>intro hq hb f2 hF;exact .all1 h0 ha (ih (Y6 hq (by rw[ha];simp)) hb f2 hF)
 |@all p q r b f s t h0 ha hn _ _ hd ih1 ih2=>
  intro hq hb f2 hF;rw[←CD E.mono _ _ _ (Nat.le_refl _)];refine .all h0 ha hn (ih1 (Mh hQ hq fun x hx=>by rw[ha];simp[hx]) hb f2 hF) (ih2 (Y6 hq (by rw[ha];simp)) hb f2 hF) ?_;intro x hx y hy;obtain⟨x',hx',rfl⟩:=List.mem_map.1 hx;obtain⟨y',hy',rfl⟩:=List.mem_map.1 hy;exact fun e=>hd x' hx' y' hy' (E.injU e)
 |plus1 h0 ha _ ih=>intro hq hb f2 hF;exact .plus1 h0 ha (ih (Y6 hq (by rw[ha];simp)) hb f2 hF)
 |@plus p q b f s t h0 ha hs _ ih1 ih2=>
  intro hq hb f2 hF;rw[←CD E.mono _ _ _ (Nat.le_refl _)];refine .plus h0 ha (ih1 (Y6 hq (by rw[ha];simp)) hb f2 hF) ?_;rw[CD E.mono _ _ _ (Nat.le_refl _)];exact ih2 hq (hb.mrg hs.inl.2) _ (Md E.mono hs.inl.1)
 |@some p q b f s h0 h1 ha hs hk ih=>
  intro hq hb f2 hF;have hp:=hq p (CA p);exact .some h0 h1 ha (ih (Y6 hq (by rw[ha];simp)) hb f2 hF) ((E.keeps_us hp.1 ht hb hs.inl.2 hs.inl.1 ⟨h0,h1⟩).2 hp.2 hk)
theorem Vz.dn {l' l:List A4} {g:A4→A4} {u:Int→Int} (E:Vz l' l g u) (ht:Tok l' g) {p:A0} {b2:List PR} {f2:Int} {s2:List PR} (h:Sm l p b2 f2 s2):
 (∀y∈p.pre,Qn g True y)→∀(b:List PR) (f:Int),b2=Hc u b→SQ l' b→(∀j:Int,f≤j↔f2≤u j)→(∀x∈s2,∃j:Nat,j<l'.length∧u j=x.At)→∃s,s2=Hc u s∧Sm l' p b f s:=by
 have hQ:∀(y:A0) r,Qn g True y→Qn g True {y with cR:=r}:=fun y r h=>h
 induction h with
 |@ev p b2 f2 i h0 hf hi htt=>
  intro hq b f eb hb hF hx;obtain⟨j,hj,e⟩:=hx ⟨p.Var,(i:Int)⟩ (by simp)
  simp only at e
  subst eb
  rw[E.testE_us (hq p (CA p)).1 hb hj e]at htt
  exact⟨[⟨p.Var,(j:Int)⟩],by simp[Hc,Xh,e],.ev h0 ((hF j).2 (by rw[e];exact hf)) hj htt⟩
 |seq1 h0 ha _ ih=>
  intro hq b f eb hb hF hx;obtain⟨s,e,hs⟩:=ih (Y6 hq (by rw[ha];simp)) b f eb hb hF hx;exact⟨s,e,.seq1 h0 ha hs⟩
 |@seq p q q' r b2 f2 s2 t2 h0 ha _ _ ih1 ih2=>
  intro hq b f eb hb hF hx;obtain⟨s,rfl,hs⟩:=ih1 (Y6 hq (by rw[ha];simp)) b f eb hb hF fun x h=>hx x (Y3.2 (.inl h));subst eb;obtain⟨t,rfl,ht⟩:=ih2 (Mh hQ hq fun x hx=>by rw[ha];exact List.mem_cons_of_mem _ hx) (mrg b s) (S5 s+1) (CD E.mono _ _ _ (Nat.le_refl _)) (hb.mrg hs.inl.2) (Md E.mono hs.inl.1) fun x h=>hx x (Y3.2 (.inr h));exact⟨mrg s t,CD E.mono _ _ _ (Nat.le_refl _),.seq h0 ha hs ht⟩
 |alt h0 ha _ ih=>
  intro hq b f eb hb hF hx;obtain⟨s,e,hs⟩:=ih (Y6 hq ha) b f eb hb hF hx;exact⟨s,e,.alt h0 ha hs⟩
 |all1 h0 ha _ ih=>
  intro hq b f eb hb hF hx;obtain⟨s,e,hs⟩:=ih (Y6 hq (by rw[ha];simp)) b f eb hb hF hx;exact⟨s,e,.all1 h0 ha hs⟩
 |@all p q r b2 f2 s2 t2 h0 ha hn _ _ hd ih1 ih2=>
  intro hq b f eb hb hF hx;obtain⟨s,rfl,hs⟩:=ih1 (Mh hQ hq fun x hx=>by rw[ha];simp[hx]) b f eb hb hF fun x h=>hx x (Y3.2 (.inl h));obtain⟨t,rfl,ht⟩:=ih2 (Y6 hq (by rw[ha];simp)) b f eb hb hF fun x h=>hx x (Y3.2 (.inr h));exact⟨mrg s t,CD E.mono _ _ _ (Nat.le_refl _),.all h0 ha hn hs ht fun x hx y hy e=>hd (Xh u x) (List.mem_map_of_mem hx) (Xh u y) (List.mem_map_of_mem hy) (congrArg u e)⟩
 |plus1 h0 ha _ ih=>
  intro hq b f eb hb hF hx;obtain⟨s,e,hs⟩:=ih (Y6 hq (by rw[ha];simp)) b f eb hb hF hx;exact⟨s,e,.plus1 h0 ha hs⟩
 |@plus p q b2 f2 s2 t2 h0 ha _ _ ih1 ih2=>
  intro hq b f eb hb hF hx;obtain⟨s,rfl,hs⟩:=ih1 (Y6 hq (by rw[ha];simp)) b f eb hb hF fun x h=>hx x (Y3.2 (.inl h));subst eb;obtain⟨t,rfl,ht⟩:=ih2 hq (mrg b s) (S5 s+1) (CD E.mono _ _ _ (Nat.le_refl _)) (hb.mrg hs.inl.2) (Md E.mono hs.inl.1) fun x h=>hx x (Y3.2 (.inr h));exact⟨mrg s t,CD E.mono _ _ _ (Nat.le_refl _),.plus h0 ha hs ht⟩
 |@some p q b2 f2 s2 h0 h1 ha _ hk ih=>
  intro hq b f eb hb hF hx;obtain⟨s,rfl,hs⟩:=ih (Y6 hq (by rw[ha];simp)) b f eb hb hF hx;subst eb;have hp:=hq p (CA p);exact⟨s,rfl,.some h0 h1 ha hs ((E.keeps_us hp.1 ht hb hs.inl.2 hs.inl.1 ⟨h0,h1⟩).1 hk)⟩
end
end Go.Ab
namespace Go.Ab
open Classical
noncomputable section
theorem Ai4 (e:AE):gE id e=e:=by
 unfold gE;have:(fun r:List A4=>r.map id)=id:=funext fun r=>List.map_id r;rw[this,List.map_id]
theorem Zn (c:B0):Cok id c:=⟨fun env own ev=>by rw[Ai4];rfl,fun env=>by rw[Ai4]⟩
theorem XI (l:List A4):Tok l id:=fun _ _ _ _=>rfl
theorem Ow {l' l:List A4}{u:Int→Int}(E:Vz l' l id u){s:List PR}(hs:SQ l' s):U8 l (Hc u s)=U8 l' s:=by
 unfold U8 Hc;rw[List.map_map];refine congrArg C4.mk (List.map_congr_left fun x hx=>?_);obtain⟨j,hj,e⟩:=hs x hx;obtain⟨i,hi,hl⟩:=E.at_ j hj
 rw[Option.map_id,id]at hl
 show(⟨x.Var,Hs l (u x.At)⟩:D6)=⟨x.Var,Hs l' x.At⟩
 unfold Hs;rw[e,hi,Int.toNat_natCast,Int.toNat_natCast,hl]
theorem An3 {l:List A4}(hl:l.length≤10)(h:HX l=0){i:Nat}(hi:i<l.length):Gt l[i]=true∧∀(j:Nat) (hj:j<i),Cy (l[j]'(by omega)) l[i]=false:=by
 unfold HX at h
 rw[if_neg (by omega)]at h
 have:=BB.1 h i (List.mem_range.2 hi)
 unfold Lc at this
 rw[List.getElem?_eq_getElem hi]at this
 dsimp only at this
 split at this
 ·cases this
 rename_i h1
 split at this
 ·cases this
 split at this
 ·cases this
 rename_i h3
 rw[Bool.not_eq_true,List.any_eq_false]at h3
 refine⟨by simpa using h1,fun j hj=>?_⟩;have hm:(l[j]'(by omega))∈l.take i:=List.mem_take_iff_getElem.2 ⟨j,by omega,rfl⟩
 simpa using h3 _ hm
theorem Ae9 {l' l:List A4} {u:Int→Int} (E:Vz l' l id u) (hl:l.length≤10) (hl':l'.length≤10) (h:HX l=0):HX l'=0:=by
 have key:∀(j:Nat) (hj:j<l'.length),∃(i:Nat) (hi:i<l.length),u j=i∧l'[j]=l[i]:=fun j hj=>by
  obtain⟨i,hi,he⟩:=E.at_ j hj;have hil:=(E.lt_lenU hj hi).1
  rw[Option.map_id,id,List.getElem?_eq_getElem hj,List.getElem?_eq_getElem hil]at he
  exact⟨i,hil,hi,(Option.some.inj he).symm⟩
 unfold HX;rw[if_neg (by omega)];refine BB.2 fun j hj=>?_;have hj:=List.mem_range.1 hj;obtain⟨i,hi,hu,he⟩:=key j hj;obtain⟨a1,a2⟩:=An3 hl h hi;unfold Lc;rw[List.getElem?_eq_getElem hj]
 dsimp only
 rw[if_neg (by rw[he,a1];simp),if_neg,if_neg]
 ·rw[Bool.not_eq_true,List.any_eq_false];intro x hx;obtain⟨j0,hj0,e0⟩:=List.mem_take_iff_getElem.1 hx;obtain⟨i0,hi0,hu0,he0⟩:=key j0 (by omega)
  have hlt:i0<i:=by have:=(E.mono j0 j).2 (by omega);omega
  rw[←e0,he0,he,a2 i0 hlt];simp
 rintro⟨h0,h1⟩
 have hj1:j - 1<l'.length:=by omega
 obtain⟨i0,hi0,hu0,he0⟩:=key (j - 1) hj1
 have hlt:i0<i:=by have:=(E.mono (j - 1:Nat) j).2 (by omega);omega
 rw[List.getElem?_eq_getElem hj1,Option.getD_some,he0,he]at h1
 obtain⟨d,rfl⟩:∃d,i=i0+d+1:=⟨i - i0 - 1,by omega⟩;have:=Qg hl h d i0 hi hi0 hi;omega
structure Mts (l:List A4) (p:A0) (r:List C4):Prop where
 asc:SM r
 mem:∀x,x∈r↔∃s,Sm l p [] 0 s∧x=U8 l s
theorem Mts.part {l' l:List A4}{u:Int→Int}(E:Vz l' l id u){p:A0}{r r':List C4}(h:Mts l p r)(h':Mts l' p r'):
 (∀s,Sm l p [] 0 s→(∀x∈s,∃j:Nat,j<l'.length∧u j=x.At)→U8 l s∈r')∧((∀y∈p.pre,y.Op=5→Cvx l' u)→∀x∈r',∃s,Sm l p [] 0 s∧(∀x∈s,∃j:Nat,j<l'.length∧u j=x.At)∧x=U8 l s):=by
 have hF:∀j:Int,0≤j↔0≤u j:=fun j=>(E.nn j).symm
 constructor
 ·intro s hs hx;obtain⟨t,rfl,ht⟩:=E.dn (XI l') hs (fun y _=>⟨Zn _,fun _=>trivial⟩) [] 0 rfl (fun _ h=>absurd h List.not_mem_nil) hF hx;exact(h'.mem _).2 ⟨t,ht,Ow E ht.inl.2⟩
 intro hq x hx;obtain⟨t,ht,rfl⟩:=(h'.mem x).1 hx;refine⟨Hc u t,E.up (XI l') ht (fun y hy=>⟨Zn _,hq y hy⟩) (fun _ h=>absurd h List.not_mem_nil) 0 hF,fun x hx=>?_,(Ow E ht.inl.2).symm⟩;obtain⟨y,hy,rfl⟩:=List.mem_map.1 hx;obtain⟨j,hj,e⟩:=ht.inl.2 y hy;exact⟨j,hj,by show _=u y.At;rw[e]⟩
theorem Tj {p:A0}{n m:Nat}(h:n≤m)(hs:(evs p+1) ^ m≤1500∨(BO p∧m ^ evs p≤1500)):(evs p+1) ^ n≤1500∨(BO p∧n ^ evs p≤1500):=by
 rcases hs with h1|⟨h1,h2⟩
 ·exact .inl (Nat.le_trans (Nat.pow_le_pow_right (by omega) h) h1)
 exact .inr ⟨h1,Nat.le_trans (Nat.pow_le_pow_left h _) h2⟩
end
end Go.Ab
namespace Go.Ab
open Classical
noncomputable section
end
end Go.Ab
namespace Go.Ab
open Classical
noncomputable section
theorem NO {α:Type}{N:Nat}{l:List α}{step:Int→Option (Int ⊕ (Unit ⊕ Int))}{k:Unit ⊕ Int→Option Int}(P:α→Bool)(hl:l.length<N)(hN:l.length<1000000000)
 (hstep:∀(i:Nat) x,l[i]? =some x→(i:Int)<l.length→step i=some (if P x=true then .inr (.inr (i:Int))else .inl ((i:Int)+1)))
 (hend:step (l.length:Int)=some (.inr (.inl ()))) (h0:k (.inl ())=some (-1)) (h1:∀i,k (.inr i)=some i):(((loopN step N 0).bind k).bind fun r1=>some (Ar.cmp .geq r1 0))=some (l.any P):=by
 obtain⟨j,h,hj⟩:=Nc hl hN P () (fun i=>i) hstep hend;rw[h]
 by_cases ha:l.any P=true
 ·rw[if_pos ha,ha];simp only[Option.bind_some,h1,K9,decide_eq_true hj]
 rw[if_neg ha];simp only[Option.bind_some,h0,K9]
 rw[Bool.not_eq_true]at ha
 rw[ha];rfl
theorem Kg {α:Type} (Q:α→Bool):∀(L a:List α),L.foldl (fun s x=>if Q x=true then s++[x]else s) a=a++L.filter Q
 |[],a=>by simp
 |x::L,a=>by
  rw[List.foldl_cons,Kg Q L]
  by_cases h:Q x=true
  ·rw[if_pos h,List.filter_cons_of_pos h];simp
  rw[if_neg h,List.filter_cons_of_neg h]
theorem WD {α:Type} {N:Nat} {L:List α} {step:List α×Int→Option ((List α×Int) ⊕ List α)} (Q:α→Bool) (hN:L.length<N) (hl:L.length≤1000000)
 (hs:∀s (i:Nat) x,L[i]? =some x→x∈L→(i:Int)<L.length→ar .add .i64 (i:Int) 1=i+1→s.length<1000000→step (s,(i:Int))=some (.inl (if Q x=true then s++[x]else s,(i:Int)+1)))
 (he:∀s,step (s,(L.length:Int))=some (.inr s)):loopN step N ([],0)=some (L.filter Q):=by
 have h:=(CZ (L:=L) (step:=step) (fun(s:List α) i=>(s,i)) (fun s x=>if Q x=true then s++[x]else s) (fun s=>s) (fun i s=>s.length≤i) (s0:=[]) hN (by omega) (by simp)
  (fun s i x hx hi hm e hv=>⟨hs s i x hx hm hi e (by omega),by
   split
   ·rw[List.length_append,List.length_singleton];omega
   omega⟩) he).1
 exact h.trans (congrArg some ((Kg Q L []).trans (List.nil_append _)))
structure ZD (N:Nat) (p:A0) (l:List A4):Prop where
 len:l.length≤10
 sml:(evs p+1) ^ l.length≤1500∨(BO p∧l.length ^ evs p≤1500)
 p0:Qh N p=0
 s0:HX l=0
theorem ZD.part {N:Nat}{p:A0}{l l':List A4}(g:ZD N p l){u:Int→Int}(E:Vz l' l id u)(h:l'.length≤l.length):ZD N p l':=
 ⟨by have:=g.len;omega,Tj h g.sml,g.p0,Ae9 E g.len (by have:=g.len;omega) g.s0⟩
end
end Go.Ab
namespace Go.Ab
open Classical
noncomputable section
mutual
def noS :A0→A0
 |⟨op,args,typ,var,_,span,c⟩=>⟨op,MT args,typ,var,0,span,c⟩
def MT :List A0→List A0
 |[]=>[]
 |a::r=>noS a::MT r
end
theorem RI :∀l:List A0,MT l=l.map noS
 |[]=>by simp[MT]
 |a::l=>by simp[MT,RI l]
theorem TJ (p:A0):noS p={p with cR:=p.cR.map noS,cV:=0}:=by cases p;simp only[noS,RI]
def ZB (p q:A0):Prop:=noS p=noS q
structure SK (p q:A0):Prop where
 op:p.Op=q.Op
 typ:p.Typ=q.Typ
 var:p.Var=q.Var
 span:p.Span=q.Span
 cond:p.cS=q.cS
 args:p.cR.map noS=q.cR.map noS
theorem ZB.iff {p q:A0}:ZB p q↔SK p q:=by
 unfold ZB;rw[TJ,TJ]
 constructor
 ·intro h
  simp only[A0.mk.injEq]at h
  exact⟨h.1,h.2.2.1,h.2.2.2.1,h.2.2.2.2.2.1,h.2.2.2.2.2.2,h.2.1⟩
 rintro⟨h1,h2,h3,h4,h5,h6⟩;rw[h1,h2,h3,h4,h5,h6]
theorem ZB.sub {p q:A0}(h:SK p q){r m:List A0}(e:r.map noS=m.map noS):ZB {p with cR:=r} {q with cR:=m}:=ZB.iff.2 ⟨h.op,h.typ,h.var,h.span,h.cond,e⟩
theorem SK.testE {p q:A0}(h:SK p q)(l:List A4)(b:List PR)(j:Nat):testE l p b j=Go.Ab.testE l q b j:=by unfold Go.Ab.testE;rw[h.typ,h.var,h.cond]
theorem SK.keepsA {p q:A0}(h:SK p q)(l:List A4)(b s:List PR):keepsA l p b s=Go.Ab.keepsA l q b s:=by
 have hb:∀i,Fs l p b s i=Fs l q b s i:=fun i=>by unfold Fs;rw[h.typ,h.var,h.cond]
 unfold Go.Ab.keepsA HW;rw[h.op,h.span,h.cond];simp only[hb]
mutual
theorem UT :∀p:A0,(noS p).pre=p.pre.map noS
 |⟨op,args,typ,var,scope,span,c⟩=>by simp only[noS,A0.pre,List.map_cons];rw[Ov args]
theorem Ov :∀l:List A0,A0.pres (MT l)=(A0.pres l).map noS
 |[]=>by simp[MT,A0.pres]
 |a::r=>by simp only[MT,A0.pres,List.map_append];rw[UT a,Ov r]
end
mutual
theorem MU :∀p:A0,(noS p).bulk=p.bulk
 |⟨op,args,typ,var,scope,span,c⟩=>by simp only[noS,A0.bulk];rw[MS args]
theorem MS :∀l:List A0,A0.bulks (MT l)=A0.bulks l
 |[]=>by simp[MT]
 |a::r=>by simp only[MT,A0.bulks];rw[MU a,MS r]
end
theorem ZB.bulk {p q:A0}(h:ZB p q):p.bulk=q.bulk:=by rw[←MU p,h,MU]
theorem Al1 (p:A0):(noS p).Op=p.Op:=by rw[TJ]
theorem UU (p:A0):evs (noS p)=evs p:=by
 unfold evs;rw[UT,List.countP_map]
 exact List.countP_congr fun y _=>by simp only[Function.comp_apply,Al1]
theorem ZB.evs {p q:A0}(h:ZB p q):evs p=Go.Ab.evs q:=by rw[←UU p,h,UU]
end
end Go.Ab
namespace Go.Ab
open Classical
noncomputable section
theorem YD {S R T:Type}{step:S→Option (S ⊕ R)}{k:R→Option T}{Q:T→Prop}(I:Nat→S→Prop)(n:Nat){s:S}{N:Nat}(hN:n<N)(h0:I 0 s)
 (hs:∀j s,j<n→I j s→∃o,step s=some o∧(match o with| .inl s'=>I (j+1) s'| .inr r=>∃t,k r=some t∧Q t)) (he:∀s,I n s→∃r,step s=some (.inr r)∧∃t,k r=some t∧Q t):∃t,(loopN step N s).bind k=some t∧Q t:=by
 obtain⟨r,h1,h2⟩:=Ka (step:=step) I (fun r=>∃t,k r=some t∧Q t) n 0 s N hN h0 (fun j s _ hj h=>hs j s (by omega) h) fun s h=>he s (by rw[Nat.zero_add]at h;exact h);rw[h1];exact h2
def IdL (to:List Int):Prop:=∀(v:Nat) x,to[v]? =some x→x<0∨x=v
theorem IdL.at {to:List Int}(h:IdL to){v x:Int}(e:B6 to v=some x):x<0∨x=v:=by
 unfold B6 at e
 split at e
 ·have:=h _ _ e;omega
 cases e
theorem KE {α:Type}{l:List α}{j:Nat}(hj:j<l.length):l.take (j+1)=l.take j++[l[j]]:=List.take_succ_eq_append_getElem hj
def Qq (N:Nat)(p:A0):Prop:=∀y∈p.pre,∃s ng,Ix N y s ng∧(s.cU=true→0≤y.Var∧y.Var<16)
theorem Qq.arg {N:Nat}{p q:A0}(h:Qq N p)(hq:q∈p.cR):Qq N q:=Y6 h hq
end
end Go.Ab
namespace Go.Ab
open Classical
noncomputable section
theorem SK.noS {p q:A0}(h:SK p q):noS p=Go.Ab.noS q:=ZB.iff.2 h
theorem Yd {α:Type}{l:List α}{i:Int}(h0:0≤i)(h1:i<l.length):Rk (SO l i)=some ():=by
 unfold Rk SO;rw[if_pos (decide_eq_true ⟨h0,h1⟩)]
end
end Go.Ab
namespace Go.Ab
open Classical
noncomputable section
end
end Go.Ab
