/- GTX5 GTG1 GTG2 GTX4 GTG4 GTC1 GTC2 GTC3 GTC4 -/
import Derived.Test.YtanbgjgaafeplaaGreatDoorG19
set_option linter.all false
open List (Nodup any_eq_false)
open Go.Ab.Ar (ar cmp nt wr)
namespace Go.Ab
open Classical
noncomputable section
theorem YB (L:List C8) (hn:L.Nodup):∃r:List C8,r.Perm L∧TG r:=by
 have hp:=List.mergeSort_perm L fun a b=>decide (mO a.cR b.cR≤0);refine⟨_,hp,?_⟩
 have h1:=List.pairwise_mergeSort (le:=fun a b:C8=>decide (mO a.cR b.cR≤0)) (fun a b c hab hbc=>by
  have hab:=of_decide_eq_true hab;have hbc:=of_decide_eq_true hbc;apply decide_eq_true
  by_cases e1:mO a.cR b.cR=0
  ·rw[KY e1];exact hbc
  ·by_cases e2:mO b.cR c.cR=0
   ·rw[←KY e2];exact hab
   have:=XJ (a:=a.cR) (b:=b.cR) (c:=c.cR) (by omega) (by omega)
   omega) (fun a b=>by
  have:=ST a.cR b.cR
  by_cases h:mO a.cR b.cR≤0
  ·simp[h]
  have:mO b.cR a.cR≤0:=by omega
  simp[this]) L
 have h2:(L.mergeSort fun a b=>decide (mO a.cR b.cR≤0)).Nodup:=hp.nodup_iff.2 hn;refine(h1.and h2).imp fun{a b} h=>?_;have h3:=of_decide_eq_true h.1;have h4:mO a.cR b.cR≠0:=fun e=>h.2 (by cases a;cases b;have:=KY e;dsimp only at this;rw[this]);omega
theorem Zr {N:Nat} (hN:40000000≤N) {p:A0} (hb:p.bulk≤16777216) {l:List A5} (hl:l.length≤10) (hs:(evs p+1) ^ l.length≤1500∨(Y2 p∧l.length ^ evs p≤1500)) (h1:Gs N p=0) (h2:Hh l=0):
 ∃r,M2 N p l=some (r,0)∧TG r∧(∃L:List (List PR),L.Nodup∧(∀s,s∈L↔Sm l p [] 0 s)∧r.Perm (L.map (N3 l)))∧(∀x∈r,x.cR.length≤10)∧r.length≤1500:=by
 unfold M2;rw[VC hN hb];simp only[Option.bind_some];rw[if_neg (I1 h1),Zh hN];simp only[Option.bind_some];rw[if_neg (I1 h2)];obtain⟨hw,hp⟩:=UT hN hb h1;have hsm:=Ae6 hp hs;have hmu:=XG hp hl;obtain⟨L1,a1,a2,a3⟩:=Vv hN hl 1000 p [] 0 N hmu (by omega) hp hw hsm (Zt l);have hcL1:=ES hw hsm (Zt l) a2 fun s h=>(a3 s).1 h
 have b2:(L1.map G4).Nodup:=by
  rw[Nodup,List.pairwise_map];exact a2.imp fun hne e=>hne (Ht e)
 have b3:∀s,s∈L1.map G4↔Sm l p [] 0 s:=fun s=>by
  rw[List.mem_map]
  constructor
  ·rintro⟨t,ht,rfl⟩;exact(a3 t).1 ht
  intro h;exact⟨s.map IT,(a3 _).2 (by rw[P8];exact h),P8 s⟩
 have hres:∀s∈L1.map G4,PE l 0 s:=fun s h=>((b3 s).1 h).res hw (Zt l)
 obtain⟨r,r3,r2⟩:=YB ((L1.map G4).map (N3 l)) (by
  rw[Nodup,List.pairwise_map]
  exact List.Pairwise.imp_of_mem (fun{x y} hx hy hne e=>hne (Mg hl h2 (hres x hx).gd.wf (hres y hy).gd.wf (congrArg C8.cR e))) b2)
 have hrl:r.length≤1500:=by have:=r3.length_eq;simp only[List.length_map]at this;omega
 have hrb:∀x∈r,x.cR.length≤10:=fun x hx=>by
  obtain⟨t,ht,rfl⟩:=List.mem_map.1 (r3.mem_iff.1 hx);have:=(hres t ht).gd.len;rw[FL];omega
 have h00:((0:Nat):Int)=0:=rfl
 rw[h00]at a1
 refine⟨r,?_,r2,⟨L1.map G4,b2,b3,r3⟩,hrb,hrl⟩;rw[a1];simp only[Option.bind_some]
 rw[(JU (L:=L1) (N:=N) (fun(m:List C8) i=>(i,m)) (fun m s=>m++[N3 l (G4 s)]) (fun m=>m) (fun i m=>m.length=i) (by omega) (by omega) rfl (fun m i s hs' hi hm e hl=>by
  have gs:=(((a3 s).1 hm).res hw (Zt l)).gd;have hsl:=gs.len
  rw[List.length_map]at hsl
  rw[if_pos (Q0 hi),D6,hs'];simp only[Option.bind_some]
  rw[(JU (L:=s) (N:=N) (fun(m:C8) i=>(i,m)) (fun m x=>⟨m.cR++[⟨x.cU,W3 l x.at_⟩]⟩) (fun m=>m) (fun i m=>m.cR.length=i) (by omega) (by omega) rfl (fun m i x hx hi hm e hl=>by
   have hw:=gs.wf (pr x) (List.mem_map.2 ⟨x,hm,rfl⟩);obtain⟨e',h1,h2⟩:=Zm (l:=l) (i:=x.at_) hw.2.1 hw.2.2;rw[if_pos (Q0 hi),D6,hx];simp only[Option.bind_some];rw[h1];simp only[Option.bind_some,CJ];rw[N7 (by simp;omega),e,h2]
   exact⟨rfl,by simp[hl]⟩) (fun m=>by dsimp only;rw[if_neg N8])).1,Mx]
  simp only[Option.bind_some,List.nil_append];rw[N7 (by simp;omega),e];refine⟨?_,by simp[hl]⟩;simp only[Option.bind_some,N3,G4,List.map_map]
  rfl) (fun m=>by dsimp only;rw[if_neg N8])).1]
 have hf:∀(L:List (List BD)) (m:List C8),L.foldl (fun m s=>m++[N3 l (G4 s)]) m=m++L.map fun s=>N3 l (G4 s):=fun L=>by
  induction L with
  |nil=>intro m;simp
  |cons a L ih=>intro m;rw[List.foldl_cons,ih];simp
 rw[hf,List.nil_append];simp only[Option.bind_some];rw[Ae5 hN (r:=r) ?_ r2 (fun x hx=>by have:=hrb x hx;omega) (by simp;omega)]
 ·rfl
 rw[List.map_map]at r3
 exact r3
end
end Go.Ab
namespace Go.Ab
open Classical
noncomputable section
structure TD (l' l:List A5) (g:A5→A5) (u:Int→Int):Prop where
 mono:∀a b,u a<u b↔a<b
 nn:∀a,0≤u a↔0≤a
 at_:∀j:Nat,j<l'.length→∃i:Nat,u j=i∧l[i]? =(l'[j]?).map g
 typ:∀e,(g e).Typ=e.Typ
def Wn (u:Int→Int)(x:PR):PR:=⟨x.Var,u x.At⟩
def Gt (u:Int→Int)(s:List PR):List PR:=s.map (Wn u)
def RQ (l:List A5)(s:List PR):Prop:=∀x∈s,∃j:Nat,j<l.length∧x.At=j
def gE (g:A5→A5)(e:DH):DH:=⟨e.cY.map fun r=>r.map g⟩
theorem Rp {α β:Type}{f g:α→Option β}:∀{l:List α},(∀x∈l,f x=g x)→l.filterMap f=l.filterMap g
 |[],_=>rfl
 |x::l,h=>by rw[List.filterMap_cons,List.filterMap_cons,h x (by simp),Rp fun y hy=>h y (by simp[hy])]
theorem Ce {u:Int→Int} (hm:∀a b,u a<u b↔a<b):∀(n:Nat) (a b:List PR),a.length+b.length≤n→mrg (Gt u a) (Gt u b)=Gt u (mrg a b)
 |_,[],b,_=>by show mrg [] (Gt u b)=_;rw[HB,HB]
 |_,x::a,[],_=>by show mrg (Gt u (x::a)) []=_;rw[Je,Je]
 |0,x::a,y::b,h=>by simp at h
 |n+1,x::a,y::b,h=>by
  simp only[List.length_cons]at h
  show mrg (Wn u x::Gt u a) (Wn u y::Gt u b)=_
  rw[Jf,Jf]
  by_cases hx:x.At<y.At
  ·rw[if_pos hx,if_pos (show(Wn u x).At<(Wn u y).At from(hm _ _).2 hx)];exact congrArg (Wn u x:: ·) (Ce hm n a (y::b) (by simp;omega))
  rw[if_neg hx,if_neg (show¬(Wn u x).At<(Wn u y).At from fun h=>hx ((hm _ _).1 h))];exact congrArg (Wn u y:: ·) (Ce hm n (x::a) b (by simp;omega))
theorem XX {u:Int→Int}{s:List PR}(h:s≠[]):Rh (Gt u s)=u (Rh s):=by
 cases s with
 |nil=>exact absurd rfl h
 |cons x s=>rfl
theorem OZ {u:Int→Int}{s:List PR}(h:s≠[]):Z2 (Gt u s)=u (Z2 s):=by
 obtain⟨x,h1,_,h3⟩:=CF h;rw[h3];unfold Z2 Gt;rw[List.getLast?_map,h1];rfl
theorem RQ.mrg {l:List A5}{a b:List PR}(ha:RQ l a)(hb:RQ l b):RQ l (mrg a b):=fun x hx=>(X5.1 hx).elim (ha x) (hb x)
theorem Sm.inl {l:List A5} {p:A0} {b:List PR} {f:Int} {s:List PR} (h:Sm l p b f s):s≠[]∧RQ l s:=by
 have ne:∀{s t:List PR},s≠[]→mrg s t≠[]:=fun{s t} hs e=>by
  have h1:=congrArg List.length e
  rw[OT,List.length_nil]at h1
  have:=List.length_pos_iff.2 hs;omega
 induction h with
 |@ev p b f j h0 hf hj ht=>exact⟨by simp,fun x hx=>⟨j,hj,by rw[List.mem_singleton.1 hx]⟩⟩
 |seq1 _ _ _ ih=>exact ih
 |seq _ _ _ _ ih1 ih2=>exact⟨ne ih1.1,ih1.2.mrg ih2.2⟩
 |alt _ _ _ ih=>exact ih
 |all1 _ _ _ ih=>exact ih
 |all _ _ _ _ _ _ ih1 ih2=>exact⟨ne ih1.1,ih1.2.mrg ih2.2⟩
 |plus1 _ _ _ ih=>exact ih
 |plus _ _ _ _ ih1 ih2=>exact⟨ne ih1.1,ih1.2.mrg ih2.2⟩
 |some _ _ _ _ _ ih=>exact ih
namespace TD
variable {l' l:List A5}{g:A5→A5}{u:Int→Int}(E:TD l' l g u)
include E
theorem injU {a b:Int}(h:u a=u b):a=b:=by
 have h1:=E.mono a b;have h2:=E.mono b a;omega
theorem lt_lenU {j i:Nat}(hj:j<l'.length)(h:u j=i):i<l.length∧l[i]? =(l'[j]?).map g:=by
 obtain⟨i',h1,h2⟩:=E.at_ j hj
 have:i=i':=by omega
 subst this
 rw[List.getElem?_eq_getElem hj]at h2
 exact⟨(List.getElem?_eq_some_iff.1 h2).1,by rw[List.getElem?_eq_getElem hj];exact h2⟩
theorem rowP_us {s:List PR}(hs:RQ l' s){c c':Int}(hc:∀x∈s,(u x.At<c↔x.At<c'))(v:Int):JN l (Gt u s) c v=(JN l' s c' v).map g:=by
 unfold JN Gt;rw[List.filterMap_map,List.map_filterMap];refine Rp fun x hx=>?_;obtain⟨j,hj,e⟩:=hs x hx;have h1:=hc x hx;obtain⟨i,hi,hl⟩:=E.at_ j hj
 show(if u x.At<c∧x.Var=v then l[(u x.At).toNat]? else none)=_
 by_cases h:x.At<c'∧x.Var=v
 ·rw[if_pos h,if_pos ⟨h1.2 h.1,h.2⟩,e,hi];exact hl
 rw[if_neg h,if_neg fun k=>h ⟨h1.1 k.1,k.2⟩];rfl
theorem envP_us {s:List PR}(hs:RQ l' s){c c':Int}(hc:∀x∈s,(u x.At<c↔x.At<c')):He l (Gt u s) c=gE g (He l' s c'):=by
 unfold He gE;rw[List.map_map];exact congrArg DH.mk (List.map_congr_left fun v _=>E.rowP_us hs hc _)
theorem hasA_us (s:List PR)(i:Int):IA (Gt u s) (u i)=IA s i:=by
 unfold IA Gt;rw[List.any_map];refine congrArg (fun f=>List.any s f) (funext fun x=>?_);exact decide_eq_decide.2 ⟨fun h=>E.injU h,fun h=>congrArg u h⟩
end TD
structure Cok (g:A5→A5) (c:A4):Prop where
 at_:∀env own ev,Bk (gE g env) own (g ev) c=Bk env own ev c
 no:∀env,Bk (gE g env) (-1) ⟨0,0,0,0,[]⟩ c=Bk env (-1) ⟨0,0,0,0,[]⟩ c
def Tok (l':List A5)(g:A5→A5):Prop:=∀x∈l',∀y∈l',ar .sub .i64 (g x).Time (g y).Time=ar .sub .i64 x.Time y.Time
def Cvx (l':List A5)(u:Int→Int):Prop:=∀a c i:Nat,a<l'.length→c<l'.length→u a<i→(i:Int)<u c→∃j:Nat,j<l'.length∧u j=i
theorem Oh {l:List A5} {p:A0} {b s:List PR}:IG l p b s=true↔∀i:Nat,i<l.length→Rh s<(i:Int)→(i:Int)<Z2 s→Gm l p b s i=false:=by
 unfold IG;rw[Bool.not_eq_true',any_eq_false]
 constructor
 ·intro h i hi h1 h2;have:=h i (List.mem_range.2 hi)
  simpa[h1,h2]using this
 intro h i hi
 by_cases h1:Rh s<(i:Int)∧(i:Int)<Z2 s
 ·simp[h i (List.mem_range.1 hi) h1.1 h1.2]
 simp only[Bool.and_eq_true,decide_eq_true_eq];exact fun h=>h1 h.1
namespace TD
variable {l' l:List A5}{g:A5→A5}{u:Int→Int}(E:TD l' l g u)
include E
theorem testE_us {p:A0}(hc:Cok g p.cQ){b:List PR}(hb:RQ l' b){j i:Nat}(hj:j<l'.length)(hi:u j=i):testE l p (Gt u b) i=testE l' p b j:=by
 unfold testE;rw[(E.lt_lenU hj hi).2,List.getElem?_eq_getElem hj]
 show(decide ((g l'[j]).Typ=p.Typ)&&Bk (He l (Gt u b) i) p.Var (g l'[j]) p.cQ)=(decide (l'[j].Typ=p.Typ)&&Bk (He l' b j) p.Var l'[j] p.cQ)
 rw[E.typ,E.envP_us hb (c:=i) (c':=j) fun x _=>by rw[←hi];exact E.mono _ _,hc.at_]
theorem badAt_us {p:A0}(hc:Cok g p.cQ){b s:List PR}(hb:RQ l' b)(hs:RQ l' s){j i:Nat}(hj:j<l'.length)(hi:u j=i):Gm l p (Gt u b) (Gt u s) i=Gm l' p b s j:=by
 unfold Gm;rw[(E.lt_lenU hj hi).2,List.getElem?_eq_getElem hj,Ce E.mono _ _ _ (Nat.le_refl _)]
 show(decide ((g l'[j]).Typ=p.Typ)&&(!IA (Gt u s) i)&&Bk (He l (Gt u (mrg b s)) i) p.Var (g l'[j]) p.cQ)=(decide (l'[j].Typ=p.Typ)&&(!IA s j)&&Bk (He l' (mrg b s) j) p.Var l'[j] p.cQ)
 rw[E.typ,E.envP_us (hb.mrg hs) (c:=i) (c':=j) fun x _=>by rw[←hi];exact E.mono _ _,hc.at_,←hi,E.hasA_us]
theorem timeA_us {j:Int}{n:Nat}(e:j=n)(h:n<l'.length):∃x∈l',HL l (u j)=(g x).Time∧HL l' j=x.Time:=by
 subst e;obtain⟨i,hi,hl⟩:=E.at_ n h;refine⟨l'[n],List.getElem_mem h,?_,?_⟩
 ·unfold HL;rw[hi,Int.toNat_natCast,hl,List.getElem?_eq_getElem h];rfl
 unfold HL;rw[Int.toNat_natCast,List.getElem?_eq_getElem h]
theorem endsU {s:List PR}(hs:RQ l' s)(hn:s≠[]):(∃j:Nat,j<l'.length∧Rh s=j)∧∃j:Nat,j<l'.length∧Z2 s=j:=by
 obtain⟨x,_,h2,h3⟩:=CF hn;refine⟨?_,by rw[h3];exact hs x h2⟩
 cases s with
 |nil=>exact absurd rfl hn
 |cons y s=>exact hs y (by simp)
theorem keeps_us {p:A0} (hc:Cok g p.cQ) (ht:Tok l' g) {b s:List PR} (hb:RQ l' b) (hs:RQ l' s) (hn:s≠[]) (h57:5≤p.Op∧p.Op≤7):
 (keepsA l p (Gt u b) (Gt u s)=true→keepsA l' p b s=true)∧((p.Op=5→Cvx l' u)→keepsA l' p b s=true→keepsA l p (Gt u b) (Gt u s)=true):=by
 obtain⟨⟨a,ha,ea⟩,⟨c,hc',ec⟩⟩:=E.endsU hs hn;unfold keepsA;rw[XX hn,OZ hn]
 by_cases h6:p.Op=6
 ·rw[if_pos h6,if_pos h6];obtain⟨x,hx,x1,x2⟩:=E.timeA_us ea ha;obtain⟨y,hy,y1,y2⟩:=E.timeA_us ec hc';rw[x1,x2,y1,y2,ht y hy x hx];exact⟨id,fun _=>id⟩
 rw[if_neg h6,if_neg h6]
 by_cases h7:p.Op=7
 ·rw[if_pos h7,if_pos h7,Ce E.mono _ _ _ (Nat.le_refl _),E.envP_us (hb.mrg hs) (c:=l.length) (c':=l'.length) (fun x hx=>by
   obtain⟨j,hj,e⟩:=(hb.mrg hs) x hx;obtain⟨i,hi,_⟩:=E.at_ j hj;have:=(E.lt_lenU hj hi).1
   rw[e,hi];omega),hc.no]
  exact⟨id,fun _=>id⟩
 rw[if_neg h7,if_neg h7,Oh,Oh,XX hn,OZ hn]
 constructor
 ·intro h j hj h1 h2;obtain⟨i,hi,_⟩:=E.at_ j hj;rw[←E.badAt_us hc hb hs hj hi];exact h i (E.lt_lenU hj hi).1 (by rw[←hi];exact(E.mono _ _).2 h1) (by rw[←hi];exact(E.mono _ _).2 h2)
 intro hv h i hi h1 h2;obtain⟨j,hj,e⟩:=hv (by omega) a c i ha hc' (by rw[←ea];exact h1) (by rw[←ec];exact h2);rw[E.badAt_us hc hb hs hj e];exact h j hj ((E.mono _ _).1 (by rw[e];exact h1)) ((E.mono _ _).1 (by rw[e];exact h2))
end TD
theorem Li {Q:A0→Prop}(hQ:∀y r,Q y→Q {y with cP:=r}){p:A0}{r:List A0}(h:∀y∈p.pre,Q y)(hr:∀q∈r,q∈p.cP):∀y∈({p with cP:=r}:A0).pre,Q y:=by
 intro y hy
 rw[A0.pre_eq]at hy
 rcases List.mem_cons.1 hy with rfl|hy
 ·exact hQ p r (h p (AJ p))
 obtain⟨q,hq,hy⟩:=R3.1 hy;exact h y (by rw[A0.pre_eq];exact List.mem_cons_of_mem _ (R3.2 ⟨q,hr q hq,hy⟩))
theorem X8 {Q:A0→Prop}{p q:A0}(h:∀y∈p.pre,Q y)(hq:q∈p.cP):∀y∈q.pre,Q y:=fun y hy=>h y (by rw[A0.pre_eq];exact List.mem_cons_of_mem _ (R3.2 ⟨q,hq,hy⟩))
def Qn (g:A5→A5)(V:Prop)(y:A0):Prop:=Cok g y.cQ∧(y.Op=5→V)
theorem Ld {u:Int→Int}(hm:∀a b,u a<u b↔a<b){s:List PR}(hn:s≠[])(j:Int):Z2 s+1≤j↔Z2 (Gt u s)+1≤u j:=by
 rw[OZ hn];have:=hm (Z2 s) j;omega
theorem TD.up {l' l:List A5} {g:A5→A5} {u:Int→Int} (E:TD l' l g u) (ht:Tok l' g) {p:A0} {b:List PR} {f:Int} {s:List PR} (h:Sm l' p b f s):
 (∀y∈p.pre,Qn g (Cvx l' u) y)→RQ l' b→∀f2:Int,(∀j:Int,f≤j↔f2≤u j)→Sm l p (Gt u b) f2 (Gt u s):=by
 have hQ:∀(y:A0) r,Qn g (Cvx l' u) y→Qn g (Cvx l' u) {y with cP:=r}:=fun y r h=>h
 induction h with
 |@ev p b f j h0 hf hj htt=>
  intro hq hb f2 hF;obtain⟨i,hi,_⟩:=E.at_ j hj
  have e:Gt u [⟨p.Var,(j:Int)⟩]=[⟨p.Var,(i:Int)⟩]:=by simp[Gt,Wn,hi]
  rw[e];exact .ev h0 (by rw[←hi];exact(hF j).1 hf) (E.lt_lenU hj hi).1 (by rw[E.testE_us (hq p (AJ p)).1 hb hj hi];exact htt)
 |seq1 h0 ha _ ih=>intro hq hb f2 hF;exact .seq1 h0 ha (ih (X8 hq (by rw[ha];simp)) hb f2 hF)
 |@seq p q q' r b f s t h0 ha hs _ ih1 ih2=>
  intro hq hb f2 hF;rw[←Ce E.mono _ _ _ (Nat.le_refl _)];refine .seq h0 ha (ih1 (X8 hq (by rw[ha];simp)) hb f2 hF) ?_;rw[Ce E.mono _ _ _ (Nat.le_refl _)];exact ih2 (Li hQ hq fun x hx=>by rw[ha];exact List.mem_cons_of_mem _ hx) (hb.mrg hs.inl.2) _ (Ld E.mono hs.inl.1)
 |alt h0 ha _ ih=>intro hq hb f2 hF;exact .alt h0 ha (ih (X8 hq ha) hb f2 hF)
 |all1 h0 ha _ ih=>intro hq hb f2 hF;exact .all1 h0 ha (ih (X8 hq (by rw[ha];simp)) hb f2 hF)
 |@all p q r b f s t h0 ha hn _ _ hd ih1 ih2=>
  intro hq hb f2 hF;rw[←Ce E.mono _ _ _ (Nat.le_refl _)];refine .all h0 ha hn (ih1 (Li hQ hq fun x hx=>by rw[ha];simp[hx]) hb f2 hF) (ih2 (X8 hq (by rw[ha];simp)) hb f2 hF) ?_;intro x hx y hy;obtain⟨x',hx',rfl⟩:=List.mem_map.1 hx;obtain⟨y',hy',rfl⟩:=List.mem_map.1 hy;exact fun e=>hd x' hx' y' hy' (E.injU e)
 |plus1 h0 ha _ ih=>intro hq hb f2 hF;exact .plus1 h0 ha (ih (X8 hq (by rw[ha];simp)) hb f2 hF)
 |@plus p q b f s t h0 ha hs _ ih1 ih2=>
  intro hq hb f2 hF;rw[←Ce E.mono _ _ _ (Nat.le_refl _)];refine .plus h0 ha (ih1 (X8 hq (by rw[ha];simp)) hb f2 hF) ?_;rw[Ce E.mono _ _ _ (Nat.le_refl _)];exact ih2 hq (hb.mrg hs.inl.2) _ (Ld E.mono hs.inl.1)
 |@some p q b f s h0 h1 ha hs hk ih=>
  intro hq hb f2 hF;have hp:=hq p (AJ p);exact .some h0 h1 ha (ih (X8 hq (by rw[ha];simp)) hb f2 hF) ((E.keeps_us hp.1 ht hb hs.inl.2 hs.inl.1 ⟨h0,h1⟩).2 hp.2 hk)
theorem TD.dn {l' l:List A5} {g:A5→A5} {u:Int→Int} (E:TD l' l g u) (ht:Tok l' g) {p:A0} {b2:List PR} {f2:Int} {s2:List PR} (h:Sm l p b2 f2 s2):
 (∀y∈p.pre,Qn g True y)→∀(b:List PR) (f:Int),b2=Gt u b→RQ l' b→(∀j:Int,f≤j↔f2≤u j)→(∀x∈s2,∃j:Nat,j<l'.length∧u j=x.At)→∃s,s2=Gt u s∧Sm l' p b f s:=by
 have hQ:∀(y:A0) r,Qn g True y→Qn g True {y with cP:=r}:=fun y r h=>h
 induction h with
 |@ev p b2 f2 i h0 hf hi htt=>
  intro hq b f eb hb hF hx;obtain⟨j,hj,e⟩:=hx ⟨p.Var,(i:Int)⟩ (by simp)
  simp only at e
  subst eb
  rw[E.testE_us (hq p (AJ p)).1 hb hj e]at htt
  exact⟨[⟨p.Var,(j:Int)⟩],by simp[Gt,Wn,e],.ev h0 ((hF j).2 (by rw[e];exact hf)) hj htt⟩
 |seq1 h0 ha _ ih=>
  intro hq b f eb hb hF hx;obtain⟨s,e,hs⟩:=ih (X8 hq (by rw[ha];simp)) b f eb hb hF hx;exact⟨s,e,.seq1 h0 ha hs⟩
 |@seq p q q' r b2 f2 s2 t2 h0 ha _ _ ih1 ih2=>
  intro hq b f eb hb hF hx;obtain⟨s,rfl,hs⟩:=ih1 (X8 hq (by rw[ha];simp)) b f eb hb hF fun x h=>hx x (X5.2 (.inl h));subst eb;obtain⟨t,rfl,ht⟩:=ih2 (Li hQ hq fun x hx=>by rw[ha];exact List.mem_cons_of_mem _ hx) (mrg b s) (Z2 s+1) (Ce E.mono _ _ _ (Nat.le_refl _)) (hb.mrg hs.inl.2) (Ld E.mono hs.inl.1) fun x h=>hx x (X5.2 (.inr h));exact⟨mrg s t,Ce E.mono _ _ _ (Nat.le_refl _),.seq h0 ha hs ht⟩
 |alt h0 ha _ ih=>
  intro hq b f eb hb hF hx;obtain⟨s,e,hs⟩:=ih (X8 hq ha) b f eb hb hF hx;exact⟨s,e,.alt h0 ha hs⟩
 |all1 h0 ha _ ih=>
  intro hq b f eb hb hF hx;obtain⟨s,e,hs⟩:=ih (X8 hq (by rw[ha];simp)) b f eb hb hF hx;exact⟨s,e,.all1 h0 ha hs⟩
 |@all p q r b2 f2 s2 t2 h0 ha hn _ _ hd ih1 ih2=>
  intro hq b f eb hb hF hx;obtain⟨s,rfl,hs⟩:=ih1 (Li hQ hq fun x hx=>by rw[ha];simp[hx]) b f eb hb hF fun x h=>hx x (X5.2 (.inl h));obtain⟨t,rfl,ht⟩:=ih2 (X8 hq (by rw[ha];simp)) b f eb hb hF fun x h=>hx x (X5.2 (.inr h));exact⟨mrg s t,Ce E.mono _ _ _ (Nat.le_refl _),.all h0 ha hn hs ht fun x hx y hy e=>hd (Wn u x) (List.mem_map_of_mem hx) (Wn u y) (List.mem_map_of_mem hy) (congrArg u e)⟩
 |plus1 h0 ha _ ih=>
  intro hq b f eb hb hF hx;obtain⟨s,e,hs⟩:=ih (X8 hq (by rw[ha];simp)) b f eb hb hF hx;exact⟨s,e,.plus1 h0 ha hs⟩
 |@plus p q b2 f2 s2 t2 h0 ha _ _ ih1 ih2=>
  intro hq b f eb hb hF hx;obtain⟨s,rfl,hs⟩:=ih1 (X8 hq (by rw[ha];simp)) b f eb hb hF fun x h=>hx x (X5.2 (.inl h));subst eb;obtain⟨t,rfl,ht⟩:=ih2 hq (mrg b s) (Z2 s+1) (Ce E.mono _ _ _ (Nat.le_refl _)) (hb.mrg hs.inl.2) (Ld E.mono hs.inl.1) fun x h=>hx x (X5.2 (.inr h));exact⟨mrg s t,Ce E.mono _ _ _ (Nat.le_refl _),.plus h0 ha hs ht⟩
 |@some p q b2 f2 s2 h0 h1 ha _ hk ih=>
  intro hq b f eb hb hF hx;obtain⟨s,rfl,hs⟩:=ih (X8 hq (by rw[ha];simp)) b f eb hb hF hx;subst eb;have hp:=hq p (AJ p);exact⟨s,rfl,.some h0 h1 ha hs ((E.keeps_us hp.1 ht hb hs.inl.2 hs.inl.1 ⟨h0,h1⟩).1 hk)⟩
end
end Go.Ab
namespace Go.Ab
open Classical
noncomputable section
def IV (k a:Int):Int:=if a<k then a else a+1
theorem Yu {l:List A5} {k:Nat} (hk:k<l.length):TD (l.take k++l.drop (k+1)) l id (IV k) where
 mono a b:=by unfold IV;split<;>split<;>omega
 nn a:=by unfold IV;split<;>omega
 typ _:=rfl
 at_ j hj:=by
  have h1:(l.take k).length=k:=by rw[List.length_take];omega
  rw[Option.map_id,id]
  by_cases h:j<k
  ·exact⟨j,by unfold IV;rw[if_pos (by omega)],by rw[List.getElem?_append_left (by omega),List.getElem?_take_of_lt h]⟩
  exact⟨j+1,by unfold IV;rw[if_neg (by omega)];rfl,by rw[List.getElem?_append_right (by omega),h1,List.getElem?_drop];congr 1;omega⟩
theorem Ac7 (e:DH):gE id e=e:=by
 unfold gE;have:(fun r:List A5=>r.map id)=id:=funext fun r=>List.map_id r;rw[this,List.map_id]
theorem Yv (c:A4):Cok id c:=⟨fun env own ev=>by rw[Ac7];rfl,fun env=>by rw[Ac7]⟩
theorem WR (l:List A5):Tok l id:=fun _ _ _ _=>rfl
theorem NK {l' l:List A5}{u:Int→Int}(E:TD l' l id u){s:List PR}(hs:RQ l' s):N3 l (Gt u s)=N3 l' s:=by
 unfold N3 Gt;rw[List.map_map];refine congrArg C8.mk (List.map_congr_left fun x hx=>?_);obtain⟨j,hj,e⟩:=hs x hx;obtain⟨i,hi,hl⟩:=E.at_ j hj
 rw[Option.map_id,id]at hl
 show(⟨x.Var,W3 l (u x.At)⟩:C7)=⟨x.Var,W3 l' x.At⟩
 unfold W3;rw[e,hi,Int.toNat_natCast,Int.toNat_natCast,hl]
theorem Ah5 {l:List A5}(hl:l.length≤10)(h:Hh l=0){i:Nat}(hi:i<l.length):FE l[i]=true∧∀(j:Nat) (hj:j<i),Ca (l[j]'(by omega)) l[i]=false:=by
 unfold Hh at h
 rw[if_neg (by omega)]at h
 have:=BX.1 h i (List.mem_range.2 hi)
 unfold Ke at this
 rw[List.getElem?_eq_getElem hi]at this
 dsimp only at this
 split at this
 ·cases this
 rename_i h1
 split at this
 ·cases this
 split at this
 ·cases this
 rename_i h3
 rw[Bool.not_eq_true,any_eq_false]at h3
 refine⟨by simpa using h1,fun j hj=>?_⟩;have hm:(l[j]'(by omega))∈l.take i:=List.mem_take_iff_getElem.2 ⟨j,by omega,rfl⟩
 simpa using h3 _ hm
theorem Aa1 {l' l:List A5} {u:Int→Int} (E:TD l' l id u) (hl:l.length≤10) (hl':l'.length≤10) (h:Hh l=0):Hh l'=0:=by
 have key:∀(j:Nat) (hj:j<l'.length),∃(i:Nat) (hi:i<l.length),u j=i∧l'[j]=l[i]:=fun j hj=>by
  obtain⟨i,hi,he⟩:=E.at_ j hj;have hil:=(E.lt_lenU hj hi).1
  rw[Option.map_id,id,List.getElem?_eq_getElem hj,List.getElem?_eq_getElem hil]at he
  exact⟨i,hil,hi,(Option.some.inj he).symm⟩
 unfold Hh;rw[if_neg (by omega)];refine BX.2 fun j hj=>?_;have hj:=List.mem_range.1 hj;obtain⟨i,hi,hu,he⟩:=key j hj;obtain⟨a1,a2⟩:=Ah5 hl h hi;unfold Ke;rw[List.getElem?_eq_getElem hj]
 dsimp only
 rw[if_neg (by rw[he,a1];simp),if_neg,if_neg]
 ·rw[Bool.not_eq_true,any_eq_false];intro x hx;obtain⟨j0,hj0,e0⟩:=List.mem_take_iff_getElem.1 hx;obtain⟨i0,hi0,hu0,he0⟩:=key j0 (by omega)
  have hlt:i0<i:=by have:=(E.mono j0 j).2 (by omega);omega
  rw[←e0,he0,he,a2 i0 hlt];simp
 rintro⟨h0,h1⟩
 have hj1:j - 1<l'.length:=by omega
 obtain⟨i0,hi0,hu0,he0⟩:=key (j - 1) hj1
 have hlt:i0<i:=by have:=(E.mono (j - 1:Nat) j).2 (by omega);omega
 rw[List.getElem?_eq_getElem hj1,Option.getD_some,he0,he]at h1
 obtain⟨d,rfl⟩:∃d,i=i0+d+1:=⟨i - i0 - 1,by omega⟩;have:=Pu hl h d i0 hi hi0 hi;omega
theorem Py :∀{a b:List C8},TG a→TG b→(∀x,x∈a↔x∈b)→a=b
 |[],[],_,_,_=>rfl
 |[],y::b,_,_,h=>absurd ((h y).2 (by simp)) List.not_mem_nil
 |x::a,[],_,_,h=>absurd ((h x).1 (by simp)) List.not_mem_nil
 | x::a,y::b,ha,hb,h=>by
  unfold TG at ha hb
  rw[List.pairwise_cons]at ha hb
  have irr:∀z:C8,¬mO z.cR z.cR<0:=fun z=>by rw[KZ];decide
  have asy:∀z w:C8,mO z.cR w.cR<0→¬mO w.cR z.cR<0:=fun z w h=>by rw[ST];omega
  have hxy:x=y:=by
   rcases List.mem_cons.1 ((h x).1 (by simp))with e|e
   ·exact e
   rcases List.mem_cons.1 ((h y).2 (by simp))with k|k
   ·exact k.symm
   exact absurd (hb.1 x e) (asy x y (ha.1 y k))
  subst hxy;refine congrArg (x:: ·) (Py ha.2 hb.2 fun z=>⟨fun hz=>?_,fun hz=>?_⟩)
  ·rcases List.mem_cons.1 ((h z).1 (List.mem_cons_of_mem _ hz))with e|e
   ·rw[e]at hz;exact absurd (ha.1 x hz) (irr x)
   exact e
  rcases List.mem_cons.1 ((h z).2 (List.mem_cons_of_mem _ hz))with e|e
  ·rw[e]at hz;exact absurd (hb.1 x hz) (irr x)
  exact e
structure Mts (l:List A5) (p:A0) (r:List C8):Prop where
 asc:TG r
 mem:∀x,x∈r↔∃s,Sm l p [] 0 s∧x=N3 l s
theorem Ag1 {N:Nat} (hN:40000000≤N) {p:A0} (hb:p.bulk≤16777216) {l:List A5} (hl:l.length≤10) (hs:(evs p+1) ^ l.length≤1500∨(Y2 p∧l.length ^ evs p≤1500)) (h1:Gs N p=0) (h2:Hh l=0):
 ∃r,M2 N p l=some (r,0)∧Mts l p r∧(∀x∈r,x.cR.length≤10∧x.cR≠[])∧r.length≤1500:=by
 obtain⟨r,k1,k6,⟨L,_,m2,m3⟩,k3,k4⟩:=Zr hN hb hl hs h1 h2
 have hm:Mts l p r:=⟨k6,fun x=>by
  rw[m3.mem_iff,List.mem_map]
  exact⟨fun⟨s,a,b⟩=>⟨s,(m2 s).1 a,b.symm⟩,fun⟨s,a,b⟩=>⟨s,(m2 s).2 a,b.symm⟩⟩⟩
 refine⟨r,k1,hm,fun x hx=>⟨k3 x hx,fun e=>?_⟩,k4⟩;obtain⟨s,a,rfl⟩:=(hm.mem x).1 hx;exact a.inl.1 (List.map_eq_nil_iff.1 e)
theorem Mts.part {l' l:List A5}{u:Int→Int}(E:TD l' l id u){p:A0}{r r':List C8}(h:Mts l p r)(h':Mts l' p r'):
 (∀s,Sm l p [] 0 s→(∀x∈s,∃j:Nat,j<l'.length∧u j=x.At)→N3 l s∈r')∧((∀y∈p.pre,y.Op=5→Cvx l' u)→∀x∈r',∃s,Sm l p [] 0 s∧(∀x∈s,∃j:Nat,j<l'.length∧u j=x.At)∧x=N3 l s):=by
 have hF:∀j:Int,0≤j↔0≤u j:=fun j=>(E.nn j).symm
 constructor
 ·intro s hs hx;obtain⟨t,rfl,ht⟩:=E.dn (WR l') hs (fun y _=>⟨Yv _,fun _=>trivial⟩) [] 0 rfl (fun _ h=>absurd h List.not_mem_nil) hF hx;exact(h'.mem _).2 ⟨t,ht,NK E ht.inl.2⟩
 intro hq x hx;obtain⟨t,ht,rfl⟩:=(h'.mem x).1 hx;refine⟨Gt u t,E.up (WR l') ht (fun y hy=>⟨Yv _,hq y hy⟩) (fun _ h=>absurd h List.not_mem_nil) 0 hF,fun x hx=>?_,(NK E ht.inl.2).symm⟩;obtain⟨y,hy,rfl⟩:=List.mem_map.1 hx;obtain⟨j,hj,e⟩:=ht.inl.2 y hy;exact⟨j,hj,by show _=u y.At;rw[e]⟩
theorem Sr {p:A0}{n m:Nat}(h:n≤m)(hs:(evs p+1) ^ m≤1500∨(Y2 p∧m ^ evs p≤1500)):(evs p+1) ^ n≤1500∨(Y2 p∧n ^ evs p≤1500):=by
 rcases hs with h1|⟨h1,h2⟩
 ·exact .inl (Nat.le_trans (Nat.pow_le_pow_right (by omega) h) h1)
 exact .inr ⟨h1,Nat.le_trans (Nat.pow_le_pow_left h _) h2⟩
end
end Go.Ab
namespace Go.Ab
open Classical
noncomputable section
theorem RJ {N:Nat} (hN:40000000≤N) {r:List C8} (hr:r.length≤1000000) (hb:∀x∈r,x.cR.length≤1000000) {m:C8} (hm:m.cR.length≤1000000):BR N r m=some (decide (m∈r)):=by
 unfold BR
 rw [DO (l:=r) (fun x=>decide (x=m)) (by omega) (by omega) (fun i x hx hi=>by
     have e:ar .add .i64 (i:Int) 1=i+1:=C3 (by omega) (by omega);have hmx:=List.mem_of_getElem? hx;rw[if_pos (Q0 hi),D6,hx];simp only[Option.bind_some];rw[Ua hN (hb x hmx) hm];simp only[Option.bind_some,e]
     by_cases h:x=m
     ·rw[if_pos (by rw[C2,h,KZ];rfl),if_pos (decide_eq_true h)]
     rw[if_neg (by rw[C2];simp;intro e;exact h (by cases x;cases m;have:=KY e;dsimp only at this;rw[this])),if_neg (by simpa using h)]) (by rw[if_neg N8])]
 have hiff:(r.any fun x=>decide (x=m))=decide (m∈r):=by rw[Bool.eq_iff_iff];simp
 rw[hiff]
 by_cases hs:m∈r
 ·rw[if_pos (decide_eq_true hs),decide_eq_true hs];rfl
 rw[if_neg (by simpa using hs),decide_eq_false hs];rfl
end
end Go.Ab
namespace Go.Ab
open Classical
noncomputable section
theorem EP {α:Type}{N:Nat}{l:List α}{step:Int→Option (Int ⊕ (Unit ⊕ Int))}{k:Unit ⊕ Int→Option Int}(P:α→Bool)(hl:l.length<N)(hN:l.length<1000000000)
 (hstep:∀(i:Nat) x,l[i]? =some x→(i:Int)<l.length→step i=some (if P x=true then .inr (.inr (i:Int))else .inl ((i:Int)+1)))
 (hend:step (l.length:Int)=some (.inr (.inl ()))) (h0:k (.inl ())=some (-1)) (h1:∀i,k (.inr i)=some i):(((loopN step N 0).bind k).bind fun r1=>some (cmp .geq r1 0))=some (l.any P):=by
 obtain⟨j,h,hj⟩:=Mj hl hN P () (fun i=>i) hstep hend;rw[h]
 by_cases ha:l.any P=true
 ·rw[if_pos ha,ha];simp only[Option.bind_some,h1,N6,decide_eq_true hj]
 rw[if_neg ha];simp only[Option.bind_some,h0,N6]
 rw[Bool.not_eq_true]at ha
 rw[ha];rfl
theorem Ag9 {N:Nat} (hN:40000000≤N) {s:List C8} (hl:s.length≤1000000) {f:C8→Option Bool} {P:C8→Bool} (hf:∀x∈s,f x=some (P x)):D2 N s f=some (s.any P):=by
 unfold D2 M0
 exact EP P (by omega) (by omega) (fun i x hx hi=>by
  have e:ar .add .i64 (i:Int) 1=i+1:=C3 (by omega) (by omega);rw[if_pos (Q0 hi),D6,hx];simp only[Option.bind_some,hf x (List.mem_of_getElem? hx),e]
  split<;>rfl) (by rw[if_neg N8]) rfl fun _=>rfl
theorem hasB {N:Nat} (hN:40000000≤N) {s:List C7} (hl:s.length≤1000000) {f:C7→Option Bool} {P:C7→Bool} (hf:∀x∈s,f x=some (P x)):F4 N s f=some (s.any P):=by
 unfold F4 J1
 exact EP P (by omega) (by omega) (fun i x hx hi=>by
  have e:ar .add .i64 (i:Int) 1=i+1:=C3 (by omega) (by omega);rw[if_pos (Q0 hi),D6,hx];simp only[Option.bind_some,hf x (List.mem_of_getElem? hx),e]
  split<;>rfl) (by rw[if_neg N8]) rfl fun _=>rfl
theorem hasP {N:Nat} (hN:40000000≤N) {s:List A0} (hl:s.length≤16777216) {f:A0→Option Bool} {P:A0→Bool} (hf:∀x∈s,f x=some (P x)):F3 N s f=some (s.any P):=by
 unfold F3 J0
 exact EP P (by omega) (by omega) (fun i x hx hi=>by
  have e:ar .add .i64 (i:Int) 1=i+1:=C3 (by omega) (by omega);rw[if_pos (Q0 hi),D6,hx];simp only[Option.bind_some,hf x (List.mem_of_getElem? hx),e]
  split<;>rfl) (by rw[if_neg N8]) rfl fun _=>rfl
theorem Jm {α:Type} (Q:α→Bool):∀(L a:List α),L.foldl (fun s x=>if Q x=true then s++[x]else s) a=a++L.filter Q
 |[],a=>by simp
 |x::L,a=>by
  rw[List.foldl_cons,Jm Q L]
  by_cases h:Q x=true
  ·rw[if_pos h,List.filter_cons_of_pos h];simp
  rw[if_neg h,List.filter_cons_of_neg h]
theorem NN {α:Type} {N:Nat} {L:List α} {step:List α×Int→Option ((List α×Int) ⊕ List α)} (Q:α→Bool) (hN:L.length<N) (hl:L.length≤1000000)
 (hs:∀s (i:Nat) x,L[i]? =some x→x∈L→(i:Int)<L.length→ar .add .i64 (i:Int) 1=i+1→s.length<1000000→step (s,(i:Int))=some (.inl (if Q x=true then s++[x]else s,(i:Int)+1)))
 (he:∀s,step (s,(L.length:Int))=some (.inr s)):loopN step N ([],0)=some (L.filter Q):=by
 have h:=(JU (L:=L) (step:=step) (fun(s:List α) i=>(s,i)) (fun s x=>if Q x=true then s++[x]else s) (fun s=>s) (fun i s=>s.length≤i) (s0:=[]) hN (by omega) (by simp)
  (fun s i x hx hi hm e hv=>⟨hs s i x hx hm hi e (by omega),by
   split
   ·rw[List.length_append,List.length_singleton];omega
   omega⟩) he).1
 exact h.trans (congrArg some ((Jm Q L []).trans (List.nil_append _)))
structure MS (N:Nat) (p:A0) (l:List A5):Prop where
 len:l.length≤10
 sml:(evs p+1) ^ l.length≤1500∨(Y2 p∧l.length ^ evs p≤1500)
 p0:Gs N p=0
 s0:Hh l=0
theorem UB {N:Nat} (hN:40000000≤N) {p:A0} (hb:p.bulk≤16777216) {l:List A5} (hl:l.length≤16777216):∃b,CE N p l=some b∧(b=true→MS N p l):=by
 unfold CE;obtain⟨b,h1,h2⟩:=WX hN (p:=p) hb (l:=l) hl;rw[h1];simp only[Option.bind_some]
 cases b with
 |false=>exact⟨false,rfl,fun h=>by cases h⟩
 | true=>
  rw[if_pos rfl];unfold Ew;rw[JO hN hb];simp only[Option.bind_some]
  by_cases h3:Gs N p=0
  ·rw[if_neg (I1 h3),Zn hN];refine⟨_,rfl,fun h=>⟨(h2 rfl).1,(h2 rfl).2,h3,?_⟩⟩
   rw[C2]at h
   exact of_decide_eq_true h
  rw[if_pos (K0 h3)];refine⟨_,rfl,fun h=>?_⟩
  rw[C2]at h
  exact absurd (of_decide_eq_true h) h3
theorem Df {N:Nat} (hN:40000000≤N) {p:A0} (hb:p.bulk≤16777216) {l:List A5} (g:MS N p l):
 ∃r,M8 N p l=some (r,true)∧Mts l p r∧(∀x∈r,x.cR.length≤10∧x.cR≠[])∧r.length≤1500:=by
 obtain⟨r,k1,k3,k4,k5⟩:=Ag1 hN hb g.len g.sml g.p0 g.s0;refine⟨r,?_,k3,k4,k5⟩;unfold M8 X0;rw[k1];simp only[Option.bind_some];rw[if_pos (by rw[C2];rfl),Ag9 hN (by omega) (f:=fun y1=>Ak N y1) (P:=fun x=>cmp .eql (Ar.len x.cR) 0) fun x _=>rfl]
 have:(r.any fun x=>cmp .eql (Ar.len x.cR) 0)=false:=by
  rw[any_eq_false];intro x hx;rw[C2,B3]
  simpa using(k4 x hx).2
 simp only[Option.bind_some,this];rfl
theorem MS.part {N:Nat}{p:A0}{l l':List A5}(g:MS N p l){u:Int→Int}(E:TD l' l id u)(h:l'.length≤l.length):MS N p l':=
 ⟨by have:=g.len;omega,Sr h g.sml,g.p0,Aa1 E g.len (by have:=g.len;omega) g.s0⟩
theorem XS {N:Nat} (hN:40000000≤N):∀(n:Nat) (p:A0),p.pre.length≤n→p.pre.length≤16777216→AP N n p=some (p.pre.any fun y=>decide (y.Op=5)):=by
 intro n
 induction n with
 |zero=>intro p h;have:=BY p;omega
 | succ n ih=>
  intro p h hb;have hp:=BY p;have hal:=AS p;unfold AP;rw[A0.pre_eq p,List.any_cons]
  by_cases h5:p.Op=5
  ·rw[if_pos (by rw[C2];exact decide_eq_true h5)];simp[h5]
  rw [if_neg (by rw[C2];simpa using h5),hasP hN (by omega) (P:=fun x=>x.pre.any fun y=>decide (y.Op=5)) fun x hx=>by
      have hxl:=P0 hx
      exact ih x (by omega) (by omega),LS]
  simp only[Option.bind_some,h5,decide_false,Bool.false_or]
theorem TU {N:Nat}(hN:40000000≤N){r q:List C8}(e:r=q)(hr:r.length≤1000000)(hb:∀x∈r,x.cR.length≤1000000):BF N r q=some true:=by subst e;exact Vw hN hr hb
def EU (e:El)(x:C8):Bool:=x.cR.any fun b=>decide (b.Ref=e)
theorem Ok {l:List A5} (hl:l.length≤10) (hc:Hh l=0) {s:List PR} (hs:RQ l s) {k:Nat} (hk:k<l.length):EU (W3 l k) (N3 l s)=false↔∀x∈s,x.At≠k:=by
 unfold EU N3;rw[List.any_map,any_eq_false]
 constructor
 ·intro h x hx e;have:=h x hx
  simp only[Function.comp_apply,e,decide_true,not_true]at this
 intro h x hx e;obtain⟨j,hj,ej⟩:=hs x hx;exact h x hx (TZ hl hc (by omega) (by omega) (of_decide_eq_true e))
theorem VS {N:Nat} (hN:40000000≤N) (awake:J6 N=some true) {p:A0} (hb:p.bulk≤1048576) {l:List A5} (hl:l.length≤1048576) {w:Int} (hw0:0≤w) (hw:w<1000):X6 N p l w=some true:=by
 unfold X6;obtain⟨b,h1,h2⟩:=UB hN (p:=p) (by omega) (l:=l) (by omega);rw[h1];simp only[Option.bind_some]
 by_cases hc:Ar.or (nt b) (cmp .eql (Ar.len l) 0)=true
 ·rw[if_pos hc,awake];rfl
 rw[if_neg hc]
 simp only[K1,T3,C2,B3,Bool.or_eq_true,Bool.not_eq_true',decide_eq_true_eq,not_or,Bool.not_eq_false]at hc
 have g:=h2 hc.1;have hlen:=g.len
 have hpos:0<l.length:=by omega
 obtain⟨k,hk,ek⟩:∃k:Nat,k<l.length∧ar .rem .i64 (wr .i64 w) (Ar.len l)=(k:Int):=by
  refine⟨w.toNat % l.length,Nat.mod_lt _ hpos,?_⟩;have e1:wr .i64 w=w:=WH hw0 hw;rw[e1,B3]
  show arI .rem .i64 w (l.length:Int)=_
  obtain⟨w,rfl⟩:=Int.eq_ofNat_of_zero_le hw0
  show(w:Int).tmod (l.length:Int)=_
  rw[Int.toNat_natCast];exact(Int.ofNat_tmod w l.length).symm
 have ek1:ar .add .i64 (k:Int) 1=((k+1:Nat):Int):=by rw[C3 (by omega) (by omega)];rfl
 obtain⟨r,r1,r2,r3,r4⟩:=Df hN (show p.bulk≤16777216 by omega) g
 have hq:TY (cmp .neq (Ar.len l) 0)=some ():=by
  unfold TY;rw[if_pos];rw[F6,B3,decide_eq_false (by omega)];rfl
 rw[hq,r1,ek,ek1,Lq (show k≤l.length by omega),MD (show k+1≤l.length by omega)];simp only[Option.bind_some];rw[N7 (by simp;omega)];simp only[Option.bind_some];rw[N7 (by simp;omega)];simp only[Option.bind_some,List.nil_append];have E:=Yu hk
 have hl':(l.take k++l.drop (k+1)).length≤l.length:=by simp;omega
 generalize hL:l.take k++l.drop (k+1)=l' at *
 obtain⟨r',q1,q2,q3,q4⟩:=Df hN (show p.bulk≤16777216 by omega) (g.part E hl');rw[q1];simp only[Option.bind_some];rw[if_neg (by decide)];have hke:B8 l (k:Int)=some l[k]:=EV hk
 have hkr:(⟨l[k].Time,l[k].Source,l[k].Seq⟩:El)=W3 l k:=by simp[W3,hk]
 rw[NN (L:=r) (fun x=> !EU (W3 l k) x) (by omega) (by omega) (fun s i x hx hm hi e hsl=>by
  dsimp only
  rw[if_pos (Q0 hi),D6,hx];simp only[Option.bind_some]
  rw[hasB hN (by have:=(r3 x hm).1;omega) (P:=fun b=>decide (b.Ref=W3 l k)) (fun b _=>by
   unfold P3 CB;rw[hke];simp only[Option.bind_some];rw[←hkr];obtain⟨v,t,sr,sq⟩:=b;refine congrArg some ?_;simp only[M9,C2,Bool.and_true];rw[Bool.eq_iff_iff]
   simp[and_assoc])]
  simp only[Option.bind_some,e];have hbr:(x.cR.any fun b=>decide (b.Ref=W3 l k))=EU (W3 l k) x:=rfl;rw[hbr]
  cases EU (W3 l k) x with
  |true=>rfl
  |false=>
   rw[if_pos (show nt false=true from rfl),if_pos (show(!false)=true from rfl),N7 (by simp;omega)];rfl) (fun s=>by dsimp only;rw[if_neg N8])]
 simp only[Option.bind_some];have hpb:=Ae p;rw[XS hN N p (by omega) (by omega)];simp only[Option.bind_some];obtain⟨m1,m2⟩:=r2.part E q2
 have hwant:∀x,x∈r.filter (fun x=> !EU (W3 l k) x)↔∃s,Sm l p [] 0 s∧(∀x∈s,x.At≠k)∧x=N3 l s:=fun x=>by
  rw[List.mem_filter,Bool.not_eq_true']
  constructor
  ·rintro⟨h1,h2⟩;obtain⟨s,hs,rfl⟩:=(r2.mem x).1 h1;exact⟨s,hs,(Ok hlen g.s0 hs.inl.2 hk).1 h2,rfl⟩
  rintro⟨s,hs,h2,rfl⟩;exact⟨(r2.mem _).2 ⟨s,hs,rfl⟩,(Ok hlen g.s0 hs.inl.2 hk).2 h2⟩
 have him:∀a:Int,(∃i:Nat,i<l.length∧a=i)→a≠k→∃j:Nat,j<l'.length∧IV k j=a:=fun a ⟨i,hi,e⟩ hne=>by
  have hll:l'.length+1=l.length:=by rw[←hL];simp;omega
  by_cases h:i<k
  ·exact⟨i,by omega,by unfold IV;rw[if_pos (by omega)];omega⟩
  exact⟨i - 1,by omega,by unfold IV;rw[if_neg (by omega)];omega⟩
 have hsub:∀x∈r.filter (fun x=> !EU (W3 l k) x),x∈r':=fun x hx=>by
  obtain⟨s,hs,hn,rfl⟩:=(hwant x).1 hx;exact m1 s hs fun y hy=>him y.At (hs.inl.2 y hy) (hn y hy)
 cases hlk:p.pre.any fun y=>decide (y.Op=5)with
 | false=>
  rw[if_pos (show nt false=true from rfl)]
  have heq:r'=r.filter (fun x=> !EU (W3 l k) x):=by
   refine Py q2.asc (List.Pairwise.filter _ r2.asc) fun x=>⟨fun hx=>?_,hsub x⟩
   obtain⟨s,hs,hi,rfl⟩:=m2 (fun y hy h=>by
    rw[any_eq_false]at hlk
    exact absurd (decide_eq_true h) (hlk y hy)) x hx
   refine(hwant _).2 ⟨s,hs,fun y hy e=>?_,rfl⟩;obtain⟨j,_,ej⟩:=hi y hy
   rw[e]at ej
   unfold IV at ej
   split at ej<;>omega
  rw[TU hN heq (by omega) fun x hx=>by have:=(q3 x hx).1;omega];simp only[Option.bind_some];rw[if_pos trivial,awake];rfl
 | true=>
  rw[if_neg (by decide)];have hfl:(r.filter fun x=> !EU (W3 l k) x).length≤r.length:=List.length_filter_le _ _
  rw[Ag9 hN (by omega) (P:=fun x=> !decide (x∈r')) (fun x hx=>by
   have hxr:=(List.mem_filter.1 hx).1;unfold P2;rw[RJ hN (by omega) (fun y hy=>by have:=(q3 y hy).1;omega) (by have:=(r3 x hxr).1;omega)]
   rfl)]
  simp only[Option.bind_some]
  have:((r.filter fun x=> !EU (W3 l k) x).any fun x=> !decide (x∈r'))=false:=by
   rw[any_eq_false];intro x hx;simp[hsub x hx]
  rw[this,if_pos (show nt false=true from rfl),awake];rfl
end
end Go.Ab
namespace Go.Ab
open Classical
noncomputable section
mutual
def noS :A0→A0
 |⟨op,args,typ,var,_,span,c⟩=>⟨op,LY args,typ,var,0,span,c⟩
def LY :List A0→List A0
 |[]=>[]
 |a::r=>noS a::LY r
end
theorem QT :∀l:List A0,LY l=l.map noS
 |[]=>by simp[LY]
 |a::l=>by simp[LY,QT l]
theorem SP (p:A0):noS p={p with cP:=p.cP.map noS,cS:=0}:=by cases p;simp only[noS,QT]
def Hk (p q:A0):Prop:=noS p=noS q
structure JA (p q:A0):Prop where
 op:p.Op=q.Op
 typ:p.Typ=q.Typ
 var:p.Var=q.Var
 span:p.Span=q.Span
 cond:p.cQ=q.cQ
 args:p.cP.map noS=q.cP.map noS
theorem Hk.iff {p q:A0}:Hk p q↔JA p q:=by
 unfold Hk;rw[SP,SP]
 constructor
 ·intro h
  simp only[A0.mk.injEq]at h
  exact⟨h.1,h.2.2.1,h.2.2.2.1,h.2.2.2.2.2.1,h.2.2.2.2.2.2,h.2.1⟩
 rintro⟨h1,h2,h3,h4,h5,h6⟩;rw[h1,h2,h3,h4,h5,h6]
theorem Ag {a:A0} {r l:List A0} (h:(a::r).map noS=l.map noS):∃b m,l=b::m∧Hk a b∧r.map noS=m.map noS:=by
 cases l with
 |nil=>simp at h
 |cons b m=>
  simp only[List.map_cons,List.cons.injEq]at h
  exact⟨b,m,rfl,h.1,h.2⟩
theorem OX {a:A0}{r l:List A0}(h:(r++[a]).map noS=l.map noS):∃b m,l=m++[b]∧Hk a b∧r.map noS=m.map noS:=by
 rcases List.eq_nil_or_concat l with rfl|⟨m,b,rfl⟩
 ·simp at h
 rw[List.concat_eq_append]at h ⊢
 rw[List.map_append,List.map_append]at h
 have h1:=List.append_inj_left' h rfl;have h2:=List.append_inj_right' h rfl
 simp only[List.map_cons,List.map_nil,List.cons.injEq,and_true]at h2
 exact⟨b,m,rfl,h2,h1⟩
theorem QY {a:A0}{r l:List A0}(h:r.map noS=l.map noS)(ha:a∈r):∃b∈l,Hk a b:=by
 have:noS a∈l.map noS:=by rw[←h];exact List.mem_map_of_mem ha
 obtain⟨b,hb,e⟩:=List.mem_map.1 this;exact⟨b,hb,e.symm⟩
theorem Hk.sub {p q:A0}(h:JA p q){r m:List A0}(e:r.map noS=m.map noS):Hk {p with cP:=r} {q with cP:=m}:=Hk.iff.2 ⟨h.op,h.typ,h.var,h.span,h.cond,e⟩
theorem JA.testE {p q:A0}(h:JA p q)(l:List A5)(b:List PR)(j:Nat):testE l p b j=Go.Ab.testE l q b j:=by unfold Go.Ab.testE;rw[h.typ,h.var,h.cond]
theorem JA.keepsA {p q:A0}(h:JA p q)(l:List A5)(b s:List PR):keepsA l p b s=Go.Ab.keepsA l q b s:=by
 have hb:∀i,Gm l p b s i=Gm l q b s i:=fun i=>by unfold Gm;rw[h.typ,h.var,h.cond]
 unfold Go.Ab.keepsA IG;rw[h.op,h.span,h.cond];simp only[hb]
theorem Sm.peq {l:List A5} {p:A0} {b:List PR} {f:Int} {s:List PR} (h:Sm l p b f s):∀q,Hk p q→Sm l q b f s:=by
 induction h with
 |@ev p b f j h0 hf hj ht=>
  intro q hq;have k:=Hk.iff.1 hq;rw[k.var];exact .ev (by rw[←k.op];exact h0) hf hj (by rw[←k.testE];exact ht)
 |seq1 h0 ha _ ih=>
  intro q hq;have k:=Hk.iff.1 hq;have e:=k.args
  rw[ha]at e
  obtain⟨b1,m,e1,e2,e3⟩:=Ag e
  cases m with
  |nil=>exact .seq1 (by rw[←k.op];exact h0) e1 (ih _ e2)
  |cons=>simp at e3
 |@seq p q1 q' r b f s t h0 ha _ _ ih1 ih2=>
  intro q hq;have k:=Hk.iff.1 hq;have e:=k.args
  rw[ha]at e
  obtain⟨b1,m,e1,e2,e3⟩:=Ag e;obtain⟨b2,m2,rfl,e5,e6⟩:=Ag e3;exact .seq (by rw[←k.op];exact h0) e1 (ih1 _ e2) (ih2 _ (Hk.sub k e3))
 |alt h0 ha _ ih=>
  intro q hq;have k:=Hk.iff.1 hq;obtain⟨b1,e1,e2⟩:=QY k.args ha;exact .alt (by rw[←k.op];exact h0) e1 (ih _ e2)
 |all1 h0 ha _ ih=>
  intro q hq;have k:=Hk.iff.1 hq;have e:=k.args
  rw[ha]at e
  obtain⟨b1,m,e1,e2,e3⟩:=Ag e
  cases m with
  |nil=>exact .all1 (by rw[←k.op];exact h0) e1 (ih _ e2)
  |cons=>simp at e3
 |@all p q1 r b f s t h0 ha hn _ _ hd ih1 ih2=>
  intro q hq;have k:=Hk.iff.1 hq;have e:=k.args
  rw[ha]at e
  obtain⟨b1,m,e1,e2,e3⟩:=OX e;refine .all (by rw[←k.op];exact h0) e1 (fun h=>hn ?_) (ih1 _ (Hk.sub k e3)) (ih2 _ e2) hd
  rw[h]at e3
  exact List.map_eq_nil_iff.1 e3
 |plus1 h0 ha _ ih=>
  intro q hq;have k:=Hk.iff.1 hq;have e:=k.args
  rw[ha]at e
  obtain⟨b1,m,e1,e2,e3⟩:=Ag e
  cases m with
  |nil=>exact .plus1 (by rw[←k.op];exact h0) e1 (ih _ e2)
  |cons=>simp at e3
 |plus h0 ha _ _ ih1 ih2=>
  intro q hq;have k:=Hk.iff.1 hq;have e:=k.args
  rw[ha]at e
  obtain⟨b1,m,e1,e2,e3⟩:=Ag e
  cases m with
  |nil=>exact .plus (by rw[←k.op];exact h0) e1 (ih1 _ e2) (ih2 _ hq)
  |cons=>simp at e3
 |some h0 h1 ha _ hk ih=>
  intro q hq;have k:=Hk.iff.1 hq;have e:=k.args
  rw[ha]at e
  obtain⟨b1,m,e1,e2,e3⟩:=Ag e
  cases m with
  |nil=>exact .some (by rw[←k.op];exact h0) (by rw[←k.op];exact h1) e1 (ih _ e2) (by rw[←k.keepsA];exact hk)
  |cons=>simp at e3
mutual
theorem KV :∀p:A0,(noS p).pre=p.pre.map noS
 |⟨op,args,typ,var,scope,span,c⟩=>by simp only[noS,A0.pre,List.map_cons];rw[NI args]
theorem NI :∀l:List A0,A0.pres (LY l)=(A0.pres l).map noS
 |[]=>by simp[LY,A0.pres]
 |a::r=>by simp only[LY,A0.pres,List.map_append];rw[KV a,NI r]
end
mutual
theorem LZ :∀p:A0,(noS p).bulk=p.bulk
 |⟨op,args,typ,var,scope,span,c⟩=>by simp only[noS,A0.bulk];rw[LX args]
theorem LX :∀l:List A0,A0.bulks (LY l)=A0.bulks l
 |[]=>by simp[LY]
 |a::r=>by simp only[LY,A0.bulks];rw[LZ a,LX r]
end
theorem Hk.bulk {p q:A0}(h:Hk p q):p.bulk=q.bulk:=by rw[←LZ p,h,LZ]
theorem SO (p:A0):(noS p).Op=p.Op:=by rw[SP]
theorem Ug (p:A0):evs (noS p)=evs p:=by
 unfold evs;rw[KV,List.countP_map]
 exact List.countP_congr fun y _=>by simp only[Function.comp_apply,SO]
theorem Hk.evs {p q:A0}(h:Hk p q):evs p=Go.Ab.evs q:=by rw[←Ug p,h,Ug]
theorem Hk.noPlus {p q:A0}(h:Hk p q)(k:Y2 p):Y2 q:=by
 intro y hy
 have h1:noS y∈(noS q).pre:=by rw[KV];exact List.mem_map_of_mem hy
 rw[←h,KV]at h1
 obtain⟨z,hz,e⟩:=List.mem_map.1 h1;rw[←SO y,←e,SO];exact k z hz
end
end Go.Ab
namespace Go.Ab
open Classical
noncomputable section
theorem FM {S R T:Type}{step:S→Option (S ⊕ R)}{k:R→Option T}{Q:T→Prop}(I:Nat→S→Prop)(n:Nat){s:S}{N:Nat}(hN:n<N)(h0:I 0 s)
 (hs:∀j s,j<n→I j s→∃o,step s=some o∧(match o with| .inl s'=>I (j+1) s'| .inr r=>∃t,k r=some t∧Q t)) (he:∀s,I n s→∃r,step s=some (.inr r)∧∃t,k r=some t∧Q t):∃t,(loopN step N s).bind k=some t∧Q t:=by
 obtain⟨r,h1,h2⟩:=Jg (step:=step) I (fun r=>∃t,k r=some t∧Q t) n 0 s N hN h0 (fun j s _ hj h=>hs j s (by omega) h) fun s h=>he s (by rw[Nat.zero_add]at h;exact h);rw[h1];exact h2
def TC (to:List Int):Prop:=∀(v:Nat) x,to[v]? =some x→x<0∨x=v
theorem TC.at {to:List Int}(h:TC to){v x:Int}(e:B8 to v=some x):x<0∨x=v:=by
 unfold B8 at e
 split at e
 ·have:=h _ _ e;omega
 cases e
theorem Pf {α:Type}{l:List α}{v:Int}(h0:0≤v)(h1:v<l.length):∃x,B8 l v=some x:=by
 unfold B8;rw[if_pos h0];exact⟨l[v.toNat]'(by omega),List.getElem?_eq_getElem _⟩
theorem EZ {α:Type}{l:List α}{j:Nat}(hj:j<l.length):l.take (j+1)=l.take j++[l[j]]:=List.take_succ_eq_append_getElem hj
theorem Ha (x:A4):A4.mk x.Op x.cP x.Var x.Field x.Kind x.Value=x:=by cases x;rfl
theorem Ph (x:A0):A0.mk x.Op x.cP x.Typ x.Var x.cS x.Span x.cQ=x:=by cases x;rfl
theorem FY (a:A4):∀l:List A4,A4.bulks (l++[a])=A4.bulks l+a.bulk
 |[]=>by simp[A4.bulks];omega
 |b::l=>by simp only[List.cons_append,A4.bulks,FY a l];omega
theorem IH (a:A0):∀l:List A0,A0.bulks (l++[a])=A0.bulks l+a.bulk
 |[]=>by simp[A0.bulks];omega
 |b::l=>by simp only[List.cons_append,A0.bulks,IH a l];omega
theorem Ae8 {N:Nat} (hN:40000000≤N) (to:List Int):∀(n:Nat) (x:A4),x.bulk≤n→x.bulk≤16777216→(∀y∈x.pre,Y7 y=0)→∃r:A4×Int,Ad N n x to=some r∧(TC to→r.2=0→r.1=x)∧(r.2=0→r.1.bulk=x.bulk):=by
 intro n
 induction n with
 |zero=>intro x h;have:=BO x;omega
 | succ n ih=>
  intro x hx hb hg;have hl:=CD x;unfold Ad BG;simp only[Option.bind_some];have hx0:=hg x (by rw[A4.pre_eq];simp)
  have tail:∀y8:A4,(TC to→{y8 with cP:=[]}={x with cP:=[]})→({y8 with cP:=[]}:A4).bulk=({x with cP:=[]}:A4).bulk→∃r:A4×Int,((loopN
   (fun(s9:Int×A4)=>
    (
     if cmp .lss s9.1 (Ar.len x.cP)=true then
      (B8 x.cP s9.1).bind fun x12=>
      (Ad N n x12 to).bind fun r13=>
      if cmp .neq r13.2 0=true then
       some (.inr (.inr (r13.2,s9.2)))
      else
       (K9 s9.2.cP ([r13.1])).bind fun l15=>
       some (.inl (ar .add .i64 s9.1 1,{s9.2 with cP:=l15}))
     else
      some (.inr (.inl s9.2))
     :Option ((Int×A4) ⊕ (A4 ⊕ (Int×A4)))))
   N (0,{y8 with cP:=[]})).bind fun s11=>
   match s11 with
   | .inl y16=>
    some (y16,0)
   | .inr y18=>
    some ((⟨0,[],0,0,0,(⟨0,0,⟨#[]⟩⟩:A7)⟩:A4),y18.1))=some r∧(TC to→r.2=0→r.1=x)∧(r.2=0→r.1.bulk=x.bulk):=by
   intro y8 h8 hb8;refine FM (fun(j:Nat) (s:Int×A4)=>s.1=(j:Int)∧s.2.cP.length=j∧(TC to→s.2={x with cP:=x.cP.take j})∧s.2.bulk=({x with cP:=x.cP.take j}:A4).bulk) x.cP.length (by omega) ⟨rfl,rfl,fun h=>h8 h,hb8⟩ (fun j s hj ⟨e,e1,e2,e5⟩=>?_) (fun s ⟨e,e1,e2,e5⟩=>?_)
   ·obtain⟨i,q⟩:=s
    dsimp only at e e1 e2 e5
    subst e;have hm:=List.getElem_mem hj;have hmb:=Y1 hm;obtain⟨r,r1,r2,r3⟩:=ih x.cP[j] (by omega) (by omega) fun y hy=>hg y (by rw[A4.pre_eq];exact List.mem_cons_of_mem _ (Lt hy _ hm))
    dsimp only
    rw[if_pos (Ch (show(j:Int)<Ar.len x.cP by rw[B3];omega)),D6,List.getElem?_eq_getElem hj];simp only[Option.bind_some,r1]
    by_cases h0:r.2=0
    ·rw[if_neg (I1 h0),N7 (by simp;omega)];refine⟨_,rfl,Jj (by omega),by simp[e1],fun h=>?_,?_⟩
     ·have e3:=e2 h;subst e3
      dsimp only
      rw[EZ hj,r2 h h0]
     have:=r3 h0
     rw[A4.bulk_eq]at e5 ⊢
     rw[A4.bulk_eq ({x with cP:=x.cP.take j}:A4)]at e5
     rw[A4.bulk_eq ({x with cP:=x.cP.take (j+1)}:A4)]
     dsimp only at e5 ⊢
     rw[EZ hj,FY,FY,this];omega
    rw[if_pos (K0 h0)];exact⟨_,rfl,_,rfl,fun _ h=>absurd h h0,fun h=>absurd h h0⟩
   obtain⟨i,q⟩:=s
   dsimp only at e e1 e2 e5
   subst e
   dsimp only
   rw[if_neg N8];refine⟨_,rfl,_,rfl,fun h _=>?_,fun _=>?_⟩
   ·have:=e2 h
    rw[List.take_length]at this
    exact this.trans (Ha x)
   rw[List.take_length]at e5
   exact e5.trans (congrArg A4.bulk (Ha x))
  by_cases hu:Ar.or (Ar.or (Ar.or (cmp .eql x.Op 1) (cmp .eql x.Op 4)) (cmp .eql x.Op 2)) (cmp .eql x.Op 3)=true
  ·rw[if_pos hu]
   have hv:0≤x.Var:=by
    have ho:¬LU x=true:=fun ho=>by
     unfold Y7 at hx0
     by_cases a:x.Op<0∨12<x.Op
     ·rw[if_pos a]at hx0;cases hx0
     rw[if_neg a]at hx0
     by_cases b:(x.cP.length:Int)≠(if x.Op<5 then 0 else if x.Op=12 then 1 else 2)
     ·rw[if_pos b]at hx0;cases hx0
     rw[if_neg b,if_pos ho]at hx0;cases hx0
    unfold LU at ho
    simp only[K1,C2,Bool.or_eq_true,decide_eq_true_eq]at hu
    have huv:TK x.Op=true:=by rcases hu with((h|h)|h)|h<;>rw[h]<;>rfl
    simp only[K1,M9,huv,C1,N6,Bool.true_and,Bool.or_eq_true,decide_eq_true_eq,not_or]at ho
    omega
   by_cases h1:cmp .geq x.Var (Ar.len to)=true
   ·rw[if_pos h1];exact⟨_,rfl,(fun _ h=>by cases h),fun h=>by cases h⟩
   rw[if_neg h1]
   rw[N6,B3]at h1
   simp only[decide_eq_true_eq,Int.not_le]at h1
   obtain⟨v,ev⟩:=Pf hv h1;rw[ev];simp only[Option.bind_some]
   by_cases h2:cmp .lss v 0=true
   ·rw[if_pos h2];exact⟨_,rfl,(fun _ h=>by cases h),fun h=>by cases h⟩
   rw[if_neg h2]
   by_cases h3:cmp .geq v 16=true
   ·rw[if_pos h3];exact⟨_,rfl,(fun _ h=>by cases h),fun h=>by cases h⟩
   rw[if_neg h3];simp only[Option.bind_some];refine tail {x with cP:=[],Var:=v} (fun h=>?_) (by rw[A4.bulk_eq,A4.bulk_eq ({x with cP:=[]}:A4)])
   rw[C1]at h2
   have:v=x.Var:=by
    rcases h.at ev with k|k
    ·exact absurd (decide_eq_true k) h2
    exact k
   rw[this]
  rw[if_neg hu];simp only[Option.bind_some];exact tail {x with cP:=[]} (fun _=>rfl) rfl
theorem Wp {N:Nat}(hN:40000000≤N)(to:List Int){x:A4}(hb:x.bulk≤16777216):∃r:A4×Int,Bb N x to=some r∧(TC to→r.2=0→r.1=x)∧(r.2=0→r.1.bulk=x.bulk):=by
 unfold Bb;rw[MK hN hb];simp only[Option.bind_some]
 by_cases h:K2 x=0
 ·rw[if_neg (I1 h)];obtain⟨r,r1,r2⟩:=Ae8 hN to N x (by omega) hb (HS h);rw[r1];exact⟨_,rfl,r2⟩
 rw[if_pos (K0 h)];exact⟨_,rfl,fun _ k=>absurd k h,fun k=>absurd k h⟩
theorem Ad9 {N:Nat} (hN:40000000≤N) {y:A0} (hb:y.bulk≤16777216) (hl:y.cP.length≤64) (h:Y5 N y=0):∃s ng,EK N y s ng∧(s.cT=true→0≤y.Var∧y.Var<16):=by
 obtain⟨ho,s,ng,hs,hc⟩:=Ip hN hb hl h;refine⟨s,ng,hs,fun ht=>?_⟩;have hz:=TV hN N y.cQ (⟨0,[],0,0,0,(⟨0,0,⟨#[]⟩⟩:A7)⟩:A4) (by omega) (by omega);have h1:=CM hN (by omega) ho.1 ho.2 hs hz
 rw[(BU hN hb hl).2,h]at h1
 have h1:=Option.some.inj h1
 by_cases har:s.cV≤y.cP.length∧(y.cP.length:Int)≤s.most
 ·rw[if_pos har]at h1
  unfold GN at h1
  by_cases e1:Cp s.cT y.Typ 15=true
  ·rw[if_pos e1]at h1;cases h1
  rw[if_neg e1]at h1
  by_cases e2:Cp s.cT y.Var 15=true
  ·rw[if_pos e2]at h1;cases h1
  rw[ht]at e2
  unfold Cp at e2
  simp at e2
  omega
 rw[if_neg har]at h1;cases h1
def HD (N:Nat)(p:A0):Prop:=∀y∈p.pre,∃s ng,EK N y s ng∧(s.cT=true→0≤y.Var∧y.Var<16)
theorem HD.arg {N:Nat}{p q:A0}(h:HD N p)(hq:q∈p.cP):HD N q:=X8 h hq
theorem Xs {N:Nat}(hN:40000000≤N){p:A0}(hb:p.bulk≤16777216)(h:K3 N p=0):HD N p:=fun y hy=>by
 obtain⟨hp,hd,hg⟩:=Cy h;have h1:=DE p y hy;have h2:=AS y;exact Ad9 hN (by omega) (by omega) (hg y hy)
theorem Zk {N:Nat} (hN:40000000≤N) (to:List Int):∀(n:Nat) (p:A0),p.bulk≤n→p.bulk≤16777216→HD N p→∃r:A0×Int,R7 N n p to=some r∧(TC to→r.2=0→r.1=p)∧(r.2=0→r.1.bulk=p.bulk):=by
 intro n
 induction n with
 |zero=>intro x h;have:=Eg x;omega
 | succ n ih=>
  intro p hx hb hg;have hl:=Dg p
  have hcb:p.cQ.bulk≤16777216:=by have:=A0.bulk_eq p;omega
  obtain⟨sh,ng,hs,hv⟩:=hg p (AJ p);unfold R7;rw[hs.var];simp only[Option.bind_some]
  have tail2:∀y12:A0,(TC to→{y12 with cP:=[]}={p with cP:=[]})→({y12 with cP:=[]}:A0).bulk=({p with cP:=[]}:A0).bulk→∃r:A0×Int,((loopN
   (fun(s13:Int×A0)=>
    (
     if cmp .lss s13.1 (Ar.len p.cP)=true then
      (B8 p.cP s13.1).bind fun x16=>
      (R7 N n x16 to).bind fun r17=>
      if cmp .neq r17.2 0=true then
       some (.inr (.inr (r17.2,{s13.2 with cQ:={s13.2.cQ with cP:=y12.cQ.cP}})))
      else
       (K9 s13.2.cP ([r17.1])).bind fun l19=>
       some (.inl (ar .add .i64 s13.1 1,{s13.2 with cP:=l19,cQ:={s13.2.cQ with cP:=y12.cQ.cP}}))
     else
      some (.inr (.inl ({s13.2 with cQ:={s13.2.cQ with cP:=y12.cQ.cP}})))
     :Option ((Int×A0) ⊕ (A0 ⊕ (Int×A0)))))
   N (0,{y12 with cP:=[]})).bind fun s15=>
   match s15 with
   | .inl y20=>
    some (y20,0)
   | .inr y22=>
    some ((⟨0,[],0,0,0,0,(⟨0,[],0,0,0,(⟨0,0,⟨#[]⟩⟩:A7)⟩:A4)⟩:A0),y22.1))=some r∧(TC to→r.2=0→r.1=p)∧(r.2=0→r.1.bulk=p.bulk):=by
   intro y8 h8 hb8
   have hca:TC to→y8.cQ.cP=p.cQ.cP:=fun h=>by
    have e:=congrArg A0.cQ (h8 h);have e:y8.cQ=p.cQ:=e;rw[e]
   refine FM (fun(j:Nat) (s:Int×A0)=>s.1=(j:Int)∧s.2.cP.length=j∧(TC to→s.2={p with cP:=p.cP.take j})∧(s.2.bulk=({p with cP:=p.cP.take j}:A0).bulk∧s.2.cQ.cP=y8.cQ.cP)) p.cP.length (by omega) ⟨rfl,rfl,fun h=>h8 h,hb8,rfl⟩ (fun j s hj ⟨e,e1,e2,e5⟩=>?_) (fun s ⟨e,e1,e2,e5⟩=>?_)
   ·obtain⟨i,q⟩:=s
    dsimp only at e e1 e2 e5
    subst e;have hm:=List.getElem_mem hj;have hmb:=Cg hm;obtain⟨r,r1,r2,r3⟩:=ih p.cP[j] (by omega) (by omega) (hg.arg hm)
    dsimp only
    rw[if_pos (Ch (show(j:Int)<Ar.len p.cP by rw[B3];omega)),D6,List.getElem?_eq_getElem hj];simp only[Option.bind_some,r1]
    by_cases h0:r.2=0
    ·rw[if_neg (I1 h0),N7 (by simp;omega)]
     have ec:A4.mk q.cQ.Op y8.cQ.cP q.cQ.Var q.cQ.Field q.cQ.Kind q.cQ.Value=q.cQ:=by rw[←e5.2,Ha]
     refine⟨_,rfl,Jj (by omega),by simp[e1],fun h=>?_,?_,rfl⟩
     ·have e3:=e2 h;subst e3
      dsimp only
      rw[EZ hj,r2 h h0,hca h,Ha]
     have:=r3 h0;have e5:=e5.1
     rw[A0.bulk_eq]at e5 ⊢
     rw[A0.bulk_eq ({p with cP:=p.cP.take j}:A0)]at e5
     rw[A0.bulk_eq ({p with cP:=p.cP.take (j+1)}:A0)]
     dsimp only at e5 ⊢
     rw[ec,EZ hj,IH,IH,this];omega
    rw[if_pos (K0 h0)];exact⟨_,rfl,_,rfl,fun _ h=>absurd h h0,fun h=>absurd h h0⟩
   obtain⟨i,q⟩:=s
   dsimp only at e e1 e2 e5
   subst e
   dsimp only
   rw[if_neg N8]
   have ec:A4.mk q.cQ.Op y8.cQ.cP q.cQ.Var q.cQ.Field q.cQ.Kind q.cQ.Value=q.cQ:=by rw[←e5.2,Ha]
   refine⟨_,rfl,_,rfl,fun h _=>?_,fun _=>?_⟩
   ·have:=e2 h
    rw[List.take_length]at this
    rw[Ph]at this
    dsimp only
    rw[hca h,this,Ha,Ph]
   have e5:=e5.1
   rw[List.take_length,Ph]at e5
   dsimp only
   rw[ec,Ph];exact e5
  have tail1:∀y8:A0,(TC to→{y8 with cP:=[]}={p with cP:=[]})→({y8 with cP:=[]}:A0).bulk=({p with cP:=[]}:A0).bulk→∃r:A0×Int,((S9 N p).bind fun r9=>
   ((
    if r9=true then
     (Bb N p.cQ to).bind fun r11=>
     if cmp .neq r11.2 0=true then
      some (.inr r11.2)
     else
      some (.inl ({y8 with cP:=[],cQ:=r11.1}))
    else
     some (.inl ({y8 with cP:=[]}))
   ):Option (A0 ⊕ Int)).bind fun s10=>
   match s10 with
   | .inl y12=>
    (loopN
     (fun(s13:Int×A0)=>
      (
       if cmp .lss s13.1 (Ar.len p.cP)=true then
        (B8 p.cP s13.1).bind fun x16=>
        (R7 N n x16 to).bind fun r17=>
        if cmp .neq r17.2 0=true then
         some (.inr (.inr (r17.2,{s13.2 with cQ:={s13.2.cQ with cP:=y12.cQ.cP}})))
        else
         (K9 s13.2.cP ([r17.1])).bind fun l19=>
         some (.inl (ar .add .i64 s13.1 1,{s13.2 with cP:=l19,cQ:={s13.2.cQ with cP:=y12.cQ.cP}}))
       else
        some (.inr (.inl ({s13.2 with cQ:={s13.2.cQ with cP:=y12.cQ.cP}})))
       :Option ((Int×A0) ⊕ (A0 ⊕ (Int×A0)))))
     N (0,{y12 with cP:=[]})).bind fun s15=>
    match s15 with
    | .inl y20=>
     some (y20,0)
    | .inr y22=>
     some ((⟨0,[],0,0,0,0,(⟨0,[],0,0,0,(⟨0,0,⟨#[]⟩⟩:A7)⟩:A4)⟩:A0),y22.1)
   | .inr y24=>
    some ((⟨0,[],0,0,0,0,(⟨0,[],0,0,0,(⟨0,0,⟨#[]⟩⟩:A7)⟩:A4)⟩:A0),y24))=some r∧(TC to→r.2=0→r.1=p)∧(r.2=0→r.1.bulk=p.bulk):=by
   intro y8 h8 hb8;rw[hs.con];simp only[Option.bind_some]
   by_cases hc:sh.cond=true
   ·rw[if_pos hc];obtain⟨r,r1,r2,r3⟩:=Wp hN to hcb;rw[r1];simp only[Option.bind_some]
    by_cases h0:r.2=0
    ·rw[if_neg (I1 h0)];simp only[Option.bind_some]
     refine tail2 {y8 with cP:=[],cQ:=r.1} (fun h=>?_) (by
      rw[A0.bulk_eq,A0.bulk_eq ({p with cP:=[]}:A0)]
      dsimp only
      rw[r3 h0])
     have:=h8 h
     dsimp only
     rw[r2 h h0];cases y8;cases p
     simp only[A0.mk.injEq]at this ⊢
     exact⟨this.1,trivial,this.2.2.1,this.2.2.2.1,this.2.2.2.2.1,this.2.2.2.2.2.1,trivial⟩
    rw[if_pos (K0 h0)];exact⟨_,rfl,fun _ h=>absurd h h0,fun h=>absurd h h0⟩
   rw[if_neg hc];simp only[Option.bind_some];exact tail2 {y8 with cP:=[]} h8 hb8
  by_cases ht:sh.cT=true
  ·rw[if_pos ht];obtain⟨v0,v1⟩:=hv ht
   by_cases h1:cmp .geq p.Var (Ar.len to)=true
   ·rw[if_pos h1];exact⟨_,rfl,(fun _ h=>by cases h),fun h=>by cases h⟩
   rw[if_neg h1]
   rw[N6,B3]at h1
   simp only[decide_eq_true_eq,Int.not_le]at h1
   obtain⟨v,ev⟩:=Pf v0 h1;rw[ev];simp only[Option.bind_some]
   by_cases h2:cmp .lss v 0=true
   ·rw[if_pos h2];exact⟨_,rfl,(fun _ h=>by cases h),fun h=>by cases h⟩
   rw[if_neg h2]
   by_cases h3:cmp .geq v 16=true
   ·rw[if_pos h3];exact⟨_,rfl,(fun _ h=>by cases h),fun h=>by cases h⟩
   rw[if_neg h3];simp only[Option.bind_some];refine tail1 {p with cP:=[],Var:=v} (fun h=>?_) (by rw[A0.bulk_eq,A0.bulk_eq ({p with cP:=[]}:A0)])
   rw[C1]at h2
   have:v=p.Var:=by
    rcases h.at ev with k|k
    ·exact absurd (decide_eq_true k) h2
    exact k
   rw[this]
  rw[if_neg ht];simp only[Option.bind_some];exact tail1 {p with cP:=[]} (fun _=>rfl) rfl
end
end Go.Ab
namespace Go.Ab
open Classical
noncomputable section
theorem JA.noS {p q:A0}(h:JA p q):noS p=Go.Ab.noS q:=Hk.iff.2 h
theorem Ei {i:Nat}(h:i<1000000000000):ar .add .i64 (i:Int) 1=((i+1:Nat):Int):=Jj h
theorem Zg {N :Nat} (hN:40000000≤N):∀(n:Nat) (p:A0) (f:Int),p.bulk≤n→p.bulk≤16777216→∃r,X2 N n p f=some r∧Hk p r:=by
 intro n
 induction n with
 |zero=>intro x f h;have:=Eg x;omega
 | succ n ih =>
  intro p f hx hb;have hl:=Dg p;unfold X2 M7 M3;simp only[Option.bind_some]
  have body : ∀(q:A0) (s:Int×Int×A0) (j:Nat),q.cQ.cP=p.cQ.cP→j<p.cP.length→s.2.1=(j:Int)→s.2.2.cP.length=j→JA {p with cP:=p.cP.take j} s.2.2→
   ∃ o : ((Int ×Int×A0) ⊕ A0),(if cmp .lss s.2.1 (Ar.len p.cP)=true then
         (B8 p.cP s.2.1).bind fun x7=>
         (X2 N n x7 s.1).bind fun r8=>
         (K9 s.2.2.cP ([r8])).bind fun l10=>
         (B8 p.cP s.2.1).bind fun x11=>
         (J5 N N x11).bind fun r12=>
         (loopN
          (fun (s13:Int×Int)=>
           (
            if cmp .lss s13.2 (Ar.len r12)=true then
             (B8 r12 s13.2).bind fun x15=>
             if Ar.or (cmp .eql x15.Op 5) (cmp .eql x15.Op 9)=true then
              some (.inl (ar .add .i64 s13.1 1,ar .add .i64 s13.2 1))
             else
              (B8 r12 s13.2).bind fun x17=>
              if Ar.or (cmp .eql x17.Op 6) (cmp .eql x17.Op 10)=true then
               some (.inl (ar .add .i64 s13.1 1,ar .add .i64 s13.2 1))
              else
               some (.inl (s13.1,ar .add .i64 s13.2 1))
            else
             some (.inr s13.1)
            :Option ((Int×Int) ⊕ (Int))))
          N (s.1,0)).bind fun s14=>
         some (.inl (s14,ar .add .i64 s.2.1 1,{s.2.2 with cP:=l10,cQ:={s.2.2.cQ with cP:=q.cQ.cP}}))
    else
     some (.inr ({s.2.2 with cQ:={s.2.2.cQ with cP:=q.cQ.cP}})))=some o∧
    ∃s',o= .inl s'∧s'.2.1=((j+1:Nat):Int)∧s'.2.2.cP.length=j+1∧JA {p with cP:=p.cP.take (j+1)} s'.2.2:=by
   intro q s j hq hj e e1 e2;obtain⟨c,i,t⟩:=s
   dsimp only at e e1 e2 ⊢
   subst e;have hm:=List.getElem_mem hj;have hmb:=Cg hm;obtain⟨r,r1,r2⟩:=ih p.cP[j] c (by omega) (by omega);have hpb:=Ae p.cP[j];rw[if_pos (Ch (show(j:Int)<Ar.len p.cP by rw[B3];omega)),D6,List.getElem?_eq_getElem hj];simp only[Option.bind_some,r1];rw[N7 (by simp;omega),Fh hN N _ (by omega) (by omega)];simp only[Option.bind_some];refine FM (fun k s=>s.2=(k:Int)) p.cP[j].pre.length (by omega) rfl (fun k s hk e=>?_) (fun s e=>?_)
   ·obtain⟨c1,k1⟩:=s
    dsimp only at e
    subst e
    dsimp only
    rw[if_pos (Q0 (by omega)),D6,List.getElem?_eq_getElem hk];simp only[Option.bind_some];have ek:=Ei (i:=k) (by omega)
    by_cases h1:Ar.or (cmp .eql (p.cP[j].pre[k]).Op 5) (cmp .eql (p.cP[j].pre[k]).Op 9)=true
    ·rw[if_pos h1];exact⟨_,rfl,ek⟩
    rw[if_neg h1]
    by_cases h2:Ar.or (cmp .eql (p.cP[j].pre[k]).Op 6) (cmp .eql (p.cP[j].pre[k]).Op 10)=true
    ·rw[if_pos h2];exact⟨_,rfl,ek⟩
    rw[if_neg h2];exact⟨_,rfl,ek⟩
   obtain⟨c1,k1⟩:=s
   dsimp only at e
   subst e
   dsimp only
   rw[if_neg N8];refine⟨_,rfl,_,rfl,_,rfl,Ei (by omega),by simp[e1],?_⟩;refine⟨e2.op,e2.typ,e2.var,e2.span,?_,?_⟩
   ·have hc:p.cQ=t.cQ:=e2.cond
    show p.cQ=A4.mk t.cQ.Op q.cQ.cP t.cQ.Var t.cQ.Field t.cQ.Kind t.cQ.Value
    rw[hq,←hc,Ha]
   show(p.cP.take (j+1)).map Go.Ab.noS=(t.cP++[r]).map Go.Ab.noS
   have ha:(p.cP.take j).map Go.Ab.noS=t.cP.map Go.Ab.noS:=e2.args;rw[EZ hj,List.map_append,List.map_append,ha,List.map_singleton,List.map_singleton,r2]
  have last:∀(q:A0) (s:Int×Int×A0),q.cQ.cP=p.cQ.cP→s.2.1=(p.cP.length:Int)→JA {p with cP:=p.cP.take p.cP.length} s.2.2→Hk p {s.2.2 with cQ:={s.2.2.cQ with cP:=q.cQ.cP}}:=by
   intro q s hq e e2;obtain⟨c,i,t⟩:=s
   dsimp only at e e2 ⊢
   rw[List.take_length]at e2
   refine Hk.iff.2 ⟨e2.op,e2.typ,e2.var,e2.span,?_,e2.args⟩;have hc:p.cQ=t.cQ:=e2.cond
   show p.cQ=A4.mk t.cQ.Op q.cQ.cP t.cQ.Var t.cQ.Field t.cQ.Kind t.cQ.Value
   rw[hq,←hc,Ha]
  by_cases h5:Ar.or (cmp .eql p.Op 5) (cmp .eql p.Op 9)=true
  ·rw[if_pos h5];refine FM (k:=fun s=>some s) (Q:=fun t=>Hk p t) (fun(j:Nat) (s:Int×Int×A0)=>s.2.1=(j:Int)∧s.2.2.cP.length=j∧JA {p with cP:=p.cP.take j} s.2.2) p.cP.length (by omega) ⟨rfl,rfl,rfl,rfl,rfl,rfl,rfl,rfl⟩ (fun j s hj ⟨e,e1,e2⟩=>by obtain⟨o,h1,s',rfl,h2⟩:=body p s j rfl hj e e1 e2;exact⟨_,h1,h2⟩) (fun s ⟨e,e1,e2⟩=>?_);rw[if_neg (by rw[e];exact N8)];exact⟨_,rfl,_,rfl,last p s rfl e e2⟩
  rw[if_neg h5]
  by_cases h6:Ar.or (cmp .eql p.Op 6) (cmp .eql p.Op 10)=true
  ·rw[if_pos h6];simp only[Option.bind_some];refine FM (k:=fun s=>some s) (Q:=fun t=>Hk p t) (fun(j:Nat) (s:Int×Int×A0)=>s.2.1=(j:Int)∧s.2.2.cP.length=j∧JA {p with cP:=p.cP.take j} s.2.2) p.cP.length (by omega) ⟨rfl,rfl,rfl,rfl,rfl,rfl,rfl,rfl⟩ (fun j s hj ⟨e,e1,e2⟩=>by obtain⟨o,h1,s',rfl,h2⟩:=body p s j rfl hj e e1 e2;exact⟨_,h1,h2⟩) (fun s ⟨e,e1,e2⟩=>?_);rw[if_neg (by rw[e];exact N8)];exact⟨_,rfl,_,rfl,last p s rfl e e2⟩
  rw[if_neg h6];simp only[Option.bind_some];refine FM (k:=fun s=>some s) (Q:=fun t=>Hk p t) (fun(j:Nat) (s:Int×Int×A0)=>s.2.1=(j:Int)∧s.2.2.cP.length=j∧JA {p with cP:=p.cP.take j} s.2.2) p.cP.length (by omega) ⟨rfl,rfl,rfl,rfl,rfl,rfl,rfl,rfl⟩ (fun j s hj ⟨e,e1,e2⟩=>by obtain⟨o,h1,s',rfl,h2⟩:=body p s j rfl hj e e1 e2;exact⟨_,h1,h2⟩) (fun s ⟨e,e1,e2⟩=>?_);rw[if_neg (by rw[e];exact N8)];exact⟨_,rfl,_,rfl,last p s rfl e e2⟩
def Nm :List A0→Nat→Prop
 |[],_=>True
 |y::l,v=>(Aa y=true→y.Var=v)∧Nm l (if Aa y=true then v+1 else v)
theorem Pt :∀(l:List A0) (v:Nat) (s:Int),cnt (l.map fun y=>(Aa y,Dz y,y)) v s=true→Nm l v
 |[],_,_,_=>trivial
 | y::l,v,s,h=>by
  simp only[List.map_cons,cnt,Bool.and_eq_true]at h
  refine⟨fun ht=>?_,?_⟩
  ·have:=h.1.1
   rw[if_pos ht]at this
   exact of_decide_eq_true this
  have:=h.2
  by_cases ht:Aa y=true
  ·rw[if_pos ht]at this ⊢
   exact Pt l (v+1) _ (by simpa using this)
  rw[if_neg ht]at this ⊢
  exact Pt l v _ this
theorem Aa0 {N:Nat}{p:A0}(h:Gs N p=0):Nm p.pre 0:=by
 unfold Gs at h
 by_cases h1:K3 N p≠0
 ·rw[if_pos h1]at h;exact absurd h h1
 rw[if_neg h1]at h
 by_cases h2:p.pre.any (fun y=>cmp .geq y.Op 8)=true
 ·rw[if_pos h2]at h;cases h
 rw[if_neg h2]at h
 by_cases h3:Ng p.pre=true
 ·exact Pt p.pre 0 0 h3
 rw[if_neg h3]at h;cases h
theorem WP {N:Nat}{y:A0}{s:H9}{ng:Bool}(h:EK N y s ng):Aa y=s.cT:=by unfold Aa;rw[h.tab]
theorem Si {α:Type} {l:List α} {i:Int} (u:α→α) (h0:0≤i) (h1:i<l.length):∃m,Gp l i u=some m∧m.length=l.length∧∀v x,m[v]? =some x→(v=i.toNat∧∃z,l[v]? =some z∧x=u z)∨(v≠i.toNat∧l[v]? =some x):=by
 obtain⟨z,hz⟩:=Pf h0 h1;refine⟨_,by unfold Gp;rw[hz];rfl,by simp,fun v x hx=>?_⟩
 have hzl:l[i.toNat]? =some z:=by unfold B8 at hz;rw[if_pos h0]at hz;exact hz
 by_cases hv:v=i.toNat
 ·subst hv
  rw[List.getElem?_set_self (by omega)]at hx
  cases hx;exact .inl ⟨rfl,z,hzl,rfl⟩
 rw[List.getElem?_set_ne (fun e=>hv e.symm)]at hx
 exact .inr ⟨hv,hx⟩
theorem SD {α:Type}{l:List α}{i:Int}(h0:0≤i)(h1:i<l.length):TY (inR l i)=some ():=by
 unfold TY inR;rw[if_pos (decide_eq_true ⟨h0,h1⟩)]
theorem Af5 {N:Nat} (hN:40000000≤N) {p:A0} (hb:p.bulk≤16777216) (hg:HD N p):∃r:List Int×Int,Fd N p=some r∧(r.2=0→r.1.length≤p.pre.length∧(∀v∈r.1,0≤v∧v<16)∧(Nm p.pre 0→∀(i:Nat) x,r.1[i]? =some x→x=i)):=by
 have hpb:=Ae p;unfold Fd;rw[Fh hN N p (by omega) hb,show RV 16 16 (false:Bool)=some (List.replicate 16 false)from rfl];simp only[Option.bind_some]
 refine FM (fun(j:Nat) (s:List Int×Int×List Bool)=>s.2.1=(j:Int)∧s.2.2.length=16∧s.1.length≤j∧(∀v∈s.1,0≤v∧v<16)∧(Nm p.pre 0→Nm (p.pre.drop j) s.1.length∧∀(i:Nat) x,s.1[i]? =some x→x=i)) p.pre.length (by omega)
  ⟨rfl,rfl,Nat.le_refl _,fun v h=>absurd h List.not_mem_nil,fun h=>⟨h,fun i x h=>by simp at h⟩⟩ (fun j s hj ⟨e,e1,e2,e3,e4⟩=>?_) (fun s ⟨e,e1,e2,e3,e4⟩=>?_)
 ·obtain⟨o,i,sn⟩:=s
  dsimp only at e e1 e2 e3 e4
  subst e;have hm:=List.getElem_mem hj;obtain⟨sh,ng,hs,hv⟩:=hg _ hm;have ht:=WP hs
  dsimp only
  rw[if_pos (Q0 (by omega)),D6,List.getElem?_eq_getElem hj];simp only[Option.bind_some];rw[hs.var];simp only[Option.bind_some]
  cases hty:sh.cT with
  |false=>
   rw[if_pos (show nt false=true from rfl)];refine⟨_,rfl,Ei (by omega),e1,by dsimp only;omega,e3,fun h=>⟨?_,(e4 h).2⟩⟩;have:=(e4 h).1
   rw[List.drop_eq_getElem_cons hj]at this
   have:=this.2
   rw[ht,hty,if_neg (by decide)]at this
   exact this
  | true=>
   rw[if_neg (by decide)];obtain⟨v0,v1⟩:=hv hty;rw[SD v0 (by omega)];simp only[Option.bind_some];obtain⟨x,hx⟩:=Pf (l:=sn) v0 (by omega);rw[hx];simp only[Option.bind_some]
   cases x with
   |true=>
    rw[if_pos rfl];exact⟨_,rfl,_,rfl,fun h=>by cases h⟩
   | false=>
    rw[if_neg (by decide)];obtain⟨m,m1,m2,_⟩:=Si (l:=sn) (fun _:Bool=>true) v0 (by omega);rw[m1];simp only[Option.bind_some];rw[N7 (by simp;omega)];refine⟨_,rfl,Ei (by omega),m2.trans e1,by simp;omega,fun v hv=>?_,fun h=>?_⟩
    ·rcases List.mem_append.1 hv with hv|hv
     ·exact e3 v hv
     rw[List.mem_singleton.1 hv];exact⟨v0,v1⟩
    obtain⟨h1,h2⟩:=e4 h
    rw[List.drop_eq_getElem_cons hj]at h1
    obtain⟨h3,h4⟩:=h1
    rw[ht,hty]at h3 h4
    rw[if_pos rfl]at h4
    refine⟨by simpa using h4,fun i x hx=>?_⟩
    rcases Nat.lt_trichotomy i o.length with hi|hi|hi
    ·rw[List.getElem?_append_left hi]at hx;exact h2 i x hx
    ·subst hi
     rw[List.getElem?_append_right (Nat.le_refl _),Nat.sub_self]at hx
     simp only[List.getElem?_cons_zero,Option.some.injEq]at hx
     rw[←hx];exact h3 rfl
    rw[List.getElem?_eq_none (by simp;omega)]at hx;cases hx
 obtain⟨o,i,sn⟩:=s
 dsimp only at e e1 e2 e3 e4
 subst e
 dsimp only
 rw[if_neg N8];exact⟨_,rfl,_,rfl,fun _=>⟨by dsimp only;omega,e3,fun h=>(e4 h).2⟩⟩
theorem NH {N:Nat} (hN:40000000≤N) {p:A0} (hb:p.bulk≤16777216):∃r:A0×List Int×Int,U1 N p=some r∧(r.2.2=0→Nm p.pre 0→Hk p r.1)∧(r.2.2=0→r.1.bulk=p.bulk):=by
 have hpb:=Ae p;unfold U1;rw[Qz hN hb];simp only[Option.bind_some]
 by_cases h0:K3 N p=0
 ·rw [if_neg (I1 h0),Fh hN N p (by omega) hb];simp only[Option.bind_some];have hpl:=(Cy h0).1;rw[NF _ (by omega) (by omega)];simp only[Option.bind_some];have hg:=Xs hN hb h0
  by_cases h1:nt (!(p.pre.any fun y=>cmp .geq y.Op 8))=true
  ·rw[if_pos h1];exact⟨_,rfl,(fun h=>by cases h),fun h=>by cases h⟩
  rw[if_neg h1];obtain⟨r,r1,r2⟩:=Af5 hN hb hg;rw[r1];simp only[Option.bind_some]
  by_cases h2:r.2=0
  ·rw[if_neg (I1 h2)];obtain⟨s0,s1,s2⟩:=r2 h2;rw[show RV 16 16 (0:Int)=some (List.replicate 16 0)from rfl];simp only[Option.bind_some];refine FM (fun j s=>s.1=(j:Int)∧s.2.length=16∧∀(v:Nat) x,v<j→s.2[v]? =some x→x= -1) 16 (by omega) ⟨rfl,rfl,fun v x h=>absurd h (by omega)⟩ (fun j s hj ⟨e,e1,e2⟩=>?_) (fun s ⟨e,e1,e2⟩=>?_)
   ·obtain⟨i,l⟩:=s
    dsimp only at e e1 e2
    subst e
    dsimp only
    rw[if_pos (Q0 (by omega)),SD (by omega) (by omega)];simp only[Option.bind_some];obtain⟨m,m1,m2,m3⟩:=Si (l:=l) (i:=(j:Int)) (fun _:Int=>(-1)) (by omega) (by omega);rw[m1];refine⟨_,rfl,Ei (by omega),m2.trans e1,fun v x hv hx=>?_⟩
    rcases m3 v x hx with⟨_,z,_,h⟩|⟨h,h'⟩
    ·exact h
    exact e2 v x (by omega) h'
   obtain⟨i,l⟩:=s
   dsimp only at e e1 e2
   subst e
   dsimp only
   rw[if_neg (Bw (by rw[B3,e1];omega))];refine⟨_,rfl,?_⟩;refine FM (fun j s=>s.1=(j:Int)∧s.2.length=16∧(Nm p.pre 0→TC s.2)) r.1.length (by omega) ⟨rfl,e1,fun _ v x hx=>.inl ?_⟩ (fun j s hj ⟨k,k1,k2⟩=>?_) (fun s ⟨k,k1,k2⟩=>?_)
   ·have hv:v<16:=by
     rw[←e1];exact(List.getElem?_eq_some_iff.1 hx).1
    rw[e2 v x hv hx];decide
   ·obtain⟨i,l2⟩:=s
    dsimp only at k k1 k2
    subst k;have hmv:=s1 _ (List.getElem_mem hj)
    dsimp only
    rw[if_pos (Q0 (by omega)),D6,List.getElem?_eq_getElem hj];simp only[Option.bind_some];rw[SD hmv.1 (by omega)];simp only[Option.bind_some];obtain⟨m,m1,m2,m3⟩:=Si (l:=l2) (i:=r.1[j]) (fun _:Int=>(j:Int)) hmv.1 (by omega);rw[m1];refine⟨_,rfl,Ei (by omega),m2.trans k1,fun h v x hx=>?_⟩
    rcases m3 v x hx with⟨hv,z,_,e⟩|⟨_,h'⟩
    ·right
     have:=s2 h j _ (List.getElem?_eq_getElem hj);rw[e,hv,this];omega
    exact k2 h v x h'
   obtain⟨i,l2⟩:=s
   dsimp only at k k1 k2
   subst k
   dsimp only
   rw[if_neg N8];refine⟨_,rfl,?_⟩;obtain⟨q,q1,q2,q3⟩:=Zk hN l2 N p (by omega) hb hg;rw[q1];simp only[Option.bind_some]
   by_cases h3:q.2=0
   ·rw[if_neg (I1 h3)];obtain⟨z,z1,z2⟩:=Zg hN N q.1 0 (by have:=q3 h3;omega) (by have:=q3 h3;omega);rw[z1];refine⟨_,rfl,fun _ h=>?_,fun _=>z2.bulk.symm.trans (q3 h3)⟩;have:=q2 (k2 h) h3
    rw[this]at z2
    exact z2
   rw[if_pos (K0 h3)];exact⟨_,rfl,(fun h=>by cases h),fun h=>by cases h⟩
  rw[if_pos (K0 h2)];exact⟨_,rfl,fun h=>absurd h h2,fun h=>absurd h h2⟩
 rw[if_pos (K0 h0)];exact⟨_,rfl,fun h=>absurd h h0,fun h=>absurd h h0⟩
end
end Go.Ab
namespace Go.Ab
open Classical
noncomputable section
theorem Ak7 {N:Nat} (hN:40000000≤N):∀(n:Nat) (a b:A0),a.bulk≤n→a.bulk≤16777216→AL N n a b=some (decide (a=b)):=by
 intro n
 induction n with
 |zero=>intro a b h;have:=Eg a;omega
 | succ n ih=>
  intro a b hx hb;have hl:=Dg a
  have hcb:a.cQ.bulk≤16777216:=by have:=A0.bulk_eq a;omega
  unfold AL
  by_cases h:Ar.or (Ar.or (Ar.or (Ar.or (cmp .neq a.Op b.Op) (cmp .neq a.Typ b.Typ)) (cmp .neq a.Var b.Var)) (cmp .neq a.cS b.cS)) (cmp .neq a.Span b.Span)=true
  ·rw[if_pos h,decide_eq_false];intro e;subst e
   simp[K1,F6]at h
  rw[if_neg h,TV hN N a.cQ b.cQ (by omega) hcb];simp only[Option.bind_some]
  simp only[K1,F6,Bool.or_eq_true,Bool.not_eq_true',decide_eq_false_iff_not,not_or,Classical.not_not]at h
  obtain⟨⟨⟨⟨h1,h2⟩,h3⟩,h4⟩,h5⟩:=h
  by_cases hc:a.cQ=b.cQ
  ·by_cases hll:a.cP.length=b.cP.length
   ·rw[if_neg (by simp[K1,T3,F6,B3,hc,hll])];rw[UF a.cP b.cP hll (by omega) _ (fun x hx y hy=>ih x y (by have:=Cg hx;omega) (by have:=Cg hx;omega)) (by omega)];simp only[Option.bind_some]
    by_cases he:a.cP=b.cP
    ·rw[if_pos he,decide_eq_true (Kt.2 ⟨⟨h1,h2,h3,h4,h5⟩,hc,he⟩)]
    rw[if_neg he,decide_eq_false fun e=>he (Kt.1 e).2.2]
   rw[if_pos (by simp[K1,T3,F6,B3];exact .inr fun e=>hll (by omega)),decide_eq_false fun e=>hll (by rw[e])]
  rw[if_pos (by simp[K1,T3,F6,B3,hc]),decide_eq_false fun e=>hc (by rw[e])]
theorem Aa4 {N:Nat} (hN:40000000≤N) {p:A0} (hb:p.bulk≤16777216) (h:Gs N p=0) (h2:p.Op=2):2≤p.cP.length:=by
 have hr:K3 N p=0:=by
  unfold Gs at h
  by_cases h1:K3 N p≠0
  ·rw[if_pos h1]at h;exact absurd h h1
  exact Classical.not_not.1 h1
 obtain⟨hp,hd,hg⟩:=Cy hr;have ha:=AS p;exact(YC hN hb (by omega) (hg p (AJ p))).two (by omega) (by omega)
theorem Mf {l:List A5} {s:List PR} (hl:s.length≤1000000) (hn:s≠[]):∃x y,B8 (N3 l s).cR (ar .sub .i64 (Ar.len (N3 l s).cR) 1)=some x∧B8 (N3 l s).cR 0=some y∧x.Ref=W3 l (Z2 s)∧y.Ref=W3 l (Rh s):=by
 have hne:(N3 l s).cR≠[]:=fun e=>hn (List.map_eq_nil_iff.1 e);obtain⟨x,h1,h2,h3⟩:=CF hn
 have hlast:(N3 l s).cR.getLast? =some ⟨x.Var,W3 l x.At⟩:=by
  unfold N3;rw[List.getLast?_map,h1];rfl
 cases s with
 |nil=>exact absurd rfl hn
 |cons y s=>
  refine⟨⟨x.Var,W3 l x.At⟩,⟨y.Var,W3 l y.At⟩,?_,rfl,by rw[h3],rfl⟩;rw[←hlast];exact Rg hne (by rw[FL];exact hl)
theorem QA (l:List A5)(i:Int):(W3 l i).Time=HL l i:=by
 unfold W3 HL
 split<;>rename_i h<;>rw[h]
def Ns (sp:Int)(x:C8):Bool:=match B8 x.cR (ar .sub .i64 (Ar.len x.cR) 1),B8 x.cR 0 with
 |some a,some b=>decide (ar .sub .i64 a.Ref.Time b.Ref.Time≤sp)
 |_,_=>false
abbrev Ln (p:A0)(sp:Int):A0:=⟨6,[p],0,0,0,sp,⟨0,[],0,0,0,⟨0,0,⟨#[]⟩⟩⟩⟩
theorem WI (p:A0)(sp:Int):(Ln p sp).bulk=p.bulk+17:=by
 rw[A0.bulk_eq,A4.bulk_eq];have hz:(⟨#[]⟩:ByteArray).size=0:=rfl;simp only[A0.bulks,A4.bulks,hz]
theorem Oz (p:A0)(sp:Int):(Ln p sp).pre=Ln p sp::p.pre:=by
 rw[A0.pre_eq];simp[A0.pres]
theorem YR {p:A0}(sp:Int)(h:Nm p.pre 0):Nm (Ln p sp).pre 0:=by
 rw[Oz];have ht:Aa (Ln p sp)=false:=rfl;refine⟨fun k=>?_,?_⟩
 ·rw[ht]at k;cases k
 rw[ht,if_neg (by decide)];exact h
theorem YS (p:A0)(sp:Int):evs (Ln p sp)=evs p:=by
 unfold evs;rw[Oz,List.countP_cons_of_neg (by simp)]
theorem Sh {p:A0}(sp:Int)(h:Y2 p):Y2 (Ln p sp):=by
 intro y hy
 rw[Oz]at hy
 rcases List.mem_cons.1 hy with rfl|hy
 ·show(6:Int)≠4;decide
 exact h y hy
theorem RC {N:Nat} (hN:40000000≤N) (awake:J6 N=some true) {p:A0} (hb:p.bulk≤1048576) {l:List A5} (hl:l.length≤1048576) (w:Int):U5 N p l w=some true:=by
 unfold U5;obtain⟨b,h1,h2⟩:=UB hN (p:=p) (by omega) (l:=l) (by omega);rw[h1];simp only[Option.bind_some]
 cases b with
 |false=>rw[if_pos (show nt false=true from rfl),awake];rfl
 |true=>
 rw[if_neg (by decide)];have g:=h2 rfl;have hlen:=g.len;obtain⟨r,r1,r2,r3,r4⟩:=Df hN (show p.bulk≤16777216 by omega) g;rw[r1];simp only[Option.bind_some];generalize wr .i64 (ar .rem .u8 w 8)=sp;have hwb:=WI p sp;obtain⟨q,q1,q2,q3⟩:=NH hN (p:=Ln p sp) (by omega);rw[show U1 N (⟨6,[p],0,0,0,sp,(⟨0,[],0,0,0,(⟨0,0,⟨#[]⟩⟩:A7)⟩:A4)⟩:A0)=some q from q1];simp only[Option.bind_some];rw[if_neg (show¬nt true=true by decide)];have hl100:=Dg p
 have tail :(if cmp .neq p.Op 2=true then
  (J6 N).bind fun r39=>
  some r39
  else
   (loopN
    (fun (s40:Int)=>
     (
      if cmp .lss s40 (Ar.len p.cP)=true then
       (B8 p.cP s40).bind fun x42=>
       (Ap p.cP none (some s40) none).bind fun l44=>
       (K9 ([]) l44).bind fun l46=>
       (Ap p.cP (some (ar .add .i64 s40 1)) none none).bind fun l47=>
       (K9 l46 l47).bind fun l49=>
       (U1 N x42).bind fun r50=>
       if cmp .neq r50.2.2 0=true then
        some (.inl (ar .add .i64 s40 1))
       else
        (X3 N r50.1).bind fun r51=>
        if cmp .neq r51 0=true then
         some (.inl (ar .add .i64 s40 1))
        else
         (AL N N r50.1 x42).bind fun r52=>
         if nt r52=true then
          some (.inl (ar .add .i64 s40 1))
         else
          (M8 N x42 l).bind fun r53=>
          if Ar.or (nt r53.2) (cmp .eql (Ar.len l49) 0)=true then
           some (.inr (.inr ()))
          else
           (D2 N r53.1 (fun y1=>E5 N y1 r)).bind fun r54=>
           if r54=true then
            some (.inr (.inr ()))
           else
            some (.inl (ar .add .i64 s40 1))
      else
       some (.inr (.inl ()))
      :Option ((Int) ⊕ (Unit ⊕ Unit))))
    N 0).bind fun s41=>
   match s41 with
   | .inl y55=>
    (J6 N).bind fun r56=>
    some r56
   | .inr y57=>
    some false)=some true:=by
  by_cases hop:p.Op=2
  ·rw [if_neg (I1 hop)];have h2a:=Aa4 hN (by omega) g.p0 hop
   rw [DO (l:=p.cP) (fun _=>false) (by omega) (by omega) (fun i x hx hi=>by
    have e:ar .add .i64 (i:Int) 1=((i+1:Nat):Int):=Ei (by omega);have hm:=List.mem_of_getElem? hx;have hmb:=Cg hm;rw[if_pos (Q0 hi),D6,hx,e,Lq (by omega),MD (by omega)];simp only[Option.bind_some];rw[N7 (by simp;omega)];simp only[Option.bind_some];rw[N7 (by simp;omega)];simp only[Option.bind_some,List.nil_append];obtain⟨o,o1,_,o3⟩:=NH hN (p:=x) (by omega);rw[o1];simp only[Option.bind_some]
    by_cases e1:o.2.2=0
    ·have hob:=o3 e1;rw[if_neg (I1 e1),JO hN (by omega)];simp only[Option.bind_some]
     by_cases e2:Gs N o.1=0
     ·rw [if_neg (I1 e2),Ak7 hN N o.1 x (by omega) (by omega)];simp only[Option.bind_some]
      by_cases e3:o.1=x
      ·rw[e3]at e2
       rw[decide_eq_true e3,if_neg (show¬nt true=true by decide)]
       have gx:MS N x l:=⟨hlen,by
        rcases g.sml with k|⟨k1,k2⟩
        ·exact .inl (Nat.le_trans (Nat.pow_le_pow_left (by have:=EE hm;omega) _) k)
        refine .inr ⟨k1.arg hm,?_⟩
        by_cases hz:l.length=0
        ·rw[hz]
         rcases Nat.eq_zero_or_pos (evs x)with h|h
         ·rw[h];decide
         rw[Nat.zero_pow h];omega
        exact Nat.le_trans (Nat.pow_le_pow_right (by omega) (EE hm)) k2,e2,g.s0⟩
       obtain⟨m,m1,m2,m3,m4⟩:=Df hN (show x.bulk≤16777216 by omega) gx;rw[m1];simp only[Option.bind_some]
       have hll:(p.cP.take i++p.cP.drop (i+1)).length+1=p.cP.length:=by simp;omega
       rw[if_neg (by simp only[K1,T3,C2,B3,Bool.not_true,Bool.false_or,decide_eq_true_eq];omega)]
       rw[Ag9 hN (by omega) (f:=fun y1=>E5 N y1 r) (P:=fun x=> !decide (x∈r)) (fun y hy=>by
        unfold E5;rw[RJ hN (by omega) (fun z hz=>by have:=(r3 z hz).1;omega) (by have:=(m3 y hy).1;omega)]
        rfl)]
       simp only[Option.bind_some]
       have:(m.any fun x=> !decide (x∈r))=false:=by
        rw[any_eq_false];intro y hy;obtain⟨s,hs,rfl⟩:=(m2.mem y).1 hy;have:N3 l s∈r:=(r2.mem _).2 ⟨s,.alt hop hm hs,rfl⟩;simp[this]
       rw[this,if_neg (by decide),if_neg (by decide)];rfl
      rw[decide_eq_false e3,if_pos (show nt false=true from rfl),if_neg (by decide)];rfl
     rw[if_pos (K0 e2),if_neg (by decide)];rfl
    rw[if_pos (K0 e1),if_neg (by decide)];rfl) (by rw[if_neg N8])]
   have:(p.cP.any fun _=>false)=false:=by simp
   rw[this,if_neg (by decide)];simp only[Option.bind_some];rw[awake];rfl
  rw[if_pos (K0 hop),awake];rfl
 by_cases he:q.2.2=0
 ·have hpe:=q2 he (YR sp (Aa0 g.p0));have hqb:=q3 he;rw[if_pos (show cmp .eql q.2.2 0=true by rw[C2];exact decide_eq_true he),JO hN (by omega)];simp only[Option.bind_some]
  by_cases hck:Gs N q.1=0
  ·rw[if_pos (show cmp .eql (Gs N q.1) 0=true by rw[C2];exact decide_eq_true hck)]
   have gq:MS N q.1 l:=⟨hlen,by
    rw[←hpe.evs,YS]
    rcases g.sml with k|⟨k1,k2⟩
    ·exact .inl k
    exact .inr ⟨hpe.noPlus (Sh sp k1),k2⟩,hck,g.s0⟩
   obtain⟨m,m1,m2,m3,m4⟩:=Df hN (show q.1.bulk≤16777216 by omega) gq;rw[m1];simp only[Option.bind_some]
   have hwin:∀s,Sm l p [] 0 s→Ns sp (N3 l s)=keepsA l (Ln p sp) [] s:=fun s hs=>by
    have hsl:s.length≤1000000:=by
     have:=(r3 _ ((r2.mem _).2 ⟨s,hs,rfl⟩)).1
     rw[FL]at this;omega
    obtain⟨x,y,e1,e2,e3,e4⟩:=Mf (l:=l) hsl hs.inl.1;unfold Ns keepsA;rw[e1,e2,if_pos rfl]
    dsimp only
    rw[e3,e4,QA,QA]
   rw[NN (L:=r) (Ns sp) (by omega) (by omega) (fun s i x hx hm hi e hsl=>by
    obtain⟨t,ht,rfl⟩:=(r2.mem x).1 hm;obtain⟨a,b,e1,e2,_,_⟩:=Mf (l:=l) (s:=t) (by have:=(r3 _ hm).1;rw[FL]at this;omega) ht.inl.1
    dsimp only
    rw[if_pos (Q0 hi),D6,hx];simp only[Option.bind_some];rw[e1,e2];simp only[Option.bind_some,e]
    have hq:Ns sp (N3 l t)=decide (ar .sub .i64 a.Ref.Time b.Ref.Time≤sp):=by unfold Ns;rw[e1,e2]
    rw[hq]
    by_cases hc:ar .sub .i64 a.Ref.Time b.Ref.Time≤sp
    ·rw[if_pos (show cmp .leq (ar .sub .i64 a.Ref.Time b.Ref.Time) sp=true from decide_eq_true hc),if_pos (decide_eq_true hc),N7 (by simp;omega)];rfl
    rw[if_neg (show¬cmp .leq (ar .sub .i64 a.Ref.Time b.Ref.Time) sp=true by rw[CU];simpa using hc),if_neg (by simpa using hc)]) (fun s=>by dsimp only;rw[if_neg N8])]
   simp only[Option.bind_some];rw[if_neg (show¬nt true=true by decide)]
   have heq:m=r.filter (Ns sp):=by
    refine Py m2.asc (List.Pairwise.filter _ r2.asc) fun x=>?_;rw[m2.mem,List.mem_filter]
    constructor
    ·rintro⟨s,hs,rfl⟩;have h5:=(Sm.i5 (l:=l) (p:=Ln p sp) (q:=p) (show(5:Int)≤6 by decide) (show(6:Int)≤7 by decide) rfl).1 (hs.peq _ hpe.symm);exact⟨(r2.mem _).2 ⟨s,h5.1,rfl⟩,by rw[hwin s h5.1];exact h5.2⟩
    rintro⟨h5,h6⟩;obtain⟨s,hs,rfl⟩:=(r2.mem x).1 h5
    rw[hwin s hs]at h6
    exact⟨s,((Sm.i5 (l:=l) (p:=Ln p sp) (q:=p) (show(5:Int)≤6 by decide) (show(6:Int)≤7 by decide) rfl).2 ⟨hs,h6⟩).peq _ hpe,rfl⟩
   rw[TU hN heq (by omega) fun x hx=>by have:=(m3 x hx).1;omega];simp only[Option.bind_some];rw[if_neg (show¬nt true=true by decide)];simp only[Option.bind_some];exact tail
  rw[if_neg (show¬cmp .eql (Gs N q.1) 0=true by rw[C2];simpa using hck)];simp only[Option.bind_some];exact tail
 rw[if_neg (show¬cmp .eql q.2.2 0=true by rw[C2];simpa using he)];exact tail
end
end Go.Ab
