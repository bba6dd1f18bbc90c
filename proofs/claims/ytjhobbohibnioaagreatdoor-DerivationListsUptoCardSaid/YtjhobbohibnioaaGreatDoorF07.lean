/- . -/
import Derived.Test.YtjhobbohibnioaaGreatDoorF06
import Derived.Laws.Externs
import Derived.Sort.Grow
import Derived.Shelf.Sort.Plain
import Derived.Shelf.Slices.In.SortNone
import Derived.Shelf.Slices.CompactI
set_option linter.all false
open Go.Ab.Ar (len_eq lst lst_eq ofs ofs_eq)
namespace Go.Ab
open Go.RowKit
variable [O5][Ar]
def PS (P:Program)(yv:V)(I:List (List V)→A5→A5→Prop)(D:A5→A5→Prop):Prop:=
 (yv.one=true∧yv.cells=[yv])∧∀x l F H,I (x::l) F H→Cw P yv x H fun r H'=>(r= .bool true∧I l F H')∨(r= .bool false∧D F H')
def PV (P:Program)(f:FuncId)(args:V→List V)(xs:List (List V))(rb:V→Bool→Prop):Prop:=
 ∀yv I D,(∀l,G7 (I l))→G7 D→PS P yv I D→∀tl F H,I (xs++tl) F H→M8 P f (args yv) H fun v H'=>(rb v true∧I tl F H')∨(rb v false∧D F H')
def rbB (v:V)(b:Bool):Prop:=v= .bool b
def rbN (_:V)(_:Bool):Prop:=True
section
variable {P:Program}{nt:Nat}{rd:Option Nat}{T:Ih}{E:Fo}{I:List (List V)→A5→A5→Prop}{D:A5→A5→Prop}
theorem Cw.heap {fv:V}{args:List V}{H H1:A5}{K:V→A5→Prop}(h:Cw P fv args H1 K)(hl:Ik H1 H):Cw P fv args H K:=
 fun g w v vals hR hv hA=>h g w v vals (hR.less hl) hv hA
theorem M8.heap {f:FuncId}{args:List V}{H H1:A5}{K:V→A5→Prop}(h:M8 P f args H1 K)(hl:Ik H1 H):M8 P f args H K:=
 fun g w vals hR hA=>h g w vals (hR.less hl) hA
theorem Nb (hE:E=I5 P nt rd)(hI:∀l,G7 (I l))(hD:G7 D){yv:V}(hy:PS P yv I D){F H:A5}{L:List En}{args x:List V}{l:List (List V)}{k:V→A5→Prop}(hO:C5 (I (x::l)) F L H)(hl:M1 args x)
 (h1:∀H',C5 (I l) F L H'→k (.bool true) H') (h2:∀H',C5 D F L H'→k (.bool false) H'):E.call yv args H k:=by
 subst hE;obtain⟨hs,F',H1,h0,hi,hle⟩:=hO;refine(Cw.mono (((hy.2 x l F' H1 hi).heap hle).args hl) fun r H' hr=>?_)
 rcases hr with⟨rfl,hr⟩|⟨rfl,hr⟩
 ·exact h1 H' ⟨hI l,F',H',h0,hr,Ik.refl _⟩
 exact h2 H' ⟨hD,F',H',h0,hr,Ik.refl _⟩
theorem Wn (hE:E=I5 P nt rd) (hI:∀l,G7 (I l)) (hD:G7 D) {yv:V} (hy:PS P yv I D) {f:FuncId} {args':V→List V} {xs tl:List (List V)} {rb:V→Bool→Prop} (hc:PV P f args' xs rb) {F H:A5} {L:List En} {args:List V} {k:V→A5→Prop} (hO:C5 (I (xs++tl)) F L H)
 (hl:M1 args (args' yv)) (h1:∀v H',rb v true→C5 (I tl) F L H'→k v H') (h2:∀v H',rb v false→C5 D F L H'→k v H'):E.call (.func (.func f) [] []) args H k:=by
 subst hE;obtain⟨hs,F',H1,h0,hi,hle⟩:=hO
 have h3:M8 P f args H k:=(((hc yv I D hI hD hy tl F' H1 hi).heap hle).args hl).mono fun v H' hr=>by
  rcases hr with⟨hb,hr⟩|⟨hb,hr⟩
  ·exact h1 v H' hb ⟨hI tl,F',H',h0,hr,Ik.refl _⟩
  exact h2 v H' hb ⟨hD,F',H',h0,hr,Ik.refl _⟩
 exact M8.value (F:=[]) (C:=[]) (by grind)
theorem Te (hE:E=I5 P nt rd){c:Bool}{x y:Unit→Prop}(hc:c=true)(h:x ()):E.br c x y:=by simp_all[I5]
theorem Tf (hE:E=I5 P nt rd){c:Bool}{x y:Unit→Prop}(hc:c=false)(h:y ()):E.br c x y:=by simp_all[I5]
theorem DI {f:FuncId} {fn:Func} {c:Code} {n:Nat} {rs:List ResultVar} {args:V→List V} {xs:List (List V)} {rb:V→Bool→Prop} (cf:Cf) (hP:VF P T) (hf:P.funcs[f]? =some fn) (hb:fn.body=some c) (hd:M6 cf c=true)
 (hcall:∀vals w,(callFunc f vals).run P w= .ok (.enter f vals) w) (hnt:fn.ntmps=n) (hrs:fn.results.toList=rs) (hn:∀yv,Nat.ble (args yv).length n=true)
 (h:∀(yv:V) (I:List (List V)→A5→A5→Prop) (D:A5→A5→Prop),(∀l,G7 (I l))→G7 D→PS P yv I D→∀(tl:List (List V)) (F:A5) (E:Fo) (H:A5) (K:V→A5→Prop),E=I5 P n none→C5 (I (xs++tl)) F [] H→
  (∀x L H',C5 (I tl) F L H'→rb x true→K x H')→(∀x L H',C5 D F L H'→rb x false→K x H')→run E T n cf c ⟨Dh (args yv) 0,[]⟩ H (Qx E T rs K)):PV P f args xs rb:=by
 intro yv I D hI hD hy tl F H hi;refine(Y6 (K:=fun x H'=>∃y H2,Dx x y∧Ik H2 H'∧((rb y true∧I tl F H2)∨(rb y false∧D F H2))) cf hP.1 hP.2 hf hb hd hcall hnt hrs (hn yv) fun E hE=>?_).le;refine h yv I D hI hD hy tl F E H _ hE (C5.start (hI _) hi) (fun x L H' hO hx=>?_) fun x L H' hO hx=>?_
 ·obtain⟨H2,h1,h2⟩:=hO.out;exact⟨x,H2,.refl _,h2,.inl ⟨hx,h1⟩⟩
 obtain⟨H2,h1,h2⟩:=hO.out;exact⟨x,H2,.refl _,h2,.inr ⟨hx,h1⟩⟩
theorem NL {f:FuncId}{C:List V}{xs:List (List V)}{rb:V→Bool→Prop}(hcall:∀vals w,(callFunc f vals).run P w= .ok (.enter f vals) w)(h:PV P f (fun yv=>yv::C) xs rb):Uh P (.func (.func f) [] C) xs:=
 ⟨f,C,rfl,hcall,fun yv I D hI hD hy F H hi=>(h yv I D hI hD hy [] F H (by rwa[H6])).mono fun v H' hr=>hr.imp (fun h=>h.2) fun h=>h.2⟩
noncomputable def Uy (ds:List Nat):List En:=List.rec (motive:=fun _=>List En) [] (fun d _ l=>l++[.blk d DB]) ds
theorem Zm (d:Nat)(ds:List Nat):Uy (d::ds)=Uy ds++[.blk d DB]:=rfl
theorem C5.dbs1 {Φ:A5→A5→Prop}{H0 H:A5}{A:List En}{d:Nat}{ds:List Nat}(h:C5 Φ H0 ((A++Uy ds)++[.blk d DB]) H):C5 Φ H0 (A++Uy (d::ds)) H:=by
 rw[Zm,←E6];exact h
theorem AR5 {Φ:A5→A5→Prop} {H0:A5} {A:List En}:∀{ds:List Nat} {H:A5},C5 Φ H0 (A++Uy ds) H→ds.Nodup∧(∀id,id∈ds→H id=some DB)∧C5 Φ H0 A (clear H ds):=by
 intro ds
 induction ds with
 |nil=>
  intro H h
  have e:clear H []=H:=by funext x;simp[clear]
  rw[e]
  grind[Uy]
 | cons d ds ih=>
  intro H h
  rw[Zm,←E6]at h
  have hi:((A++Uy ds)++[En.blk d DB])[(A++Uy ds).length]? =some (.blk d DB):=by simp
  have hd:=h.get _ hi;have h1:=h.del _ hi
  have e:((A++Uy ds)++[En.blk d DB]).eraseIdx (A++Uy ds).length=A++Uy ds:=by
   rw[List.eraseIdx_append_of_length_le (B3 _)];simp
  rw[e]at h1
  obtain⟨a1,a2,a3⟩:=ih h1;refine⟨List.nodup_cons.2 ⟨fun hm=>?_,a1⟩,fun id hid=>?_,?_⟩
  ·have:=a2 d hm;rw[G2]at this;cases this
  ·grind[C9]
  have e2:clear (upd H d none) ds=clear H (d::ds):=by
   funext x
   grind[clear,upd]
  rwa[e2]at a3
theorem AD7 (hE:E=I5 P nt rd){Φ:A5→A5→Prop}{H0 H:A5}{A:List En}{ds:List Nat}(hO:C5 Φ H0 (A++Uy ds) H){k:A5→Prop}(hk:∀H',C5 Φ H0 A H'→k H'):E.fin ds H k:=by
 subst hE;obtain⟨a1,a2,a3⟩:=AR5 hO;exact⟨⟨a1,a2⟩,hk _ a3⟩
theorem AD6 (cf:Cf) (hE:E=I5 P nt rd) (hP:VF P T) {β σ γ R:Type} {step:σ→Option (List β×(σ⊕R))} {c:Code} {st:St} {H:A5} {K:Exit→St→A5→Prop} (fm:σ→γ→Fl) (Inv:σ→γ→List Nat→List β→A5→Prop) (X:R→Exit→Fl→List Nat→List β→A5→Prop) (Xa:Exit→Fl→List Nat→A5→Prop) (hd:M6 cf c=true)
 (round:∀s g ds w1 w2 H o,Inv s g ds (w1++w2) H→step s=some (w1,o)→run E T nt cf c ⟨fm s g,ds⟩ H fun e st' H'=>match e with
  | .normal=>∃s' g' ds',o= .inl s'∧Ju st'.l (fm s' g')∧st'.df=ds'∧Inv s' g' ds' w2 H'
  |e=>(∃x l ds',o= .inr x∧X x e l ds' w2 H'∧Ju st'.l l∧st'.df=ds')∨∃l ds',Xa e l ds' H'∧Ju st'.l l∧st'.df=ds')
 {N:Nat} {s0:σ} (g0:γ) {w w':List β} {r:R} (h:De step N s0=some (w,r)) (hdf:st.df=[]) (hf:Ju st.l (fm s0 g0)) (hI:Inv s0 g0 [] (w++w') H) (after:∀e l ds H',X r e l ds w' H'→K e ⟨l,ds⟩ H') (afterA:∀e l ds H',Xa e l ds H'→K e ⟨l,ds⟩ H'):E.sim (.loop c) st H K:=by
 subst hE;refine Aa.loopN (fun n fr' H'=>∃s g ds w,De step n s=some (w,r)∧GJ fr' ⟨fm s g,ds⟩∧Inv s g ds (w++w') H') N ⟨s0,g0,[],w,h,⟨fun t=>hf.wk t,hdf⟩,hI⟩ fun n fr' H' ⟨s,g,ds,w,hs,hle,hi⟩=>?_
 cases n with
 |zero=>cases hs
 | succ n=>
  simp only[De]at hs
  cases ho:step s with
  |none=>rw[ho]at hs;cases hs
  | some p=>
   obtain⟨w1,o⟩:=p
   rw[ho]at hs
   obtain⟨w2,hw,hrest⟩:∃w2,w=w1++w2∧match o with| .inl s'=>De step n s'=some (w2,r)| .inr x=>x=r∧w2=[]:=by
    cases o with
    |inl s'=>
     grind
    |inr x=>grind
   subst hw
   rw[E6]at hi
   refine Aa.frLe hle ((P0 hP.1 hP.2 c _ _ _ hd (round s g ds w1 (w2++w') H' o hi ho)).mono fun e fr2 H2 ⟨st',hle',hq⟩=>?_)
   have exits:∀e,((∃x l ds',o= .inr x∧X x e l ds' (w2++w') H2∧Ju st'.l l∧st'.df=ds')∨∃l ds',Xa e l ds' H2∧Ju st'.l l∧st'.df=ds')→∃st'',GJ fr2 st''∧K e st'' H2:=by
    intro e hq
    rcases hq with⟨x,l,ds',h1,h4,h2,h3⟩|⟨l,ds',h4,h2,h3⟩
    ·subst h1;obtain⟨rfl,rfl⟩:=hrest;exact⟨⟨l,ds'⟩,⟨fun t=>(hle'.s t).trans (h2.wk t),hle'.df.trans h3⟩,after _ _ _ _ h4⟩
    exact⟨⟨l,ds'⟩,⟨fun t=>(hle'.s t).trans (h2.wk t),hle'.df.trans h3⟩,afterA _ _ _ _ h4⟩
   cases e with
   |normal=>
    obtain⟨s',g',ds',h1,h2,h3,h4⟩:=hq;subst h1;exact⟨n,Iv n,s',g',ds',w2,hrest,⟨fun t=>(hle'.s t).trans (h2.wk t),hle'.df.trans h3⟩,h4⟩
   |_=>exact exits _ hq
theorem Ak6 (cf:Cf) (hE:E=I5 P nt rd) (hP:VF P T) {β σ γ R:Type} {step:σ→Option (List β×(σ⊕R))} {c:Code} {st:St} {H:A5} {K:Exit→St→A5→Prop} (fm:σ→γ→Fl) (Inv:σ→γ→List β→A5→Prop) (X:R→Exit→Fl→List β→A5→Prop) (Xa:Exit→Fl→A5→Prop) (hd:M6 cf c=true)
 (round:∀s g w1 w2 H o,Inv s g (w1++w2) H→step s=some (w1,o)→run E T nt cf c ⟨fm s g,st.df⟩ H fun e st' H'=>match e with
  | .normal=>∃s' g',o= .inl s'∧Ju st'.l (fm s' g')∧st'.df=st.df∧Inv s' g' w2 H'
  |e=>(∃x l,o= .inr x∧X x e l w2 H'∧Ju st'.l l∧st'.df=st.df)∨∃l,Xa e l H'∧Ju st'.l l∧st'.df=st.df)
 {N:Nat} {s0:σ} (g0:γ) {w w':List β} {r:R} (h:De step N s0=some (w,r)) (hf:Ju st.l (fm s0 g0)) (hI:Inv s0 g0 (w++w') H) (after:∀e l H',X r e l w' H'→K e ⟨l,st.df⟩ H') (afterA:∀e l H',Xa e l H'→K e ⟨l,st.df⟩ H'):E.sim (.loop c) st H K:=by
 subst hE;refine Aa.loopN (fun n fr' H'=>∃s g w,De step n s=some (w,r)∧GJ fr' ⟨fm s g,st.df⟩∧Inv s g (w++w') H') N ⟨s0,g0,w,h,⟨fun t=>hf.wk t,rfl⟩,hI⟩ fun n fr' H' ⟨s,g,w,hs,hle,hi⟩=>?_
 cases n with
 |zero=>cases hs
 | succ n=>
  simp only[De]at hs
  cases ho:step s with
  |none=>rw[ho]at hs;cases hs
  | some p=>
   obtain⟨w1,o⟩:=p
   rw[ho]at hs
   obtain⟨w2,hw,hrest⟩:∃w2,w=w1++w2∧match o with| .inl s'=>De step n s'=some (w2,r)| .inr x=>x=r∧w2=[]:=by
    cases o with
    |inl s'=>
     grind
    |inr x=>grind
   subst hw
   rw[E6]at hi
   refine Aa.frLe hle ((P0 hP.1 hP.2 c _ _ _ hd (round s g w1 (w2++w') H' o hi ho)).mono fun e fr2 H2 ⟨st',hle',hq⟩=>?_)
   have exits:∀e,((∃x l,o= .inr x∧X x e l (w2++w') H2∧Ju st'.l l∧st'.df=st.df)∨∃l,Xa e l H2∧Ju st'.l l∧st'.df=st.df)→∃st'',GJ fr2 st''∧K e st'' H2:=by
    intro e hq
    rcases hq with⟨x,l,h1,h4,h2,h3⟩|⟨l,h4,h2,h3⟩
    ·subst h1;obtain⟨rfl,rfl⟩:=hrest;exact⟨⟨l,st.df⟩,⟨fun t=>(hle'.s t).trans (h2.wk t),hle'.df.trans h3⟩,after _ _ _ h4⟩
    exact⟨⟨l,st.df⟩,⟨fun t=>(hle'.s t).trans (h2.wk t),hle'.df.trans h3⟩,afterA _ _ _ h4⟩
   cases e with
   |normal=>
    obtain⟨s',g',h1,h2,h3,h4⟩:=hq;subst h1;exact⟨n,Iv n,s',g',w2,hrest,⟨fun t=>(hle'.s t).trans (h2.wk t),hle'.df.trans h3⟩,h4⟩
   |_=>exact exits _ hq
end
section
variable {P:Program}{nt:Nat}{T:Ih}{E:Fo}{α β σ R ι:Type}
def REI (enc:α→List V)(step:σ→α→Option (List β×(σ⊕R)))(o:σ⊕R)(w':List β)(Inv:σ→List β→A5→A5→Prop)(l:List (List V))(F H:A5):Prop:=
 ∃q:σ×List α×List β,(l=q.2.1.map enc∧Af step q.2.1 q.1=some (q.2.2,o))∧Inv q.1 (q.2.2++w') F H
def RED (o:σ⊕R)(w':List β)(X:R→Exit→List β→A5→A5→Prop)(Xa:Exit→A5→A5→Prop)(c:Code)(F H:A5):Prop:=
 (∃q:R×Exit,(o= .inr q.1∧jmp q.2=some c)∧X q.1 q.2 w' F H)∨∃q:Exit,jmp q=some c∧Xa q F H
def REJ (enc:α→List V)(step:σ→α→Option (List β×(σ⊕R)))(o:σ⊕R)(w':List β)(fJ:ι→σ→α→Fl)(J:ι→σ→α→List β→A5→A5→Prop)(x:List V)(l:List (List V))(fr:Fr)(F H:A5):Prop:=
 ∃q:ι×σ×α×List α×List β,(x=enc q.2.2.1∧l=q.2.2.2.1.map enc∧Af step (q.2.2.1::q.2.2.2.1) q.2.1=some (q.2.2.2.2,o)∧GJ fr ⟨fJ q.1 q.2.1 q.2.2.1,[]⟩)∧J q.1 q.2.1 q.2.2.1 (q.2.2.2.2++w') F H
theorem G7.or {I J:A5→A5→Prop}(h:G7 I)(k:G7 J):G7 fun F H=>I F H∨J F H:=
 ⟨fun hh=>hh.elim (fun x=>h.le x) fun x=>k.le x,fun id b hh e=>hh.imp (fun x=>h.chg id b x e) fun x=>k.chg id b x e⟩
variable {enc:α→List V}{step:σ→α→Option (List β×(σ⊕R))}{g:Operand}{ps:Array Tmp}{asg body:Code}{st:St}{H:A5}{K:Exit→St→A5→Prop}
 {xs:List α} {s0:σ} {o:σ⊕R} {w w':List β}
theorem Tc (cf:Cf) (hE:E=I5 P nt none) (hP:VF P T) (Inv:σ→List β→A5→A5→Prop) (X:R→Exit→List β→A5→A5→Prop) (Xa:Exit→A5→A5→Prop) (fJ:ι→σ→α→Fl) (J:ι→σ→α→List β→A5→A5→Prop)
 (hI:∀s w,G7 (Inv s w)) (hX:∀r e w,G7 (X r e w)) (hXa:∀e,G7 (Xa e)) (hJ:∀i s y w,G7 (J i s y w)) (hit:Uh P ((V5 [] st.l g).V) (xs.map enc)) (h:Af step xs s0=some (w,o)) {F:A5} (h0:Inv s0 (w++w') F H)
 (hnt:∀p∈ps,p<nt) (hps:∀x,(enc x).length=ps.size) (hda:M6 cf asg=true) (hdb:M6 cf body=true)
 (asgP:∀(E':Fo) (id:Nat) y s w F H,E'=I5 P nt (some id)→Inv s w F H→run E' T nt cf asg ⟨Yk ps.toList (enc y) st.l,[]⟩ H fun e st' H'=>match e with| .normal=>∃i,J i s y w F H'∧Ju st'.l (fJ i s y)∧st'.df=[]|_=>False)
 (bodyP:∀(E':Fo) (id:Nat) i y s w1 w2 F H o',E'=I5 P nt (some id)→(∃L,F id=some (.loop L))→step s y=some (w1,o')→J i s y (w1++w2) F H→run E' T nt cf body ⟨fJ i s y,[]⟩ H fun e _ H'=>match e with
  | .normal=>∃s',o'= .inl s'∧Inv s' w2 F H'
  |e=>(∃r,o'= .inr r∧(jmp e).isSome=true∧X r e w2 F H')∨((jmp e).isSome=true∧Xa e F H'))
 (done:∀d s H',o= .inl s→F d=none→Inv s w' (upd F d (some DB)) H'→K .normal ⟨st.l,d::st.df⟩ H')
 (stop:∀d r e H',o= .inr r→F d=none→X r e w' (upd F d (some DB)) H'→K e ⟨st.l,d::st.df⟩ H')
 (stopA:∀d e H',F d=none→Xa e (upd F d (some DB)) H'→K e ⟨st.l,d::st.df⟩ H'):E.sim (.rangeFunc g ps asg body) st H K:=by
 subst hE;have hev:ev (I9 st) g=(V5 [] st.l g).V:=(FF (df:=st.df) MI.nil g).symm
 rw[←hev]at hit
 have sI:∀l,G7 (REI enc step o w' Inv l):=fun l=>G7.ex fun q=>hI q.1 _;have sD:∀c,G7 (RED o w' X Xa c):=fun c=>G7.or (G7.ex fun q=>hX q.1 q.2 w') (G7.ex fun q=>hXa q);have sJ:∀x l fr,G7 (REJ enc step o w' fJ J x l fr):=fun x l fr=>G7.ex fun q=>hJ q.1 q.2.1 q.2.2.1 _;refine Aa.rangeOuter (nt:=nt) hnt (fun x hx=>?_) hit (REI enc step o w' Inv) (RED o w' X Xa) sI sD (REJ enc step o w' fJ J) sJ ⟨⟨s0,xs,w⟩,⟨rfl,h⟩,h0⟩ ?_ ?_ (fun d H' hd ⟨⟨s,ys,w2⟩,⟨hl,hr⟩,hi⟩=>?_) fun c d H' hd hx=>?_
 ·grind
 ·intro id L x l F H ⟨⟨s,ys,w2⟩,⟨hl,hr⟩,hi⟩ _ _
  cases ys with
  |nil=>cases hl
  | cons y ys=>
   simp only[D5,U7]at hl
   obtain⟨rfl,rfl⟩:=hl
   have e:(⟨HM (I9 st).s ps.toList (enc y),[]⟩:Fr)=I9 ⟨Yk ps.toList (enc y) st.l,[]⟩:=by
    simp only[I9,Fr.mk.injEq,O9]
    funext t
    grind[Wj]
   rw[e];refine(P0 hP.1 hP.2 asg _ _ _ hda (asgP _ id y s _ F H rfl hi)).mono fun e fr' H1 ⟨st',hle,hq⟩=>?_
   cases e with
   |normal=>
    obtain⟨i,hj,hl,hdf⟩:=hq;exact⟨rfl,⟨i,s,y,ys,w2⟩,⟨rfl,rfl,hr,fun t=>(hle.s t).trans (hl.wk t),hle.df.trans hdf⟩,hj⟩
   |_=>exact hq.elim
 ·intro id L x l fr' F H ⟨⟨i,s,y,ys,w2⟩,⟨hx,hl,hr,hf⟩,hj⟩ hL;subst hx;subst hl
  simp only[Af]at hr
  cases ho:step s y with
  |none=>rw[ho]at hr;cases hr
  | some p=>
   obtain⟨w1,o'⟩:=p
   rw[ho]at hr
   obtain⟨w3,hw,hrest⟩:∃w3,w2=w1++w3∧match o' with| .inl s'=>Af step ys s'=some (w3,o)| .inr x=>o= .inr x∧w3=[]:=by
    cases o' with
    |inl s'=>
     grind
    |inr x=>grind
   subst hw
   dsimp only at hj
   rw[E6]at hj
   refine Aa.frLe hf ((P0 hP.1 hP.2 body _ _ _ hdb (bodyP _ id i y s w1 (w3++w') F H o' rfl ⟨L,hL⟩ ho hj)).mono fun e fr2 H2 ⟨st',hle,hq⟩=>?_)
   have out:∀e c,jmp e=some c→((∃r,o'= .inr r∧(jmp e).isSome=true∧X r e (w3++w') F H2)∨((jmp e).isSome=true∧Xa e F H2))→RED o w' X Xa c F H2:=by
    intro e c hc hq
    rcases hq with⟨r,h1,_,h3⟩|⟨_,h3⟩
    ·subst h1;obtain⟨rfl,rfl⟩:=hrest;exact .inl ⟨⟨r,e⟩,⟨rfl,hc⟩,h3⟩
    grind[RED]
   cases e with
   |normal=>
    obtain⟨s',h1,h2⟩:=hq;subst h1;exact⟨⟨s',ys,w3⟩,⟨rfl,hrest⟩,h2⟩
   |ret=>exact out .ret _ rfl hq
   |exit k=>exact out (.exit k) _ rfl hq
   |_=>rcases hq with⟨_,_,h,_⟩|⟨h,_⟩<;>cases h
 ·have hys:ys=[]:=by
   simp_all
  subst hys;cases hr;exact⟨⟨st.l,d::st.df⟩,⟨fun t=>Wk.refl _,rfl⟩,done d s H' rfl hd hi⟩
 have fin:∀e,jmp e=some c→K e ⟨st.l,d::st.df⟩ H'→Aa P nt none c {I9 st with df:=d::(I9 st).df} H' fun e fr' H'=>∃st',GJ fr' st'∧K e st' H':=by
  intro e hj hk
  cases e with
  |ret=>cases hj;exact Aa.ret ⟨⟨st.l,d::st.df⟩,⟨fun t=>Wk.refl _,rfl⟩,hk⟩
  |exit k=>cases hj;exact Aa.exit ⟨⟨st.l,d::st.df⟩,⟨fun t=>Wk.refl _,rfl⟩,hk⟩
  |_=>cases hj
 rcases hx with⟨⟨r,e⟩,⟨ho,hj⟩,hx⟩|⟨e,hj,hx⟩
 ·grind
 grind
end
end Go.Ab
namespace Go.Ab
def RF {α:Type}(l:List α)(i:Int):Bool:=decide (0≤i∧i<(l.length:Nat))
def HE {α:Type}(l:List α)(i:Int)(u:α→α):Option (List α):=(C3 l i).map fun x=>l.set i.toNat (u x)
def mkL {α:Type}(n m:Int)(z:α):Option (List α):=if 0≤n∧n≤m∧m≤1073741824 then some (List.replicate n.toNat z)else none
def Am8 {α:Type}(_:List α)(n:Int):Option (List α):=if 0≤n∧n≤1073741824 then some []else none
end Go.Ab
namespace Go.Ab
open Go.RowKit
variable [O5][Ar]
theorem BE.swap {H0 H:A5} {L:List En} (h:BE H0 L H) (i:Nat) {en en':En} {id t:Nat} {b b':Il} (hi:L[i]? =some en) (he:en.id=some (id,b)) (he':en'.id=some (t,b')) (ht:upd H id none t=none):
 BE H0 (L.set i en') (upd (upd H id none) t (some b')):=by
 have hlt:i<L.length:=by
  grind
 have Nw:∀(j:Nat) e,(L.set i en')[j]? =some e→(j=i∧e=en')∨(j≠i∧L[j]? =some e):=fun j e hj=>by
  rw[Ad]at hj
  grind
 have hid:=h.has i _ id b hi he
 have h0:∀x c,H0 x=some c→upd H id none x=some c:=fun x c hx=>by
  rw[C9 _ _ (AK hid.1 hx)];exact h.ext x c hx
 have hoth:∀(j:Nat) e x c,j≠i→L[j]? =some e→e.id=some (x,c)→H0 x=none∧upd H id none x=some c:=fun j e x c hne hj hx=>by
  have:=h.has j e x c hj hx
  have hxid:x≠id:=fun eq=>by subst eq;exact hne (h.inj j i e _ x c b hj hi hx he)
  simp_all[upd]
 have hid0:H0 t=none:=by
  cases e:H0 t with
  |none=>rfl
  |some c=>rw[h0 t c e]at ht;cases ht
 refine⟨fun x bb hx=>?_,fun j e x bb hj hx=>?_,fun j k e e' x bb bb' hj hk hx hx'=>?_,fun x bb hx=>?_⟩
 rotate_right
 ·by_cases hxi:x=t
  ·grind[upd]
  rw[C9 _ _ hxi]at hx
  have hxid:x≠id:=fun eq=>by simp_all[upd]
  rw[C9 _ _ hxid]at hx
  refine(h.only x bb hx).imp (fun h=>h) fun⟨j,e,h1,h2⟩=>⟨j,e,?_,h2⟩;rw[Ad]
  grind
 ·rw[C9 _ _ (AK hid0 hx)];simp_all
 ·grind[upd]
 rcases Nw j e hj with⟨hji,rfl⟩|⟨hne,hj'⟩<;>rcases Nw k e' hk with⟨hki,rfl⟩|⟨hne',hk'⟩
 ·rw[hji,hki]
 ·rw[he']at hx;grind
 ·rw[he']at hx';grind
 exact h.inj j k e e' x bb bb' hj' hk' hx hx'
theorem C5.swap {Φ:A5→A5→Prop}{F H:A5}{L:List En}(h:C5 Φ F L H)(i:Nat){id t:Nat}{b b':Il}(hi:L[i]? =some (.blk id b))(ht:upd H id none t=none):C5 Φ F (L.set i (.blk t b')) (upd (upd H id none) t (some b')):=by
 obtain⟨hs,F',H1,h0,h1,h2⟩:=h;have e:=h0.get i hi;have e1:=hs.le h1 _ _ e;have h3:=hs.chg id none h1 (by rw[e,e1]);have hle:Ik (upd H1 id none) (upd H id none):=h2.upd id none;have hn1:=hle.none ht;have hn':=hs.fresh h3 hn1;exact⟨hs,_,_,h0.swap i hi rfl rfl hn',hs.chg t (some b') h3 (by rw[hn1,hn']),hle.upd t _⟩
theorem C5.swap' {Φ:A5→A5→Prop}{F H:A5}{L:List En}(h:C5 Φ F L H)(i:Nat){id t:Nat}{b b':Il}(hi:L[i]? =some (.blk id b))(ht:H t=none):C5 Φ F (L.set i (.blk t b')) (upd H t (some b')):=by
 have hid:=h.get i hi
 have hne:t≠id:=fun e=>by simp_all
 obtain⟨hs,F',H1,h0,h1,h2⟩:=h.swap (b':=b') i hi (t:=t) (by rw[C9 _ _ hne];exact ht)
 grind[C5,upd,Ik]
structure OG where
 id:Nat
 lo:Int
 n:Int
 pre:List V
 rest:List V
def BD (q:OG)(m:Int):Prop:=q.lo=(q.pre.length:Nat)∧q.n=m
theorem RQ {pre xs rest:List V}{lo n:Int}(h0:lo=(pre.length:Nat))(h1:n=(xs.length:Nat)):R3 (pre++xs++rest) lo n=xs:=by
 simp_all[R3]
theorem AC2 {pre xs rest ys:List V}{i:Nat}(hi:i=pre.length+xs.length):DA (pre++xs++rest) i ys=pre++(xs++ys)++rest.drop ys.length:=by
 subst hi;simp only[DA,E6];rw[show pre++(xs++rest)=(pre++xs)++rest by simp,←J2,List.take_left,List.drop_append];simp
theorem YR {pre xs rest:List V}{i:Nat}(h:i<xs.length):(pre++xs++rest).getD (pre.length+i) .bad=xs.getD i .bad:=by
 grind
theorem AM3 {pre xs rest:List V}{i:Nat}{v:V}(h:i<xs.length):(pre++xs++rest).set (pre.length+i) v=pre++xs.set i v++rest:=by
 simp_all
theorem C5.set_self {L:List En}(i:Nat){e:En}(hi:L[i]? =some e):L.set i e=L:=by
 apply Bg
 grind
section
variable {P:Program}{nt:Nat}{rd:Option Nat}{T:Ih}{E:Fo}
variable (hE:E=I5 P nt rd)
include hE
variable {α R:Type}{f:α→V}{Φ:A5→A5→Prop}{H0 H:A5}{L:List En}{sz:Nat}{q:OG}{l:List α}{r:R}
theorem Td (hq:BD q (Ar.len l)){k:Int→Prop}(h:k (Ar.len l)):E.olen q.n k:=by
 grind[I5,BD]
theorem Dd (hO:C5 Φ H0 L H)(hq:BD q (Ar.len l))(i:Nat){j:Int}{k:Int→Prop}{F:Unit→Option R}(hi:L[i]? =some (.blk q.id (.arr sz (q.pre++lst f l++q.rest))))(h:(KX (RF l j)).bind F=some r)(hk:F ()=some r→k (ofs q.lo j)):
 E.oidx H q.id sz q.lo q.n j k:=by
 subst hE;obtain⟨x,h1,h2⟩:=bind_some h
 unfold KX at h1
 split at h1
 ·rename_i hp;refine⟨⟨_,hO.get i hi⟩,?_,hk h2⟩;rw[hq.2,len_eq];grind[RF]
 cases h1
theorem Vl {l:List α}{i:Int}{x:α}(h:C3 l i=some x):(0≤i∧i<(l.length:Nat))∧l[i.toNat]? =some x:=by
 grind[C3]
theorem YB {l:List α}{i:Nat}{x:α}(h:l[i]? =some x):(lst f l).getD i .bad=f x:=by
 rw[lst_eq];simp_all
theorem EM {g:α→V}(hf:∀x,f x=g x)(hO:C5 Φ H0 L H)(hq:BD q (Ar.len l))(i:Nat){j:Int}{k:V→Prop}{F:α→Option R}(hi:L[i]? =some (.blk q.id (.arr sz (q.pre++lst f l++q.rest))))(h:(C3 l j).bind F=some r)(hk:∀x,F x=some r→k (g x)):
 E.oload H q.id (ofs q.lo j) k:=by
 obtain⟨x,h1,h2⟩:=bind_some h;obtain⟨hb,h3⟩:=Vl hE h1;have h4:=YB hE (f:=f) h3;subst hE;have e1:=M9 (f:=f) l;refine⟨_,_,hO.get i hi,?_,?_⟩
 ·rw[ofs_eq,hq.1];grind
 rw[ofs_eq,hq.1,show((q.pre.length:Nat)+j:Int).toNat=q.pre.length+j.toNat by omega,YR (by rw[e1];omega),h4,hf]
 grind
theorem Yv {β:Type}{f0:β→V}{esz:Nat}(hO:C5 Φ H0 L H){k:Nat→A5→Prop}(hk:∀(q:OG) id H',BD q (Ar.len ([]:List β))→C5 Φ H0 (.blk id (.cells [.own q.id q.lo q.n]):: .blk q.id (.arr esz (q.pre++lst f0 []++q.rest))::L) H'→k id H'):E.oalloc esz H k:=by
 subst hE;intro t id ht hid
 have e:([]:List V)++lst f0 []++[]=[]:=by rw[←E4 (f:=f0)];rfl
 have h0:C5 Φ H0 (.blk t (.arr esz [])::L) (upd H t (some (.arr esz []))):=hO.push ht rfl;have h1:C5 Φ H0 (.blk id (.cells [.own t 0 0]):: .blk t (.arr esz [])::L) (upd (upd H t (some (.arr esz []))) id (some (.cells [.own t 0 0]))):=h0.push hid rfl;refine hk ⟨t,0,0,[],[]⟩ id _ ⟨rfl,by rw[len_eq];rfl⟩ ?_
 simp_all
theorem HN {u:α→α} {esz tz off:Nat} {y:V} (hu:∀x,∃y',Dx y y'∧y'.one=true∧y'.cells.length=tz∧Wi (f x) esz tz off y'=f (u x)) (hle:off+tz≤esz) (hO:C5 Φ H0 L H) (hq:BD q (Ar.len l)) (i:Nat) {j:Int} {k:A5→Prop} {F:List α→Option R}
 (hi:L[i]? =some (.blk q.id (.arr esz (q.pre++lst f l++q.rest)))) (h:(HE l j u).bind F=some r)
 (hk:∀l' H',BD q (Ar.len l')→F l'=some r→C5 Φ H0 (L.set i (.blk q.id (.arr esz (q.pre++lst f l'++q.rest)))) H'→k H'):E.ostore H q.id (ofs q.lo j) esz tz off y k:=by
 obtain⟨l',h1,h2⟩:=bind_some h
 unfold HE at h1
 cases hx:C3 l j with
 |none=>rw[hx]at h1;cases h1
 | some x=>
  rw[hx]at h1
  simp only[I6,F3]at h1
  obtain⟨hb,h3⟩:=Vl hE hx;obtain⟨y',q1,q2,q3,q4⟩:=hu x;have e1:=YB hE (f:=f) h3
  have e2:(lst f l).set j.toNat (f (u x))=lst f l':=by
   rw[←h1,lst_eq,lst_eq,List.map_set]
  subst hE;have el:=M9 (f:=f) l
  have ej:(ofs q.lo j).toNat=q.pre.length+j.toNat:=by rw[ofs_eq,hq.1];omega
  refine⟨_,y',q1,q2,q3,hle,hO.get i hi,?_,?_⟩
  ·rw[ofs_eq,hq.1];grind
  rw[ej,YR (by rw[el];omega),AM3 (by rw[el];omega),e1,q4,e2];refine hk l' _ ⟨hq.1,?_⟩ h2 (hO.set i hi);rw[hq.2,len_eq,len_eq,←h1,List.length_set]
theorem Ak4 {by_:Nat} (hby:by_≤131072) {z:V} {z0:α} (hz:Dx z (f z0)) (hO:C5 Φ H0 L H) {n m:Int} {k:V→A5→Prop} {F:List α→Option R} (h:(mkL n m z0).bind F=some r)
 (hk:∀l' (q:OG) H',BD q (Ar.len l')→F l'=some r→C5 Φ H0 (.blk q.id (.arr sz (q.pre++lst f l'++q.rest))::L) H'→k (.own q.id q.lo q.n) H'):E.omk sz by_ z n m H k:=by
 subst hE;obtain⟨l',h1,h2⟩:=bind_some h
 unfold mkL at h1
 split at h1
 ·rename_i hc;cases h1;refine⟨⟨hc.1,hc.2.1,?_⟩,List.replicate m.toNat (f z0),?_,fun id hid=>?_⟩
  ·have:m*(by_:Nat)≤1073741824*131072:=Int.mul_le_mul hc.2.2 (by omega) (by omega) (by omega);omega
  ·have:∀k:Nat,M1 (List.replicate k z) (List.replicate k (f z0)):=fun k=>by
    induction k with
    |zero=>exact .nil
    |succ k ih=>rw[List.replicate_succ,List.replicate_succ];exact .cons hz ih
   exact this _
  have e:List.replicate m.toNat (f z0)=[]++lst f (List.replicate n.toNat z0)++List.replicate (m.toNat-n.toNat) (f z0):=by
   rw[lst_eq,List.map_replicate,K2,List.replicate_append_replicate];grind
  rw[e];exact hk _ ⟨id,0,n,[],List.replicate (m.toNat-n.toNat) (f z0)⟩ _ ⟨rfl,by rw[len_eq];simp;omega⟩ h2 (hO.push hid rfl)
 cases h1
theorem Wl {by_:Nat} {z:V} (hsz:∀x,(f x).cells.length=sz) (hby:by_≤131072) (hO:C5 Φ H0 L H) (hq:BD q (Ar.len l)) (i:Nat) (hi:L[i]? =some (.blk q.id (.arr sz (q.pre++lst f l++q.rest)))) {y:V} {m:List α} {k:V→A5→Prop} {F:List α→Option R}
 (hs:Uf sz H y (lst f m)) (h:(Q2 l m).bind F=some r)
 (hk:∀x (q:OG) H',BD q (Ar.len x)→C5 Φ H0 (L.set i (.blk q.id (.arr sz (q.pre++lst f x++q.rest)))) H'→F x=some r→k (.own q.id q.lo q.n) H'):E.oapp sz by_ z H (.own q.id q.lo q.n) y k:=by
 subst hE;obtain⟨x,h1,h2⟩:=bind_some h;have el:=M9 (f:=f) l;have em:=M9 (f:=f) m
 have hn:q.n=(l.length:Nat):=by rw[hq.2,len_eq]
 unfold Q2 at h1
 split at h1
 ·rename_i hc;cases h1;refine⟨_,hs,_,hO.get i hi,fun hfit=>?_,fun _=>⟨?_,fun t j ht=>?_⟩⟩
  rotate_left
  ·rw[em,hn,CG];exact N5 (R5 hc hby) (by decide)
  rotate_left
  ·have e:DA (q.pre++lst f l++q.rest) (q.lo+q.n).toNat (lst f m)=q.pre++lst f (l++m)++q.rest.drop m.length:=by
    rw[AC2 (by rw[hq.1,hn,el];omega),Nc,em]
   rw[e];refine hk _ ⟨q.id,q.lo,q.n+((lst f m).length:Nat),q.pre,q.rest.drop m.length⟩ _ ⟨hq.1,?_⟩ (hO.set i hi) h2;rw[len_eq,hn,em];simp
  have e:R3 (q.pre++lst f l++q.rest) q.lo q.n++lst f m++List.replicate j z=[]++lst f (l++m)++List.replicate j z:=by
   rw[RQ hq.1 (by rw[el];exact hn),Nc,K2]
  rw[e];refine hk _ ⟨t,0,q.n+((lst f m).length:Nat),[],List.replicate j z⟩ _ ⟨rfl,?_⟩ (hO.swap' i hi ht) h2;rw[len_eq,hn,em];simp
 cases h1
theorem AO9 {by_:Nat} {z:V} (hsz:∀x,(f x).cells.length=sz) (hby:by_≤131072) (hO:C5 Φ H0 L H) {x:V} (hx:x= .sl [] .nil∨x= .sl [] .full) {y:V} {m:List α} {k:V→A5→Prop} {F:List α→Option R}
 (hs:Uf sz H y (lst f m)) (h:(Q2 [] m).bind F=some r)
 (hk:∀x (q:OG) H',BD q (Ar.len x)→C5 Φ H0 (.blk q.id (.arr sz (q.pre++lst f x++q.rest))::L) H'→F x=some r→k (.own q.id q.lo q.n) H'):E.oapp sz by_ z H x y k:=by
 subst hE;obtain⟨x',h1,h2⟩:=bind_some h;have em:=M9 (f:=f) m
 unfold Q2 at h1
 split at h1
 ·rename_i hc;cases h1;refine⟨_,hs,?_⟩
  have key:(lst f m).length*by_≤140737488355328∧∀t j,H t=none→k (.own t 0 ((lst f m).length:Nat)) (upd H t (some (.arr sz (lst f m++List.replicate j z)))):=by
   refine⟨?_,fun t j ht=>?_⟩
   ·rw[em];exact N5 (R5 (by simpa using hc) hby) (by decide)
   refine hk m ⟨t,0,((lst f m).length:Nat),[],List.replicate j z⟩ _ ⟨rfl,by rw[len_eq,em]⟩ ?_ (by grind);exact hO.push ht rfl
  grind[GX]
 cases h1
theorem Hl (h:BD q (Ar.len l)):BD q ((lst f l).length:Nat):=⟨h.1,by rw[h.2,len_eq,M9]⟩
theorem AL8 (hO:C5 Φ H0 L H)(hq:BD q (Ar.len l))(i:Nat)(hi:L[i]? =some (.blk q.id (.arr sz (q.pre++lst f l++q.rest)))):Uf sz H (.own q.id q.lo q.n) (lst f l):=by
 refine⟨_,hO.get i hi,?_⟩;rw[RQ hq.1 (by rw[hq.2,len_eq,M9])];exact .refl _
theorem Qe (hsz:∀x,(f x).cells.length=sz){ys:List V}{tl:G6}(h:M1 ys (lst f l)):Uf sz H (.sl ys tl) (lst f l):=⟨h,Oq hsz l⟩
theorem AD2 (hO:C5 Φ H0 L H) (hq:BD q (Ar.len l)) (i:Nat) (hi:L[i]? =some (.blk q.id (.arr sz (q.pre++lst f l++q.rest)))) {lo hi':Option Int} {k:V→Prop} {F:List α→Option R}
 (h:(Q0 l lo hi' none).bind F=some r) (hk:∀x (q:OG),BD q (Ar.len x)→C5 Φ H0 (L.set i (.blk q.id (.arr sz (q.pre++lst f x++q.rest)))) H→F x=some r→k (.own q.id q.lo q.n)):
 E.oslice sz H q.id q.lo q.n lo hi' none k:=by
 subst hE;obtain⟨x,h1,h2⟩:=bind_some h;have el:=M9 (f:=f) l
 have hn:q.n=(l.length:Nat):=by rw[hq.2,len_eq]
 unfold Q0 at h1
 split at h1
 ·rename_i hc;cases h1;obtain⟨c1,c2,c3,c4,c5⟩:=hc
  simp only[Gn]at c3
  refine⟨_,hO.get i hi,?_,?_⟩
  ·rw[hn,hq.1]
   grind
  rw[hn]
  generalize hA:lo.getD 0=a at *
  generalize hB:hi'.getD (l.length:Nat)=b at *
  have hm:((l.drop a.toNat).take (b.toNat-a.toNat)).length=b.toNat-a.toNat:=by simp;omega
  refine hk _ ⟨q.id,q.lo+a,b-a,q.pre++lst f (l.take a.toNat),lst f (l.drop b.toNat)++q.rest⟩ ⟨?_,?_⟩ ?_ h2
  ·simp only[J2,M9,Bf,hq.1];omega
  ·rw[len_eq,hm];grind
  have e:q.pre++lst f (l.take a.toNat)++lst f ((l.drop a.toNat).take (b.toNat-a.toNat))++(lst f (l.drop b.toNat)++q.rest)=q.pre++lst f l++q.rest:=by
   have e1:l=l.take a.toNat++((l.drop a.toNat).take (b.toNat-a.toNat)++l.drop b.toNat):=by
    have e2:l.drop b.toNat=(l.drop a.toNat).drop (b.toNat-a.toNat):=by rw[It];grind
    rw[e2,DV,DV]
   have e3:lst f l=lst f (l.take a.toNat)++(lst f ((l.drop a.toNat).take (b.toNat-a.toNat))++lst f (l.drop b.toNat)):=by
    rw[Nc,Nc,←e1]
   rw[e3];grind
  grind[C5.set_self]
 cases h1
theorem At2 (hO:C5 Φ H0 L H)(hq:BD q (Ar.len l))(i:Nat)(hi:L[i]? =some (.blk q.id (.arr sz (q.pre++lst f l++q.rest)))){lo hi':Option Int}{k:V→Prop}{F:List α→Option R}
 (h:(Q0 l lo hi' none).bind F=some r) (hk:∀x (q':OG),Uf sz H (.own q'.id q'.lo q'.n) (lst f x)→F x=some r→k (.own q'.id q'.lo q'.n)):
 E.oslice sz H q.id q.lo q.n lo hi' none k:=
 AD2 hE hO hq i hi h fun x q' hq' hO' h2=>hk x q' (AL8 hE hO' hq' i (by rw[Ad];grind)) h2
theorem AY7 (hO:C5 Φ H0 L H)(hq:BD q (Ar.len l))(i:Nat){k:List V→A5→Prop}(hi:L[i]? =some (.blk q.id (.arr sz (q.pre++lst f l++q.rest))))(hk:∀H',C5 Φ H0 (L.eraseIdx i) H'→k (lst f l) H'):E.ofrz H q.id q.lo q.n k:=by
 subst hE;have:=hk _ (hO.del i hi);refine⟨_,_,_,hO.get i hi,.refl _,?_⟩;rw[RQ hq.1 (by rw[hq.2,len_eq,M9])];exact this
end
theorem YA {α:Type}{f:α→V}{l:List α}(h:lst f l=[]):l=[]:=by
 rw[lst_eq]at h;simp_all
theorem AJ4 {α:Type}{f:α→V}{l r:List α}(hx:lst f l=[])(h:(Q2 [] l).bind (fun x=>some x)=some r):lst f r=[]:=by
 rw[YA hx]at h
 grind[Q2,lst_eq]
def AJ9 (F:A5)(sz:Nat)(xs:List V)(v:V)(H':A5):Prop:=∃q:OG,v= .own q.id q.lo q.n∧BD q (xs.length:Nat)∧F q.id=none∧H'=upd F q.id (some (.arr sz (q.pre++xs++q.rest)))
def VG (P:Program)(f:FuncId)(args:List V)(sz:Nat)(xs:List V):Prop:=∀H,M8 P f args H (AJ9 H sz xs)
def Ah4 (P:Program)(f:FuncId)(args:List V)(sz:Nat)(xs xs':List V):Prop:=
 ∀H (q:OG),BD q (xs.length:Nat)→H q.id=some (.arr sz (q.pre++xs++q.rest))→M8 P f (.own q.id q.lo q.n::args) H (AJ9 (upd H q.id none) sz xs')
def Ej (mk:V→V):Prop:=∀(g:Gh) (w:World) (u:Value) (x:V),VR g w u (mk x)→∃v,VR g w v x∧∀(g':Gh) (w':World) (y:V),Y7 g w g' w'→VR g' w' v y→VR g' w' u (mk y)
theorem Ej.id:Ej fun x=>x:=fun _ _ u _ h=>⟨u,h,fun _ _ _ _ k=>k⟩
theorem Ej.agg (cs:List V) (i:Nat) (hi:i<cs.length):Ej fun x=>.agg (cs.set i x):=fun g w u x h=>by
 cases h with
 |agg hl h1 hv=>
  rename_i vs
  have hi':i<(cs.set i x).length:=by grind
  refine⟨vs.getD i undef,by have:=hv i hi';rwa[EF hi,A2 rfl]at this,fun g' w' y s k=>?_⟩;refine .agg (by grind) (fun j hj=>h1 j (by grind)) fun j hj=>?_;rw[EF hi]
  split
  ·simp_all
  rename_i e;have:=hv j (by grind)
  rw[EF hi,A0 e]at this
  exact this.mono s
theorem Ej.tup (cs:List V) (i:Nat) (hi:i<cs.length):Ej fun x=>.tup (cs.set i x):=fun g w u x h=>by
 cases h with
 |tup hl hv=>
  rename_i vs
  have hi':i<(cs.set i x).length:=by grind
  refine⟨vs.getD i undef,by have:=hv i hi';rwa[EF hi,A2 rfl]at this,fun g' w' y s k=>?_⟩;refine .tup (by grind) fun j hj=>?_;rw[EF hi]
  split
  ·simp_all
  rename_i e;have:=hv j (by grind)
  rw[EF hi,A0 e]at this
  exact this.mono s
theorem Ej.comp {m n:V→V}(hm:Ej m)(hn:Ej n):Ej fun x=>m (n x):=fun g w u x h=>by
 grind[Ej]
theorem M8.adopt {P:Program} {f:FuncId} {args:List V} {H:A5} {K:V→A5→Prop} {sz:Nat} (h:M8 P f args H fun x H'=>K x H'∨(x= .sl [] .nil∧∀t,H' t=none→K (.own t 0 0) (upd H' t (some (.arr sz []))))):M8 P f args H K:=
 fun g w vals hR hA=>(h g w vals hR hA).mono fun v w' ⟨g',x,H',s,hR',hv,hK⟩=>by
  rcases hK with hK|⟨rfl,hK⟩
  ·grind[N3]
  obtain⟨g2,s2,hR2,hn,hv2⟩:=Fz hR' sz (.inl rfl) hv;exact⟨g2,_,_,s.trans s2,hR2,hv2,hK _ hn⟩
theorem C5.last {F H:A5}{t:Nat}{b:Il}(h:C5 Eq F [.blk t b] H):F t=none∧Ik (upd F t (some b)) H:=by
 obtain⟨hs,F',H1,h0,h1,h2⟩:=h;subst h1;have h3:=h0.has 0 _ t b rfl rfl;refine⟨h3.1,fun x c hx=>?_⟩
 by_cases e:x=t
 ·grind[Ik,upd]
 rw[C9 _ _ e]at hx;exact h2 _ _ (h0.ext x c hx)
theorem C5.only {F H:A5}{L:List En}{t:Nat}{b:Il}(h:C5 Eq F L H)(i:Nat)(hi:L[i]? =some (.blk t b)):C5 Eq F [.blk t b] H:=by
 obtain⟨hs,F',H1,h0,h1,h2⟩:=h;subst h1;have h3:=h0.has i _ t b hi rfl;refine⟨hs,upd F t (some b),upd F t (some b),(BE.start F).push h3.1 rfl,rfl,fun x c hx=>?_⟩
 by_cases e:x=t
 ·grind[Ik,upd]
 rw[C9 _ _ e]at hx;exact h2 _ _ (h0.ext x c hx)
theorem C5.only1 {F H:A5}{L:List En}{t:Nat}{b:Il}(h:C5 Eq F (.blk t b::L) H):C5 Eq F [.blk t b] H:=by
 obtain⟨hs,F',H1,h0,h1,h2⟩:=h;subst h1;have h3:=h0.has 0 _ t b rfl rfl;refine⟨hs,upd F t (some b),upd F t (some b),(BE.start F).push h3.1 rfl,rfl,fun x c hx=>?_⟩
 by_cases e:x=t
 ·grind[Ik,upd]
 rw[C9 _ _ e]at hx;exact h2 _ _ (h0.ext x c hx)
section
variable {P:Program}{T:Ih}{f:FuncId}{fn:Func}{c:Code}{n:Nat}{rs:List ResultVar}{args:List V}
theorem Nq {F H:A5}{sz:Nat}{xs:List V}(cf:Cf)(hP:VF P T)(hf:P.funcs[f]? =some fn)(hb:fn.body=some c)(hd:M6 cf c=true)
 (hcall:∀vals w,(callFunc f vals).run P w= .ok (.enter f vals) w) (hnt:fn.ntmps=n) (hrs:fn.results.toList=rs) (hn:Nat.ble args.length n=true)
 (h:∀(E:Fo) (K:V→A5→Prop),E=I5 P n none→(∀(q:OG) L H',BD q (xs.length:Nat)→C5 Eq F (.blk q.id (.arr sz (q.pre++xs++q.rest))::L) H'→K (.own q.id q.lo q.n) H')→(xs=[]→∀L H',C5 Eq F L H'→K (.sl [] .nil) H')→run E T n cf c ⟨Dh args 0,[]⟩ H (Qx E T rs K)):
 M8 P f args H (AJ9 F sz xs):=by
 refine M8.adopt (sz:=sz) (M8.le (Y6 (K:=fun x H'=>∃y H2,Dx x y∧Ik H2 H'∧(AJ9 F sz xs y H2∨(y= .sl [] .nil∧∀t,H2 t=none→AJ9 F sz xs (.own t 0 0) (upd H2 t (some (.arr sz [])))))) cf hP.1 hP.2 hf hb hd hcall hnt hrs hn fun E hE=>?_));refine h E _ hE (fun q L H' hq hO=>?_) fun hx L H' hO=>?_
 ·obtain⟨h1,h2⟩:=hO.only1.last;exact⟨_,_,.refl _,h2,.inl ⟨q,rfl,hq,h1,rfl⟩⟩
 exact⟨_,F,.refl _,hO.ext,.inr ⟨rfl,fun t ht=>⟨⟨t,0,0,[],[]⟩,rfl,⟨rfl,by rw[hx];rfl⟩,ht,by rw[hx];rfl⟩⟩⟩
end
section
variable {P:Program}{nt:Nat}{rd:Option Nat}{T:Ih}{E:Fo}
variable (hE:E=I5 P nt rd)
include hE
variable {α R S:Type}{f:α→V}{Φ:A5→A5→Prop}{H0 H:A5}{L:List En}{sz:Nat}{q:OG}{r:R}{m:Option (List α)}{F:List α→Option R}{fid:FuncId}{args args':List V}{k:V→A5→Prop}
theorem Wp (h:m.bind F=some r) (hc:∀x,m=some x→VG P fid args' sz (lst f x)) (hl:M1 args args') (hO:C5 Φ H0 L H)
 (hk:∀x (q:OG) H',BD q (Ar.len x)→C5 Φ H0 (.blk q.id (.arr sz (q.pre++lst f x++q.rest))::L) H'→F x=some r→k (.own q.id q.lo q.n) H'):
 E.call (.func (.func fid) [] []) args H k:=by
 subst hE;obtain⟨x,h1,h2⟩:=bind_some h;refine M8.value (F:=[]) (C:=[]) ?_;have:=((hc x h1) H).args hl;simp only[K2,H6]
 exact this.mono fun v H' ⟨q,e1,e0,e2,e3⟩=>by
  subst e1;subst e3;exact hk x q _ (by rw[len_eq];rwa[M9]at e0) (hO.push e2 rfl) h2
theorem AD9 {l:List α} (hO:C5 Φ H0 L H) (hq:BD q (Ar.len l)) (i:Nat) (hi:L[i]? =some (.blk q.id (.arr sz (q.pre++lst f l++q.rest)))) (h:m.bind F=some r) (hc:∀x,m=some x→Ah4 P fid args' sz (lst f l) (lst f x)) (hl:M1 args args')
 (hk:∀x (q:OG) H',BD q (Ar.len x)→C5 Φ H0 (L.set i (.blk q.id (.arr sz (q.pre++lst f x++q.rest)))) H'→F x=some r→k (.own q.id q.lo q.n) H'):
 E.call (.func (.func fid) [] []) (.own q.id q.lo q.n::args) H k:=by
 subst hE;obtain⟨x,h1,h2⟩:=bind_some h;refine M8.value (F:=[]) (C:=[]) ?_;have:=((hc x h1) H q (by rw[M9,←len_eq];exact hq) (hO.get i hi)).args (.cons (.refl _) hl);simp only[K2,H6]
 exact this.mono fun v H' ⟨q',e1,e0,e2,e3⟩=>by
  subst e1;subst e3;exact hk x q' _ (by rw[len_eq];rwa[M9]at e0) (hO.swap i hi e2) h2
theorem AY8 {p:Prop}{v:V}{a b:Unit→Prop}(hv:At1 v=some p)(h1:p→a ())(h0:b ()):E.nilc v a b:=by grind[I5]
end
section
variable {P:Program}{T:Ih}{f:FuncId}{fn:Func}{c:Code}{n:Nat}{rs:List ResultVar}{args:List V}
end
section
variable {P:Program}{nt:Nat}{rd:Option Nat}{T:Ih}{E:Fo}
variable (hE:E=I5 P nt rd)
include hE
variable {H:A5}{sz id:Nat}{l n RL:Int}{row:List V}
theorem AB6 (hk:H id=some (.arr sz row))(hl:RL=(row.length:Nat)){lo hi:Option Int}{k:V→Prop}(a b:Int)(ha:lo.getD 0=a)(hb:hi.getD n=b)(h1:0≤a)(h2:a≤b)(h3:l+b≤RL)(h:∀l' n',l'=l+a→n'=b-a→k (.own id l' n')):
 E.oslice sz H id l n lo hi none k:=by
 grind[I5]
theorem r_br {c:Bool}{x y:Unit→Prop}(h1:c=true→x ())(h2:c=false→y ()):E.br c x y:=by simp_all[I5]
theorem r_ln {xs:List V}(hl:RL=(xs.length:Nat)){k:Int→Prop}(h:k RL):E.ln xs k:=by simp_all[I5]
theorem AN2 {k:V→Prop}(h:k (.sl [] .nil)):E.slice sz [] .nil none (some 0) none k:=by
 subst hE;exact⟨⟨by decide,by decide,by decide,by decide,fun h=>(by cases h),.inl (by decide)⟩,h⟩
theorem AN3 (hk:H id=some (.arr sz row)){y:V}{ys':List V}(hs:Uf sz H y ys'){YL:Int}(hy:YL=(ys'.length:Nat)){k:V→A5→Prop}
 (h:∀m row',m=(if n<YL then n else YL)→row'=DA row l.toNat (ys'.take n.toNat)→k (.int .i64 m) (upd H id (some (.arr sz row')))):E.ocopy sz H (.own id l n) y k:=by
 grind[I5]
theorem AB7 {by_:Nat} {z x:V} {i0:Int} (i:Int) (hi:i0=i) (hx:x= .sl [] .nil∨x= .sl [] .full) (h0:0≤i) (hb:i.toNat*by_≤140737488355328) {k:V→A5→Prop}
 (hout:∀t m row' j,H t=none→m=i→row'=List.replicate i.toNat z++List.replicate j z→k (.own t 0 m) (upd H t (some (.arr sz row')))):
 E.oappz sz by_ z H x i0 k:=by
 subst hE;subst hi
 generalize i0=i at *
 have e:((i.toNat:Nat):Int)=i:=by omega
 have key:GX H k sz by_ z x (List.replicate i.toNat z):=by
  have h2:(List.replicate i.toNat z).length*by_≤140737488355328∧∀t j,H t=none→k (.own t 0 ((List.replicate i.toNat z).length:Nat)) (upd H t (some (.arr sz (List.replicate i.toNat z++List.replicate j z)))):=by
   simp_all
  grind[GX]
 refine⟨⟨h0,?_⟩,key⟩
 rcases hx with rfl|rfl<;>simpa[ownN]using hb
end
end Go.Ab
namespace Go.Ab
open Go.RowKit
theorem Aa2 {A B C row:List V}{lo n:Int}(hr:row=A++B++C)(h0:lo=(A.length:Nat))(h1:n=(B.length:Nat)):R3 row lo n=B:=by
 simp_all[R3]
theorem AO0 {A B C ys row:List V}{i:Nat}(hr:row=A++B++C)(hi:i=A.length)(hl:ys.length=B.length):DA row i ys=A++ys++C:=by
 simp_all[DA]
theorem AP6 {a b by_:Nat}(h:a+b≤1073741824)(hb:by_≤131072):(a+b)*by_≤140737488355328:=N5 (R5 h hb) (by decide)
theorem AE8 {α:Type}[O5][Ar]{f:α→V}{l r:List α}{n:Int}(h:Am8 l n=some r):0≤n∧n≤1073741824∧lst f r=[]:=by
 grind[Am8,lst_eq]
end Go.Ab
namespace Go.Ab
open Go.RowKit
variable [O5]
end Go.Ab
namespace Go.Ab
open Go.RowKit
end Go.Ab
namespace Go.Ab
def Qu {K X:Type}[DecidableEq K](m:List (K×X))(k:K)(z:X):Option (X×Bool):=some (match m.find? (fun p=>decide (p.1=k))with|some p=>(p.2,true)|none=>(z,false))
def Pg {K X:Type}[DecidableEq K](m:List (K×X))(k:K)(v:X):Option (List (K×X)):=some (if m.any (fun p=>decide (p.1=k))=true then m.map (fun p=>if p.1=k then(k,v)else p)else m++[(k,v)])
def Zs {α:Type}(l:List α)(a:Int)(m:List α):Option (List α×Int):=
 if 0≤a∧a≤(l.length:Nat)then some (l.take a.toNat++m.take (l.length-a.toNat)++l.drop (a.toNat+m.length),if(l.length:Int)-a<(m.length:Nat)then(l.length:Int)-a else(m.length:Nat))else none
end Go.Ab
namespace Go.Ab
variable {α:Type}
def Vb (cmp:α→α→Option Int)(a b:α):Bool:=match cmp a b with|some c=>decide (c<0)|none=>false
def geC (cmp:α→α→Option Int)(a b:α):Bool:=match cmp a b with|some c=>decide (0≤c)|none=>false
def Ae9 (lt:α→α→Bool)(x:α):List α→List α
 |[]=>[x]
 |y::l=>if lt x y then x::y::l else y::Ae9 lt x l
def Oz (lt:α→α→Bool):List α→List α
 |[]=>[]
 |x::l=>Ae9 lt x (Oz lt l)
def Cm (cmp:α→α→Option Int):List α→Bool
 |[]=>true
 |a::r=>geC cmp a a&&r.all (fun b=>Vb cmp a b&&geC cmp b a)&&Cm cmp r
def LU (cmp:α→α→Option Int)(l:List α):Option (List α):=
 if decide (l.length<4611686018427387904)&&Cm cmp (Oz (Vb cmp) l)then some (Oz (Vb cmp) l)else none
theorem Qr (lt:α→α→Bool) (x:α):∀l,(Ae9 lt x l).Perm (x::l)
 |[]=>.refl _
 |y::l=>by
  unfold Ae9
  split
  ·exact .refl _
  exact((Qr lt x l).cons y).trans (.swap _ _ _)
theorem Jk (lt:α→α→Bool):∀l,(Oz lt l).Perm l
 |[]=>.refl _
 |x::l=>(Qr lt x _).trans ((Jk lt l).cons x)
variable {cmp:α→α→Option Int}
theorem Aa6 {l r:List α} (h:LU cmp l=some r):r.Perm l∧Cm cmp r=true∧l.length<4611686018427387904:=by
 unfold LU at h
 split at h
 ·rename_i hc;cases h
  simp only[L9,H8]at hc
  exact⟨Jk _ l,hc.2,hc.1⟩
 cases h
def Rel (cmp:α→α→Option Int)(a b:α):Prop:=Vb cmp a b=true∧geC cmp b a=true
theorem Ez:∀{r:List α},Cm cmp r=true↔(∀a∈r,geC cmp a a=true)∧r.Pairwise (Rel cmp)
 |[]=>by simp[Cm]
 |a::r=>by
  simp only[Cm,L9,DQ,DY,Gg,Ez (r:=r),Rel]
  grind
theorem Bf2 {a b:α}(h:geC cmp a b=true):Vb cmp a b=false:=by
 unfold geC at h;grind[Vb]
theorem AZ3 {a b:α}(h:Vb cmp a b=true):∃c,cmp a b=some c:=by
 grind[Vb]
theorem Bt {r:List α}(h:Cm cmp r=true){i j:Nat}(hi:i<r.length)(hj:j<r.length):Vb cmp r[i] r[j]=decide (i<j):=by
 obtain⟨h1,h2⟩:=Ez.1 h
 rw[Bj]at h2
 grind[Vb,geC,Rel]
theorem Aa3 {r:List α}(h:Cm cmp r=true){a b:α}(ha:a∈r)(hb:b∈r):∃c,cmp a b=some c:=by
 obtain⟨h1,h2⟩:=Ez.1 h
 rw[Bj]at h2
 obtain⟨i,hi,rfl⟩:=N6 ha;obtain⟨j,hj,rfl⟩:=N6 hb
 rcases Ew i j with e|e|e
 ·exact AZ3 (h2 i j hi hj e).1
 ·grind[geC]
 grind[geC,Rel]
theorem Sx {r:List α}(h:Cm cmp r=true){i j:Nat}(hi:i<r.length)(hj:j<r.length)(e:r[i]=r[j]):i=j:=by
 have a:=Bt h hi hj;have b:=Bt h hj hi;have c:=Bt h hi hi
 rw[e]at a b c
 rw[Bt h hj hj]at a b c
 grind
theorem VS {r:List α}(h:Cm cmp r=true):r.Nodup:=by
 rw[List.Nodup,Bj];intro i j hi hj hij e;have:=Sx h hi hj e;omega
theorem NF {r s:List α} (h:Cm cmp r=true) (hp:s.Perm r) (hs:s.Pairwise fun a b=>Vb cmp b a=false):s=r:=by
 refine QS (le:=fun a b=>Vb cmp b a=false) (fun a b ha hb h1 h2=>?_) hs ?_ hp
 ·obtain⟨i,hi,rfl⟩:=N6 (hp.mem_iff.1 ha);obtain⟨j,hj,rfl⟩:=N6 hb
  rw[Bt h hj hi]at h1
  rw[Bt h hi hj]at h2
  grind
 exact(Ez.1 h).2.imp fun h=>Bf2 h.2
theorem Am5 {r:List α} (h:Cm cmp r=true) {x:α} (hx:x∈r):∀{l:List α},(∀y∈l,y∈r)→l.Pairwise (fun a b=>Vb cmp b a=false)→(Ae9 (Vb cmp) x l).Pairwise (fun a b=>Vb cmp b a=false)
 |[],_,_=>by simp[Ae9]
 | y::l,hm,hp=>by
  rw[DY]at hp
  unfold Ae9;obtain⟨i,hi,rfl⟩:=N6 hx;obtain⟨j,hj,e⟩:=N6 (hm y (by simp))
  split
  ·rename_i hlt;refine List.pairwise_cons.2 ⟨fun z hz=>?_,List.pairwise_cons.2 hp⟩;obtain⟨k,hk,rfl⟩:=N6 (hm z hz)
   rw[←e,Bt h hi hj]at hlt
   rw[Bt h hk hi]
   rcases List.mem_cons.1 hz with hz|hz
   ·have:=Sx h hk hj (hz.trans e.symm)
    grind
   have:=hp.1 _ hz
   rw[←e,Bt h hk hj]at this
   grind
  rename_i hlt;refine List.pairwise_cons.2 ⟨fun z hz=>?_,Am5 h hx (fun z hz=>hm z (by simp[hz])) hp.2⟩
  rcases List.mem_cons.1 ((Qr _ _ _).mem_iff.1 hz)with hz|hz
  ·simp_all
  simp_all
theorem Vj {r:List α}(h:Cm cmp r=true):∀{l:List α},(∀y∈l,y∈r)→(Oz (Vb cmp) l).Pairwise (fun a b=>Vb cmp b a=false)
 |[],_=>by simp[Oz]
 |x::l,hm=>Am5 h (hm x (by simp)) (fun y hy=>hm y (by simp[(Jk _ l).mem_iff.1 hy])) (Vj h fun y hy=>hm y (by simp[hy]))
theorem XA {l r:List α}(hp:r.Perm l)(h:Cm cmp r=true)(hl:l.length<4611686018427387904):LU cmp l=some r:=by
 have e:Oz (Vb cmp) l=r:=NF h ((Jk _ l).trans hp.symm) (Vj h fun y hy=>hp.mem_iff.2 hy)
 simp_all[LU]
end Go.Ab
namespace Go.Ab
open Go.RowKit Go.Sort
variable [O5]
theorem Rl.more {g:Gh}{H:A5}{w w':World}(h:Rl g H w)(hb:Below g.base w w')(hs:∀b,b<w.heap.size→w'.heap[b]? =w.heap[b]?)(hd:w.drawn≤w'.drawn:=by first|exact Nat.le_refl _|exact Nat.le_succ _|exact Nat.le_add_right _ _):Y7 g w g w'∧Rl g H w':=by
 have s:Y7 g w g w':=⟨fun _ _ e=>e,fun _ _ e=>e,fun _ _ e=>e,rfl,fun b o hf=>by simp only[World.cell?,hs b (h.fz_lt hf)],hb,fun _ _ _=>rfl,hd⟩;exact⟨s,fun x k hx=>(h.blk x k hx).mono hx s fun y hy=>⟨hs y (h.lt hy),fun _ ho=>ho⟩,h.inj,fun b o hf=>by obtain⟨v,hv⟩:=h.frz b o hf;exact⟨v,(s.cell b o hf).trans hv⟩,h.nxt,N5 h.bnd hb.size,fun n=>(h.glb n).mono s⟩
def Of (q:OG)(zs:List Int):List V:=q.pre++zs.map (V.int .i64)++q.rest
theorem JM (q:OG)(zs:List Int):(Of q zs).length=q.pre.length+zs.length+q.rest.length:=by grind[Of]
theorem XR {q:OG}{zs:List Int}{j:Nat}(hj:j<zs.length):(Of q zs).getD (q.pre.length+j) .bad= .int .i64 zs[j]:=by
 grind[Of]
theorem XQ {q:OG}{zs ds:List Int}(hl:ds.length=zs.length){i:Nat}(hi:i<q.pre.length∨q.pre.length+ds.length≤i):(Of q ds).getD i .bad=(Of q zs).getD i .bad:=by
 grind[Of]
theorem AN7 {off:Nat}{ds:List Int}{c:Array Value}{k:Nat}(hk:k<c.size):(putCells (Value.int .i64) off ds.toArray c).getD k undef=if off≤k∧k<off+ds.length then .int .i64 (ds.toArray[k-off]!)else c.getD k undef:=by
 unfold putCells
 simp_all
def AK3 (P:Program)(f:FuncId)(zs ds:List Int)(r:OG→V):Prop:=
 ∀H (q:OG),BD q (zs.length:Nat)→H q.id=some (.arr 1 (Of q zs))→M8 P f [.own q.id q.lo q.n] H fun x H'=>x=r q∧H'=upd H q.id (some (.arr 1 (Of q ds)))
theorem Zy {P:Program} {f:FuncId} {zs ds:List Int} {r:OG→V} {m:Nat} (hl:ds.length=zs.length)
 (hrun:∀vals w,(callFunc f vals).run P w= .ok (.enter f vals) w)
 (h0:zs=[]→∀p cap w,Calls P f #[.slice p 0 cap] w fun e w'=>∃v,e= .returned v∧w'=w∧(v= .slice p 0 cap∧(∀q,BD q (zs.length:Nat)→r q= .own q.id q.lo q.n)∨v= .tuple #[]∧∀q,r q= .tup []))
 (h1:∀blk off cap w,0<zs.length→zs.length≤cap→Holds (Value.int .i64) w blk off zs.toArray→blk<w.heap.size→
  Calls P f #[.slice (some ⟨blk,off,none⟩) zs.length cap] w fun e w'=>∃v,e= .returned v∧(v= .slice (some ⟨blk,off,none⟩) m cap∧m≤zs.length∧(∀q,r q= .own q.id q.lo (m:Nat))∨v= .tuple #[]∧∀q,r q= .tup [])∧
   ∃n os,w'=grow (putRow (Value.int .i64) (Sort.ahead w n) blk off ds.toArray) os):AK3 P f zs ds r:=by
 intro H q hq hk g w vals hR hA;obtain⟨hlen,hv⟩:=hA;obtain⟨vals⟩:=vals
 match vals,hlen with
 | [v],_=>
  have hv1:=hv 0 (by simp)
  simp at hv1
  rw[hrun]
  show CallsIn Fence.wide 0 P f #[v] w _
  rw[callsIn_wide];have hq0:=hq;obtain⟨hlo,hn⟩:=hq;obtain⟨b,p,e1,e2,e3,e4,e5,e6,e7,e8,e9,e10⟩:=EL hR hk hv1
  rw[JM]at e2 e5 e7 e8 e10
  subst e2
  have hnn:q.n.toNat=zs.length:=by omega
  by_cases hz:zs=[]
  ·subst hz;have hd:ds=[]:=List.length_eq_zero_iff.1 hl;subst hd;rw[hnn];refine(h0 rfl p _ w).mono ?_;rintro e w' ⟨v,rfl,rfl,hcase⟩;refine⟨v,rfl,g,r q,H,Y7.refl _ _,hR,?_,rfl,?_⟩
   ·rcases hcase with⟨rfl,hr⟩|⟨rfl,hr⟩
    ·rw[hr q hq0];rw[hnn]at hv1;exact hv1
    rw[hr];exact VR.und g w'
   grind[upd]
  have hzl:0<zs.length:=List.length_pos_iff.2 hz
  rcases e10 with e10|⟨c,T,k1,k2,k3,k4,k5,k6⟩
  ·omega
  have hp:=e8 (by omega);subst hp
  have hoff:(g.ow q.id).o+q.lo.toNat*1=(g.ow q.id).o+q.pre.length:=by rw[hlo];simp
  rw[hnn,hoff]
  have hblt:b<w.heap.size:=by
   grind
  have hcell:∀o,w.cell? ⟨b,o,none⟩=c[o]? :=fun o=>by simp[World.cell?,k2]
  have hH:Holds (Value.int .i64) w b ((g.ow q.id).o+q.pre.length) zs.toArray:=fun j hj=>by
   have hj':j<zs.length:=by omega
   refine⟨?_,by simp[World.frozen?,k2]⟩;have h:=(k4 (q.pre.length+j) 0 (by omega) (by omega)).2
   rw[XR hj']at h
   have h:=VR.int_inv h;rw[hcell]
   have hlt:(g.ow q.id).o+q.pre.length+j<c.size:=by omega
   rw[show(g.ow q.id).o+(q.pre.length+j)*1+0=(g.ow q.id).o+q.pre.length+j by omega]at h
   simp_all
  refine(h1 b _ _ w hzl (by omega) hH hblt).mono ?_;rintro e w' ⟨v,rfl,hcase,n,os,rfl⟩
  have hs:=Rl.setArr hR (ys:=Of q ds) (c':=putCells (Value.int .i64) ((g.ow q.id).o+q.pre.length) ds.toArray c) hk e1 (by rw[JM];omega) k2 (by simp[putCells])
   (fun o ho=>by
    simp only[putCells,QL]
    grind)
   (by rw[JM,JM,hl])
   (fun i hi=>by
    rw[JM]at hi
    by_cases hm:i<q.pre.length∨q.pre.length+ds.length≤i
    ·rw[XQ hl hm];grind[Of]
    grind[V.cells,Of])
   (fun i j hi hj=>by
    rw[JM]at hi
    have hj0:j=0:=by omega
    subst hj0;rw[AN7 (by omega)]
    by_cases hm:i<q.pre.length∨q.pre.length+ds.length≤i
    ·rw[A0 (by omega),XQ hl hm]
     simp_all
    obtain⟨j,rfl⟩:∃j,i=q.pre.length+j:=⟨i-q.pre.length,by omega⟩
    have hj:j<ds.length:=by omega
    rw[A2 (by omega),XR hj,show(g.ow q.id).o+(q.pre.length+j)*1+0-((g.ow q.id).o+q.pre.length)=j by omega]
    have:ds.toArray[j]! =ds[j]:=by simp[hj]
    rw[this]
    exact⟨rfl,VR.int _ _⟩)
  obtain⟨s1,R1⟩:=hs
  generalize hw1:w.setRow b (putCells (Value.int .i64) ((g.ow q.id).o+q.pre.length) ds.toArray c)=w1 at s1 R1
  have hsz1:w1.heap.size=w.heap.size:=by rw[←hw1];simp[World.setRow]
  have hheap:∀x,x<w1.heap.size→(grow (putRow (Value.int .i64) (Sort.ahead w n) b ((g.ow q.id).o+q.pre.length) ds.toArray) os).heap[x]? =w1.heap[x]? :=fun x hx=>by
   have hx':x<w.heap.size:=by omega
   simp only[grow,putRow,mapBlock,Sort.ahead];rw[QU (by grind),Gs]
   by_cases hxb:b=x
   ·subst hxb;rw[A2 rfl,k2,←hw1,setRow_heap w b c _ T (0,0) k2];rfl
   rw[A0 hxb,←hw1,V9 w b _ x (fun e=>hxb e.symm)]
  have hbel:Below g.base w1 (grow (putRow (Value.int .i64) (Sort.ahead w n) b ((g.ow q.id).o+q.pre.length) ds.toArray) os):=by
   refine⟨by rw[←hw1];rfl,by rw[←hw1];rfl,by rw[←hw1];rfl,?_,fun k hk'=>?_⟩
   ·rw[hsz1];simp_all
   grind
  obtain⟨s2,R2⟩:=R1.more hbel hheap (by rw[←hw1];exact Ix _ _);refine⟨v,rfl,g,r q,_,s1.trans s2,R2,?_,rfl,rfl⟩
  rcases hcase with⟨rfl,hm,hr⟩|⟨rfl,hr⟩
  ·rw[hr]
   have hcap:(g.ow q.id).cap=q.pre.length+zs.length+q.rest.length:=by rw[e7]
   have:=VR.own (g:=g) (w:=grow (putRow (Value.int .i64) (Sort.ahead w n) b ((g.ow q.id).o+q.pre.length) ds.toArray) os) (id:=q.id) (b:=b) (lo:=q.lo) (n:=(m:Nat)) (p:=some ⟨b,(g.ow q.id).o+q.pre.length,none⟩) e1 e3 (by omega) (by omega) (fun _=>by rw[e6,hoff])
   rw[hcap]at this
   simp_all
  rw[hr];exact VR.und _ _
end Go.Ab
namespace Go.Ab
def AG0 (x:Int):List Int→List Int
 |[]=>[x]
 |y::r=>if x≤y then x::y::r else y::AG0 x r
def Tv:List Int→List Int
 |[]=>[]
 |x::r=>AG0 x (Tv r)
theorem Am4 (a:Int):∀(l m:List Int),(∀b∈l,¬a≤b)→(∀b∈m,a≤b)→AG0 a (l++m)=l++a::m
 |[],[],_,_=>rfl
 |[],y::m,_,h=>by simp_all[AG0]
 |y::l,m,h,k=>by
  simp only[X2,AG0];rw[A0 (h y (by simp)),Am4 a l m (fun b hb=>h b (by simp[hb])) k]
theorem Vi:∀l:List Int,Tv l=l.mergeSort fun x y=>decide (x≤y)
 |[]=>by simp[Tv]
 |a::l=>by
  have ht:∀x y z:Int,decide (x≤y)=true→decide (y≤z)=true→decide (x≤z)=true:=fun x y z h k=>by grind
  have hc:∀x y:Int,(decide (x≤y)||decide (y≤x))=true:=fun x y=>by simp;omega
  obtain⟨l1,l2,h1,h2,h3⟩:=List.mergeSort_cons ht hc a l;have hs:=QP ht hc (a::l)
  rw[h1]at hs
  rw[Tv,Vi l,h1,h2]
  grind[Am4,List.pairwise_cons]
def Ai8 (l:List Int):Option (List Int):=if l.length<4611686018427387904 then some (Tv l)else none
theorem Aa5 {l r:List Int}(h:Ai8 l=some r):l.length<4611686018427387904∧r=l.mergeSort fun x y=>decide (x≤y):=by
 grind[Ai8,Vi]
end Go.Ab
namespace Go.Ab
open Go.RowKit
variable [O5]
def AK2 (P:Program)(f:FuncId)(zs ds:List Int):Prop:=AK3 P f zs ds (fun _=>.tup [])∧ds.length=zs.length
theorem XS [Ar](q:OG)(zs:List Int):q.pre++lst (V.int .i64) zs++q.rest=Of q zs:=by rw[lst_eq];rfl
section
variable [Ar]{P:Program}{nt:Nat}{rd:Option Nat}{E:Fo}(hE:E=I5 P nt rd)
include hE
theorem AP1 {Φ:A5→A5→Prop}{H0 H:A5}{L:List En}{fid:FuncId}{q:OG}{k:V→A5→Prop}{R:Type}{m:Option (List Int)}{F:List Int→Option R}{r:R}
 {l:List Int} (hO:C5 Φ H0 L H) (hq:BD q (Ar.len l)) (i:Nat) (hi:L[i]? =some (.blk q.id (.arr 1 (q.pre++lst (V.int .i64) l++q.rest)))) (h:m.bind F=some r) (hc:∀x,m=some x→AK2 P fid l x)
 (hk:∀x H',BD q (Ar.len x)→C5 Φ H0 (L.set i (.blk q.id (.arr 1 (q.pre++lst (V.int .i64) x++q.rest)))) H'→F x=some r→k (.tup []) H'):
 E.call (.func (.func fid) [] []) [.own q.id q.lo q.n] H k:=by
 subst hE;obtain⟨x,h1,h2⟩:=bind_some h;obtain⟨c1,c2⟩:=hc x h1;refine M8.value (F:=[]) (C:=[]) ?_;simp only[K2,H6]
 rw[XS]at hi
 refine(c1 H q (by rw[←len_eq];exact hq) (hO.get i hi)).mono fun v H' ⟨e1,e2⟩=>?_;subst e1;subst e2;refine hk x _ ?_ ?_ h2
 ·rw[len_eq]at hq ⊢;rw[c2];exact hq
 rw[XS];exact hO.set i hi
end
end Go.Ab
namespace Go.Ab
open Go.RowKit Go.Shelf Go.Sort
variable [O5]
theorem Ag9 {P:Program}{ρ:Ren}(Ly:Go.Proofs.Lays.n189 P ρ)(hrun:∀vals w,(callFunc (ρ.f 189) vals).run P w= .ok (.enter (ρ.f 189) vals) w){zs r:List Int}(h:Ai8 zs=some r):AK2 P (ρ.f 189) zs r:=by
 obtain⟨hlt,rfl⟩:=Aa5 h;have hl:(zs.mergeSort fun x y=>decide (x≤y)).length=zs.length:=QK ..;refine⟨Zy (m:=0) hl hrun ?_ ?_,hl⟩
 ·intro _ p cap w;exact(Go.Proofs.Any.slices_Sort_int_none Ly p cap w).mono fun e w' ⟨a,b⟩=>⟨_,a,b,.inr ⟨rfl,fun _=>rfl⟩⟩
 intro blk off cap w _ _ hH hb;exact(Go.Proofs.Any.slices_Sort_int Ly blk off cap zs w hH hb hlt).mono fun e w' ⟨a,n,os,b⟩=>⟨_,a,.inr ⟨rfl,fun _=>rfl⟩,n,os,b⟩
def TO (l:List Int):Option (List Int):=if l.length≤9223372036854775807 then some (Lib.compact l)else none
theorem Ru (zs:List Int):(Lib.compact zs).length≤zs.length:=by
 unfold Lib.compact Lib.compactUpTo;rw[D6]
 grind
theorem TY [Ar] {P:Program} {ρ:Ren} (Ly:Go.Proofs.Lays2.n20 P ρ) (hrun:∀vals w,(callFunc (ρ.f 20) vals).run P w= .ok (.enter (ρ.f 20) vals) w) {zs r:List Int} (h:TO zs=some r):
 Ah4 P (ρ.f 20) [] 1 (lst (V.int .i64) zs) (lst (V.int .i64) r):=by
 unfold TO at h
 split at h
 case isFalse=>cases h
 rename_i hlt;cases h;have hle:(Lib.compact zs).length≤zs.length:=Ru zs
 have key:AK3 P (ρ.f 20) zs (Lib.compact zs++List.replicate (zs.length-(Lib.compact zs).length) 0) (fun q=>.own q.id q.lo ((Lib.compact zs).length:Nat)):=by
  refine Zy (m:=(Lib.compact zs).length) (by simp;omega) hrun ?_ ?_
  ·rintro rfl p cap w;refine(Go.Proofs.Any.slices_Compact_int_empty Ly p cap w).mono fun e w' ⟨a,b⟩=>⟨_,a,b,.inl ⟨rfl,fun q hq=>?_⟩⟩;rw[hq.2]
   have:(Lib.compact ([]:List Int)).length=0:=by have:=Ru [];simp_all
   rw[this];rfl
  intro blk off cap w _ hc hH hb;refine(Go.Proofs.Any.slices_Compact_int Ly blk off cap zs w hH hlt hc).mono fun e w' ⟨a,n,b⟩=>⟨_,a,.inl ⟨rfl,hle,fun _=>rfl⟩,n, #[],by rw[b,grow_empty]⟩
 intro H q hq hk
 rw[lst_eq]at hk hq
 refine(key H q (by grind) (by simp_all[Of])).mono fun v H' ⟨e1,e2⟩=>?_;subst e1;subst e2;refine⟨⟨q.id,q.lo,((Lib.compact zs).length:Nat),q.pre,(List.replicate (zs.length-(Lib.compact zs).length) 0).map (V.int .i64)++q.rest⟩,rfl,⟨hq.1,by rw[lst_eq];simp⟩,by rw[G2],?_⟩
 funext x
 rw[lst_eq]
 grind[upd,Of]
end Go.Ab
namespace Go.Ab
open Go.RowKit
variable [O5][Ar]
theorem JI {L:List En}{i j:Nat}{e' e:En}(hj:(L.set i e')[j]? =some e):(j=i∧e=e')∨(j≠i∧L[j]? =some e):=by
 rw[Ad]at hj
 grind
theorem UN {L:List En}{i j:Nat}{e':En}(h:j≠i):(L.set i e')[j]? =L[j]? :=by
 rw[Ad,A0 (fun e=>h e.symm)]
theorem BE.setNone {H0 H:A5} {L:List En} (h:BE H0 L H) (i:Nat) {e e':En} (hi:L[i]? =some e) (he:e.id=none) (he':e'.id=none):BE H0 (L.set i e') H:=by
 refine⟨h.ext,fun j x id b hj hx=>?_,fun j k x x' id b b' hj hk hx hx'=>?_,fun x b hx=>?_⟩
 ·rcases JI hj with⟨_,rfl⟩|⟨_,hj⟩
  ·rw[he']at hx;cases hx
  exact h.has j x id b hj hx
 ·rcases JI hj with⟨_,rfl⟩|⟨_,hj⟩
  ·rw[he']at hx;cases hx
  rcases JI hk with⟨_,rfl⟩|⟨_,hk⟩
  ·rw[he']at hx';cases hx'
  exact h.inj j k x x' id b b' hj hk hx hx'
 refine(h.only x b hx).imp (fun h=>h) fun⟨j,y,h1,h2⟩=>⟨j,y,?_,h2⟩;rw[UN fun e=>by simp_all];exact h1
theorem BE.drop {H0 H:A5} {L:List En} (h:BE H0 L H) (i:Nat) {e e':En} {id:Nat} {b0:Il} (hi:L[i]? =some e) (he:e.id=some (id,b0)) (he':e'.id=none):BE H0 (L.set i e') (upd H id none):=by
 have hid:=h.has i e id b0 hi he;refine⟨fun x b hx=>?_,fun j x y b hj hx=>?_,fun j k x x' y b b' hj hk hx hx'=>?_,fun x b hx=>?_⟩
 ·rw[C9 _ _ (AK hid.1 hx)];exact h.ext x b hx
 ·rcases JI hj with⟨_,rfl⟩|⟨hne,hj⟩
  ·rw[he']at hx;cases hx
  have:=h.has j x y b hj hx;refine⟨this.1,?_⟩;rw[C9 _ _ (fun eq=>by subst eq;exact hne (h.inj j i x e y b b0 hj hi hx he))];exact this.2
 ·rcases JI hj with⟨_,rfl⟩|⟨_,hj⟩
  ·rw[he']at hx;cases hx
  rcases JI hk with⟨_,rfl⟩|⟨_,hk⟩
  ·rw[he']at hx';cases hx'
  exact h.inj j k x x' y b b' hj hk hx hx'
 by_cases hxi:x=id
 ·simp_all[upd]
 rw[C9 _ _ hxi]at hx
 refine(h.only x b hx).imp (fun h=>h) fun⟨j,y,h1,h2⟩=>⟨j,y,?_,h2⟩;rw[UN fun ej=>by simp_all];exact h1
theorem C5.untok {Φ:A5→A5→Prop} {F H:A5} {L:List En} (h:C5 Φ F L H) (i:Nat) {tl tl':G6} (hi:L[i]? =some (.tl tl)) (ht:(En.tl tl').id=none):C5 Φ F (L.set i (.tl tl')) (M0 H tl):=by
 obtain⟨hs,F',H1,h0,h1,h2⟩:=h
 cases tl with
 |tok t=>
  have e:=(h0.has i _ t _ hi rfl).2;exact⟨hs,_,_,h0.drop i hi rfl ht,hs.chg t none h1 (by rw[e,hs.le h1 _ _ e]),h2.upd t none⟩
 |nil=>exact⟨hs,_,_,h0.setNone i hi rfl ht,h1,h2⟩
 |full=>exact⟨hs,_,_,h0.setNone i hi rfl ht,h1,h2⟩
 |ro=>exact⟨hs,_,_,h0.setNone i hi rfl ht,h1,h2⟩
section
variable {P:Program}{T:Ih}{f:FuncId}{fn:Func}{c:Code}{n:Nat}{rs:List ResultVar}{args:List V}
end
section
variable {P:Program}{nt:Nat}{rd:Option Nat}{T:Ih}{E:Fo}
variable (hE:E=I5 P nt rd)
include hE
variable {α R:Type}{f:α→V}{Φ:A5→A5→Prop}{H0 H:A5}{L:List En}{r:R}{m:Option (List α)}{F:List α→Option R}{fid:FuncId}{args args':List V}{k:V→A5→Prop}
end
def Gh.lend (g:Gh)(w:World):Gh:={g with fz:=fun b o=>∃v,w.cell? ⟨b,o,none⟩=some v,base:=w.heap.size}
theorem VR.lend {g:Gh}{w:World}{B:Nat}{F:Nat→Nat→Prop}(hB:g.base≤B)(hF:∀b o,g.fz b o→F b o){v:Value}{x:V}(h:VR g w v x):VR {g with fz:=F,base:=B} w v x:=by
 induction h with
 |bad v=>exact .bad v
 |bool b=>exact .bool b
 |int k n=>exact .int k n
 |str s=>exact .str s
 |nilp=>exact .nilp
 |nilf=>exact .nilf
 |nili=>exact .nili
 |nilmap=>exact .nilmap
 |map h=>exact .map h
 |fmap hb hw hk hn hl hv ih=>exact VR.fmap (g:={g with fz:=F,base:=B}) (Lz hb hB) hw hk hn hl ih
 |ref h=>exact .ref h
 |own h h0 h1 h2 hp=>exact VR.own (g:={g with fz:=F,base:=B}) h h0 h1 h2 hp
 |elem h hs=>exact VR.elem (g:={g with fz:=F,base:=B}) h hs
 |eref vs hf hw h1 hv ih=>exact .eref vs (fun j hj=>hF _ _ (hf j hj)) hw h1 ih
 |sl0 ht=>exact .sl0 ht
 |sle ht=>exact .sle ht
 |sl vs hn hc hz hf hw h1 hv ht ih=>exact .sl vs hn hc hz (fun i j hi hj=>hF _ _ (hf i j hi hj)) hw h1 ih (ht.mono fun _ _ e=>e)
 |func hl hv hl' hv' ih ih'=>exact .func hl ih hl' ih'
 |yield h=>exact .yield h
 |iface h ih=>exact .iface ih
 |agg hl h1 hv ih=>exact .agg hl h1 ih
 |tup hl hv ih=>exact .tup hl ih
theorem Rl.lend {g:Gh}{H:A5}{w:World}(h:Rl g H w):Rl (g.lend w) (fun _=>none) w:=by
 refine⟨fun id b hb=>(by cases hb),fun id id' b h1 _=>(by simp[Gh.at]at h1),fun b o hf=>hf,fun id hi=>⟨(h.nxt id hi).1,(h.nxt id hi).2.1,rfl⟩,B3 _,fun n=>(h.glb n).lend h.bnd fun b o hf=>h.frz b o hf⟩
theorem Rl.lendOwn {g:Gh} {H:A5} {w:World} (h:Rl g H w) {id sz:Nat} {xs:List V} (hk:H id=some (.arr sz xs)) {v:Value} {lo n:Int} (hv:VR g w v (.own id lo n)):VR (g.lend w) w v (.sl (R3 xs lo n) .ro):=by
 obtain⟨g',⟨e1,e2,e3⟩,s,hR,hw⟩:=h.freezeArr' hk;have:=(hw v lo n (hv.mono s)).lend (F:=fun b o=>∃v,w.cell? ⟨b,o,none⟩=some v) (B:=w.heap.size) hR.bnd fun b o hf=>hR.frz b o hf
 have e:({g' with fz:=fun b o=>∃v,w.cell? ⟨b,o,none⟩=some v,base:=w.heap.size}:Gh)={(g.lend w)with nx:=g'.nx}:=by
  simp_all[Gh.lend]
 rw[e]at this
 exact VR.nxt this
where
 VR.nxt {g:Gh} {w:World} {n:Nat} {v:Value} {x:V} (h:VR {g with nx:=n} w v x):VR g w v x:=by
  generalize hg:({g with nx:=n}:Gh)=g1 at h
  have hmu:g1.mu=g.mu:=by rw[←hg]
  have htk:g1.tk=g.tk:=by rw[←hg]
  have hfz:g1.fz=g.fz:=by rw[←hg]
  have how:g1.ow=g.ow:=by rw[←hg]
  have hba:g1.base=g.base:=by rw[←hg]
  clear hg
  induction h with
  |bad v=>exact .bad v
  |bool b=>exact .bool b
  |int k n=>exact .int k n
  |str s=>exact .str s
  |nilp=>exact .nilp
  |nilf=>exact .nilf
  |nili=>exact .nili
  |nilmap=>exact .nilmap
  |map h=>exact .map (hmu▸h)
  |fmap hb hw hk hn hl hv ih=>exact .fmap (hba▸hb) hw hk hn hl ih
  |ref h=>exact .ref (hmu▸h)
  |own h h0 h1 h2 hp=>rw[how]at h2 hp ⊢;exact VR.own (hmu▸h) h0 h1 h2 hp
  |elem h hs=>rw[how]at hs ⊢;exact VR.elem (hmu▸h) hs
  |eref vs hf hw h1 hv ih=>exact .eref vs (fun j hj=>hfz▸hf j hj) hw h1 ih
  |sl0 ht=>exact .sl0 ht
  |sle ht=>exact .sle ht
  |sl vs hn hc hz hf hw h1 hv ht ih=>exact .sl vs hn hc hz (fun i j hi hj=>hfz▸hf i j hi hj) hw h1 ih (ht.mono fun _ _ e=>htk▸e)
  |func hl hv hl' hv' ih ih'=>exact .func hl ih hl' ih'
  |yield h=>exact .yield (hmu▸h)
  |iface h ih=>exact .iface ih
  |agg hl h1 hv ih=>exact .agg hl h1 ih
  |tup hl hv ih=>exact .tup hl ih
def AC0:V→Bool
 | .bool _=>true
 | .int _ _=>true
 | .str _=>true
 |_=>false
inductive ON :V→Prop
 |bool (b:Bool):ON (.bool b)
 |int (k:IntKind) (n:Int):ON (.int k n)
 |str (s:ByteArray):ON (.str s)
 |agg {cs:List V} (h:cs.all AC0=true):ON (.agg cs)
 |tup2 {x y:V} (h:ON x) (k:ON y):ON (.tup [x,y])
 |tup3 {x y z:V} (h:ON x) (k:ON y) (m:ON z):ON (.tup [x,y,z])
theorem ON.any {x:V} (h:ON x):∀{g g':Gh} {w w':World} {v:Value},VR g w v x→VR g' w' v x:=by
 induction h with
 |bool b=>intro g g' w w' v h;cases h;exact .bool b
 |int k n=>intro g g' w w' v h;cases h;exact .int k n
 |str s=>intro g g' w w' v h;cases h;exact .str s
 | @agg cs hp=>
  intro g g' w w' v h
  cases h with
  |agg hl h1 hv=>
   refine .agg hl h1 fun i hi=>?_;have hvi:=hv i hi;have hm:=List.all_eq_true.1 hp _ (G3 hi)
   rw[show cs.getD i .bad=cs[i] by rw[X3,E0 hi];rfl]at hvi ⊢
   generalize cs[i]=c at hvi hm ⊢
   generalize Array.getD _ i undef=u at hvi ⊢
   cases c<;>simp only[AC0,J7]at hm<;>cases hvi<;>constructor
 | tup2 _ _ ih1 ih2=>
  intro g g' w w' v h
  cases h with
  |tup hl hv=>
   refine .tup hl fun i hi=>?_
   match i with
   |0=>grind
   |1=>grind
   |i+2=>grind
 | tup3 _ _ _ ih1 ih2 ih3=>
  intro g g' w w' v h
  cases h with
  |tup hl hv=>
   refine .tup hl fun i hi=>?_
   match i with
   |0=>grind
   |1=>grind
   |2=>grind
   |i+3=>grind
inductive NC (H:A5):List V→List V→Prop
 |nil:NC H [] []
 |le {x y:V} {xs ys:List V} (h:Dx x y) (k:NC H xs ys):NC H (x::xs) (y::ys)
 |fm {id:Nat} {ks:List Int} {zs xs ys:List V} (h:H id=some (.fm ks zs)) (k:NC H xs ys):NC H (.map id::xs) (.fmap ks zs::ys)
 |agg {us ws xs ys:List V} (h:NC H us ws) (k:NC H xs ys):NC H (.agg us::xs) (.agg ws::ys)
 |own {id sz:Nat} {zs:List V} {lo n:Int} {xs ys:List V} (h:H id=some (.arr sz zs)) (k:NC H xs ys):NC H (.own id lo n::xs) (.sl (R3 zs lo n) .ro::ys)
theorem NC.length {H:A5}{xs ys:List V}(h:NC H xs ys):xs.length=ys.length:=by
 induction h with
 |nil=>rfl
 |le _ _ ih=>simp[ih]
 |fm _ _ ih=>simp[ih]
 |agg _ _ _ ih=>simp[ih]
 |own _ _ ih=>simp[ih]
theorem NC.at {g:Gh} {H:A5} {w:World} (hR:Rl g H w) {xs ys:List V} (h:NC H xs ys):∀(vals:Nat→Value),(∀i,i<xs.length→VR g w (vals i) (xs.getD i .bad))→∀i,i<ys.length→VR (g.lend w) w (vals i) (ys.getD i .bad):=by
 induction h with
 |nil=>simp_all
 |le h k ih=>
  intro vals hv i hi
  cases i with
  |zero=>exact((hv 0 (by simp)).le h).lend hR.bnd fun b o hf=>hR.frz b o hf
  |succ i=>exact ih (fun i=>vals (i+1)) (fun i hi=>by grind) i (by grind)
 | fm h k ih=>
  intro vals hv i hi
  cases i with
  | zero=>
   have h0:=hv 0 (by simp)
   simp only[LC]at h0 ⊢
   generalize vals 0=u at h0
   cases h0 with
   |map hm=>
    obtain⟨b,es,clock,k1,k2,k3,k4,k5,k6,k7⟩:=hR.blk _ _ h
    rw[hm]at k1;cases k1
    exact VR.fmap (g:=Gh.lend _ _) (Wq k3) k3 k4 k5 k6 fun i e hi=>(k7 i e hi).lend hR.bnd fun b o hf=>hR.frz b o hf
  |succ i=>exact ih (fun i=>vals (i+1)) (fun i hi=>by grind) i (by grind)
 | agg h k ih1 ih=>
  intro vals hv i hi
  cases i with
  | zero=>
   have h0:=hv 0 (by simp)
   simp only[LC]at h0 ⊢
   generalize vals 0=u at h0
   cases h0 with
   |agg hl h1 hv1=>
    have e:=h.length;exact .agg (hl.trans e) (fun i hi=>h1 i (by omega)) fun i hi=>ih1 (fun i=>Array.getD _ i undef) hv1 i hi
  |succ i=>exact ih (fun i=>vals (i+1)) (fun i hi=>by grind) i (by grind)
 |own h k ih=>
  intro vals hv i hi
  cases i with
  |zero=>exact hR.lendOwn h (hv 0 (by simp))
  |succ i=>exact ih (fun i=>vals (i+1)) (fun i hi=>by grind) i (by grind)
theorem B9.lent {P:Program}{f:FuncId}{ys:List V}{r:V}(c:B9 P f ys r)(hr:ON r){H:A5}{xs:List V}(hl:NC H xs ys):M8 P f xs H fun x H'=>x=r∧H'=H:=by
 intro g w vals hR hA;have hA2:Args (g.lend w) w vals ys:=⟨hA.1.trans hl.length,hl.at hR (fun i=>vals.getD i undef) hA.2⟩;refine(c _ _ w vals hR.lend hA2).mono fun v w' ⟨g',x,H',s,hR',hv,e1,e2⟩=>?_;subst e1;have hb:Below w.heap.size w w':=s.low;have sg:Y7 g w g w':=⟨fun _ _ e=>e,fun _ _ e=>e,fun _ _ e=>e,rfl,fun b o hf=>hb.cell (hR.fz_lt hf),hb.mono hR.bnd,fun _ _ _=>rfl,s.dr⟩;refine⟨g,x,H,sg,⟨fun id b hk=>(hR.blk id b hk).mono hk sg fun y hy=>⟨hb.block _ (hR.lt hy),fun _ ho=>ho⟩,hR.inj,fun b o hf=>?_,hR.nxt,N5 hR.bnd hb.size,fun n=>(hR.glb n).mono sg⟩,hr.any hv,rfl,rfl⟩;obtain⟨u,hu⟩:=hR.frz b o hf;exact⟨u,(hb.cell (hR.fz_lt hf)).trans hu⟩
section
variable {P:Program}{nt:Nat}{rd:Option Nat}{T:Ih}{E:Fo}
variable (hE:E=I5 P nt rd)
include hE
theorem AP2 {R S:Type}{m:Option S}{F:S→Option R}{r:R}{f:FuncId}{args args':List V}{g:S→V}{H:A5}{k:V→A5→Prop}(h:m.bind F=some r)(hc:∀x,m=some x→B9 P f args' (g x))(hs:∀x,ON (g x))(hl:NC H args args')
 (hk:∀x,F x=some r→k (g x) H):E.call (.func (.func f) [] []) args H k:=by
 subst hE;obtain⟨x,h1,h2⟩:=bind_some h;refine M8.value (F:=[]) (C:=[]) ?_;simp only[K2,H6]
 exact((hc x h1).lent (hs x) hl).mono fun v H' ⟨e1,e2⟩=>by simp_all
end
end Go.Ab
