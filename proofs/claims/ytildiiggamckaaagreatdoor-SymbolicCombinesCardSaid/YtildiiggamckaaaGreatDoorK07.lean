/- . -/
import Derived.Test.YtildiiggamckaaaGreatDoorK06
import Derived.Laws.Externs
set_option linter.all false
open Go.Ab.Ar (len_eq lst lst_eq ofs ofs_eq)
namespace Go.Ab
open Go.RowKit
variable [L6][Ar]
def BV.wk {x y:V}(h:BV x y):Wk x y:=fun _ _ _ hv=>hv.le h
theorem Args.le {g:Gh}{w:World}{vals:Array Value}{xs ys:List V}(h:Args g w vals xs)(k:L5 xs ys):Args g w vals ys:=
 ⟨h.1.trans k.length,fun i hi=>(h.2 i (k.length▸hi)).le (k.at i)⟩
def J1.args {P:Program}{f:FuncId}{xs ys:List V}{H:A4}{K:V→A4→Prop}(h:J1 P f ys H K)(k:L5 xs ys):J1 P f xs H K:=
 fun g w vals hR hA=>h g w vals hR (hA.le k)
def CR.args {P:Program}{fv:V}{xs ys:List V}{H:A4}{K:V→A4→Prop}(h:CR P fv ys H K)(k:L5 xs ys):CR P fv xs H K:=
 fun g w v vals hR hv hA=>h g w v vals hR hv (hA.le k)
def C7.args {P:Program}{f:FuncId}{xs ys:List V}{r:V}(h:C7 P f ys r)(k:L5 xs ys):C7 P f xs r:=fun H=>(h H).args k
def X9.args {P:Program}{fv:V}{xs ys:List V}{r:V}(h:X9 P fv ys r)(k:L5 xs ys):X9 P fv xs r:=fun H=>(h H).args k
def Ei (H H':A4):Prop:=∀id b,H id=some b→H' id=some b
theorem Ei.refl (H:A4):Ei H H:=fun _ _ h=>h
def Ei.trans {H H' H'':A4}(h:Ei H H')(k:Ei H' H''):Ei H H'':=fun id b e=>k id b (h id b e)
theorem J1.le {P:Program}{f:FuncId}{args:List V}{H:A4}{K:V→A4→Prop}(h:J1 P f args H fun x H'=>∃y H2,BV x y∧Ei H2 H'∧K y H2):J1 P f args H K:=
 fun g w vals hR hA=>(h g w vals hR hA).mono fun v w' ⟨g',x,H',s,hR',hv,y,H2,hxy,hH,hK⟩=>⟨g',y,H2,s,hR'.less hH,hv.le hxy,hK⟩
inductive En where
 |tl (t:D2)
 |blk (id:Nat) (b:Dh)
def En.id:En→Option (Nat×Dh)
 | .tl (.tok t)=>some (t,.spare)
 | .tl _=>none
 | .blk id b=>some (id,b)
structure AU (H0:A4) (L:List En) (H:A4):Prop where
 ext:Ei H0 H
 has:∀(i:Nat) e id b,L[i]? =some e→e.id=some (id,b)→H0 id=none∧H id=some b
 inj:∀(i j:Nat) e e' id b b',L[i]? =some e→L[j]? =some e'→e.id=some (id,b)→e'.id=some (id,b')→i=j
 only:∀x b,H x=some b→H0 x=some b∨∃(i:Nat) (e:En),L[i]? =some e∧e.id=some (x,b)
def AU.start (H:A4):AU H [] H:=⟨Ei.refl H,fun i e id b h=>by simp at h,fun i j e e' id b b' h=>by simp at h,fun x b h=>.inl h⟩
def AU.free {H0 H:A4}{L:List En}(h:AU H0 L H){id:Nat}(hn:H id=none):H0 id=none:=by
 cases e:H0 id with
 |none=>rfl
 |some b=>rw[h.ext id b e]at hn;cases hn
theorem AU.tl0 {H0 H:A4} {L:List En} (h:AU H0 L H) {t:D2} (ht:(En.tl t).id=none):AU H0 (.tl t::L) H:=by
 refine⟨h.ext,fun i e id b hi he=>?_,fun i j e e' id b b' hi hj he he'=>?_,fun x b hx=>(h.only x b hx).imp (fun h=>h) fun⟨i,e,h1,h2⟩=>⟨i+1,e,by grind,h2⟩⟩
 ·cases i with
  |zero=>simp_all
  |succ i=>exact h.has i e id b (by grind) he
 cases i with
 |zero=>simp_all
 |succ i=>
  cases j with
  |zero=>simp_all
  |succ j=>rw[h.inj i j e e' id b b' (by grind) (by grind) he he']
def AU.push {H0 H:A4} {L:List En} (h:AU H0 L H) {en:En} {id:Nat} {b:Dh} (hn:H id=none) (he:en.id=some (id,b)):AU H0 (en::L) (upd H id (some b)):=by
 refine⟨fun x bb hx=>?_,fun i e x bb hi hx=>?_,fun i j e e' x bb bb' hi hj hx hx'=>?_,fun x bb hx=>?_⟩
 rotate_right
 ·by_cases hxi:x=id
  ·subst hxi;rw[D6]at hx;cases hx;exact .inr ⟨0,en,by simp,he⟩
  rw[C3 _ _ hxi]at hx
  exact(h.only x bb hx).imp (fun h=>h) fun⟨i,e,h1,h2⟩=>⟨i+1,e,by grind,h2⟩
 ·rw[C3 _ _ (Ap (h.free hn) hx)];exact h.ext x bb hx
 ·cases i with
  |zero=>simp at hi;subst hi;rw[he]at hx;cases hx;exact⟨h.free hn,D6 _ _ _⟩
  |succ i=>
   have:=h.has i e x bb (by grind) hx
   grind[upd]
 cases i with
 | zero=>
  cases j with
  |zero=>rfl
  |succ j=>
   simp at hi;subst hi;rw[he]at hx;cases hx
   have:=(h.has j e' _ bb' (by grind) hx').2
   rw[hn]at this;cases this
 | succ i=>
  cases j with
  |zero=>
   simp at hj;subst hj;rw[he]at hx';cases hx'
   have:=(h.has i e _ bb (by grind) hx).2
   rw[hn]at this;cases this
  |succ j=>rw[h.inj i j e e' x bb bb' (by grind) (by grind) hx hx']
def AU.get {H0 H:A4}{L:List En}(h:AU H0 L H)(i:Nat){id:Nat}{b:Dh}(hi:L[i]? =some (.blk id b)):H id=some b:=(h.has i _ id b hi rfl).2
def AU.set {H0 H:A4} {L:List En} (h:AU H0 L H) (i:Nat) {id:Nat} {b b':Dh} (hi:L[i]? =some (.blk id b)):AU H0 (L.set i (.blk id b')) (upd H id (some b')):=by
 have hid:=h.has i _ id b hi rfl
 have hlt:i<L.length:=by
  grind
 have Lh:∀(j:Nat) e,(L.set i (.blk id b'))[j]? =some e→(j=i∧e= .blk id b')∨(j≠i∧L[j]? =some e):=fun j e hj=>by
  rw[O0]at hj
  grind
 refine⟨fun x bb hx=>?_,fun j e x bb hj hx=>?_,fun j k e e' x bb bb' hj hk hx hx'=>?_,fun x bb hx=>?_⟩
 rotate_right
 ·by_cases hxi:x=id
  ·grind[En.id,upd]
  rw[C3 _ _ hxi]at hx
  refine(h.only x bb hx).imp (fun h=>h) fun⟨j,e,h1,h2⟩=>⟨j,e,?_,h2⟩;rw[O0]
  grind[En.id]
 ·rw[C3 _ _ (Ap hid.1 hx)];exact h.ext x bb hx
 ·rcases Lh j e hj with⟨_,rfl⟩|⟨hne,hj'⟩
  ·grind[upd,En.id]
  have:=h.has j e x bb hj' hx
  have hxid:x≠id:=fun eq=>by subst eq;exact hne (h.inj j i e _ x bb b hj' hi hx rfl)
  simp_all[upd]
 rcases Lh j e hj with⟨hji,rfl⟩|⟨hne,hj'⟩<;>rcases Lh k e' hk with⟨hki,rfl⟩|⟨hne',hk'⟩
 ·rw[hji,hki]
 ·cases hx;exact absurd (h.inj k i e' _ id bb' b hk' hi hx' rfl) hne'
 ·cases hx';exact absurd (h.inj j i e _ id bb b hj' hi hx rfl) hne
 exact h.inj j k e e' x bb bb' hj' hk' hx hx'
theorem AU.tok {H0 H:A4} {L:List En} (h:AU H0 L H) (i:Nat) {tl:D2} (hi:L[i]? =some (.tl tl)) {t:Nat} (ht:G0 H tl t=none):
 AU H0 (L.set i (.tl (.tok t))) (upd (G0 H tl) t (some .spare)):=by
 have hlt:i<L.length:=by
  grind
 have Lh:∀(j:Nat) e,(L.set i (.tl (.tok t)))[j]? =some e→(j=i∧e= .tl (.tok t))∨(j≠i∧L[j]? =some e):=fun j e hj=>by
  rw[O0]at hj
  grind
 have left:∀x b,H x=some b→(∀t',tl= .tok t'→x≠t')→G0 H tl x=some b:=fun x b hx hne=>by
  cases tl with
  |tok t'=>simp_all[G0,C3]
  |_=>exact hx
 have h0:∀x b,H0 x=some b→G0 H tl x=some b:=fun x b hx=>left x b (h.ext x b hx) fun t' e eq=>by
  subst e;subst eq
  rw[(h.has i _ x _ hi rfl).1]at hx;cases hx
 have hoth:∀(j:Nat) e x b,j≠i→L[j]? =some e→e.id=some (x,b)→H0 x=none∧G0 H tl x=some b:=fun j e x b hne hj hx=>by
  have:=h.has j e x b hj hx;refine⟨this.1,left x b this.2 fun t' et eq=>?_⟩;subst et;subst eq;exact hne (h.inj j i e _ x b _ hj hi hx rfl)
 have hid0:H0 t=none:=by
  cases e:H0 t with
  |none=>rfl
  |some b=>rw[h0 t b e]at ht;cases ht
 refine⟨fun x bb hx=>?_,fun j e x bb hj hx=>?_,fun j k e e' x bb bb' hj hk hx hx'=>?_,fun x bb hx=>?_⟩
 rotate_right
 ·by_cases hxi:x=t
  ·grind[En.id,upd]
  rw[C3 _ _ hxi]at hx
  have hx2:H x=some bb∧∀t',tl= .tok t'→x≠t':=by
   cases tl with
   |tok t'=>
    simp_all[G0,upd]
   |_=>exact⟨hx,fun t'' e'=>by cases e'⟩
  refine(h.only x bb hx2.1).imp (fun h=>h) fun⟨j,e,h1,h2⟩=>⟨j,e,?_,h2⟩;rw[O0]
  split
  ·rename_i hij;subst hij;rw[hi]at h1;cases h1
   cases tl with
   |tok t'=>cases h2;simp_all
   |_=>cases h2
  exact h1
 ·rw[C3 _ _ (Ap hid0 hx)];simp_all
 ·grind[upd,En.id]
 rcases Lh j e hj with⟨hji,rfl⟩|⟨hne,hj'⟩<;>rcases Lh k e' hk with⟨hki,rfl⟩|⟨hne',hk'⟩
 ·rw[hji,hki]
 ·grind[En.id]
 ·grind[En.id]
 exact h.inj j k e e' x bb bb' hj' hk' hx hx'
def AU.del {H0 H:A4} {L:List En} (h:AU H0 L H) (i:Nat) {id:Nat} {b:Dh} (hi:L[i]? =some (.blk id b)):AU H0 (L.eraseIdx i) (upd H id none):=by
 have hid:=h.has i _ id b hi rfl
 have Lh:∀(j:Nat) e,(L.eraseIdx i)[j]? =some e→∃j',j'≠i∧L[j']? =some e∧(j'=if j<i then j else j+1):=fun j e hj=>by
  rw[GK]at hj
  grind
 refine⟨fun x bb hx=>?_,fun j e x bb hj hx=>?_,fun j k e e' x bb bb' hj hk hx hx'=>?_,fun x bb hx=>?_⟩
 rotate_right
 ·by_cases hxi:x=id
  ·simp_all[upd]
  rw[C3 _ _ hxi]at hx
  refine(h.only x bb hx).imp (fun h=>h) fun⟨j,e,h1,h2⟩=>?_
  have hji:j≠i:=fun eq=>by grind[En.id]
  rcases G6 j i with hlt|hge
  ·exact⟨j,e,by rw[GK,A1 hlt];exact h1,h2⟩
  exact⟨j-1,e,by rw[GK,A3 (by omega),show j-1+1=j by omega];exact h1,h2⟩
 ·rw[C3 _ _ (Ap hid.1 hx)];exact h.ext x bb hx
 ·obtain⟨j',hne,hj',_⟩:=Lh j e hj;have:=h.has j' e x bb hj' hx
  have hxid:x≠id:=fun eq=>by subst eq;exact hne (h.inj j' i e _ x bb b hj' hi hx rfl)
  simp_all[upd]
 obtain⟨j',hne,hj',ej⟩:=Lh j e hj;obtain⟨k',hne',hk',ek⟩:=Lh k e' hk;have:=h.inj j' k' e e' x bb bb' hj' hk' hx hx'
 rw[ej,ek]at this
 split at this<;>split at this<;>omega
def LW (H:A4)(e:En):A4:=
 match e.id with
 |some (id,_)=>upd H id none
 |none=>H
def AU.tail {H0 H:A4} {L:List En} {e:En} (h:AU H0 (e::L) H):AU H0 L (LW H e):=by
 have inj0:∀(j:Nat) e' x b b',L[j]? =some e'→e'.id=some (x,b)→e.id=some (x,b')→False:=fun j e' x b b' hj hx hx'=>by
  have:=h.inj (j+1) 0 e' e x b b' (by grind) (by simp) hx hx';omega
 cases he:e.id with
 |none=>
  have ed:LW H e=H:=by simp_all[LW]
  rw[ed];refine⟨h.ext,fun i e id b hi=>h.has (i+1) e id b (by grind),fun i j e e' id b b' hi hj he he'=>?_,fun x b hx=>(h.only x b hx).imp (fun h=>h) fun⟨i,e',h1,h2⟩=>?_⟩
  ·have:=h.inj (i+1) (j+1) e e' id b b' (by grind) (by grind) he he';omega
  grind
 | some p=>
  obtain⟨id,b0⟩:=p
  have ed:LW H e=upd H id none:=by grind[LW]
  rw[ed];have hid:=h.has 0 e id b0 (by simp) he;refine⟨fun x b hx=>?_,fun i e' x b hi hx=>?_,fun i j e e' id b b' hi hj he he'=>?_,fun x b hx=>?_⟩
  ·rw[C3 _ _ (Ap hid.1 hx)];exact h.ext x b hx
  ·have:=h.has (i+1) e' x b (by grind) hx
   have hne:x≠id:=fun eq=>by grind
   simp_all[upd]
  ·have:=h.inj (i+1) (j+1) e e' id b b' (by grind) (by grind) he he';omega
  by_cases hxi:x=id
  ·simp_all[upd]
  rw[C3 _ _ hxi]at hx
  refine(h.only x b hx).imp (fun h=>h) fun⟨i,e',h1,h2⟩=>?_
  grind
theorem Ei.upd {H H':A4}(h:Ei H H')(id:Nat)(b:Option Dh):Ei (upd H id b) (upd H' id b):=fun x bb hx=>by
 by_cases e:x=id
 ·grind[D6]
 rw[C3 _ _ e]at hx ⊢;exact h x bb hx
def Ei.less {H H':A4}(h:Ei H H')(id:Nat):Ei (Go.Ab.upd H id none) H':=fun x bb hx=>by
 by_cases e:x=id
 ·grind[D6]
 rw[C3 _ _ e]at hx;exact h x bb hx
def Ei.none {H H':A4}(h:Ei H H'){id:Nat}(hn:H' id=none):H id=none:=by
 cases e:H id with
 |none=>rfl
 |some b=>rw[h id b e]at hn;cases hn
def C5:D9 (Eq:A4→A4→Prop):=⟨fun h id b hb=>h▸hb,fun id b h _=>by subst h;rfl⟩
def B6 (Φ:A4→A4→Prop)(F:A4)(L:List En)(H:A4):Prop:=D9 Φ∧∃F' H1,AU F L F'∧Φ F' H1∧Ei H1 H
section
variable {Φ:A4→A4→Prop}{F H:A4}{L:List En}
def B6.start (hs:D9 Φ)(h:Φ F H):B6 Φ F [] H:=⟨hs,F,H,AU.start F,h,Ei.refl H⟩
def B6.ext (h:B6 Φ F L H):Ei F H:=by
 obtain⟨hs,F',H1,h0,h1,h2⟩:=h;exact h0.ext.trans fun id b hb=>h2 _ _ (hs.le h1 id b hb)
theorem B6.tl0 (h:B6 Φ F L H){t:D2}(ht:(En.tl t).id=none):B6 Φ F (.tl t::L) H:=by
 obtain⟨hs,F',H1,h0,h1,h2⟩:=h;exact⟨hs,F',H1,h0.tl0 ht,h1,h2⟩
def B6.push (h:B6 Φ F L H){en:En}{id:Nat}{b:Dh}(hn:H id=none)(he:en.id=some (id,b)):B6 Φ F (en::L) (upd H id (some b)):=by
 obtain⟨hs,F',H1,h0,h1,h2⟩:=h;have hn1:=h2.none hn;have hn':=hs.fresh h1 hn1;exact⟨hs,_,_,h0.push hn' he,hs.chg id (some b) h1 (by rw[hn1,hn']),h2.upd id _⟩
def B6.get (h:B6 Φ F L H)(i:Nat){id:Nat}{b:Dh}(hi:L[i]? =some (.blk id b)):H id=some b:=by
 obtain⟨hs,F',H1,h0,h1,h2⟩:=h;exact h2 _ _ (hs.le h1 _ _ (h0.get i hi))
def B6.set (h:B6 Φ F L H)(i:Nat){id:Nat}{b b':Dh}(hi:L[i]? =some (.blk id b)):B6 Φ F (L.set i (.blk id b')) (upd H id (some b')):=by
 obtain⟨hs,F',H1,h0,h1,h2⟩:=h;have e:=h0.get i hi;exact⟨hs,_,_,h0.set i hi,hs.chg id _ h1 (by rw[e,hs.le h1 _ _ e]),h2.upd id _⟩
def B6.del (h:B6 Φ F L H)(i:Nat){id:Nat}{b:Dh}(hi:L[i]? =some (.blk id b)):B6 Φ F (L.eraseIdx i) (upd H id none):=by
 obtain⟨hs,F',H1,h0,h1,h2⟩:=h;have e:=h0.get i hi;exact⟨hs,_,_,h0.del i hi,hs.chg id _ h1 (by rw[e,hs.le h1 _ _ e]),h2.upd id _⟩
def B6.tail {e:En} (h:B6 Φ F (e::L) H):B6 Φ F L H:=by
 obtain⟨hs,F',H1,h0,h1,h2⟩:=h
 cases he:e.id with
 |none=>
  have:=h0.tail
  grind[B6,LW]
 |some p=>
  obtain⟨id,b⟩:=p;have h3:=h0.tail
  simp only[LW,he]at h3
  have e1:=(h0.has 0 e id b (by simp) he).2;exact⟨hs,_,_,h3,hs.chg id none h1 (by rw[e1,hs.le h1 _ _ e1]),h2.less id⟩
theorem B6.tok (h:B6 Φ F L H) (i:Nat) {tl:D2} (hi:L[i]? =some (.tl tl)) {t:Nat} (ht:G0 H tl t=none):B6 Φ F (L.set i (.tl (.tok t))) (upd (G0 H tl) t (some .spare)):=by
 obtain⟨hs,F',H1,h0,h1,h2⟩:=h
 have h3:Φ (G0 F' tl) (G0 H1 tl):=by
  cases tl with
  |tok t'=>
   have e:=(h0.has i _ t' _ hi rfl).2;exact hs.chg t' none h1 (by rw[e,hs.le h1 _ _ e])
  |_=>exact h1
 have h4:Ei (G0 H1 tl) (G0 H tl):=by
  cases tl with
  |tok t'=>exact h2.upd t' none
  |_=>exact h2
 have ht1:=h4.none ht;have ht':=hs.fresh h3 ht1;exact⟨hs,_,_,h0.tok i hi ht',hs.chg t _ h3 (by rw[ht1,ht']),h4.upd t _⟩
def B6.stable (hs:D9 Φ) (L:List En):D9 fun F H=>B6 Φ F L H:=by
 refine⟨fun h id b hb=>h.ext id b hb,fun{F H} id b h e=>?_⟩;obtain⟨hs,F',H1,h0,h1,h2⟩:=h
 have hne:∀(i:Nat) en x bb,L[i]? =some en→en.id=some (x,bb)→x≠id:=fun i en x bb hi he eq=>by
  subst eq;have h3:=h0.has i en x bb hi he;have h4:=h2 _ _ (hs.le h1 _ _ h3.2)
  rw[e,h3.1]at h4;cases h4
 have hF':F' id=F id:=by
  cases hf:F id with
  |some x=>exact h0.ext id x hf
  | none=>
   cases hf':F' id with
   |none=>rfl
   |some x=>
    rcases h0.only id x hf' with h|⟨i,en,hi,he⟩
    ·rw[hf]at h;cases h
    grind
 have hH1:H1 id=F id:=by
  cases hf:F id with
  |some x=>rw[←hF']at hf;exact hs.le h1 id x hf
  |none=>rw[hf]at e;exact h2.none e
 refine⟨hs,upd F' id b,upd H1 id b,⟨fun x bb hx=>?_,fun i en x bb hi he=>?_,h0.inj,fun x bb hx=>?_⟩,hs.chg id b h1 (by rw[hF',hH1]),h2.upd id b⟩
 ·by_cases hxi:x=id
  ·simp_all[upd]
  rw[C3 _ _ hxi]at hx ⊢;exact h0.ext x bb hx
 ·have:=h0.has i en x bb hi he;have hxi:=hne i en x bb hi he;rw[C3 _ _ hxi,C3 _ _ hxi];exact this
 by_cases hxi:x=id
 ·simp_all[upd]
 rw[C3 _ _ hxi]at hx ⊢;exact h0.only x bb hx
def B6.out:∀{L:List En},B6 Φ F L H→∃H1,Φ F H1∧Ei H1 H
 | [],h=>by
  obtain⟨hs,F',H1,h0,h1,h2⟩:=h
  have:F'=F:=by
   funext x
   cases hf:F' x with
   |some b=>
    rcases h0.only x b hf with h|⟨i,e,hi,_⟩
    ·exact h.symm
    grind
   |none=>exact(h0.free hf).symm
  grind
 |_::L,h=>B6.out (L:=L) h.tail
end
def D9.ex {ι:Type}{p:ι→Prop}{I:ι→A4→A4→Prop}(h:∀i,D9 (I i)):D9 fun F H=>∃i,p i∧I i F H:=
 ⟨fun⟨i,_,hi⟩=>(h i).le hi,fun id b ⟨i,hp,hi⟩ e=>⟨i,hp,(h i).chg id b hi e⟩⟩
def D9.con {p:Prop}{I:A4→A4→Prop}(h:D9 I):D9 fun F H=>p∧I F H:=
 ⟨fun⟨_,hi⟩=>h.le hi,fun id b ⟨hp,hi⟩ e=>⟨hp,h.chg id b hi e⟩⟩
def G3:D2→Prop
 | .ro=>False
 |_=>True
def B6.appOk {Φ:A4→A4→Prop}{F H:A4}{L:List En}(h:B6 Φ F L H)(i:Nat){tl:D2}(hi:L[i]? =some (.tl tl))(ha:G3 tl):EN H tl:=by
 obtain⟨hs,F',H1,h0,h1,h2⟩:=h
 cases tl with
 |tok t=>exact h2 _ _ (hs.le h1 _ _ (h0.has i _ t _ hi rfl).2)
 |nil=>trivial
 |full=>trivial
 |ro=>exact ha
end Go.Ab
namespace Go.Ab
def C6 {α:Type}(l:List α)(i:Int):Option α:=if 0≤i then l[i.toNat]? else none
def S8 {α:Type} (l:List α) (lo hi mx:Option Int):Option (List α):=
 if 0≤lo.getD 0∧lo.getD 0≤hi.getD l.length∧hi.getD l.length≤mx.getD l.length∧mx.getD l.length≤l.length∧(mx.isSome=true→hi.isSome=true)then
  some ((l.drop (lo.getD 0).toNat).take ((hi.getD l.length).toNat-(lo.getD 0).toNat))
 else none
def I1 {α:Type}(l m:List α):Option (List α):=if l.length+m.length≤1073741824 then some (l++m)else none
def X1 (b:Bool):Option Unit:=if b=true then some ()else none
def loopN {σ R:Type} (step:σ→Option (σ⊕R)):Nat→σ→Option R
 |0,_=>none
 |n+1,s=>
  match step s with
  |none=>none
  |some (.inl s')=>loopN step n s'
  |some (.inr r)=>some r
def J2 {α σ R:Type} (step:σ→α→Option (σ⊕R)):List α→σ→Option (σ⊕R)
 |[],s=>some (.inl s)
 |x::l,s=>
  match step s x with
  |none=>none
  |some (.inl s')=>J2 step l s'
  |some (.inr r)=>some (.inr r)
def CG {β σ R:Type} (step:σ→Option (List β×(σ⊕R))):Nat→σ→Option (List β×R)
 |0,_=>none
 | n+1,s=>
  match step s with
  |none=>none
  | some (w,.inl s')=>
   (match CG step n s' with
    |none=>none
    |some (w',r)=>some (w++w',r))
  |some (w,.inr r)=>some (w,r)
def Dc {α β σ R:Type} (step:σ→α→Option (List β×(σ⊕R))):List α→σ→Option (List β×(σ⊕R))
 |[],s=>some ([],.inl s)
 | x::l,s=>
  match step s x with
  |none=>none
  | some (w,.inl s')=>
   (match Dc step l s' with
    |none=>none
    |some (w',o)=>some (w++w',o))
  |some (w,.inr r)=>some (w,.inr r)
def W6 {β σ τ:Type}(m:Option (List β×σ))(f:σ→Option (List β×τ)):Option (List β×τ):=
 m.bind fun q=>(f q.2).bind fun p=>some (q.1++p.1,p.2)
def R7 {β σ τ:Type} {m:Option (List β×σ)} {f:σ→Option (List β×τ)} {w:List β} {o:τ} (h:W6 m f=some (w,o)):∃w1 w2 x,m=some (w1,x)∧f x=some (w2,o)∧w=w1++w2:=by
 unfold W6 at h
 cases m with
 |none=>cases h
 | some p=>
  simp only[A5]at h
  cases hf:f p.2 with
  |none=>rw[hf]at h;cases h
  |some t=>
   rw[hf]at h
   grind
def Y0 {β σ τ:Type}{a:List β}{x:σ}{f:σ→Option (List β×τ)}{w:List β}{o:τ}(h:W6 (some (a,x)) f=some (w,o)):∃w2,f x=some (w2,o)∧w=a++w2:=by
 obtain⟨w1,w2,y,h1,h2,h3⟩:=R7 h
 simp_all
def F9 {α β:Type}{a c:α}{b d:β}(h:some (a,b)=some (c,d)):a=c∧b=d:=by simp_all
def bind_some {α β:Type}{m:Option α}{F:α→Option β}{r:β}(h:m.bind F=some r):∃x,m=some x∧F x=some r:=by
 cases m with
 |none=>cases h
 |some x=>simp_all
def I9 {α:Type}{a b:α}(h:some a=some b):a=b:=Ck h
end Go.Ab
namespace Go.Ab
open Go.RowKit
variable [L6][Ar]
def Gp (l:Fl):Fl→Prop
 |[]=>True
 |(k,s)::r=>BV (Cj l k) s.V∧(∀j w x,s≠ .g j w x)∧Gp l r
def Gp.wk {l:Fl}:∀{r:Fl},Gp l r→∀t,Wk (Cj l t) (Cj r t)
 |[],_,t=>Wk.bad _
 | (k,s)::r,h,t=>by
  simp only[Cj]
  cases hb:Nat.beq t k with
  |true=>
   have:=Bw hb;subst this
   cases s with
   |v x=>exact h.1.wk
   |b c=>exact h.1.wk
   |g j w x=>exact absurd rfl (h.2.1 j w x)
  |false=>exact Gp.wk h.2.2 t
def Gp.v {l r:Fl}{k:Nat}{x:V}(h:BV (Cj l k) x)(hr:Gp l r):Gp l ((k,.v x)::r):=⟨h,fun _ _ _ h=>(by cases h),hr⟩
def Gp.b {l r:Fl}{k:Nat}{c:Bool}(h:Cj l k= .bool c)(hr:Gp l r):Gp l ((k,.b c)::r):=⟨h▸ .refl _,fun _ _ _ h=>(by cases h),hr⟩
def Gp.e {l r:Fl}{k:Nat}{x:V}(h:Cj l k=x)(hr:Gp l r):Gp l ((k,.v x)::r):=⟨h▸ .refl _,fun _ _ _ h=>(by cases h),hr⟩
def Gp.z {l:Fl}:Gp l []:=trivial
def Wk.trans {x y z:V}(h:Wk x y)(k:Wk y z):Wk x z:=fun g w v hv=>k g w v (h g w v hv)
theorem Dn.le {fr:Fr}{l l':Fl}{df:List Nat}(h:Dn fr ⟨l,df⟩)(k:Gp l l'):Dn fr ⟨l',df⟩:=⟨fun t=>(h.s t).trans (k.wk t),h.df⟩
def B4 {α:Type}{f:α→V}:([]:List V)=lst f []:=by rw[lst_eq];rfl
def E3 {α:Type}{f:α→V}{v:V}{vs:List V}{x:α}{l:List α}(h:v=f x)(k:vs=lst f l):v::vs=lst f (x::l):=by
 rw[h,k,lst_eq,lst_eq];rfl
theorem KZ {α:Type}{f:α→V}(l m:List α):lst f l++lst f m=lst f (l++m):=by simp[lst_eq]
def M2 {α:Type}{f:α→V}(l:List α):(lst f l).length=l.length:=by simp[lst_eq]
def II {α:Type}{f:α→V}{sz:Nat}(h:∀x,(f x).cells.length=sz)(l:List α):(lst f l).all (fun x=>x.cells.length==sz)=true:=by
 rw[lst_eq];simp[h]
def L5.lst0 {α:Type}{f:α→V}:L5 [] (lst f []):=by rw[←B4];exact .nil
def L5.lstc {α:Type}{f:α→V}{v:V}{vs:List V}{x:α}{l:List α}(h:BV v (f x))(k:L5 vs (lst f l)):L5 (v::vs) (lst f (x::l)):=by
 rw[←E3 rfl rfl];exact .cons h k
def BV.eq {v x y:V}(h:y=x)(k:BV v x):BV v y:=h▸k
def BV.lit {xs ys:List V}(t:D2)(h:xs=ys):BV (.sl xs t) (.sl ys .ro):=h▸ .ro _ _
section
variable {P:Program}{nt:Nat}{rd:Option Nat}{T:FY}{E:Eg}
variable (hE:E=H5 P nt rd)
include hE
theorem B0 {R:Type}{c:Bool}{x y:Unit→Prop}{a b:Option R}{r:R}(h:(if c=true then a else b)=some r)(h1:c=true→a=some r→x ())(h2:c=false→b=some r→y ()):E.br c x y:=by
 grind[H5]
theorem Og {c:Bool}{x y:Unit→Prop}(h1:c=true→x ())(h2:c=false→y ()):E.br c x y:=by simp_all[H5]
theorem Gd {p:Prop}{k:Unit→Prop}(h:p)(hk:k ()):E.need p k:=by simp_all[H5]
theorem Mu {R:Type}{b:Bool}{k:Unit→Prop}{F:Unit→Option R}{r:R}(h:(X1 b).bind F=some r)(hk:F ()=some r→k ()):E.needB b k:=by
 grind[H5,X1]
theorem KV {b:Bool}{k:Unit→Prop}(hb:b=true)(hk:k ()):E.needB b k:=by simp_all[H5]
theorem Ir {op:BinOp}{a b:Int}(h:Fg op a b=true):Ar.cmp op a b=true:=by rw[Ar.cmp_eq];exact h
theorem E9 {α:Type}{f:α→V}{l:List α}{k:Int→Prop}(h:k (Ar.len l)):E.ln (lst f l) k:=by
 subst hE
 show k _
 rw[M2,←len_eq];exact h
theorem Ad7 {xs:List V}{k:Int→Prop}{n:Int}(hn:(xs.length:Int)=n)(h:k n):E.ln xs k:=by
 simp_all[H5]
theorem D0 {α R:Type} {f g:α→V} (hf:∀x,f x=g x) {l:List α} {i:Int} {k:V→Prop} {F:α→Option R} {r:R} (h:(C6 l i).bind F=some r) (hk:∀x,F x=some r→k (g x)):E.idx (lst f l) i k:=by
 subst hE;obtain⟨x,h1,h2⟩:=bind_some h
 unfold C6 at h1
 split at h1
 ·rename_i h0
  have hlt:i.toNat<l.length:=by
   grind
  refine⟨⟨h0,by rw[M2];omega⟩,?_⟩;rw[lst_eq,GM,V8,h1]
  simp_all
 cases h1
theorem SG {α R:Type} {f:α→V} {sz:Nat} (hsz:∀x,(f x).cells.length=sz) {l:List α} {tl:D2} {lo hi mx:Option Int} {k:V→Prop} {F:List α→Option R} {r:R} (h:(S8 l lo hi mx).bind F=some r)
 (hk:∀x t,F x=some r→k (.sl (lst f x) t)):E.slice sz (lst f l) tl lo hi mx k:=by
 subst hE;obtain⟨x,h1,h2⟩:=bind_some h
 unfold S8 at h1
 split at h1
 ·rename_i hc;obtain⟨c1,c2,c3,c4,c5⟩:=hc;cases h1;refine⟨?_,?_⟩
  ·rw[M2]
   simp_all[II]
  rw[M2,lst_eq,←Jn,←Jm];have:=hk _ (Fy (lo.getD 0).toNat (hi.getD l.length).toNat l.length mx tl) h2
  rwa[lst_eq]at this
 cases h1
theorem Ad1 {α R:Type} {f:α→V} {sz:Nat} (hsz:∀x,(f x).cells.length=sz) {l:List α} {tl:D2} {lo:Option Int} {k:V→Prop} {F:List α→Option R} {r:R} (h:(S8 l lo none none).bind F=some r)
 (hk:∀x t,(t=tl∨t= .ro∧x=[])→F x=some r→k (.sl (lst f x) t)):E.slice sz (lst f l) tl lo none none k:=by
 subst hE;obtain⟨x,h1,h2⟩:=bind_some h
 unfold S8 at h1
 split at h1
 ·rename_i hc;obtain⟨c1,c2,c3,c4,c5⟩:=hc;cases h1;refine⟨?_,?_⟩
  ·rw[M2]
   simp_all[II]
  rw[M2,lst_eq,←Jn,←Jm];have:=hk _ (Fy (lo.getD 0).toNat ((none:Option Int).getD l.length).toNat l.length none tl) ?_ h2
  ·rwa[lst_eq]at this
  simp only[Cm]at c2 ⊢
  simp only[Fy,K0,D1]
  grind
 cases h1
theorem A9 {R S:Type}{m:Option S}{F:S→Option R}{r:R}{f:FuncId}{args args':List V}{g:S→V}{H:A4}{k:V→A4→Prop}(h:m.bind F=some r)(hc:∀x,m=some x→C7 P f args' (g x))(hl:L5 args args')
 (hk:∀x,F x=some r→k (g x) H):E.call (.func (.func f) [] []) args H k:=by
 subst hE;obtain⟨x,h1,h2⟩:=bind_some h
 exact X9.at (C7.value (F:=[]) (C:=[]) (by simpa using(hc x h1).args hl)) (hk x h2)
theorem M9 {R S:Type}{m:Option S}{F:S→Option R}{r:R}{f:FuncId}{args args':List V}{g:S→V}{H:A4}{k:V→Prop}(h:m.bind F=some r)(hc:∀x,m=some x→C7 P f args' (g x))(hl:L5 args args')
 (hk:∀x,F x=some r→k (g x)):E.pcall H (.func (.func f) [] []) args k:=by
 subst hE;obtain⟨x,h1,h2⟩:=bind_some h;exact⟨g x,(C7.value (F:=[]) (C:=[]) (by simpa using(hc x h1).args hl)).toH H,hk x h2⟩
theorem Du {R S:Type}{m:Option S}{F:S→Option R}{r:R}{fv:V}{args args':List V}{g:S→V}{H:A4}{k:V→A4→Prop}(h:m.bind F=some r)(hc:∀x,m=some x→X9 P fv args' (g x))(hl:L5 args args')
 (hk:∀x,F x=some r→k (g x) H):E.call fv args H k:=by
 subst hE;obtain⟨x,h1,h2⟩:=bind_some h
 exact X9.at ((hc x h1).args hl) (hk x h2)
theorem Ad3 {R S:Type}{m:Option S}{F:S→Option R}{r:R}{fv:V}{args args':List V}{g:S→V}{H:A4}{k:V→Prop}(h:m.bind F=some r)(hc:∀x,m=some x→X9 P fv args' (g x))(hl:L5 args args')
 (hk:∀x,F x=some r→k (g x)):E.pcall H fv args k:=by
 subst hE;obtain⟨x,h1,h2⟩:=bind_some h;exact⟨g x,((hc x h1).args hl).toH H,hk x h2⟩
theorem A8 {Φ:A4→A4→Prop}{H0 H:A4}{L:List En}(hO:B6 Φ H0 L H)(i:Nat){id:Nat}{cs:List V}{k:List V→Prop}(hi:L[i]? =some (.blk id (.cells cs)))(hk:k cs):E.load H id k:=by
 subst hE;exact⟨cs,hO.get i hi,hk⟩
theorem A7 {Φ:A4→A4→Prop}{H0 H:A4}{L:List En}(hO:B6 Φ H0 L H)(i:Nat){id off sz:Nat}{cs vs:List V}{k:A4→Prop}(hi:L[i]? =some (.blk id (.cells cs)))(hb:Nat.ble (off+sz) cs.length=true)
 (hk:∀H',B6 Φ H0 (L.set i (.blk id (.cells (T5 cs off vs)))) H'→k H'):E.store H id off sz vs k:=by
 subst hE;exact⟨cs,vs,.refl _,hO.get i hi,hb,hk _ (hO.set i hi)⟩
theorem Ad0 {Φ:A4→A4→Prop}{H0 H:A4}{L:List En}(hO:B6 Φ H0 L H)(i:Nat){id off sz:Nat}{cs vs:List V}{k:A4→Prop}(hi:L[i]? =some (.blk id (.cells cs)))(hb:Nat.ble (off+sz) cs.length=true)
 (hk:∀H',B6 Φ H0 (L.set i (.blk id (.cells (T5 cs off vs)))) H'→k H'):E.storeP H id off sz vs k:=by
 subst hE;exact⟨cs,hO.get i hi,hb,hk _ (hO.set i hi)⟩
theorem D8 {Φ:A4→A4→Prop}{H0 H:A4}{L:List En}(hO:B6 Φ H0 L H){cs:List V}{k:Nat→A4→Prop}(hk:∀id H',B6 Φ H0 (.blk id (.cells cs)::L) H'→k id H'):E.alloc H cs k:=by
 subst hE;exact fun id hid=>hk id _ (hO.push hid rfl)
theorem Ad8 {Φ:A4→A4→Prop}{H0 H:A4}{L:List En}(hO:B6 Φ H0 L H)(i:Nat){id:Nat}{cs:List V}{k:List V→A4→Prop}(hi:L[i]? =some (.blk id (.cells cs)))(hk:∀H',B6 Φ H0 (L.eraseIdx i) H'→k cs H'):E.frzL H id k:=by
 subst hE;exact⟨cs,cs,hO.get i hi,.refl _,hk _ (hO.del i hi)⟩
theorem SF {Φ:A4→A4→Prop}{H0 H:A4}{L:List En}(hO:B6 Φ H0 L H)(i:Nat){id:Nat}{cs:List V}{k:List V→A4→Prop}(hi:L[i]? =some (.blk id (.cells cs)))
 (hk:∀H',H'=upd H id none→B6 Φ H0 (L.eraseIdx i) H'→k cs H'):E.frz H id k:=by
 subst hE;exact⟨cs,hO.get i hi,hk _ rfl (hO.del i hi)⟩
theorem SI {Φ:A4→A4→Prop} {H0 H H1:A4} {L:List En} (hO:B6 Φ H0 L H) (i:Nat) {id:Nat} {cs cs':List V} {k:A4→Prop} (hi:L[i]? =some (.blk id (.cells cs))) (he:H1=upd H id none)
 (hk:∀H',B6 Φ H0 (L.set i (.blk id (.cells cs'))) H'→k H'):E.give H1 id cs' k:=by
 subst hE;subst he;refine hk _ ?_
 have e:upd (upd H id none) id (some (.cells cs'))=upd H id (some (.cells cs')):=by
  funext x;simp_all[upd]
 rw[e];exact hO.set i hi
theorem Ae0 {α R:Type} {g:α→V} {cs:List V} {off sz n:Nat} {l:List α} {i:Int} {k:V→Prop} {F:α→Option R} {r:R} (hcs:cs=l.flatMap fun x=>(g x).cells) (hsz:∀x,(g x).cells.length=sz) (hn:l.length=n) (ho:off=0)
 (h:(C6 l i).bind F=some r) (hk:∀x,F x=some r→k (.eref (g x).cells 0)):E.elem cs off sz n i k:=by
 subst hE;subst ho;obtain⟨x,h1,h2⟩:=bind_some h
 unfold C6 at h1
 split at h1
 ·rename_i h0
  have key:∀(l:List α) (m:Nat) (x:α),l[m]? =some x→(((l.flatMap fun x=>(g x).cells).drop (m*sz)).take sz)=(g x).cells∧m<l.length∧(l.flatMap fun x=>(g x).cells).length=l.length*sz:=by
   intro l
   induction l with
   |nil=>simp_all
   | cons y l ih=>
    intro m x h
    have hlen:∀l:List α,(l.flatMap fun x=>(g x).cells).length=l.length*sz:=by
     intro l
     induction l with
     |nil=>simp
     |cons z l ih=>grind
    refine⟨?_,?_,hlen _⟩
    ·cases m with
     |zero=>
      simp_all
     |succ m=>
      have:=(ih m x (by grind)).1;rw[Dx,show(m+1)*sz=(g y).cells.length+m*sz by rw[hsz,G5,AA];omega,List.drop_append,];rw[NK (by omega),N1,show(g y).cells.length+m*sz-(g y).cells.length=m*sz by omega];exact this
    grind
  grind[H5]
 cases h1
theorem Kp {α R:Type} {f:α→V} {sz by_:Nat} (hsz:∀x,(f x).cells.length=sz) (hby:by_≤131072) {xs ys:List V} {l m:List α} {k:V→Prop} {F:List α→Option R} {r:R} (hx:L5 xs (lst f l)) (hy:L5 ys (lst f m)) (h:(I1 l m).bind F=some r)
 (hk:∀x,F x=some r→k (.sl (lst f x) .ro)):E.appq sz by_ xs ys k:=by
 subst hE;obtain⟨x,h1,h2⟩:=bind_some h
 unfold I1 at h1
 split at h1
 ·rename_i hc;cases h1;refine⟨_,_,hx,hy,II hsz l,II hsz m,?_,?_⟩
  ·rw[M2,M2];exact V2 (V3 hc hby) (by decide)
  grind[KZ]
 cases h1
theorem K7 {α R:Type} {f:α→V} {sz by_:Nat} (hsz:∀x,(f x).cells.length=sz) (hby:by_≤131072) {Φ:A4→A4→Prop} {H0 H:A4} {L:List En} (hO:B6 Φ H0 L H) (i:Nat) {tl:D2} (hi:L[i]? =some (.tl tl)) (ha:G3 tl)
 {xs ys:List V} {l m:List α} {k:V→A4→Prop} {F:List α→Option R} {r:R} (hx:L5 xs (lst f l)) (hy:L5 ys (lst f m)) (h:(I1 l m).bind F=some r)
 (hk:∀x tl' H',B6 Φ H0 (L.set i (.tl tl')) H'→G3 tl'→F x=some r→k (.sl (lst f x) tl') H'):E.appn sz by_ H tl xs ys k:=by
 subst hE;obtain⟨x,h1,h2⟩:=bind_some h
 unfold I1 at h1
 split at h1
 ·rename_i hc;cases h1;refine⟨_,_,hx,hy,hO.appOk i hi ha,II hsz l,II hsz m,?_,fun hm=>?_,fun t ht hn=>?_⟩
  ·rw[M2,M2];exact V2 (V3 hc hby) (by decide)
  ·have hm':m=[]:=by
    have:=Q0 List.length hm
    rw[M2]at this
    simp_all
   subst hm'
   have:=hk _ tl H (by
    have e:L.set i (.tl tl)=L:=by
     apply Bv
     grind
    rw[e];exact hO) ha h2
   rwa[G9]at this
  rw[KZ];exact hk _ _ _ (hO.tok i hi hn) trivial h2
 cases h1
end
section
variable {P:Program}{nt:Nat}{rd:Option Nat}{T:FY}{E:Eg}
abbrev OE (P:Program)(T:FY):Prop:=Jb P T∧P.follows .mixedOrders=true
def O1 (cf:Cf)(hE:E=H5 P nt rd)(hP:OE P T){c:Code}{st:St}{H:A4}{K:Exit→St→A4→Prop}(X:Exit→Fl→A4→Prop)(hd:J5 cf c=true)
 (h:Aa2 E T nt cf c st H fun e st' H'=>∃l,X e l H'∧Gp st'.l l∧st'.df=st.df) (after:∀e l H',X e l H'→K e ⟨l,st.df⟩ H'):E.sim c st H K:=by
 subst hE;refine(VQ hP.1 hP.2 c _ _ _ hd h).mono fun e fr2 H2 ⟨st',hle',l,h3,h1,h2⟩=>?_;exact⟨⟨l,st.df⟩,⟨fun t=>(hle'.s t).trans (h1.wk t),hle'.df.trans h2⟩,after _ _ _ h3⟩
def K1 (cf:Cf) (hE:E=H5 P nt rd) (hP:OE P T) {σ R:Type} {step:σ→Option (σ⊕R)} {c:Code} {st:St} {H:A4} {K:Exit→St→A4→Prop} (fm:σ→Fl) (Inv:σ→A4→Prop) (X:R→Exit→Fl→A4→Prop) (hd:J5 cf c=true)
 (round:∀s H o,Inv s H→step s=some o→run E T nt cf c ⟨fm s,st.df⟩ H fun e st' H'=>match e with
  | .normal=>∃s',o= .inl s'∧Gp st'.l (fm s')∧st'.df=st.df∧Inv s' H'
  |e=>∃x l,o= .inr x∧X x e l H'∧Gp st'.l l∧st'.df=st.df)
 {N:Nat} {s0:σ} {r:R} (h:loopN step N s0=some r) (hf:Gp st.l (fm s0)) (hI:Inv s0 H) (after:∀e l H',X r e l H'→K e ⟨l,st.df⟩ H'):E.sim (.loop c) st H K:=by
 subst hE;refine T4.loopN (fun n fr' H'=>∃s,loopN step n s=some r∧Dn fr' ⟨fm s,st.df⟩∧Inv s H') N ⟨s0,h,⟨fun t=>hf.wk t,rfl⟩,hI⟩ fun n fr' H' ⟨s,hs,hle,hi⟩=>?_
 cases n with
 |zero=>cases hs
 | succ n=>
  simp only[loopN]at hs
  cases ho:step s with
  |none=>rw[ho]at hs;cases hs
  | some o=>
   rw[ho]at hs
   refine T4.frLe hle ((M0 hP.1 hP.2 c _ _ _ hd (round s H' o hi ho)).mono fun e fr2 H2 ⟨st',hle',hq⟩=>?_)
   cases e with
   |normal=>
    obtain⟨s',h1,h2,h3,h4⟩:=hq;subst h1;exact⟨n,FH n,s',hs,⟨fun t=>(hle'.s t).trans (h2.wk t),hle'.df.trans h3⟩,h4⟩
   |_=>
    obtain⟨x,l,h1,h4,h2,h3⟩:=hq;subst h1;cases hs;exact⟨⟨l,st.df⟩,⟨fun t=>(hle'.s t).trans (h2.wk t),hle'.df.trans h3⟩,after _ _ _ h4⟩
def H8 (cf:Cf) (hE:E=H5 P nt rd) (hP:OE P T) {σ γ R:Type} {step:σ→Option (σ⊕R)} {c:Code} {st:St} {H:A4} {K:Exit→St→A4→Prop} (fm:σ→γ→Fl) (Inv:σ→γ→A4→Prop) (X:R→Exit→Fl→A4→Prop) (hd:J5 cf c=true)
 (round:∀s g H o,Inv s g H→step s=some o→run E T nt cf c ⟨fm s g,st.df⟩ H fun e st' H'=>match e with
  | .normal=>∃s' g',o= .inl s'∧Gp st'.l (fm s' g')∧st'.df=st.df∧Inv s' g' H'
  |e=>∃x l,o= .inr x∧X x e l H'∧Gp st'.l l∧st'.df=st.df)
 {N:Nat} {s0:σ} (g0:γ) {r:R} (h:loopN step N s0=some r) (hf:Gp st.l (fm s0 g0)) (hI:Inv s0 g0 H) (after:∀e l H',X r e l H'→K e ⟨l,st.df⟩ H'):E.sim (.loop c) st H K:=by
 subst hE;refine T4.loopN (fun n fr' H'=>∃s g,loopN step n s=some r∧Dn fr' ⟨fm s g,st.df⟩∧Inv s g H') N ⟨s0,g0,h,⟨fun t=>hf.wk t,rfl⟩,hI⟩ fun n fr' H' ⟨s,g,hs,hle,hi⟩=>?_
 cases n with
 |zero=>cases hs
 | succ n=>
  simp only[loopN]at hs
  cases ho:step s with
  |none=>rw[ho]at hs;cases hs
  | some o=>
   rw[ho]at hs
   refine T4.frLe hle ((M0 hP.1 hP.2 c _ _ _ hd (round s g H' o hi ho)).mono fun e fr2 H2 ⟨st',hle',hq⟩=>?_)
   cases e with
   |normal=>
    obtain⟨s',g',h1,h2,h3,h4⟩:=hq;subst h1;exact⟨n,FH n,s',g',hs,⟨fun t=>(hle'.s t).trans (h2.wk t),hle'.df.trans h3⟩,h4⟩
   |_=>
    obtain⟨x,l,h1,h4,h2,h3⟩:=hq;subst h1;cases hs;exact⟨⟨l,st.df⟩,⟨fun t=>(hle'.s t).trans (h2.wk t),hle'.df.trans h3⟩,after _ _ _ h4⟩
def QX {f:FuncId}{fn:Func}{c:Code}{n:Nat}{rs:List ResultVar}{args:List V}{r:V}(cf:Cf)(hP:OE P T)(hf:P.funcs[f]? =some fn)(hb:fn.body=some c)(hd:J5 cf c=true)
 (hcall:∀vals w,(callFunc f vals).run P w= .ok (.enter f vals) w) (hnt:fn.ntmps=n) (hrs:fn.results.toList=rs) (hn:Nat.ble args.length n=true)
 (h:∀(E:Eg) (H:A4) (K:V→A4→Prop),E=H5 P n none→(∀x L H',B6 Eq H L H'→BV x r→K x H')→run E T n cf c ⟨BF args 0,[]⟩ H (LR E T rs K)):C7 P f args r:=fun H=>by
 refine(R4 (K:=fun x H'=>∃y H2,BV x y∧Ei H2 H'∧y=r∧H2=H) cf hP.1 hP.2 hf hb hd hcall hnt hrs hn fun E hE=>?_).le;exact h E H _ hE fun x L H' hO hx=>⟨r,H,hx,hO.ext,rfl,rfl⟩
end
abbrev DB:Dh:=.obj (.deferred (some []))
section
variable {P:Program}{nt:Nat}{rd:Option Nat}{T:FY}{E:Eg}
def Ez (hE:E=H5 P nt rd) {Φ:A4→A4→Prop} {H0 H:A4} {L:List En} (hO:B6 Φ H0 L H) (i:Nat) {d:Nat} {k:A4→Prop} (hi:L[i]? =some (.blk d DB)) (hk:∀H',B6 Φ H0 (L.eraseIdx i) H'→k H'):E.fin [d] H k:=by
 subst hE;have hd:=hO.get i hi;refine⟨⟨by simp,fun id hid=>?_⟩,?_⟩
 ·simp_all
 have e:clear H [d]=upd H d none:=by
  funext x;simp[clear,upd]
 rw[e];exact hk _ (hO.del i hi)
def EP (P:Program)(f:FuncId)(args:List V)(Q:V→Prop):Prop:=∀H,J1 P f args H fun x H'=>Q x∧H'=H
def EP.args {f:FuncId}{xs ys:List V}{Q:V→Prop}(h:EP P f ys Q)(k:L5 xs ys):EP P f xs Q:=fun H=>(h H).args k
def C7.q {f:FuncId}{args:List V}{r:V}{Q:V→Prop}(h:C7 P f args r)(hq:Q r):EP P f args Q:=fun H=>(h H).mono fun x H' ⟨e1,e2⟩=>⟨e1▸hq,e2⟩
def T9 (hE:E=H5 P nt rd){R S:Type}{m:Option S}{F:S→Option R}{r:R}{f:FuncId}{args args':List V}{Q:S→V→Prop}{H:A4}{k:V→A4→Prop}(h:m.bind F=some r)(hc:∀x,m=some x→EP P f args' (Q x))(hl:L5 args args')
 (hk:∀x v,Q x v→F x=some r→k v H):E.call (.func (.func f) [] []) args H k:=by
 subst hE;obtain⟨x,h1,h2⟩:=bind_some h
 have h3:J1 P f args H k:=((hc x h1).args hl H).mono fun v H' ⟨hq,hH⟩=>by grind
 exact J1.value (F:=[]) (C:=[]) (by grind)
def X0 {f:FuncId}{fn:Func}{c:Code}{n:Nat}{rs:List ResultVar}{args:List V}{Q:V→Prop}(cf:Cf)(hP:OE P T)(hf:P.funcs[f]? =some fn)(hb:fn.body=some c)(hd:J5 cf c=true)
 (hcall:∀vals w,(callFunc f vals).run P w= .ok (.enter f vals) w) (hnt:fn.ntmps=n) (hrs:fn.results.toList=rs) (hn:Nat.ble args.length n=true)
 (h:∀(E:Eg) (H:A4) (K:V→A4→Prop),E=H5 P n none→(∀x L H',B6 Eq H L H'→Q x→K x H')→run E T n cf c ⟨BF args 0,[]⟩ H (LR E T rs K)):EP P f args Q:=fun H=>by
 refine(R4 (K:=fun x H'=>∃y H2,BV x y∧Ei H2 H'∧Q y∧H2=H) cf hP.1 hP.2 hf hb hd hcall hnt hrs hn fun E hE=>?_).le;exact h E H _ hE fun x L H' hO hx=>⟨x,H,.refl _,hO.ext,hx,rfl⟩
def SD:List Nat→List V→Fl→Fl
 |p::ps,x::xs,l=>SD ps xs ((p,.v x)::l)
 |_,_,l=>l
theorem SC:∀(ps:List Nat) (xs:List V) (l:Fl) (t:Nat),Gc (fun t=>Cj l t) ps xs t=Cj (SD ps xs l) t
 |[],xs,l,t=>by cases xs<;>rfl
 |p::ps,[],l,t=>rfl
 |p::ps,x::xs,l,t=>by
  simp only[Gc,SD];rw[←SC ps xs]
  congr 1
  funext q
  rw[Xs];rfl
def Zo:Exit→Option Code
 | .ret=>some .ret
 | .exit k=>some (.exit k)
 |_=>none
variable {α σ R ι:Type}
def RgI (enc:α→List V)(step:σ→α→Option (σ⊕R))(o:σ⊕R)(Inv:σ→A4→A4→Prop)(l:List (List V))(F H:A4):Prop:=
 ∃q:σ×List α,(l=q.2.map enc∧J2 step q.2 q.1=some o)∧Inv q.1 F H
def RgD (o:σ⊕R)(X:R→Exit→A4→A4→Prop)(c:Code)(F H:A4):Prop:=∃q:R×Exit,(o= .inr q.1∧Zo q.2=some c)∧X q.1 q.2 F H
def RgJ (enc:α→List V)(step:σ→α→Option (σ⊕R))(o:σ⊕R)(fJ:ι→σ→α→Fl)(J:ι→σ→α→A4→A4→Prop)(x:List V)(l:List (List V))(fr:Fr)(F H:A4):Prop:=
 ∃q:ι×σ×α×List α,(x=enc q.2.2.1∧l=q.2.2.2.map enc∧J2 step (q.2.2.1::q.2.2.2) q.2.1=some o∧Dn fr ⟨fJ q.1 q.2.1 q.2.2.1,[]⟩)∧J q.1 q.2.1 q.2.2.1 F H
section
variable {enc:α→List V}{step:σ→α→Option (σ⊕R)}{g:Operand}{ps:Array Tmp}{asg body:Code}{st:St}{H:A4}{K:Exit→St→A4→Prop}
 {xs:List α} {s0:σ} {o:σ⊕R}
def Rn (cf:Cf) (hP:OE P T) {Inv:σ→A4→A4→Prop} {fJ:ι→σ→α→Fl} {J:ι→σ→α→A4→A4→Prop} (hda:J5 cf asg=true)
 (asgP:∀(E':Eg) (id:Nat) y s F H,E'=H5 P nt (some id)→Inv s F H→run E' T nt cf asg ⟨SD ps.toList (enc y) st.l,[]⟩ H fun e st' H'=>match e with| .normal=>∃i,J i s y F H'∧Gp st'.l (fJ i s y)∧st'.df=[]|_=>False):
 ∀(id:Nat) (L:LpI) x l F H,RgI enc step o Inv (x::l) F H→F id=some (.loop L)→x.length=ps.size→T4 P nt (some id) asg ⟨Gc (I0 st).s ps.toList x,[]⟩ H fun e fr' H1=>e= .normal∧RgJ enc step o fJ J x l fr' F H1:=by
 intro id L x l F H ⟨⟨s,ys⟩,⟨hl,hr⟩,hi⟩ _ _
 cases ys with
 |nil=>cases hl
 | cons y ys=>
  simp only[G2,V5]at hl
  obtain⟨rfl,rfl⟩:=hl
  have e:(⟨Gc (I0 st).s ps.toList (enc y),[]⟩:Fr)=I0 ⟨SD ps.toList (enc y) st.l,[]⟩:=by
   simp only[I0,Fr.mk.injEq,J6]
   funext t
   grind[SC]
  rw[e];refine(M0 hP.1 hP.2 asg _ _ _ hda (asgP _ id y s F H rfl hi)).mono fun e fr' H1 ⟨st',hle,hq⟩=>?_
  cases e with
  |normal=>
   obtain⟨i,hj,hl,hdf⟩:=hq;exact⟨rfl,⟨i,s,y,ys⟩,⟨rfl,rfl,hr,fun t=>(hle.s t).trans (hl.wk t),hle.df.trans hdf⟩,hj⟩
  |_=>exact hq.elim
def TY (cf:Cf) (hP:OE P T) {Inv:σ→A4→A4→Prop} {X:R→Exit→A4→A4→Prop} {fJ:ι→σ→α→Fl} {J:ι→σ→α→A4→A4→Prop} (hdb:J5 cf body=true)
 (bodyP:∀(E':Eg) (id:Nat) i y s F H o',E'=H5 P nt (some id)→(∃L,F id=some (.loop L))→step s y=some o'→J i s y F H→run E' T nt cf body ⟨fJ i s y,[]⟩ H fun e _ H'=>match e with
  | .normal=>∃s',o'= .inl s'∧Inv s' F H'
  |e=>∃r,o'= .inr r∧(Zo e).isSome=true∧X r e F H'):
 ∀(id:Nat) (L:LpI) x l fr' F H,RgJ enc step o fJ J x l fr' F H→F id=some (.loop L)→T4 P nt (some id) body fr' H fun e _ H'=>RH (RgI enc step o Inv l) (RgD o X) F e H':=by
 intro id L x l fr' F H ⟨⟨i,s,y,ys⟩,⟨hx,hl,hr,hf⟩,hj⟩ hL;subst hx;subst hl
 simp only[J2]at hr
 cases ho:step s y with
 |none=>rw[ho]at hr;cases hr
 | some o'=>
  rw[ho]at hr
  refine T4.frLe hf ((M0 hP.1 hP.2 body _ _ _ hdb (bodyP _ id i y s F H o' rfl ⟨L,hL⟩ ho hj)).mono fun e fr2 H2 ⟨st',hle,hq⟩=>?_)
  cases e with
  |normal=>
   obtain⟨s',h1,h2⟩:=hq;subst h1;exact⟨⟨s',ys⟩,⟨rfl,hr⟩,h2⟩
  |ret=>
   obtain⟨r,h1,h2,h3⟩:=hq;subst h1;exact⟨⟨r,.ret⟩,⟨by grind,rfl⟩,h3⟩
  |exit k=>
   obtain⟨r,h1,h2,h3⟩:=hq;subst h1;exact⟨⟨r,.exit k⟩,⟨by grind,rfl⟩,h3⟩
  |_=>
   obtain⟨r,h1,h2,h3⟩:=hq;cases h2
def Cc (cf:Cf) (hE:E=H5 P nt none) (hP:OE P T) (Inv:σ→A4→A4→Prop) (X:R→Exit→A4→A4→Prop) (fJ:ι→σ→α→Fl) (J:ι→σ→α→A4→A4→Prop)
 (hI:∀s,D9 (Inv s)) (hX:∀r e,D9 (X r e)) (hJ:∀i s y,D9 (J i s y)) (hit:Gu P ((R0 [] st.l g).V) (xs.map enc)) (h:J2 step xs s0=some o) {F:A4} (h0:Inv s0 F H)
 (hnt:∀p∈ps,p<nt) (hps:∀x,(enc x).length=ps.size) (hda:J5 cf asg=true) (hdb:J5 cf body=true)
 (asgP:∀(E':Eg) (id:Nat) y s F H,E'=H5 P nt (some id)→Inv s F H→run E' T nt cf asg ⟨SD ps.toList (enc y) st.l,[]⟩ H fun e st' H'=>match e with| .normal=>∃i,J i s y F H'∧Gp st'.l (fJ i s y)∧st'.df=[]|_=>False)
 (bodyP:∀(E':Eg) (id:Nat) i y s F H o',E'=H5 P nt (some id)→(∃L,F id=some (.loop L))→step s y=some o'→J i s y F H→run E' T nt cf body ⟨fJ i s y,[]⟩ H fun e _ H'=>match e with
  | .normal=>∃s',o'= .inl s'∧Inv s' F H'
  |e=>∃r,o'= .inr r∧(Zo e).isSome=true∧X r e F H')
 (done:∀d s H',o= .inl s→F d=none→Inv s (upd F d (some DB)) H'→K .normal ⟨st.l,d::st.df⟩ H')
 (stop:∀d r e H',o= .inr r→F d=none→X r e (upd F d (some DB)) H'→K e ⟨st.l,d::st.df⟩ H'):E.sim (.rangeFunc g ps asg body) st H K:=by
 subst hE;have hev:ev (I0 st) g=(R0 [] st.l g).V:=(DH (df:=st.df) Jd.nil g).symm
 rw[←hev]at hit
 have sI:∀l,D9 (RgI enc step o Inv l):=fun l=>D9.ex fun q=>hI q.1;have sD:∀c,D9 (RgD o X c):=fun c=>D9.ex fun q=>hX q.1 q.2;have sJ:∀x l fr,D9 (RgJ enc step o fJ J x l fr):=fun x l fr=>D9.ex fun q=>hJ q.1 q.2.1 q.2.2.1;refine T4.rangeOuter (nt:=nt) hnt (fun x hx=>?_) hit (RgI enc step o Inv) (RgD o X) sI sD (RgJ enc step o fJ J) sJ ⟨⟨s0,xs⟩,⟨rfl,h⟩,h0⟩ (Rn cf hP hda asgP) (TY cf hP hdb bodyP) (fun d H' hd ⟨⟨s,ys⟩,⟨hl,hr⟩,hi⟩=>?_) fun c d H' hd ⟨⟨r,e⟩,⟨ho,hj⟩,hx⟩=>?_
 ·grind
 ·have hys:ys=[]:=by
   simp_all
  subst hys;cases hr;exact⟨⟨st.l,d::st.df⟩,⟨fun t=>Wk.refl _,rfl⟩,done d s H' rfl hd hi⟩
 have hk:=stop d r e H' ho hd hx
 cases e with
 |ret=>cases hj;exact T4.ret ⟨⟨st.l,d::st.df⟩,⟨fun t=>Wk.refl _,rfl⟩,hk⟩
 |exit k=>cases hj;exact T4.exit ⟨⟨st.l,d::st.df⟩,⟨fun t=>Wk.refl _,rfl⟩,hk⟩
 |_=>cases hj
def Uu (cf:Cf) {id0:Nat} (hE:E=H5 P nt (some id0)) (hP:OE P T) (Inv:σ→A4→A4→Prop) (X:R→Exit→A4→A4→Prop) (fJ:ι→σ→α→Fl) (J:ι→σ→α→A4→A4→Prop)
 (hI:∀s,D9 (Inv s)) (hX:∀r e,D9 (X r e)) (hJ:∀i s y,D9 (J i s y)) (hit:Gu P ((R0 [] st.l g).V) (xs.map enc)) (h:J2 step xs s0=some o) {F:A4} (hF:∃L,F id0=some (.loop L)) (h0:Inv s0 F H)
 (hnt:∀p∈ps,p<nt) (hps:∀x,(enc x).length=ps.size) (hda:J5 cf asg=true) (hdb:J5 cf body=true)
 (asgP:∀(E':Eg) (id:Nat) y s F H,E'=H5 P nt (some id)→Inv s F H→run E' T nt cf asg ⟨SD ps.toList (enc y) st.l,[]⟩ H fun e st' H'=>match e with| .normal=>∃i,J i s y F H'∧Gp st'.l (fJ i s y)∧st'.df=[]|_=>False)
 (bodyP:∀(E':Eg) (id:Nat) i y s F H o',E'=H5 P nt (some id)→(∃L,F id=some (.loop L))→step s y=some o'→J i s y F H→run E' T nt cf body ⟨fJ i s y,[]⟩ H fun e _ H'=>match e with
  | .normal=>∃s',o'= .inl s'∧Inv s' F H'
  |e=>∃r,o'= .inr r∧(Zo e).isSome=true∧X r e F H')
 (done:∀s H',o= .inl s→Inv s F H'→K .normal st H')
 (stop:∀r e H',o= .inr r→X r e F H'→K e st H'):E.sim (.rangeFunc g ps asg body) st H K:=by
 subst hE;have hev:ev (I0 st) g=(R0 [] st.l g).V:=(DH (df:=st.df) Jd.nil g).symm
 rw[←hev]at hit
 have sI:∀l,D9 (RgI enc step o Inv l):=fun l=>D9.ex fun q=>hI q.1;have sD:∀c,D9 (RgD o X c):=fun c=>D9.ex fun q=>hX q.1 q.2;have sJ:∀x l fr,D9 (RgJ enc step o fJ J x l fr):=fun x l fr=>D9.ex fun q=>hJ q.1 q.2.1 q.2.2.1;obtain⟨L0,hL0⟩:=hF;refine T4.rangeInner (nt:=nt) (id0:=id0) (L0:=L0) ((hI _).le h0 _ _ hL0) hnt (fun x hx=>?_) hit (RgI enc step o Inv) (RgD o X) sI sD (RgJ enc step o fJ J) sJ ⟨⟨s0,xs⟩,⟨rfl,h⟩,h0⟩ (Rn cf hP hda asgP) (TY cf hP hdb bodyP) (fun H' ⟨⟨s,ys⟩,⟨hl,hr⟩,hi⟩=>?_) fun c H' ⟨⟨r,e⟩,⟨ho,hj⟩,hx⟩=>?_
 ·grind
 ·have hys:ys=[]:=by
   simp_all
  subst hys;cases hr
  grind[Dn.refl]
 have hk:=stop r e H' ho hx
 cases e with
 |ret=>cases hj;grind[T4.ret,Dn.refl]
 |exit k=>cases hj;grind[T4.exit,Dn.refl]
 |_=>cases hj
end
end
def B6.dblk {Φ:A4→A4→Prop} {H0 H:A4} {L:List En} {d:Nat} (hd:H0 d=none) (h:B6 Φ (upd H0 d (some DB)) L H):B6 Φ H0 (L++[.blk d DB]) H:=by
 obtain⟨hs,F',H1,h0,h1,h2⟩:=h;refine⟨hs,F',H1,⟨fun x b hx=>h0.ext x b ?_,fun i e x b hi he=>?_,fun i j e e' x b b' hi hj he he'=>?_,fun x b hx=>?_⟩,h1,h2⟩
 rotate_right
 ·rcases h0.only x b hx with h|⟨i,e,hi,he⟩
  ·by_cases hxd:x=d
   ·subst hxd;rw[D6]at h;cases h;exact .inr ⟨L.length,.blk x DB,by simp,rfl⟩
   simp_all[upd]
  refine .inr ⟨i,e,?_,he⟩
  grind
 ·rw[C3 _ _ (Ap hd hx)];exact hx
 ·rcases G6 i L.length with hlt|hge
  ·rw[Bx hlt]at hi
   have:=h0.has i e x b hi he
   grind[C3]
  rw[GL hge]at hi
  cases hm:i-L.length with
  |zero=>rw[hm]at hi;simp at hi;subst hi;cases he;exact⟨hd,h0.ext _ _ (D6 _ _ _)⟩
  |succ m=>rw[hm]at hi;simp at hi
 have hDB:∀(i:Nat) e,(L++[.blk d DB])[i]? =some e→(i<L.length∧L[i]? =some e)∨(i=L.length∧e= .blk d DB):=fun i e hi=>by
  grind
 have nd:∀(i:Nat) e x b,L[i]? =some e→e.id=some (x,b)→x≠d:=fun m e x b hm he eq=>by
  have:=(h0.has m e x b hm he).1
  rw[eq,D6]at this;cases this
 rcases hDB i e hi with⟨_,ki⟩|⟨ki,rfl⟩<;>rcases hDB j e' hj with⟨_,kj⟩|⟨kj,rfl⟩
 ·exact h0.inj i j e e' x b b' ki kj he he'
 ·cases he';grind
 ·cases he;grind
 omega
def OU (P:Program)(yv:V)(I:List (List V)→A4→A4→Prop)(D:A4→A4→Prop):Prop:=
 (yv.one=true∧yv.cells=[yv])∧∀x l F H,I (x::l) F H→CR P yv x H fun r H'=>(r= .bool true∧I l F H')∨(r= .bool false∧D F H')
def It (P:Program)(f:FuncId)(args:V→List V)(xs:List (List V))(rb:V→Bool→Prop):Prop:=
 ∀yv I D,(∀l,D9 (I l))→D9 D→OU P yv I D→∀tl F H,I (xs++tl) F H→J1 P f (args yv) H fun v H'=>(rb v true∧I tl F H')∨(rb v false∧D F H')
def rbB (v:V)(b:Bool):Prop:=v= .bool b
def rbN (_:V)(_:Bool):Prop:=True
section
variable {P:Program}{nt:Nat}{rd:Option Nat}{T:FY}{E:Eg}{I:List (List V)→A4→A4→Prop}{D:A4→A4→Prop}
def CR.heap {fv:V}{args:List V}{H H1:A4}{K:V→A4→Prop}(h:CR P fv args H1 K)(hl:Ei H1 H):CR P fv args H K:=
 fun g w v vals hR hv hA=>h g w v vals (hR.less hl) hv hA
def J1.heap {f:FuncId}{args:List V}{H H1:A4}{K:V→A4→Prop}(h:J1 P f args H1 K)(hl:Ei H1 H):J1 P f args H K:=
 fun g w vals hR hA=>h g w vals (hR.less hl) hA
def Dt (hE:E=H5 P nt rd)(hI:∀l,D9 (I l))(hD:D9 D){yv:V}(hy:OU P yv I D){F H:A4}{L:List En}{args x:List V}{l:List (List V)}{k:V→A4→Prop}(hO:B6 (I (x::l)) F L H)(hl:L5 args x)
 (h1:∀H',B6 (I l) F L H'→k (.bool true) H') (h2:∀H',B6 D F L H'→k (.bool false) H'):E.call yv args H k:=by
 subst hE;obtain⟨hs,F',H1,h0,hi,hle⟩:=hO;refine(CR.mono (((hy.2 x l F' H1 hi).heap hle).args hl) fun r H' hr=>?_)
 rcases hr with⟨rfl,hr⟩|⟨rfl,hr⟩
 ·exact h1 H' ⟨hI l,F',H',h0,hr,Ei.refl _⟩
 exact h2 H' ⟨hD,F',H',h0,hr,Ei.refl _⟩
def Ad9 (hE:E=H5 P nt rd) (hI:∀l,D9 (I l)) (hD:D9 D) {yv:V} (hy:OU P yv I D) {f:FuncId} {args':V→List V} {xs tl:List (List V)} {rb:V→Bool→Prop} (hc:It P f args' xs rb) {F H:A4} {L:List En} {args:List V} {k:V→A4→Prop} (hO:B6 (I (xs++tl)) F L H)
 (hl:L5 args (args' yv)) (h1:∀v H',rb v true→B6 (I tl) F L H'→k v H') (h2:∀v H',rb v false→B6 D F L H'→k v H'):E.call (.func (.func f) [] []) args H k:=by
 subst hE;obtain⟨hs,F',H1,h0,hi,hle⟩:=hO
 have h3:J1 P f args H k:=(((hc yv I D hI hD hy tl F' H1 hi).heap hle).args hl).mono fun v H' hr=>by
  rcases hr with⟨hb,hr⟩|⟨hb,hr⟩
  ·exact h1 v H' hb ⟨hI tl,F',H',h0,hr,Ei.refl _⟩
  exact h2 v H' hb ⟨hD,F',H',h0,hr,Ei.refl _⟩
 exact J1.value (F:=[]) (C:=[]) (by grind)
def Kn (hE:E=H5 P nt rd){c:Bool}{x y:Unit→Prop}(hc:c=true)(h:x ()):E.br c x y:=by simp_all[H5]
def Ko (hE:E=H5 P nt rd){c:Bool}{x y:Unit→Prop}(hc:c=false)(h:y ()):E.br c x y:=by simp_all[H5]
def T3 {f:FuncId} {fn:Func} {c:Code} {n:Nat} {rs:List ResultVar} {args:V→List V} {xs:List (List V)} {rb:V→Bool→Prop} (cf:Cf) (hP:OE P T) (hf:P.funcs[f]? =some fn) (hb:fn.body=some c) (hd:J5 cf c=true)
 (hcall:∀vals w,(callFunc f vals).run P w= .ok (.enter f vals) w) (hnt:fn.ntmps=n) (hrs:fn.results.toList=rs) (hn:∀yv,Nat.ble (args yv).length n=true)
 (h:∀(yv:V) (I:List (List V)→A4→A4→Prop) (D:A4→A4→Prop),(∀l,D9 (I l))→D9 D→OU P yv I D→∀(tl:List (List V)) (F:A4) (E:Eg) (H:A4) (K:V→A4→Prop),E=H5 P n none→B6 (I (xs++tl)) F [] H→
  (∀x L H',B6 (I tl) F L H'→rb x true→K x H')→(∀x L H',B6 D F L H'→rb x false→K x H')→run E T n cf c ⟨BF (args yv) 0,[]⟩ H (LR E T rs K)):It P f args xs rb:=by
 intro yv I D hI hD hy tl F H hi;refine(R4 (K:=fun x H'=>∃y H2,BV x y∧Ei H2 H'∧((rb y true∧I tl F H2)∨(rb y false∧D F H2))) cf hP.1 hP.2 hf hb hd hcall hnt hrs (hn yv) fun E hE=>?_).le;refine h yv I D hI hD hy tl F E H _ hE (B6.start (hI _) hi) (fun x L H' hO hx=>?_) fun x L H' hO hx=>?_
 ·obtain⟨H2,h1,h2⟩:=hO.out;exact⟨x,H2,.refl _,h2,.inl ⟨hx,h1⟩⟩
 obtain⟨H2,h1,h2⟩:=hO.out;exact⟨x,H2,.refl _,h2,.inr ⟨hx,h1⟩⟩
def W8 {f:FuncId}{C:List V}{xs:List (List V)}{rb:V→Bool→Prop}(hcall:∀vals w,(callFunc f vals).run P w= .ok (.enter f vals) w)(h:It P f (fun yv=>yv::C) xs rb):Gu P (.func (.func f) [] C) xs:=
 ⟨f,C,rfl,hcall,fun yv I D hI hD hy F H hi=>(h yv I D hI hD hy [] F H (by rwa[G9])).mono fun v H' hr=>hr.imp (fun h=>h.2) fun h=>h.2⟩
def B6.cast {Φ:A4→A4→Prop}{H0 H:A4}{L L':List En}(h:B6 Φ H0 L H)(e:L=L'):B6 Φ H0 L' H:=e▸h
noncomputable def Bo (ds:List Nat):List En:=List.rec (motive:=fun _=>List En) [] (fun d _ l=>l++[.blk d DB]) ds
def Va (d:Nat)(ds:List Nat):Bo (d::ds)=Bo ds++[.blk d DB]:=rfl
def B6.dbs1 {Φ:A4→A4→Prop}{H0 H:A4}{A:List En}{d:Nat}{ds:List Nat}(h:B6 Φ H0 ((A++Bo ds)++[.blk d DB]) H):B6 Φ H0 (A++Bo (d::ds)) H:=by
 rw[Va,←F6];exact h
def Aq1 {Φ:A4→A4→Prop} {H0:A4} {A:List En}:∀{ds:List Nat} {H:A4},B6 Φ H0 (A++Bo ds) H→ds.Nodup∧(∀id,id∈ds→H id=some DB)∧B6 Φ H0 A (clear H ds):=by
 intro ds
 induction ds with
 |nil=>
  intro H h
  have e:clear H []=H:=by funext x;simp[clear]
  rw[e]
  grind[Bo]
 | cons d ds ih=>
  intro H h
  rw[Va,←F6]at h
  have hi:((A++Bo ds)++[En.blk d DB])[(A++Bo ds).length]? =some (.blk d DB):=by simp
  have hd:=h.get _ hi;have h1:=h.del _ hi
  have e:((A++Bo ds)++[En.blk d DB]).eraseIdx (A++Bo ds).length=A++Bo ds:=by
   rw[List.eraseIdx_append_of_length_le (D3 _)];simp
  rw[e]at h1
  obtain⟨a1,a2,a3⟩:=ih h1;refine⟨List.nodup_cons.2 ⟨fun hm=>?_,a1⟩,fun id hid=>?_,?_⟩
  ·have:=a2 d hm;rw[D6]at this;cases this
  ·grind[C3]
  have e2:clear (upd H d none) ds=clear H (d::ds):=by
   funext x
   grind[clear,upd]
  rwa[e2]at a3
def IH (hE:E=H5 P nt rd){Φ:A4→A4→Prop}{H0 H:A4}{A:List En}{ds:List Nat}(hO:B6 Φ H0 (A++Bo ds) H){k:A4→Prop}(hk:∀H',B6 Φ H0 A H'→k H'):E.fin ds H k:=by
 subst hE;obtain⟨a1,a2,a3⟩:=Aq1 hO;exact⟨⟨a1,a2⟩,hk _ a3⟩
def Ad6 (cf:Cf) (hE:E=H5 P nt rd) (hP:OE P T) {β σ γ R:Type} {step:σ→Option (List β×(σ⊕R))} {c:Code} {st:St} {H:A4} {K:Exit→St→A4→Prop} (fm:σ→γ→Fl) (Inv:σ→γ→List Nat→List β→A4→Prop) (X:R→Exit→Fl→List Nat→List β→A4→Prop) (Xa:Exit→Fl→List Nat→A4→Prop) (hd:J5 cf c=true)
 (round:∀s g ds w1 w2 H o,Inv s g ds (w1++w2) H→step s=some (w1,o)→run E T nt cf c ⟨fm s g,ds⟩ H fun e st' H'=>match e with
  | .normal=>∃s' g' ds',o= .inl s'∧Gp st'.l (fm s' g')∧st'.df=ds'∧Inv s' g' ds' w2 H'
  |e=>(∃x l ds',o= .inr x∧X x e l ds' w2 H'∧Gp st'.l l∧st'.df=ds')∨∃l ds',Xa e l ds' H'∧Gp st'.l l∧st'.df=ds')
 {N:Nat} {s0:σ} (g0:γ) {w w':List β} {r:R} (h:CG step N s0=some (w,r)) (hdf:st.df=[]) (hf:Gp st.l (fm s0 g0)) (hI:Inv s0 g0 [] (w++w') H) (after:∀e l ds H',X r e l ds w' H'→K e ⟨l,ds⟩ H') (afterA:∀e l ds H',Xa e l ds H'→K e ⟨l,ds⟩ H'):E.sim (.loop c) st H K:=by
 subst hE;refine T4.loopN (fun n fr' H'=>∃s g ds w,CG step n s=some (w,r)∧Dn fr' ⟨fm s g,ds⟩∧Inv s g ds (w++w') H') N ⟨s0,g0,[],w,h,⟨fun t=>hf.wk t,hdf⟩,hI⟩ fun n fr' H' ⟨s,g,ds,w,hs,hle,hi⟩=>?_
 cases n with
 |zero=>cases hs
 | succ n=>
  simp only[CG]at hs
  cases ho:step s with
  |none=>rw[ho]at hs;cases hs
  | some p=>
   obtain⟨w1,o⟩:=p
   rw[ho]at hs
   obtain⟨w2,hw,hrest⟩:∃w2,w=w1++w2∧match o with| .inl s'=>CG step n s'=some (w2,r)| .inr x=>x=r∧w2=[]:=by
    cases o with
    |inl s'=>
     grind
    |inr x=>grind
   subst hw
   rw[F6]at hi
   refine T4.frLe hle ((M0 hP.1 hP.2 c _ _ _ hd (round s g ds w1 (w2++w') H' o hi ho)).mono fun e fr2 H2 ⟨st',hle',hq⟩=>?_)
   have exits:∀e,((∃x l ds',o= .inr x∧X x e l ds' (w2++w') H2∧Gp st'.l l∧st'.df=ds')∨∃l ds',Xa e l ds' H2∧Gp st'.l l∧st'.df=ds')→∃st'',Dn fr2 st''∧K e st'' H2:=by
    intro e hq
    rcases hq with⟨x,l,ds',h1,h4,h2,h3⟩|⟨l,ds',h4,h2,h3⟩
    ·subst h1;obtain⟨rfl,rfl⟩:=hrest;exact⟨⟨l,ds'⟩,⟨fun t=>(hle'.s t).trans (h2.wk t),hle'.df.trans h3⟩,after _ _ _ _ h4⟩
    exact⟨⟨l,ds'⟩,⟨fun t=>(hle'.s t).trans (h2.wk t),hle'.df.trans h3⟩,afterA _ _ _ _ h4⟩
   cases e with
   |normal=>
    obtain⟨s',g',ds',h1,h2,h3,h4⟩:=hq;subst h1;exact⟨n,FH n,s',g',ds',w2,hrest,⟨fun t=>(hle'.s t).trans (h2.wk t),hle'.df.trans h3⟩,h4⟩
   |_=>exact exits _ hq
def KX (cf:Cf) (hE:E=H5 P nt rd) (hP:OE P T) {β σ γ R:Type} {step:σ→Option (List β×(σ⊕R))} {c:Code} {st:St} {H:A4} {K:Exit→St→A4→Prop} (fm:σ→γ→Fl) (Inv:σ→γ→List β→A4→Prop) (X:R→Exit→Fl→List β→A4→Prop) (Xa:Exit→Fl→A4→Prop) (hd:J5 cf c=true)
 (round:∀s g w1 w2 H o,Inv s g (w1++w2) H→step s=some (w1,o)→run E T nt cf c ⟨fm s g,st.df⟩ H fun e st' H'=>match e with
  | .normal=>∃s' g',o= .inl s'∧Gp st'.l (fm s' g')∧st'.df=st.df∧Inv s' g' w2 H'
  |e=>(∃x l,o= .inr x∧X x e l w2 H'∧Gp st'.l l∧st'.df=st.df)∨∃l,Xa e l H'∧Gp st'.l l∧st'.df=st.df)
 {N:Nat} {s0:σ} (g0:γ) {w w':List β} {r:R} (h:CG step N s0=some (w,r)) (hf:Gp st.l (fm s0 g0)) (hI:Inv s0 g0 (w++w') H) (after:∀e l H',X r e l w' H'→K e ⟨l,st.df⟩ H') (afterA:∀e l H',Xa e l H'→K e ⟨l,st.df⟩ H'):E.sim (.loop c) st H K:=by
 subst hE;refine T4.loopN (fun n fr' H'=>∃s g w,CG step n s=some (w,r)∧Dn fr' ⟨fm s g,st.df⟩∧Inv s g (w++w') H') N ⟨s0,g0,w,h,⟨fun t=>hf.wk t,rfl⟩,hI⟩ fun n fr' H' ⟨s,g,w,hs,hle,hi⟩=>?_
 cases n with
 |zero=>cases hs
 | succ n=>
  simp only[CG]at hs
  cases ho:step s with
  |none=>rw[ho]at hs;cases hs
  | some p=>
   obtain⟨w1,o⟩:=p
   rw[ho]at hs
   obtain⟨w2,hw,hrest⟩:∃w2,w=w1++w2∧match o with| .inl s'=>CG step n s'=some (w2,r)| .inr x=>x=r∧w2=[]:=by
    cases o with
    |inl s'=>
     grind
    |inr x=>grind
   subst hw
   rw[F6]at hi
   refine T4.frLe hle ((M0 hP.1 hP.2 c _ _ _ hd (round s g w1 (w2++w') H' o hi ho)).mono fun e fr2 H2 ⟨st',hle',hq⟩=>?_)
   have exits:∀e,((∃x l,o= .inr x∧X x e l (w2++w') H2∧Gp st'.l l∧st'.df=st.df)∨∃l,Xa e l H2∧Gp st'.l l∧st'.df=st.df)→∃st'',Dn fr2 st''∧K e st'' H2:=by
    intro e hq
    rcases hq with⟨x,l,h1,h4,h2,h3⟩|⟨l,h4,h2,h3⟩
    ·subst h1;obtain⟨rfl,rfl⟩:=hrest;exact⟨⟨l,st.df⟩,⟨fun t=>(hle'.s t).trans (h2.wk t),hle'.df.trans h3⟩,after _ _ _ h4⟩
    exact⟨⟨l,st.df⟩,⟨fun t=>(hle'.s t).trans (h2.wk t),hle'.df.trans h3⟩,afterA _ _ _ h4⟩
   cases e with
   |normal=>
    obtain⟨s',g',h1,h2,h3,h4⟩:=hq;subst h1;exact⟨n,FH n,s',g',w2,hrest,⟨fun t=>(hle'.s t).trans (h2.wk t),hle'.df.trans h3⟩,h4⟩
   |_=>exact exits _ hq
end
section
variable {P:Program}{nt:Nat}{T:FY}{E:Eg}{α β σ R ι:Type}
def REI (enc:α→List V)(step:σ→α→Option (List β×(σ⊕R)))(o:σ⊕R)(w':List β)(Inv:σ→List β→A4→A4→Prop)(l:List (List V))(F H:A4):Prop:=
 ∃q:σ×List α×List β,(l=q.2.1.map enc∧Dc step q.2.1 q.1=some (q.2.2,o))∧Inv q.1 (q.2.2++w') F H
def RED (o:σ⊕R)(w':List β)(X:R→Exit→List β→A4→A4→Prop)(Xa:Exit→A4→A4→Prop)(c:Code)(F H:A4):Prop:=
 (∃q:R×Exit,(o= .inr q.1∧Zo q.2=some c)∧X q.1 q.2 w' F H)∨∃q:Exit,Zo q=some c∧Xa q F H
def REJ (enc:α→List V)(step:σ→α→Option (List β×(σ⊕R)))(o:σ⊕R)(w':List β)(fJ:ι→σ→α→Fl)(J:ι→σ→α→List β→A4→A4→Prop)(x:List V)(l:List (List V))(fr:Fr)(F H:A4):Prop:=
 ∃q:ι×σ×α×List α×List β,(x=enc q.2.2.1∧l=q.2.2.2.1.map enc∧Dc step (q.2.2.1::q.2.2.2.1) q.2.1=some (q.2.2.2.2,o)∧Dn fr ⟨fJ q.1 q.2.1 q.2.2.1,[]⟩)∧J q.1 q.2.1 q.2.2.1 (q.2.2.2.2++w') F H
def D9.or {I J:A4→A4→Prop}(h:D9 I)(k:D9 J):D9 fun F H=>I F H∨J F H:=
 ⟨fun hh=>hh.elim (fun x=>h.le x) fun x=>k.le x,fun id b hh e=>hh.imp (fun x=>h.chg id b x e) fun x=>k.chg id b x e⟩
variable {enc:α→List V}{step:σ→α→Option (List β×(σ⊕R))}{g:Operand}{ps:Array Tmp}{asg body:Code}{st:St}{H:A4}{K:Exit→St→A4→Prop}
 {xs:List α} {s0:σ} {o:σ⊕R} {w w':List β}
def PM (cf:Cf) (hE:E=H5 P nt none) (hP:OE P T) (Inv:σ→List β→A4→A4→Prop) (X:R→Exit→List β→A4→A4→Prop) (Xa:Exit→A4→A4→Prop) (fJ:ι→σ→α→Fl) (J:ι→σ→α→List β→A4→A4→Prop)
 (hI:∀s w,D9 (Inv s w)) (hX:∀r e w,D9 (X r e w)) (hXa:∀e,D9 (Xa e)) (hJ:∀i s y w,D9 (J i s y w)) (hit:Gu P ((R0 [] st.l g).V) (xs.map enc)) (h:Dc step xs s0=some (w,o)) {F:A4} (h0:Inv s0 (w++w') F H)
 (hnt:∀p∈ps,p<nt) (hps:∀x,(enc x).length=ps.size) (hda:J5 cf asg=true) (hdb:J5 cf body=true)
 (asgP:∀(E':Eg) (id:Nat) y s w F H,E'=H5 P nt (some id)→Inv s w F H→run E' T nt cf asg ⟨SD ps.toList (enc y) st.l,[]⟩ H fun e st' H'=>match e with| .normal=>∃i,J i s y w F H'∧Gp st'.l (fJ i s y)∧st'.df=[]|_=>False)
 (bodyP:∀(E':Eg) (id:Nat) i y s w1 w2 F H o',E'=H5 P nt (some id)→(∃L,F id=some (.loop L))→step s y=some (w1,o')→J i s y (w1++w2) F H→run E' T nt cf body ⟨fJ i s y,[]⟩ H fun e _ H'=>match e with
  | .normal=>∃s',o'= .inl s'∧Inv s' w2 F H'
  |e=>(∃r,o'= .inr r∧(Zo e).isSome=true∧X r e w2 F H')∨((Zo e).isSome=true∧Xa e F H'))
 (done:∀d s H',o= .inl s→F d=none→Inv s w' (upd F d (some DB)) H'→K .normal ⟨st.l,d::st.df⟩ H')
 (stop:∀d r e H',o= .inr r→F d=none→X r e w' (upd F d (some DB)) H'→K e ⟨st.l,d::st.df⟩ H')
 (stopA:∀d e H',F d=none→Xa e (upd F d (some DB)) H'→K e ⟨st.l,d::st.df⟩ H'):E.sim (.rangeFunc g ps asg body) st H K:=by
 subst hE;have hev:ev (I0 st) g=(R0 [] st.l g).V:=(DH (df:=st.df) Jd.nil g).symm
 rw[←hev]at hit
 have sI:∀l,D9 (REI enc step o w' Inv l):=fun l=>D9.ex fun q=>hI q.1 _;have sD:∀c,D9 (RED o w' X Xa c):=fun c=>D9.or (D9.ex fun q=>hX q.1 q.2 w') (D9.ex fun q=>hXa q);have sJ:∀x l fr,D9 (REJ enc step o w' fJ J x l fr):=fun x l fr=>D9.ex fun q=>hJ q.1 q.2.1 q.2.2.1 _;refine T4.rangeOuter (nt:=nt) hnt (fun x hx=>?_) hit (REI enc step o w' Inv) (RED o w' X Xa) sI sD (REJ enc step o w' fJ J) sJ ⟨⟨s0,xs,w⟩,⟨rfl,h⟩,h0⟩ ?_ ?_ (fun d H' hd ⟨⟨s,ys,w2⟩,⟨hl,hr⟩,hi⟩=>?_) fun c d H' hd hx=>?_
 ·grind
 ·intro id L x l F H ⟨⟨s,ys,w2⟩,⟨hl,hr⟩,hi⟩ _ _
  cases ys with
  |nil=>cases hl
  | cons y ys=>
   simp only[G2,V5]at hl
   obtain⟨rfl,rfl⟩:=hl
   have e:(⟨Gc (I0 st).s ps.toList (enc y),[]⟩:Fr)=I0 ⟨SD ps.toList (enc y) st.l,[]⟩:=by
    simp only[I0,Fr.mk.injEq,J6]
    funext t
    grind[SC]
   rw[e];refine(M0 hP.1 hP.2 asg _ _ _ hda (asgP _ id y s _ F H rfl hi)).mono fun e fr' H1 ⟨st',hle,hq⟩=>?_
   cases e with
   |normal=>
    obtain⟨i,hj,hl,hdf⟩:=hq;exact⟨rfl,⟨i,s,y,ys,w2⟩,⟨rfl,rfl,hr,fun t=>(hle.s t).trans (hl.wk t),hle.df.trans hdf⟩,hj⟩
   |_=>exact hq.elim
 ·intro id L x l fr' F H ⟨⟨i,s,y,ys,w2⟩,⟨hx,hl,hr,hf⟩,hj⟩ hL;subst hx;subst hl
  simp only[Dc]at hr
  cases ho:step s y with
  |none=>rw[ho]at hr;cases hr
  | some p=>
   obtain⟨w1,o'⟩:=p
   rw[ho]at hr
   obtain⟨w3,hw,hrest⟩:∃w3,w2=w1++w3∧match o' with| .inl s'=>Dc step ys s'=some (w3,o)| .inr x=>o= .inr x∧w3=[]:=by
    cases o' with
    |inl s'=>
     grind
    |inr x=>grind
   subst hw
   dsimp only at hj
   rw[F6]at hj
   refine T4.frLe hf ((M0 hP.1 hP.2 body _ _ _ hdb (bodyP _ id i y s w1 (w3++w') F H o' rfl ⟨L,hL⟩ ho hj)).mono fun e fr2 H2 ⟨st',hle,hq⟩=>?_)
   have out:∀e c,Zo e=some c→((∃r,o'= .inr r∧(Zo e).isSome=true∧X r e (w3++w') F H2)∨((Zo e).isSome=true∧Xa e F H2))→RED o w' X Xa c F H2:=by
    intro e c hc hq
    rcases hq with⟨r,h1,_,h3⟩|⟨_,h3⟩
    ·subst h1;obtain⟨rfl,rfl⟩:=hrest;exact .inl ⟨⟨r,e⟩,⟨rfl,hc⟩,h3⟩
    grind[RED]
   cases e with
   |normal=>
    obtain⟨s',h1,h2⟩:=hq;subst h1;exact⟨⟨s',ys,w3⟩,⟨rfl,hrest⟩,h2⟩
   |ret=>exact out .ret _ rfl hq
   |exit k=>exact out (.exit k) _ rfl hq
   |_=>rcases hq with⟨_,_,h,_⟩|⟨h,_⟩<;>cases h
 ·have hys:ys=[]:=by
   simp_all
  subst hys;cases hr;exact⟨⟨st.l,d::st.df⟩,⟨fun t=>Wk.refl _,rfl⟩,done d s H' rfl hd hi⟩
 have fin:∀e,Zo e=some c→K e ⟨st.l,d::st.df⟩ H'→T4 P nt none c {I0 st with df:=d::(I0 st).df} H' fun e fr' H'=>∃st',Dn fr' st'∧K e st' H':=by
  intro e hj hk
  cases e with
  |ret=>cases hj;exact T4.ret ⟨⟨st.l,d::st.df⟩,⟨fun t=>Wk.refl _,rfl⟩,hk⟩
  |exit k=>cases hj;exact T4.exit ⟨⟨st.l,d::st.df⟩,⟨fun t=>Wk.refl _,rfl⟩,hk⟩
  |_=>cases hj
 rcases hx with⟨⟨r,e⟩,⟨ho,hj⟩,hx⟩|⟨e,hj,hx⟩
 ·grind
 grind
end
end Go.Ab
namespace Go.Ab
def Z9 {α:Type}(l:List α)(i:Int):Bool:=decide (0≤i∧i<(l.length:Nat))
def Y6 {α:Type}(l:List α)(i:Int)(u:α→α):Option (List α):=(C6 l i).map fun x=>l.set i.toNat (u x)
def PO {α:Type}(n m:Int)(z:α):Option (List α):=if 0≤n∧n≤m∧m≤1073741824 then some (List.replicate n.toNat z)else none
def SW {α:Type}(l:List α)(i j:Int):Option (List α):=if 0≤i∧i≤j∧j≤(l.length:Nat)then some (l.take i.toNat++l.drop j.toNat)else none
def SP {α:Type}(l:List α)(i:Int)(m:List α):Option (List α):=if 0≤i∧i≤(l.length:Nat)∧l.length+m.length≤1073741824 then some (l.take i.toNat++m++l.drop i.toNat)else none
def KB {α:Type}(_:List α)(n:Int):Option (List α):=if 0≤n∧n≤1073741824 then some []else none
end Go.Ab
namespace Go.Ab
open Go.RowKit
variable [L6][Ar]
def AU.swap {H0 H:A4} {L:List En} (h:AU H0 L H) (i:Nat) {en en':En} {id t:Nat} {b b':Dh} (hi:L[i]? =some en) (he:en.id=some (id,b)) (he':en'.id=some (t,b')) (ht:upd H id none t=none):
 AU H0 (L.set i en') (upd (upd H id none) t (some b')):=by
 have hlt:i<L.length:=by
  grind
 have Lh:∀(j:Nat) e,(L.set i en')[j]? =some e→(j=i∧e=en')∨(j≠i∧L[j]? =some e):=fun j e hj=>by
  rw[O0]at hj
  grind
 have hid:=h.has i _ id b hi he
 have h0:∀x c,H0 x=some c→upd H id none x=some c:=fun x c hx=>by
  rw[C3 _ _ (Ap hid.1 hx)];exact h.ext x c hx
 have hoth:∀(j:Nat) e x c,j≠i→L[j]? =some e→e.id=some (x,c)→H0 x=none∧upd H id none x=some c:=fun j e x c hne hj hx=>by
  have:=h.has j e x c hj hx
  have hxid:x≠id:=fun eq=>by subst eq;exact hne (h.inj j i e _ x c b hj hi hx he)
  simp_all[upd]
 have hid0:H0 t=none:=by
  cases e:H0 t with
  |none=>rfl
  |some c=>rw[h0 t c e]at ht;cases ht
 refine⟨fun x bb hx=>?_,fun j e x bb hj hx=>?_,fun j k e e' x bb bb' hj hk hx hx'=>?_,fun x bb hx=>?_⟩
 rotate_right
 ·by_cases hxi:x=t
  ·grind[upd]
  rw[C3 _ _ hxi]at hx
  have hxid:x≠id:=fun eq=>by simp_all[upd]
  rw[C3 _ _ hxid]at hx
  refine(h.only x bb hx).imp (fun h=>h) fun⟨j,e,h1,h2⟩=>⟨j,e,?_,h2⟩;rw[O0]
  grind
 ·rw[C3 _ _ (Ap hid0 hx)];simp_all
 ·grind[upd]
 rcases Lh j e hj with⟨hji,rfl⟩|⟨hne,hj'⟩<;>rcases Lh k e' hk with⟨hki,rfl⟩|⟨hne',hk'⟩
 ·rw[hji,hki]
 ·rw[he']at hx;grind
 ·rw[he']at hx';grind
 exact h.inj j k e e' x bb bb' hj' hk' hx hx'
def B6.swap {Φ:A4→A4→Prop}{F H:A4}{L:List En}(h:B6 Φ F L H)(i:Nat){id t:Nat}{b b':Dh}(hi:L[i]? =some (.blk id b))(ht:upd H id none t=none):B6 Φ F (L.set i (.blk t b')) (upd (upd H id none) t (some b')):=by
 obtain⟨hs,F',H1,h0,h1,h2⟩:=h;have e:=h0.get i hi;have e1:=hs.le h1 _ _ e;have h3:=hs.chg id none h1 (by rw[e,e1]);have hle:Ei (upd H1 id none) (upd H id none):=h2.upd id none;have hn1:=hle.none ht;have hn':=hs.fresh h3 hn1;exact⟨hs,_,_,h0.swap i hi rfl rfl hn',hs.chg t (some b') h3 (by rw[hn1,hn']),hle.upd t _⟩
def B6.swap' {Φ:A4→A4→Prop}{F H:A4}{L:List En}(h:B6 Φ F L H)(i:Nat){id t:Nat}{b b':Dh}(hi:L[i]? =some (.blk id b))(ht:H t=none):B6 Φ F (L.set i (.blk t b')) (upd H t (some b')):=by
 have hid:=h.get i hi
 have hne:t≠id:=fun e=>by simp_all
 obtain⟨hs,F',H1,h0,h1,h2⟩:=h.swap (b':=b') i hi (t:=t) (by rw[C3 _ _ hne];exact ht)
 grind[B6,upd,Ei]
structure OG where
 id:Nat
 lo:Int
 n:Int
 pre:List V
 rest:List V
def Z0 (q:OG)(m:Int):Prop:=q.lo=(q.pre.length:Nat)∧q.n=m
def Xt {α:Type}{f:α→V}(l:List α):Ar.len l=((lst f l).length:Nat):=by rw[len_eq,M2]
def Ae9 {α:Type}{f:α→V}(l:List α):Ar.len l=Af0 (lst f l):=by rw[Xu,Xt (f:=f) l]
def KM {pre xs rest:List V}{lo n:Int}(h0:lo=(pre.length:Nat))(h1:n=(xs.length:Nat)):L9 (pre++xs++rest) lo n=xs:=by
 simp_all[L9]
theorem Um {pre xs rest ys:List V}{i:Nat}(hi:i=pre.length+xs.length):Ax (pre++xs++rest) i ys=pre++(xs++ys)++rest.drop ys.length:=by
 subst hi;simp only[Ax,F6];rw[show pre++(xs++rest)=(pre++xs)++rest by simp,←I8,List.take_left,List.drop_append];simp
def UM {pre xs rest:List V}{i:Nat}(h:i<xs.length):(pre++xs++rest).getD (pre.length+i) .bad=xs.getD i .bad:=by
 grind
def Al6 {pre xs rest:List V}{i:Nat}{v:V}(h:i<xs.length):(pre++xs++rest).set (pre.length+i) v=pre++xs.set i v++rest:=by
 simp_all
theorem B6.set_self {L:List En}(i:Nat){e:En}(hi:L[i]? =some e):L.set i e=L:=by
 apply Bv
 grind
section
variable {P:Program}{nt:Nat}{rd:Option Nat}{T:FY}{E:Eg}
variable (hE:E=H5 P nt rd)
include hE
variable {α R:Type}{f:α→V}{Φ:A4→A4→Prop}{H0 H:A4}{L:List En}{sz:Nat}{q:OG}{l:List α}{r:R}
theorem Fc (hq:Z0 q (Ar.len l)){k:Int→Prop}(h:k (Ar.len l)):E.olen q.n k:=by
 grind[H5,Z0]
theorem N9 (hO:B6 Φ H0 L H)(hq:Z0 q (Ar.len l))(i:Nat){j:Int}{k:Int→Prop}{F:Unit→Option R}(hi:L[i]? =some (.blk q.id (.arr sz (q.pre++lst f l++q.rest))))(h:(X1 (Z9 l j)).bind F=some r)(hk:F ()=some r→k (ofs q.lo j)):
 E.oidx H q.id sz q.lo q.n j k:=by
 subst hE;obtain⟨x,h1,h2⟩:=bind_some h
 unfold X1 at h1
 split at h1
 ·rename_i hp;refine⟨⟨_,hO.get i hi⟩,?_,hk h2⟩;rw[hq.2,len_eq];grind[Z9]
 cases h1
theorem RA {l:List α}{i:Int}{x:α}(h:C6 l i=some x):(0≤i∧i<(l.length:Nat))∧l[i.toNat]? =some x:=by
 grind[C6]
theorem UC {l:List α}{i:Nat}{x:α}(h:l[i]? =some x):(lst f l).getD i .bad=f x:=by
 rw[lst_eq];simp_all
theorem U4 {g:α→V}(hf:∀x,f x=g x)(hO:B6 Φ H0 L H)(hq:Z0 q (Ar.len l))(i:Nat){j:Int}{k:V→Prop}{F:α→Option R}(hi:L[i]? =some (.blk q.id (.arr sz (q.pre++lst f l++q.rest))))(h:(C6 l j).bind F=some r)(hk:∀x,F x=some r→k (g x)):
 E.oload H q.id (ofs q.lo j) k:=by
 obtain⟨x,h1,h2⟩:=bind_some h;obtain⟨hb,h3⟩:=RA hE h1;have h4:=UC hE (f:=f) h3;subst hE;have e1:=M2 (f:=f) l;refine⟨_,_,hO.get i hi,?_,?_⟩
 ·rw[ofs_eq,hq.1];grind
 rw[ofs_eq,hq.1,show((q.pre.length:Nat)+j:Int).toNat=q.pre.length+j.toNat by omega,UM (by rw[e1];omega),h4,hf]
 grind
theorem Ux {β:Type}{f0:β→V}{esz:Nat}(hO:B6 Φ H0 L H){k:Nat→A4→Prop}(hk:∀(q:OG) id H',Z0 q (Ar.len ([]:List β))→B6 Φ H0 (.blk id (.cells [.own q.id q.lo q.n]):: .blk q.id (.arr esz (q.pre++lst f0 []++q.rest))::L) H'→k id H'):E.oalloc esz H k:=by
 subst hE;intro t id ht hid
 have e:([]:List V)++lst f0 []++[]=[]:=by rw[←B4 (f:=f0)];rfl
 have h0:B6 Φ H0 (.blk t (.arr esz [])::L) (upd H t (some (.arr esz []))):=hO.push ht rfl;have h1:B6 Φ H0 (.blk id (.cells [.own t 0 0]):: .blk t (.arr esz [])::L) (upd (upd H t (some (.arr esz []))) id (some (.cells [.own t 0 0]))):=h0.push hid rfl;refine hk ⟨t,0,0,[],[]⟩ id _ ⟨rfl,by rw[len_eq];rfl⟩ ?_
 simp_all
theorem SJ (hO:B6 Φ H0 L H)(hq:Z0 q (Ar.len l))(i m:Nat){id j:Nat}{cs:List V}{k:A4→Prop}(hi:L[i]? =some (.blk id (.cells cs)))(hm:L[m]? =some (.blk q.id (.arr sz (q.pre++lst f l++q.rest))))(hj:cs[j]? =some (.own q.id q.lo q.n))(him:i≠m)
 (hk:∀H',B6 Φ H0 ((L.set i (.blk id (.cells (cs.set j (.sl (lst f l) .ro))))).eraseIdx m) H'→k H'):E.frzIn H id j k:=by
 subst hE;have h1:=hO.get i hi;have h2:=hO.get m hm
 have hne:q.id≠id:=fun e=>by rw[e,h1]at h2;cases h2
 refine⟨cs,q.id,q.lo,q.n,sz,_,_,h1,hj,h2,.refl _,?_⟩;have h3:=(hO.set i (b':=.cells (cs.set j (.sl (lst f l) .ro))) hi).del m (id:=q.id) (b:=.arr sz (q.pre++lst f l++q.rest)) (by rw[O0,A3 him];exact hm);rw[KM hq.1 (by rw[hq.2,len_eq,M2]),OZ _ _ _ hne]
 grind
theorem Q8 {u:α→α} {esz tz off:Nat} {y:V} (hu:∀x,∃y',BV y y'∧y'.one=true∧y'.cells.length=tz∧Sz (f x) esz tz off y'=f (u x)) (hle:off+tz≤esz) (hO:B6 Φ H0 L H) (hq:Z0 q (Ar.len l)) (i:Nat) {j:Int} {k:A4→Prop} {F:List α→Option R}
 (hi:L[i]? =some (.blk q.id (.arr esz (q.pre++lst f l++q.rest)))) (h:(Y6 l j u).bind F=some r)
 (hk:∀l' H',Z0 q (Ar.len l')→F l'=some r→B6 Φ H0 (L.set i (.blk q.id (.arr esz (q.pre++lst f l'++q.rest)))) H'→k H'):E.ostore H q.id (ofs q.lo j) esz tz off y k:=by
 obtain⟨l',h1,h2⟩:=bind_some h
 unfold Y6 at h1
 cases hx:C6 l j with
 |none=>rw[hx]at h1;cases h1
 | some x=>
  rw[hx]at h1
  simp only[J4,E8]at h1
  obtain⟨hb,h3⟩:=RA hE hx;obtain⟨y',q1,q2,q3,q4⟩:=hu x;have e1:=UC hE (f:=f) h3
  have e2:(lst f l).set j.toNat (f (u x))=lst f l':=by
   rw[←h1,lst_eq,lst_eq,List.map_set]
  subst hE;have el:=M2 (f:=f) l
  have ej:(ofs q.lo j).toNat=q.pre.length+j.toNat:=by rw[ofs_eq,hq.1];omega
  refine⟨_,y',q1,q2,q3,hle,hO.get i hi,?_,?_⟩
  ·rw[ofs_eq,hq.1];grind
  rw[ej,UM (by rw[el];omega),Al6 (by rw[el];omega),e1,q4,e2];refine hk l' _ ⟨hq.1,?_⟩ h2 (hO.set i hi);rw[hq.2,len_eq,len_eq,←h1,List.length_set]
theorem Mt {by_:Nat} (hby:by_≤131072) {z:V} {z0:α} (hz:BV z (f z0)) (hO:B6 Φ H0 L H) {n m:Int} {k:V→A4→Prop} {F:List α→Option R} (h:(PO n m z0).bind F=some r)
 (hk:∀l' (q:OG) H',Z0 q (Ar.len l')→F l'=some r→B6 Φ H0 (.blk q.id (.arr sz (q.pre++lst f l'++q.rest))::L) H'→k (.own q.id q.lo q.n) H'):E.omk sz by_ z n m H k:=by
 subst hE;obtain⟨l',h1,h2⟩:=bind_some h
 unfold PO at h1
 split at h1
 ·rename_i hc;cases h1;refine⟨⟨hc.1,hc.2.1,?_⟩,List.replicate m.toNat (f z0),?_,fun id hid=>?_⟩
  ·have:m*(by_:Nat)≤1073741824*131072:=Int.mul_le_mul hc.2.2 (by omega) (by omega) (by omega);omega
  ·have:∀k:Nat,L5 (List.replicate k z) (List.replicate k (f z0)):=fun k=>by
    induction k with
    |zero=>exact .nil
    |succ k ih=>rw[Dy,Dy];exact .cons hz ih
   exact this _
  have e:List.replicate m.toNat (f z0)=[]++lst f (List.replicate n.toNat z0)++List.replicate (m.toNat-n.toNat) (f z0):=by
   rw[lst_eq,List.map_replicate,N1,NU];grind
  rw[e];exact hk _ ⟨id,0,n,[],List.replicate (m.toNat-n.toNat) (f z0)⟩ _ ⟨rfl,by rw[len_eq];simp;omega⟩ h2 (hO.push hid rfl)
 cases h1
theorem Ey {by_:Nat} {z:V} (hsz:∀x,(f x).cells.length=sz) (hby:by_≤131072) (hO:B6 Φ H0 L H) (hq:Z0 q (Ar.len l)) (i:Nat) (hi:L[i]? =some (.blk q.id (.arr sz (q.pre++lst f l++q.rest)))) {y:V} {m:List α} {k:V→A4→Prop} {F:List α→Option R}
 (hs:OC sz H y (lst f m)) (h:(I1 l m).bind F=some r)
 (hk:∀x (q:OG) H',Z0 q (Ar.len x)→B6 Φ H0 (L.set i (.blk q.id (.arr sz (q.pre++lst f x++q.rest)))) H'→F x=some r→k (.own q.id q.lo q.n) H'):E.oapp sz by_ z H (.own q.id q.lo q.n) y k:=by
 subst hE;obtain⟨x,h1,h2⟩:=bind_some h;have el:=M2 (f:=f) l;have em:=M2 (f:=f) m
 have hn:q.n=(l.length:Nat):=by rw[hq.2,len_eq]
 unfold I1 at h1
 split at h1
 ·rename_i hc;cases h1;refine⟨_,hs,_,hO.get i hi,fun hfit=>?_,fun _=>⟨?_,fun t j ht=>?_⟩⟩
  rotate_left
  ·rw[em,hn,K0];exact V2 (V3 hc hby) (by decide)
  rotate_left
  ·have e:Ax (q.pre++lst f l++q.rest) (q.lo+q.n).toNat (lst f m)=q.pre++lst f (l++m)++q.rest.drop m.length:=by
    rw[Um (by rw[hq.1,hn,el];omega),KZ,em]
   rw[e];refine hk _ ⟨q.id,q.lo,q.n+((lst f m).length:Nat),q.pre,q.rest.drop m.length⟩ _ ⟨hq.1,?_⟩ (hO.set i hi) h2;rw[len_eq,hn,em];simp
  have e:L9 (q.pre++lst f l++q.rest) q.lo q.n++lst f m++List.replicate j z=[]++lst f (l++m)++List.replicate j z:=by
   rw[KM hq.1 (by rw[el];exact hn),KZ,N1]
  rw[e];refine hk _ ⟨t,0,q.n+((lst f m).length:Nat),[],List.replicate j z⟩ _ ⟨rfl,?_⟩ (hO.swap' i hi ht) h2;rw[len_eq,hn,em];simp
 cases h1
theorem Xj {by_:Nat} {z:V} (hsz:∀x,(f x).cells.length=sz) (hby:by_≤131072) (hO:B6 Φ H0 L H) {x:V} (hx:x= .sl [] .nil∨x= .sl [] .full) {y:V} {m:List α} {k:V→A4→Prop} {F:List α→Option R}
 (hs:OC sz H y (lst f m)) (h:(I1 [] m).bind F=some r)
 (hk:∀x (q:OG) H',Z0 q (Ar.len x)→B6 Φ H0 (.blk q.id (.arr sz (q.pre++lst f x++q.rest))::L) H'→F x=some r→k (.own q.id q.lo q.n) H'):E.oapp sz by_ z H x y k:=by
 subst hE;obtain⟨x',h1,h2⟩:=bind_some h;have em:=M2 (f:=f) m
 unfold I1 at h1
 split at h1
 ·rename_i hc;cases h1;refine⟨_,hs,?_⟩
  have key:(lst f m).length*by_≤140737488355328∧∀t j,H t=none→k (.own t 0 ((lst f m).length:Nat)) (upd H t (some (.arr sz (lst f m++List.replicate j z)))):=by
   refine⟨?_,fun t j ht=>?_⟩
   ·rw[em];exact V2 (V3 (by simpa using hc) hby) (by decide)
   refine hk m ⟨t,0,((lst f m).length:Nat),[],List.replicate j z⟩ _ ⟨rfl,by rw[len_eq,em]⟩ ?_ (by grind);exact hO.push ht rfl
  grind[Gt]
 cases h1
theorem Z5 (h:Z0 q (Ar.len l)):Z0 q ((lst f l).length:Nat):=⟨h.1,by rw[h.2,len_eq,M2]⟩
theorem Al3 (hO:B6 Φ H0 L H)(hq:Z0 q (Ar.len l))(i:Nat)(hi:L[i]? =some (.blk q.id (.arr sz (q.pre++lst f l++q.rest)))):OC sz H (.own q.id q.lo q.n) (lst f l):=by
 refine⟨_,hO.get i hi,?_⟩;rw[KM hq.1 (by rw[hq.2,len_eq,M2])];exact .refl _
theorem Cz (hsz:∀x,(f x).cells.length=sz){ys:List V}{tl:D2}(h:L5 ys (lst f l)):OC sz H (.sl ys tl) (lst f l):=⟨h,II hsz l⟩
theorem Uv (hO:B6 Φ H0 L H) (hq:Z0 q (Ar.len l)) (i:Nat) (hi:L[i]? =some (.blk q.id (.arr sz (q.pre++lst f l++q.rest)))) {lo hi':Option Int} {k:V→Prop} {F:List α→Option R}
 (h:(S8 l lo hi' none).bind F=some r) (hk:∀x (q:OG),Z0 q (Ar.len x)→B6 Φ H0 (L.set i (.blk q.id (.arr sz (q.pre++lst f x++q.rest)))) H→F x=some r→k (.own q.id q.lo q.n)):
 E.oslice sz H q.id q.lo q.n lo hi' none k:=by
 subst hE;obtain⟨x,h1,h2⟩:=bind_some h;have el:=M2 (f:=f) l
 have hn:q.n=(l.length:Nat):=by rw[hq.2,len_eq]
 unfold S8 at h1
 split at h1
 ·rename_i hc;cases h1;obtain⟨c1,c2,c3,c4,c5⟩:=hc
  simp only[Cm]at c3
  refine⟨_,hO.get i hi,?_,?_⟩
  ·rw[hn,hq.1]
   grind
  rw[hn]
  generalize hA:lo.getD 0=a at *
  generalize hB:hi'.getD (l.length:Nat)=b at *
  have hm:((l.drop a.toNat).take (b.toNat-a.toNat)).length=b.toNat-a.toNat:=by simp;omega
  refine hk _ ⟨q.id,q.lo+a,b-a,q.pre++lst f (l.take a.toNat),lst f (l.drop b.toNat)++q.rest⟩ ⟨?_,?_⟩ ?_ h2
  ·simp only[I8,M2,Y4,hq.1];omega
  ·rw[len_eq,hm];grind
  have e:q.pre++lst f (l.take a.toNat)++lst f ((l.drop a.toNat).take (b.toNat-a.toNat))++(lst f (l.drop b.toNat)++q.rest)=q.pre++lst f l++q.rest:=by
   have e1:l=l.take a.toNat++((l.drop a.toNat).take (b.toNat-a.toNat)++l.drop b.toNat):=by
    have e2:l.drop b.toNat=(l.drop a.toNat).drop (b.toNat-a.toNat):=by rw[FE];grind
    rw[e2,Bz,Bz]
   have e3:lst f l=lst f (l.take a.toNat)++(lst f ((l.drop a.toNat).take (b.toNat-a.toNat))++lst f (l.drop b.toNat)):=by
    rw[KZ,KZ,←e1]
   rw[e3];grind
  grind[B6.set_self]
 cases h1
theorem YG (hO:B6 Φ H0 L H)(hq:Z0 q (Ar.len l))(i:Nat)(hi:L[i]? =some (.blk q.id (.arr sz (q.pre++lst f l++q.rest)))){lo hi':Option Int}{k:V→Prop}{F:List α→Option R}
 (h:(S8 l lo hi' none).bind F=some r) (hk:∀x (q':OG),OC sz H (.own q'.id q'.lo q'.n) (lst f x)→F x=some r→k (.own q'.id q'.lo q'.n)):
 E.oslice sz H q.id q.lo q.n lo hi' none k:=
 Uv hE hO hq i hi h fun x q' hq' hO' h2=>hk x q' (Al3 hE hO' hq' i (by rw[O0];grind)) h2
theorem Nl (hO:B6 Φ H0 L H)(hq:Z0 q (Ar.len l))(i:Nat){k:List V→A4→Prop}(hi:L[i]? =some (.blk q.id (.arr sz (q.pre++lst f l++q.rest))))(hk:∀H',B6 Φ H0 (L.eraseIdx i) H'→k (lst f l) H'):E.ofrz H q.id q.lo q.n k:=by
 subst hE;have:=hk _ (hO.del i hi);refine⟨_,_,_,hO.get i hi,.refl _,?_⟩;rw[KM hq.1 (by rw[hq.2,len_eq,M2])];exact this
end
def UB {α:Type}{f:α→V}{l:List α}(h:lst f l=[]):l=[]:=by
 rw[lst_eq]at h;simp_all
def Vn {α:Type}{f:α→V}{l r:List α}(hx:lst f l=[])(h:(I1 [] l).bind (fun x=>some x)=some r):lst f r=[]:=by
 rw[UB hx]at h
 grind[I1,lst_eq]
def WH (F:A4)(sz:Nat)(xs:List V)(v:V)(H':A4):Prop:=∃q:OG,v= .own q.id q.lo q.n∧Z0 q (xs.length:Nat)∧F q.id=none∧H'=upd F q.id (some (.arr sz (q.pre++xs++q.rest)))
def Lu (P:Program)(f:FuncId)(args:List V)(sz:Nat)(xs:List V):Prop:=∀H,J1 P f args H (WH H sz xs)
def NE (P:Program)(f:FuncId)(args:List V)(sz:Nat)(xs xs':List V):Prop:=
 ∀H (q:OG),Z0 q (xs.length:Nat)→H q.id=some (.arr sz (q.pre++xs++q.rest))→J1 P f (.own q.id q.lo q.n::args) H (WH (upd H q.id none) sz xs')
def Ib (mk:V→V):Prop:=∀(g:Gh) (w:World) (u:Value) (x:V),VR g w u (mk x)→∃v,VR g w v x∧∀(g':Gh) (w':World) (y:V),U3 g w g' w'→VR g' w' v y→VR g' w' u (mk y)
theorem Ib.id:Ib fun x=>x:=fun _ _ u _ h=>⟨u,h,fun _ _ _ _ k=>k⟩
def Ib.agg (cs:List V) (i:Nat) (hi:i<cs.length):Ib fun x=>.agg (cs.set i x):=fun g w u x h=>by
 cases h with
 |agg hl h1 hv=>
  rename_i vs
  have hi':i<(cs.set i x).length:=by grind
  refine⟨vs.getD i undef,by have:=hv i hi';rwa[Ec hi,A1 rfl]at this,fun g' w' y s k=>?_⟩;refine .agg (by grind) (fun j hj=>h1 j (by grind)) fun j hj=>?_;rw[Ec hi]
  split
  ·simp_all
  rename_i e;have:=hv j (by grind)
  rw[Ec hi,A3 e]at this
  exact this.mono s
def Ib.tup (cs:List V) (i:Nat) (hi:i<cs.length):Ib fun x=>.tup (cs.set i x):=fun g w u x h=>by
 cases h with
 |tup hl hv=>
  rename_i vs
  have hi':i<(cs.set i x).length:=by grind
  refine⟨vs.getD i undef,by have:=hv i hi';rwa[Ec hi,A1 rfl]at this,fun g' w' y s k=>?_⟩;refine .tup (by grind) fun j hj=>?_;rw[Ec hi]
  split
  ·simp_all
  rename_i e;have:=hv j (by grind)
  rw[Ec hi,A3 e]at this
  exact this.mono s
def J1.adopt {P:Program} {f:FuncId} {args:List V} {H:A4} {K:V→A4→Prop} {sz:Nat} (h:J1 P f args H fun x H'=>K x H'∨(x= .sl [] .nil∧∀t,H' t=none→K (.own t 0 0) (upd H' t (some (.arr sz []))))):J1 P f args H K:=
 fun g w vals hR hA=>(h g w vals hR hA).mono fun v w' ⟨g',x,H',s,hR',hv,hK⟩=>by
  rcases hK with hK|⟨rfl,hK⟩
  ·grind[L4]
  obtain⟨g2,s2,hR2,hn,hv2⟩:=DY hR' sz (.inl rfl) hv;exact⟨g2,_,_,s.trans s2,hR2,hv2,hK _ hn⟩
def As2 (F:A4)(sz:Nat)(xs:List V)(mk:V→V)(v:V)(H':A4):Prop:=∃q:OG,v=mk (.own q.id q.lo q.n)∧Z0 q (xs.length:Nat)∧F q.id=none∧H'=upd F q.id (some (.arr sz (q.pre++xs++q.rest)))
def Aj5 (P:Program)(f:FuncId)(args:List V)(sz:Nat)(xs:List V)(mk:V→V):Prop:=∀H,J1 P f args H (As2 H sz xs mk)
def J1.adoptG {P:Program} {f:FuncId} {args:List V} {H:A4} {K:V→A4→Prop} {sz:Nat} {mk:V→V} (hm:Ib mk) (h:J1 P f args H fun x H'=>K x H'∨(x=mk (.sl [] .nil)∧∀t,H' t=none→K (mk (.own t 0 0)) (upd H' t (some (.arr sz []))))):J1 P f args H K:=
 fun g w vals hR hA=>(h g w vals hR hA).mono fun v w' ⟨g',x,H',s,hR',hv,hK⟩=>by
  rcases hK with hK|⟨rfl,hK⟩
  ·grind[L4]
  obtain⟨u,hu,hb⟩:=hm g' w' v _ hv;obtain⟨g2,s2,hR2,hn,hv2⟩:=DY hR' sz (.inl rfl) hu;exact⟨g2,_,_,s.trans s2,hR2,hb _ _ _ s2 hv2,hK _ hn⟩
def B6.last {F H:A4}{t:Nat}{b:Dh}(h:B6 Eq F [.blk t b] H):F t=none∧Ei (upd F t (some b)) H:=by
 obtain⟨hs,F',H1,h0,h1,h2⟩:=h;subst h1;have h3:=h0.has 0 _ t b rfl rfl;refine⟨h3.1,fun x c hx=>?_⟩
 by_cases e:x=t
 ·grind[Ei,upd]
 rw[C3 _ _ e]at hx;exact h2 _ _ (h0.ext x c hx)
def B6.only {F H:A4}{L:List En}{t:Nat}{b:Dh}(h:B6 Eq F L H)(i:Nat)(hi:L[i]? =some (.blk t b)):B6 Eq F [.blk t b] H:=by
 obtain⟨hs,F',H1,h0,h1,h2⟩:=h;subst h1;have h3:=h0.has i _ t b hi rfl;refine⟨hs,upd F t (some b),upd F t (some b),(AU.start F).push h3.1 rfl,rfl,fun x c hx=>?_⟩
 by_cases e:x=t
 ·grind[Ei,upd]
 rw[C3 _ _ e]at hx;exact h2 _ _ (h0.ext x c hx)
def B6.only1 {F H:A4}{L:List En}{t:Nat}{b:Dh}(h:B6 Eq F (.blk t b::L) H):B6 Eq F [.blk t b] H:=by
 obtain⟨hs,F',H1,h0,h1,h2⟩:=h;subst h1;have h3:=h0.has 0 _ t b rfl rfl;refine⟨hs,upd F t (some b),upd F t (some b),(AU.start F).push h3.1 rfl,rfl,fun x c hx=>?_⟩
 by_cases e:x=t
 ·grind[Ei,upd]
 rw[C3 _ _ e]at hx;exact h2 _ _ (h0.ext x c hx)
section
variable {P:Program}{T:FY}{f:FuncId}{fn:Func}{c:Code}{n:Nat}{rs:List ResultVar}{args:List V}
def BU {F H:A4}{sz:Nat}{xs:List V}(cf:Cf)(hP:OE P T)(hf:P.funcs[f]? =some fn)(hb:fn.body=some c)(hd:J5 cf c=true)
 (hcall:∀vals w,(callFunc f vals).run P w= .ok (.enter f vals) w) (hnt:fn.ntmps=n) (hrs:fn.results.toList=rs) (hn:Nat.ble args.length n=true)
 (h:∀(E:Eg) (K:V→A4→Prop),E=H5 P n none→(∀(q:OG) L H',Z0 q (xs.length:Nat)→B6 Eq F (.blk q.id (.arr sz (q.pre++xs++q.rest))::L) H'→K (.own q.id q.lo q.n) H')→(xs=[]→∀L H',B6 Eq F L H'→K (.sl [] .nil) H')→run E T n cf c ⟨BF args 0,[]⟩ H (LR E T rs K)):
 J1 P f args H (WH F sz xs):=by
 refine J1.adopt (sz:=sz) (J1.le (R4 (K:=fun x H'=>∃y H2,BV x y∧Ei H2 H'∧(WH F sz xs y H2∨(y= .sl [] .nil∧∀t,H2 t=none→WH F sz xs (.own t 0 0) (upd H2 t (some (.arr sz [])))))) cf hP.1 hP.2 hf hb hd hcall hnt hrs hn fun E hE=>?_));refine h E _ hE (fun q L H' hq hO=>?_) fun hx L H' hO=>?_
 ·obtain⟨h1,h2⟩:=hO.only1.last;exact⟨_,_,.refl _,h2,.inl ⟨q,rfl,hq,h1,rfl⟩⟩
 exact⟨_,F,.refl _,hO.ext,.inr ⟨rfl,fun t ht=>⟨⟨t,0,0,[],[]⟩,rfl,⟨rfl,by rw[hx];rfl⟩,ht,by rw[hx];rfl⟩⟩⟩
end
section
variable {P:Program}{nt:Nat}{rd:Option Nat}{T:FY}{E:Eg}
variable (hE:E=H5 P nt rd)
include hE
theorem SK {α β R:Type} {f:α→V} {Φ:A4→A4→Prop} {H0 H:A4} {L:List En} {sz:Nat} {r:R} {m:Option β} {F:β→Option R} {g:β→List α} {mk:β→V→V} {fid:FuncId} {args args':List V} {k:V→A4→Prop}
 (h:m.bind F=some r) (hc:∀x,m=some x→Aj5 P fid args' sz (lst f (g x)) (mk x)) (hl:L5 args args') (hO:B6 Φ H0 L H)
 (hk:∀x (q:OG) H',Z0 q (Ar.len (g x))→B6 Φ H0 (.blk q.id (.arr sz (q.pre++lst f (g x)++q.rest))::L) H'→F x=some r→k (mk x (.own q.id q.lo q.n)) H'):
 E.call (.func (.func fid) [] []) args H k:=by
 subst hE;obtain⟨x,h1,h2⟩:=bind_some h;refine J1.value (F:=[]) (C:=[]) ?_;have:=((hc x h1) H).args hl;simp only[N1,G9]
 exact this.mono fun v H' ⟨q,e1,e0,e2,e3⟩=>by
  subst e1;subst e3;exact hk x q _ (by rw[len_eq];rwa[M2]at e0) (hO.push e2 rfl) h2
variable {α R S:Type}{f:α→V}{Φ:A4→A4→Prop}{H0 H:A4}{L:List En}{sz:Nat}{q:OG}{r:R}{m:Option (List α)}{F:List α→Option R}{fid:FuncId}{args args':List V}{k:V→A4→Prop}
theorem Fs (h:m.bind F=some r) (hc:∀x,m=some x→Lu P fid args' sz (lst f x)) (hl:L5 args args') (hO:B6 Φ H0 L H)
 (hk:∀x (q:OG) H',Z0 q (Ar.len x)→B6 Φ H0 (.blk q.id (.arr sz (q.pre++lst f x++q.rest))::L) H'→F x=some r→k (.own q.id q.lo q.n) H'):
 E.call (.func (.func fid) [] []) args H k:=by
 subst hE;obtain⟨x,h1,h2⟩:=bind_some h;refine J1.value (F:=[]) (C:=[]) ?_;have:=((hc x h1) H).args hl;simp only[N1,G9]
 exact this.mono fun v H' ⟨q,e1,e0,e2,e3⟩=>by
  subst e1;subst e3;exact hk x q _ (by rw[len_eq];rwa[M2]at e0) (hO.push e2 rfl) h2
theorem Mw {l:List α} (hO:B6 Φ H0 L H) (hq:Z0 q (Ar.len l)) (i:Nat) (hi:L[i]? =some (.blk q.id (.arr sz (q.pre++lst f l++q.rest)))) (h:m.bind F=some r) (hc:∀x,m=some x→NE P fid args' sz (lst f l) (lst f x)) (hl:L5 args args')
 (hk:∀x (q:OG) H',Z0 q (Ar.len x)→B6 Φ H0 (L.set i (.blk q.id (.arr sz (q.pre++lst f x++q.rest)))) H'→F x=some r→k (.own q.id q.lo q.n) H'):
 E.call (.func (.func fid) [] []) (.own q.id q.lo q.n::args) H k:=by
 subst hE;obtain⟨x,h1,h2⟩:=bind_some h;refine J1.value (F:=[]) (C:=[]) ?_;have:=((hc x h1) H q (by rw[M2,←len_eq];exact hq) (hO.get i hi)).args (.cons (.refl _) hl);simp only[N1,G9]
 exact this.mono fun v H' ⟨q',e1,e0,e2,e3⟩=>by
  subst e1;subst e3;exact hk x q' _ (by rw[len_eq];rwa[M2]at e0) (hO.swap i hi e2) h2
theorem Ad4 {p:Prop}{v:V}{a b:Unit→Prop}(hv:YF v=some p)(h1:p→a ())(h0:b ()):E.nilc v a b:=by grind[H5]
end
section
variable {P:Program}{T:FY}{f:FuncId}{fn:Func}{c:Code}{n:Nat}{rs:List ResultVar}{args:List V}
def Qs {H:A4} {sz:Nat} {q:OG} {xs':List V} (cf:Cf) (hP:OE P T) (hf:P.funcs[f]? =some fn) (hb:fn.body=some c) (hd:J5 cf c=true)
 (hcall:∀vals w,(callFunc f vals).run P w= .ok (.enter f vals) w) (hnt:fn.ntmps=n) (hrs:fn.results.toList=rs) (hn:Nat.ble (args.length+1) n=true)
 (h:∀(E:Eg) (K:V→A4→Prop),E=H5 P n none→
  (∀(t:Nat) (lo m:Int) (row pre rest:List V) H',row=pre++xs'++rest→lo=(pre.length:Nat)→m=(xs'.length:Nat)→(t=q.id∨H t=none)→Ei (upd (upd H q.id none) t (some (.arr sz row))) H'→K (.own t lo m) H')→
  run E T n cf c ⟨BF (.own q.id q.lo q.n::args) 0,[]⟩ H (LR E T rs K)):
 J1 P f (.own q.id q.lo q.n::args) H (WH (upd H q.id none) sz xs'):=by
 refine J1.le (R4 (K:=fun x H'=>∃y H2,BV x y∧Ei H2 H'∧WH (upd H q.id none) sz xs' y H2) cf hP.1 hP.2 hf hb hd hcall hnt hrs hn fun E hE=>?_);refine h E _ hE fun t lo m row pre rest H' e1 e2 e3 e4 e5=>?_;subst e1;refine⟨_,_,.refl _,e5,⟨t,lo,m,pre,rest⟩,rfl,⟨e2,e3⟩,?_,rfl⟩
 grind[upd]
end
section
variable {P:Program}{nt:Nat}{rd:Option Nat}{T:FY}{E:Eg}
variable (hE:E=H5 P nt rd)
include hE
variable {H:A4}{sz id:Nat}{l n RL:Int}{row:List V}
theorem T8 (hk:H id=some (.arr sz row))(hl:RL=(row.length:Nat)){lo hi:Option Int}{k:V→Prop}(a b:Int)(ha:lo.getD 0=a)(hb:hi.getD n=b)(h1:0≤a)(h2:a≤b)(h3:l+b≤RL)(h:∀l' n',l'=l+a→n'=b-a→k (.own id l' n')):
 E.oslice sz H id l n lo hi none k:=by
 grind[H5]
theorem Yw (hk:H id=some (.arr sz row))(hl:RL=(row.length:Nat)){lo hi:Option Int}{m:Int}{k:V→Prop}(a b:Int)(ha:lo.getD 0=a)(hb:hi.getD n=b)(h1:0≤a)(h2:a≤b)(h3:b≤m)(h4:l+m≤RL)(h5:hi.isSome=true)(h:k .bad):
 E.oslice sz H id l n lo hi (some m) k:=by
 grind[H5]
theorem Av9 (hk:H id=some (.arr sz row))(hl:RL=(row.length:Nat)){k:Int→Prop}(h:∀c,c=RL-l→k c):E.ocap H id l k:=by
 grind[H5]
theorem Sx {k:Int→Prop}(h:k n):E.olen n k:=by grind[H5]
theorem Kh {c:Bool}{x y:Unit→Prop}(h1:c=true→x ())(h2:c=false→y ()):E.br c x y:=by simp_all[H5]
theorem Ng {xs:List V}(hl:RL=(xs.length:Nat)){k:Int→Prop}(h:k RL):E.ln xs k:=by simp_all[H5]
theorem KR {k:V→Prop}(h:k (.sl [] .nil)):E.slice sz [] .nil none (some 0) none k:=by
 subst hE;exact⟨⟨by decide,by decide,by decide,by decide,fun h=>(by cases h),.inl (by decide)⟩,h⟩
theorem Si (hk:H id=some (.arr sz row)):OC sz H (.own id l n) (L9 row l n):=⟨_,hk,.refl _⟩
theorem Mo (hk:H id=some (.arr sz row)){y:V}{ys':List V}(hs:OC sz H y ys'){YL:Int}(hy:YL=(ys'.length:Nat)){k:V→A4→Prop}
 (h:∀m row',m=(if n<YL then n else YL)→row'=Ax row l.toNat (ys'.take n.toNat)→k (.int .i64 m) (upd H id (some (.arr sz row')))):E.ocopy sz H (.own id l n) y k:=by
 grind[H5]
theorem Ab3 {z:V}(hk:H id=some (.arr sz row)){k:A4→Prop}(h:∀row',row'=Ax row l.toNat (List.replicate n.toNat z)→k (upd H id (some (.arr sz row')))):E.oclear sz z H (.own id l n) k:=by
 simp_all[H5]
theorem Ab4 {by_:Nat}{z:V}(hk:H id=some (.arr sz row))(hl:RL=(row.length:Nat)){y:V}{ys':List V}(hs:OC sz H y ys'){YL:Int}(hy:YL=(ys'.length:Nat)){k:V→A4→Prop}
 (hin:l+n+YL≤RL→∀m row',m=n+YL→row'=Ax row (l+n).toNat ys'→k (.own id l m) (upd H id (some (.arr sz row'))))
 (hout:RL<l+n+YL→(n.toNat+ys'.length)*by_≤140737488355328∧∀t m row' j,H t=none→m=n+YL→row'=L9 row l n++ys'++List.replicate j z→k (.own t 0 m) (upd H t (some (.arr sz row')))):
 E.oapp sz by_ z H (.own id l n) y k:=by
 subst hE;subst hl;subst hy;exact⟨_,hs,_,hk,fun e=>hin e _ _ rfl rfl,fun e=>⟨(hout e).1,fun t j ht=>(hout e).2 t _ _ j ht rfl rfl⟩⟩
theorem Am4 {by_:Nat} {z:V} {i0:Int} (i:Int) (hi:i0=i) (hk:H id=some (.arr sz row)) (hl:RL=(row.length:Nat)) (h0:0≤i) (hb:(n.toNat+i.toNat)*by_≤140737488355328) {k:V→A4→Prop}
 (hin:l+n+i≤RL→∀m row',m=n+i→row'=Ax row (l+n).toNat (List.replicate i.toNat z)→k (.own id l m) (upd H id (some (.arr sz row'))))
 (hout:RL<l+n+i→∀t m row' j,H t=none→m=n+i→row'=L9 row l n++List.replicate i.toNat z++List.replicate j z→k (.own t 0 m) (upd H t (some (.arr sz row')))):
 E.oappz sz by_ z H (.own id l n) i0 k:=by
 subst hE;subst hl;subst hi
 generalize i0=i at *
 have e:((i.toNat:Nat):Int)=i:=by omega
 have hbn:n.toNat+i.toNat≤(n.toNat+i.toNat)*by_∨by_=0:=by
  rcases Nat.eq_zero_or_pos by_ with h|h
  ·exact .inr h
  simp_all[JJ]
 refine⟨⟨h0,hb⟩,_,hk,fun hle=>?_,fun hlt=>⟨?_,fun t j ht=>?_⟩⟩
 ·simp_all
 ·grind
 simp_all
theorem Il {by_:Nat} {z x:V} {i0:Int} (i:Int) (hi:i0=i) (hx:x= .sl [] .nil∨x= .sl [] .full) (h0:0≤i) (hb:i.toNat*by_≤140737488355328) {k:V→A4→Prop}
 (hout:∀t m row' j,H t=none→m=i→row'=List.replicate i.toNat z++List.replicate j z→k (.own t 0 m) (upd H t (some (.arr sz row')))):
 E.oappz sz by_ z H x i0 k:=by
 subst hE;subst hi
 generalize i0=i at *
 have e:((i.toNat:Nat):Int)=i:=by omega
 have key:Gt H k sz by_ z x (List.replicate i.toNat z):=by
  have h2:(List.replicate i.toNat z).length*by_≤140737488355328∧∀t j,H t=none→k (.own t 0 ((List.replicate i.toNat z).length:Nat)) (upd H t (some (.arr sz (List.replicate i.toNat z++List.replicate j z)))):=by
   simp_all
  grind[Gt]
 refine⟨⟨h0,?_⟩,key⟩
 rcases hx with rfl|rfl<;>simpa[ownN]using hb
end
end Go.Ab
namespace Go.Ab
open Go.RowKit
def Pf {A B C row:List V}{lo n:Int}(hr:row=A++B++C)(h0:lo=(A.length:Nat))(h1:n=(B.length:Nat)):L9 row lo n=B:=by
 simp_all[L9]
def IF {A B C ys row:List V}{i:Nat}(hr:row=A++B++C)(hi:i=A.length)(hl:ys.length=B.length):Ax row i ys=A++ys++C:=by
 simp_all[Ax]
def Al1 {row ys:List V}{l n m RL:Int}(hRL:RL=(row.length:Nat))(hy:m=(ys.length:Nat))(h0:0≤l)(h1:0≤n)(h:l+n+m≤RL):(l+n).toNat+ys.length≤row.length:=by omega
def Aq7 {pre xs rest row row1 row2:List V} {z:V} {lo i j n l1 n1 l2 n2 m l3 n3:Int} (hr:row=pre++xs++rest) (e1:lo=(pre.length:Nat)) (e2:n=(xs.length:Nat)) (h0:0≤i) (h1:i≤j) (h2:j≤(xs.length:Nat))
 (q1:l1=lo) (q2:n1=i) (q3:l2=lo+j) (q4:n2=n-j) (hr1:row1=Ax row (l1+n1).toNat (L9 row l2 n2)) (q5:m=n1+((L9 row l2 n2).length:Nat)) (q6:l3=l1+m) (q7:n3=n-m) (hr2:row2=Ax row1 l3.toNat (List.replicate n3.toNat z)):
 row2=pre++(xs.take i.toNat++xs.drop j.toNat)++(List.replicate (j-i).toNat z++rest)∧m=((xs.take i.toNat++xs.drop j.toNat).length:Nat):=by
 have e3:L9 row l2 n2=xs.drop j.toNat:=by
  refine Pf (A:=pre++xs.take j.toNat) (C:=rest) ?_ ?_ ?_
  ·rw[hr];simp_all
  ·simp;omega
  grind
 rw[e3]at hr1 q5
 have hm:m=((xs.take i.toNat++xs.drop j.toNat).length:Nat):=by grind
 refine⟨?_,hm⟩
 have hr1':row1=(pre++xs.take i.toNat)++xs.drop j.toNat++((xs.drop i.toNat).drop (xs.length-j.toNat)++rest):=by
  rw[hr1];refine IF (B:=(xs.drop i.toNat).take (xs.length-j.toNat)) ?_ ?_ ?_
  ·rw[hr]
   grind[List.take_append_drop]
  ·simp;omega
  grind
 rw[hr2];have:=IF (row:=row1) (A:=pre++xs.take i.toNat++xs.drop j.toNat) (B:=(xs.drop i.toNat).drop (xs.length-j.toNat)) (C:=rest) (ys:=List.replicate n3.toNat z) (i:=l3.toNat) (by rw[hr1'];simp_all) (by grind) (by grind);rw[this,show n3.toNat=(j-i).toNat by grind]
 simp_all
def Av3 [L6]{H:A4}{id:Nat}{b:Dh}(h:H id=some b):Ei (Go.Ab.upd H id (some b)) H:=fun y c hy=>by
 grind[upd]
def XB [L6]{H:A4}{id t:Nat}{b:Option Dh}:Ei (Go.Ab.upd (Go.Ab.upd H id none) t b) (Go.Ab.upd H t b):=fun x d hx=>by
 grind[upd]
def HF {a b by_:Nat}(h:a+b≤1073741824)(hb:by_≤131072):(a+b)*by_≤140737488355328:=V2 (V3 h hb) (by decide)
def Ao7 {α:Type} [Ar] {f:α→V} {l r:List α} {i j:Int} (h:SW l i j=some r):0≤i∧i≤j∧j≤((lst f l).length:Nat)∧lst f r=(lst f l).take i.toNat++(lst f l).drop j.toNat:=by
 unfold SW at h
 split at h
 ·rename_i hc;cases h
  simp_all[lst_eq]
 cases h
def Ao6 {α:Type} [Ar] {f:α→V} {l r m:List α} {i:Int} (h:SP l i m=some r):0≤i∧i≤((lst f l).length:Nat)∧(lst f l).length+(lst f m).length≤1073741824∧lst f r=(lst f l).take i.toNat++lst f m++(lst f l).drop i.toNat:=by
 unfold SP at h
 split at h
 ·rename_i hc;cases h
  simp_all[lst_eq]
 cases h
def Io {α:Type}[L6][Ar]{f:α→V}{l r:List α}{n:Int}(h:KB l n=some r):0≤n∧n≤1073741824∧lst f r=[]:=by
 grind[KB,lst_eq]
end Go.Ab
namespace Go.Ab
open Go.RowKit
variable [L6]
def Su {P:Program} {g:Gh} {H:A4} {w:World} (hR:Rl g H w) {tS tR e:TypeId} {sz id:Nat} {lo n:Int} {xs row:List V} {t:D2} {v u:Value} (hu:EO P tS=some e) (hs:Eh P e=some sz) (hk:H id=some (.arr sz row))
 (hall:xs.all (fun x=>x.cells.length==sz)=true) (hv:VR g w v (.sl xs t)) (hw:VR g w u (.own id lo n)):(Extern.SlicesOverlaps.overlaps #[tS,tS] #[tR] #[v,u]).run P w= .ok (.bool false) w:=by
 obtain⟨b,p,h1,h2,h3,h4,h5,h6,h7,h8,h9,h10⟩:=Ex hR hk hw;obtain⟨base,cap,vs,f1,f2,f3,f4,f5⟩:=DW (P:=P) hv hall;have ht:=P0 hu;have hz:=O4 hs;subst f1;subst h2;obtain⟨la,hla⟩:∃la,la=xs.length:=⟨_,rfl⟩;obtain⟨lb,hlb⟩:∃lb,lb=n.toNat:=⟨_,rfl⟩;rw[←hla,←hlb]
 change Sem.run P (α:=Value) (do
  let some t:=(#[tS,tS]:Array TypeId)[0]? |stuck "slices.overlaps: no parameter types"
  let .slice elem ←underlying t|stuck "slices.overlaps: slice type expected"
  let size ←sizeOf elem
  match base,p with
  | some a,some b=>
   if la=0∨lb=0∨size=0 then pure (Value.bool false)
   else if a.block !=b.block&&(←frozen a)&&(←frozen b)then unsupported .addressObserved
   else do
    if a.block !=b.block then do
     noView a;noView b
     if ←mayBeOne a b then return Value.bool ((←choose (.extern "sameAddr.stringBytes" 2))==1)
    pure (Value.bool (a.block==b.block&&a.off<b.off+lb*size&&b.off<a.off+la*size))
  |_,_=>pure (Value.bool false)) w=_
 rcases f5 with⟨hx,_⟩|⟨vb,vo,rfl,f6,f7,_⟩
 ·have hla0:la=0:=by rw[hla,hx];rfl
  cases base<;>cases p<;>simp[run_underlying ht,hz,hla0]
 cases p with
 |none=>simp_all[run_underlying]
 | some q=>
  by_cases h0:la=0∨lb=0∨sz=0
  ·simp[run_underlying ht,hz,h0]
  have hx0:0<xs.length:=by omega
  have hn0:0<n.toNat:=by omega
  have hs0:0<sz:=by omega
  have hq:=h8 (by omega);cases hq
  rcases h10 with h10|⟨c,T,k1,k2,k3,k4,k5,k6⟩
  ·omega
  have hc0:0<c.size:=by
   have:=J7 sz (show 1≤row.length by omega);omega
  have hfb:∀o,w.frozen? ⟨b,o,none⟩=false:=fun o=>by simp[World.frozen?,k2]
  have hsb:w.shape? b=some (T,c.size):=by simp[World.shape?,k2]
  have hva:=f6 0 0 hx0 hs0
  obtain⟨tA,kA,hsa⟩:∃tA kA,w.shape? vb=some (tA,kA+1):=by
   have:=hva.2
   simp only[World.cell?]at this
   split at this
   ·rename_i c' e' _ hh
    simp at this
    have hlt:vo+0*sz+0<c'.size:=by
     grind
    exact⟨e',c'.size-1,by simp[World.shape?,hh];omega⟩
   grind
  by_cases hne:vb=b
  ·subst hne;have hlast:=(f6 (xs.length-1) (sz-1) (by omega) (by omega)).1
   have hlt:vo+xs.length*sz≤(g.ow id).o:=by
    rcases G6 (vo+(xs.length-1)*sz+(sz-1)) (g.ow id).o with hh|hh
    ·have:xs.length*sz=(xs.length-1)*sz+sz:=by rw[←Nat.succ_mul];grind
     omega
    simp_all
   have h1':¬((g.ow id).o+lo.toNat*sz<vo+la*sz):=by rw[hla];omega
   simp_all[run_underlying]
  have hnb:(vb !=b)=true:=by grind
  have hnb':(vb==b)=false:=by grind
  obtain⟨kB,hkB⟩:∃kB,c.size=kB+1:=⟨c.size-1,by omega⟩
  rw[hkB]at hsb
  simp[run_underlying ht,hz,h0,hnb,hnb',frozen,noView,viewAt,mayBeOne,stringish,shape,Sem.run,hsa,hsb,hfb]
def Qw {P:Program} {f:FuncId} {tS tR e:TypeId} {sz id:Nat} {lo n:Int} {xs row:List V} {t:D2} {H:A4} (hrun:∀vals w,(callFunc f vals).run P w=((Extern.SlicesOverlaps.overlaps #[tS,tS] #[tR] vals).run P w).andThen fun v w=>.ok (.value v) w)
 (hu:EO P tS=some e) (hs:Eh P e=some sz) (hk:H id=some (.arr sz row)) (hall:xs.all (fun x=>x.cells.length==sz)=true):J1 P f [.sl xs t,.own id lo n] H fun x H'=>x= .bool false∧H'=H:=by
 intro g w vals hR hA;obtain⟨hl,hv⟩:=hA;obtain⟨vals⟩:=vals
 match vals,hl with
 |[v,u],_=>
  have h1:=hv 0 (by simp);have h2:=hv 1 (by simp)
  simp at h1 h2
  rw[hrun,Su hR hu hs hk hall h1 h2];exact L4.here hR (.bool _) ⟨rfl,rfl⟩
def Am5 [Ar]{P:Program}{nt:Nat}{rd:Option Nat}{E:Eg}(hE:E=H5 P nt rd){fid:FuncId}{args:List V}{r:V}{H:A4}{k:V→A4→Prop}(h:J1 P fid args H fun x H'=>x=r∧H'=H)(hk:k r H):E.call (.func (.func fid) [] []) args H k:=by
 subst hE;refine J1.value (F:=[]) (C:=[]) ?_;simp only[N1,G9]
 exact h.mono fun x H' ⟨e1,e2⟩=>by rw[e1,e2];exact hk
end Go.Ab
