/- AbB1 AbS1 AbB2 AbB3 AbB4 AbS2 AbB5 AbB6 AbB7 AbB8 AbB9 -/
import Derived.Test.YtildiiggamckaaaGreatDoorL06
import Derived.Laws.Externs
set_option linter.all false
open Go.Ab.Ar (len_eq lst lst_eq ofs ofs_eq)
namespace Go.Ab
open Go.RowKit
variable [K9][Ar]
theorem BQ.wk {x y:V}(h:BQ x y):Wk x y:=fun _ _ _ hv=>hv.le h
theorem Args.le {g:Gh}{w:World}{vals:Array Value}{xs ys:List V}(h:Args g w vals xs)(k:L8 xs ys):Args g w vals ys:=
 ⟨h.1.trans k.length,fun i hi=>(h.2 i (k.length▸hi)).le (k.at i)⟩
theorem J0.args {P:Program}{f:FuncId}{xs ys:List V}{H:A1}{K:V→A1→Prop}(h:J0 P f ys H K)(k:L8 xs ys):J0 P f xs H K:=
 fun g w vals hR hA=>h g w vals hR (hA.le k)
theorem Cz.args {P:Program}{fv:V}{xs ys:List V}{H:A1}{K:V→A1→Prop}(h:Cz P fv ys H K)(k:L8 xs ys):Cz P fv xs H K:=
 fun g w v vals hR hv hA=>h g w v vals hR hv (hA.le k)
theorem C5.args {P:Program}{f:FuncId}{xs ys:List V}{r:V}(h:C5 P f ys r)(k:L8 xs ys):C5 P f xs r:=fun H=>(h H).args k
theorem U2.args {P:Program}{fv:V}{xs ys:List V}{r:V}(h:U2 P fv ys r)(k:L8 xs ys):U2 P fv xs r:=fun H=>(h H).args k
def FD (H H':A1):Prop:=∀id b,H id=some b→H' id=some b
theorem FD.refl (H:A1):FD H H:=fun _ _ h=>h
theorem FD.trans {H H' H'':A1}(h:FD H H')(k:FD H' H''):FD H H'':=fun id b e=>k id b (h id b e)
theorem J0.le {P:Program}{f:FuncId}{args:List V}{H:A1}{K:V→A1→Prop}(h:J0 P f args H fun x H'=>∃y H2,BQ x y∧FD H2 H'∧K y H2):J0 P f args H K:=
 fun g w vals hR hA=>(h g w vals hR hA).mono fun v w' ⟨g',x,H',s,hR',hv,y,H2,hxy,hH,hK⟩=>⟨g',y,H2,s,hR'.less hH,hv.le hxy,hK⟩
inductive En where
 |tl (t:E5)
 |blk (id:Nat) (b:CT)
def En.id :En→Option (Nat×CT)
 | .tl (.tok t)=>some (t,.spare)
 | .tl _=>none
 | .blk id b=>some (id,b)
structure BP (H0:A1) (L:List En) (H:A1):Prop where
 ext:FD H0 H
 has:∀(i:Nat) e id b,L[i]? =some e→e.id=some (id,b)→H0 id=none∧H id=some b
 inj:∀(i j:Nat) e e' id b b',L[i]? =some e→L[j]? =some e'→e.id=some (id,b)→e'.id=some (id,b')→i=j
 only:∀x b,H x=some b→H0 x=some b∨∃(i:Nat) (e:En),L[i]? =some e∧e.id=some (x,b)
theorem BP.start (H:A1):BP H [] H:=⟨FD.refl H,fun i e id b h=>by simp at h,fun i j e e' id b b' h=>by simp at h,fun x b h=>.inl h⟩
theorem BP.free {H0 H:A1}{L:List En}(h:BP H0 L H){id:Nat}(hn:H id=none):H0 id=none:=by
 cases e:H0 id with
 |none=>rfl
 |some b=>rw[h.ext id b e]at hn;cases hn
theorem BP.tl0 {H0 H:A1} {L:List En} (h:BP H0 L H) {t:E5} (ht:(En.tl t).id=none):BP H0 (.tl t::L) H:=by
 refine⟨h.ext,fun i e id b hi he=>?_,fun i j e e' id b b' hi hj he he'=>?_,fun x b hx=>(h.only x b hx).imp (fun h=>h) fun⟨i,e,h1,h2⟩=>⟨i+1,e,by grind,h2⟩⟩
 ·cases i with
  |zero=>simp_all
  |succ i=>exact h.has i e id b (by grind) he
 cases i with
 |zero=>simp_all
 |succ i=>
  cases j with
  |zero=>simp_all
  |succ j=>rw[h.inj i j e e' id b b' (by grind) (by grind) he he']
theorem BP.push {H0 H:A1} {L:List En} (h:BP H0 L H) {en:En} {id:Nat} {b:CT} (hn:H id=none) (he:en.id=some (id,b)):BP H0 (en::L) (upd H id (some b)):=by
 refine⟨fun x bb hx=>?_,fun i e x bb hi hx=>?_,fun i j e e' x bb bb' hi hj hx hx'=>?_,fun x bb hx=>?_⟩
 rotate_right
 ·by_cases hxi:x=id
  ·subst hxi;rw[C8]at hx;cases hx;exact .inr ⟨0,en,by simp,he⟩
  rw[C1 _ _ hxi]at hx
  exact(h.only x bb hx).imp (fun h=>h) fun⟨i,e,h1,h2⟩=>⟨i+1,e,by grind,h2⟩
 ·rw[C1 _ _ (Ae (h.free hn) hx)];exact h.ext x bb hx
 ·cases i with
  |zero=>simp at hi;subst hi;rw[he]at hx;cases hx;exact⟨h.free hn,C8 _ _ _⟩
  |succ i=>
   have:=h.has i e x bb (by grind) hx
   grind [upd]
 cases i with
 | zero=>
  cases j with
  |zero=>rfl
  |succ j=>
   simp at hi;subst hi;rw[he]at hx;cases hx
   have:=(h.has j e' _ bb' (by grind) hx').2
   rw[hn]at this;cases this
 | succ i=>
  cases j with
  |zero=>
   simp at hj;subst hj;rw[he]at hx';cases hx'
   have:=(h.has i e _ bb (by grind) hx).2
   rw[hn]at this;cases this
  |succ j=>rw[h.inj i j e e' x bb bb' (by grind) (by grind) hx hx']
theorem BP.get {H0 H:A1}{L:List En}(h:BP H0 L H)(i:Nat){id:Nat}{b:CT}(hi:L[i]? =some (.blk id b)):H id=some b:=(h.has i _ id b hi rfl).2
theorem BP.set {H0 H:A1} {L:List En} (h:BP H0 L H) (i:Nat) {id:Nat} {b b':CT} (hi:L[i]? =some (.blk id b)):BP H0 (L.set i (.blk id b')) (upd H id (some b')):=by
 have hid:=h.has i _ id b hi rfl
 have hlt:i<L.length:=by
  grind
 have KW:∀(j:Nat) e,(L.set i (.blk id b'))[j]? =some e→(j=i∧e= .blk id b')∨(j≠i∧L[j]? =some e):=fun j e hj=>by
  rw[P5]at hj
  grind
 refine⟨fun x bb hx=>?_,fun j e x bb hj hx=>?_,fun j k e e' x bb bb' hj hk hx hx'=>?_,fun x bb hx=>?_⟩
 rotate_right
 ·by_cases hxi:x=id
  ·grind [En.id,upd]
  rw[C1 _ _ hxi]at hx
  refine(h.only x bb hx).imp (fun h=>h) fun⟨j,e,h1,h2⟩=>⟨j,e,?_,h2⟩;rw[P5]
  grind [En.id]
 ·rw[C1 _ _ (Ae hid.1 hx)];exact h.ext x bb hx
 ·rcases KW j e hj with⟨_,rfl⟩|⟨hne,hj'⟩
  ·grind [upd,En.id]
  have:=h.has j e x bb hj' hx
  have hxid:x≠id:=fun eq=>by subst eq;exact hne (h.inj j i e _ x bb b hj' hi hx rfl)
  simp_all[upd]
 rcases KW j e hj with⟨hji,rfl⟩|⟨hne,hj'⟩<;>rcases KW k e' hk with⟨hki,rfl⟩|⟨hne',hk'⟩
 ·rw[hji,hki]
 ·cases hx;exact absurd (h.inj k i e' _ id bb' b hk' hi hx' rfl) hne'
 ·cases hx';exact absurd (h.inj j i e _ id bb b hj' hi hx rfl) hne
 exact h.inj j k e e' x bb bb' hj' hk' hx hx'
theorem BP.tok {H0 H:A1} {L:List En} (h:BP H0 L H) (i:Nat) {tl:E5} (hi:L[i]? =some (.tl tl)) {t:Nat} (ht:F9 H tl t=none):
 BP H0 (L.set i (.tl (.tok t))) (upd (F9 H tl) t (some .spare)):=by
 have hlt:i<L.length:=by
  grind
 have KW:∀(j:Nat) e,(L.set i (.tl (.tok t)))[j]? =some e→(j=i∧e= .tl (.tok t))∨(j≠i∧L[j]? =some e):=fun j e hj=>by
  rw[P5]at hj
  grind
 have left:∀x b,H x=some b→(∀t',tl= .tok t'→x≠t')→F9 H tl x=some b:=fun x b hx hne=>by
  cases tl with
  |tok t'=>simp_all[F9,C1]
  |_=>exact hx
 have h0:∀x b,H0 x=some b→F9 H tl x=some b:=fun x b hx=>left x b (h.ext x b hx) fun t' e eq=>by
  subst e;subst eq
  rw[(h.has i _ x _ hi rfl).1]at hx;cases hx
 have hoth:∀(j:Nat) e x b,j≠i→L[j]? =some e→e.id=some (x,b)→H0 x=none∧F9 H tl x=some b:=fun j e x b hne hj hx=>by
  have:=h.has j e x b hj hx;refine⟨this.1,left x b this.2 fun t' et eq=>?_⟩;subst et;subst eq;exact hne (h.inj j i e _ x b _ hj hi hx rfl)
 have hid0:H0 t=none:=by
  cases e:H0 t with
  |none=>rfl
  |some b=>rw[h0 t b e]at ht;cases ht
 refine⟨fun x bb hx=>?_,fun j e x bb hj hx=>?_,fun j k e e' x bb bb' hj hk hx hx'=>?_,fun x bb hx=>?_⟩
 rotate_right
 ·by_cases hxi:x=t
  ·grind [En.id,upd]
  rw[C1 _ _ hxi]at hx
  have hx2:H x=some bb∧∀t',tl= .tok t'→x≠t':=by
   cases tl with
   |tok t'=>
    simp_all[F9,upd]
   |_=>exact⟨hx,fun t'' e'=>by cases e'⟩
  refine(h.only x bb hx2.1).imp (fun h=>h) fun⟨j,e,h1,h2⟩=>⟨j,e,?_,h2⟩;rw[P5]
  split
  ·rename_i hij;subst hij;rw[hi]at h1;cases h1
   cases tl with
   |tok t'=>cases h2;simp_all
   |_=>cases h2
  exact h1
 ·rw[C1 _ _ (Ae hid0 hx)];simp_all
 ·grind [upd,En.id]
 rcases KW j e hj with⟨hji,rfl⟩|⟨hne,hj'⟩<;>rcases KW k e' hk with⟨hki,rfl⟩|⟨hne',hk'⟩
 ·rw[hji,hki]
 ·grind [En.id]
 ·grind [En.id]
 exact h.inj j k e e' x bb bb' hj' hk' hx hx'
theorem BP.del {H0 H:A1} {L:List En} (h:BP H0 L H) (i:Nat) {id:Nat} {b:CT} (hi:L[i]? =some (.blk id b)):BP H0 (L.eraseIdx i) (upd H id none):=by
 have hid:=h.has i _ id b hi rfl
 have KW:∀(j:Nat) e,(L.eraseIdx i)[j]? =some e→∃j',j'≠i∧L[j']? =some e∧(j'=if j<i then j else j+1):=fun j e hj=>by
  rw[Gs]at hj
  grind
 refine⟨fun x bb hx=>?_,fun j e x bb hj hx=>?_,fun j k e e' x bb bb' hj hk hx hx'=>?_,fun x bb hx=>?_⟩
 rotate_right
 ·by_cases hxi:x=id
  ·simp_all[upd]
  rw[C1 _ _ hxi]at hx
  refine(h.only x bb hx).imp (fun h=>h) fun⟨j,e,h1,h2⟩=>?_
  have hji:j≠i:=fun eq=>by grind [En.id]
  rcases H6 j i with hlt|hge
  ·exact⟨j,e,by rw[Gs,A2 hlt];exact h1,h2⟩
  exact⟨j - 1,e,by rw[Gs,A3 (by omega),show j - 1+1=j by omega];exact h1,h2⟩
 ·rw[C1 _ _ (Ae hid.1 hx)];exact h.ext x bb hx
 ·obtain⟨j',hne,hj',_⟩:=KW j e hj;have:=h.has j' e x bb hj' hx
  have hxid:x≠id:=fun eq=>by subst eq;exact hne (h.inj j' i e _ x bb b hj' hi hx rfl)
  simp_all[upd]
 obtain⟨j',hne,hj',ej⟩:=KW j e hj;obtain⟨k',hne',hk',ek⟩:=KW k e' hk;have:=h.inj j' k' e e' x bb bb' hj' hk' hx hx'
 rw[ej,ek]at this
 split at this<;>split at this<;>omega
def LL (H:A1)(e:En):A1:=
 match e.id with
 |some (id,_)=>upd H id none
 |none=>H
theorem BP.tail {H0 H:A1} {L:List En} {e:En} (h:BP H0 (e::L) H):BP H0 L (LL H e):=by
 have inj0:∀(j:Nat) e' x b b',L[j]? =some e'→e'.id=some (x,b)→e.id=some (x,b')→False:=fun j e' x b b' hj hx hx'=>by
  have:=h.inj (j+1) 0 e' e x b b' (by grind) (by simp) hx hx';omega
 cases he:e.id with
 |none=>
  have ed:LL H e=H:=by simp_all[LL]
  rw[ed];refine⟨h.ext,fun i e id b hi=>h.has (i+1) e id b (by grind),fun i j e e' id b b' hi hj he he'=>?_,fun x b hx=>(h.only x b hx).imp (fun h=>h) fun⟨i,e',h1,h2⟩=>?_⟩
  ·have:=h.inj (i+1) (j+1) e e' id b b' (by grind) (by grind) he he';omega
  grind
 | some p=>
  obtain⟨id,b0⟩:=p
  have ed:LL H e=upd H id none:=by grind [LL]
  rw[ed];have hid:=h.has 0 e id b0 (by simp) he;refine⟨fun x b hx=>?_,fun i e' x b hi hx=>?_,fun i j e e' id b b' hi hj he he'=>?_,fun x b hx=>?_⟩
  ·rw[C1 _ _ (Ae hid.1 hx)];exact h.ext x b hx
  ·have:=h.has (i+1) e' x b (by grind) hx
   have hne:x≠id:=fun eq=>by grind
   simp_all[upd]
  ·have:=h.inj (i+1) (j+1) e e' id b b' (by grind) (by grind) he he';omega
  by_cases hxi:x=id
  ·simp_all[upd]
  rw[C1 _ _ hxi]at hx
  refine(h.only x b hx).imp (fun h=>h) fun⟨i,e',h1,h2⟩=>?_
  grind
theorem FD.upd {H H':A1}(h:FD H H')(id:Nat)(b:Option CT):FD (upd H id b) (upd H' id b):=fun x bb hx=>by
 by_cases e:x=id
 ·grind [C8]
 rw[C1 _ _ e]at hx ⊢;exact h x bb hx
theorem FD.less {H H':A1}(h:FD H H')(id:Nat):FD (Go.Ab.upd H id none) H':=fun x bb hx=>by
 by_cases e:x=id
 ·grind [C8]
 rw[C1 _ _ e]at hx;exact h x bb hx
theorem FD.none {H H':A1}(h:FD H H'){id:Nat}(hn:H' id=none):H id=none:=by
 cases e:H id with
 |none=>rfl
 |some b=>rw[h id b e]at hn;cases hn
theorem C4 :D2 (Eq:A1→A1→Prop):=⟨fun h id b hb=>h▸hb,fun id b h _=>by subst h;rfl⟩
def B6 (Φ:A1→A1→Prop)(F:A1)(L:List En)(H:A1):Prop:=D2 Φ∧∃F' H1,BP F L F'∧Φ F' H1∧FD H1 H
section
variable {Φ:A1→A1→Prop}{F H:A1}{L:List En}
theorem B6.start (hs:D2 Φ)(h:Φ F H):B6 Φ F [] H:=⟨hs,F,H,BP.start F,h,FD.refl H⟩
theorem B6.ext (h:B6 Φ F L H):FD F H:=by
 obtain⟨hs,F',H1,h0,h1,h2⟩:=h;exact h0.ext.trans fun id b hb=>h2 _ _ (hs.le h1 id b hb)
theorem B6.tl0 (h:B6 Φ F L H){t:E5}(ht:(En.tl t).id=none):B6 Φ F (.tl t::L) H:=by
 obtain⟨hs,F',H1,h0,h1,h2⟩:=h;exact⟨hs,F',H1,h0.tl0 ht,h1,h2⟩
theorem B6.push (h:B6 Φ F L H){en:En}{id:Nat}{b:CT}(hn:H id=none)(he:en.id=some (id,b)):B6 Φ F (en::L) (upd H id (some b)):=by
 obtain⟨hs,F',H1,h0,h1,h2⟩:=h;have hn1:=h2.none hn;have hn':=hs.fresh h1 hn1;exact⟨hs,_,_,h0.push hn' he,hs.chg id (some b) h1 (by rw[hn1,hn']),h2.upd id _⟩
theorem B6.get (h:B6 Φ F L H)(i:Nat){id:Nat}{b:CT}(hi:L[i]? =some (.blk id b)):H id=some b:=by
 obtain⟨hs,F',H1,h0,h1,h2⟩:=h;exact h2 _ _ (hs.le h1 _ _ (h0.get i hi))
theorem B6.set (h:B6 Φ F L H)(i:Nat){id:Nat}{b b':CT}(hi:L[i]? =some (.blk id b)):B6 Φ F (L.set i (.blk id b')) (upd H id (some b')):=by
 obtain⟨hs,F',H1,h0,h1,h2⟩:=h;have e:=h0.get i hi;exact⟨hs,_,_,h0.set i hi,hs.chg id _ h1 (by rw[e,hs.le h1 _ _ e]),h2.upd id _⟩
theorem B6.del (h:B6 Φ F L H)(i:Nat){id:Nat}{b:CT}(hi:L[i]? =some (.blk id b)):B6 Φ F (L.eraseIdx i) (upd H id none):=by
 obtain⟨hs,F',H1,h0,h1,h2⟩:=h;have e:=h0.get i hi;exact⟨hs,_,_,h0.del i hi,hs.chg id _ h1 (by rw[e,hs.le h1 _ _ e]),h2.upd id _⟩
theorem B6.tail {e:En} (h:B6 Φ F (e::L) H):B6 Φ F L H:=by
 obtain⟨hs,F',H1,h0,h1,h2⟩:=h
 cases he:e.id with
 |none=>
  have:=h0.tail
  grind [B6,LL]
 |some p=>
  obtain⟨id,b⟩:=p;have h3:=h0.tail
  simp only[LL,he]at h3
  have e1:=(h0.has 0 e id b (by simp) he).2;exact⟨hs,_,_,h3,hs.chg id none h1 (by rw[e1,hs.le h1 _ _ e1]),h2.less id⟩
theorem B6.tok (h:B6 Φ F L H) (i:Nat) {tl:E5} (hi:L[i]? =some (.tl tl)) {t:Nat} (ht:F9 H tl t=none):B6 Φ F (L.set i (.tl (.tok t))) (upd (F9 H tl) t (some .spare)):=by
 obtain⟨hs,F',H1,h0,h1,h2⟩:=h
 have h3:Φ (F9 F' tl) (F9 H1 tl):=by
  cases tl with
  |tok t'=>
   have e:=(h0.has i _ t' _ hi rfl).2;exact hs.chg t' none h1 (by rw[e,hs.le h1 _ _ e])
  |_=>exact h1
 have h4:FD (F9 H1 tl) (F9 H tl):=by
  cases tl with
  |tok t'=>exact h2.upd t' none
  |_=>exact h2
 have ht1:=h4.none ht;have ht':=hs.fresh h3 ht1;exact⟨hs,_,_,h0.tok i hi ht',hs.chg t _ h3 (by rw[ht1,ht']),h4.upd t _⟩
theorem B6.stable (hs:D2 Φ) (L:List En):D2 fun F H=>B6 Φ F L H:=by
 refine⟨fun h id b hb=>h.ext id b hb,fun{F H} id b h e=>?_⟩;obtain⟨hs,F',H1,h0,h1,h2⟩:=h
 have hne:∀(i:Nat) en x bb,L[i]? =some en→en.id=some (x,bb)→x≠id:=fun i en x bb hi he eq=>by
  subst eq;have h3:=h0.has i en x bb hi he;have h4:=h2 _ _ (hs.le h1 _ _ h3.2)
  rw[e,h3.1]at h4;cases h4
 have hF':F' id=F id:=by
  cases hf:F id with
  |some x=>exact h0.ext id x hf
  | none=>
   cases hf':F' id with
   |none=>rfl
   |some x=>
    rcases h0.only id x hf' with h|⟨i,en,hi,he⟩
    ·rw[hf]at h;cases h
    grind
 have hH1:H1 id=F id:=by
  cases hf:F id with
  |some x=>rw[←hF']at hf;exact hs.le h1 id x hf
  |none=>rw[hf]at e;exact h2.none e
 refine⟨hs,upd F' id b,upd H1 id b,⟨fun x bb hx=>?_,fun i en x bb hi he=>?_,h0.inj,fun x bb hx=>?_⟩,hs.chg id b h1 (by rw[hF',hH1]),h2.upd id b⟩
 ·by_cases hxi:x=id
  ·simp_all[upd]
  rw[C1 _ _ hxi]at hx ⊢;exact h0.ext x bb hx
 ·have:=h0.has i en x bb hi he;have hxi:=hne i en x bb hi he;rw[C1 _ _ hxi,C1 _ _ hxi];exact this
 by_cases hxi:x=id
 ·simp_all[upd]
 rw[C1 _ _ hxi]at hx ⊢;exact h0.only x bb hx
theorem B6.out :∀{L:List En},B6 Φ F L H→∃H1,Φ F H1∧FD H1 H
 | [],h=>by
  obtain⟨hs,F',H1,h0,h1,h2⟩:=h
  have:F'=F:=by
   funext x
   cases hf:F' x with
   |some b=>
    rcases h0.only x b hf with h|⟨i,e,hi,_⟩
    ·exact h.symm
    grind
   |none=>exact(h0.free hf).symm
  grind
 |_::L,h=>B6.out (L:=L) h.tail
end
theorem D2.ex {ι:Type}{p:ι→Prop}{I:ι→A1→A1→Prop}(h:∀i,D2 (I i)):D2 fun F H=>∃i,p i∧I i F H:=
 ⟨fun⟨i,_,hi⟩=>(h i).le hi,fun id b ⟨i,hp,hi⟩ e=>⟨i,hp,(h i).chg id b hi e⟩⟩
theorem D2.con {p:Prop}{I:A1→A1→Prop}(h:D2 I):D2 fun F H=>p∧I F H:=
 ⟨fun⟨_,hi⟩=>h.le hi,fun id b ⟨hp,hi⟩ e=>⟨hp,h.chg id b hi e⟩⟩
def K1 :E5→Prop
 | .ro=>False
 |_=>True
theorem B6.appOk {Φ:A1→A1→Prop}{F H:A1}{L:List En}(h:B6 Φ F L H)(i:Nat){tl:E5}(hi:L[i]? =some (.tl tl))(ha:K1 tl):Gd H tl:=by
 obtain⟨hs,F',H1,h0,h1,h2⟩:=h
 cases tl with
 |tok t=>exact h2 _ _ (hs.le h1 _ _ (h0.has i _ t _ hi rfl).2)
 |nil=>trivial
 |full=>trivial
 |ro=>exact ha
end Go.Ab
namespace Go.Ab
def D0 {α:Type}(l:List α)(i:Int):Option α:=if 0≤i then l[i.toNat]? else none
def Ao {α:Type} (l:List α) (lo hi mx:Option Int):Option (List α):=
 if 0≤lo.getD 0∧lo.getD 0≤hi.getD l.length∧hi.getD l.length≤mx.getD l.length∧mx.getD l.length≤l.length∧(mx.isSome=true→hi.isSome=true)then
  some ((l.drop (lo.getD 0).toNat).take ((hi.getD l.length).toNat - (lo.getD 0).toNat))
 else none
def N5 {α:Type}(l m:List α):Option (List α):=if l.length+m.length≤1073741824 then some (l++m)else none
def DK (b:Bool):Option Unit:=if b=true then some ()else none
def loopN {σ R:Type} (step:σ→Option (σ⊕R)):Nat→σ→Option R
 |0,_=>none
 |n+1,s=>
  match step s with
  |none=>none
  |some (.inl s')=>loopN step n s'
  |some (.inr r)=>some r
def G0 {α σ R:Type} (step:σ→α→Option (σ⊕R)):List α→σ→Option (σ⊕R)
 |[],s=>some (.inl s)
 |x::l,s=>
  match step s x with
  |none=>none
  |some (.inl s')=>G0 step l s'
  |some (.inr r)=>some (.inr r)
def Cs {β σ R:Type} (step:σ→Option (List β×(σ⊕R))):Nat→σ→Option (List β×R)
 |0,_=>none
 | n+1,s=>
  match step s with
  |none=>none
  | some (w,.inl s')=>
   (match Cs step n s' with
    |none=>none
    |some (w',r)=>some (w++w',r))
  |some (w,.inr r)=>some (w,r)
def CP {α β σ R:Type} (step:σ→α→Option (List β×(σ⊕R))):List α→σ→Option (List β×(σ⊕R))
 |[],s=>some ([],.inl s)
 | x::l,s=>
  match step s x with
  |none=>none
  | some (w,.inl s')=>
   (match CP step l s' with
    |none=>none
    |some (w',o)=>some (w++w',o))
  |some (w,.inr r)=>some (w,.inr r)
def V9 {β σ τ:Type}(m:Option (List β×σ))(f:σ→Option (List β×τ)):Option (List β×τ):=
 m.bind fun q=>(f q.2).bind fun p=>some (q.1++p.1,p.2)
theorem Q9 {β σ τ:Type} {m:Option (List β×σ)} {f:σ→Option (List β×τ)} {w:List β} {o:τ} (h:V9 m f=some (w,o)):∃w1 w2 x,m=some (w1,x)∧f x=some (w2,o)∧w=w1++w2:=by
 unfold V9 at h
 cases m with
 |none=>cases h
 | some p=>
  simp only[A6]at h
  cases hf:f p.2 with
  |none=>rw[hf]at h;cases h
  |some t=>
   rw[hf]at h
   grind
theorem X2 {β σ τ:Type}{a:List β}{x:σ}{f:σ→Option (List β×τ)}{w:List β}{o:τ}(h:V9 (some (a,x)) f=some (w,o)):∃w2,f x=some (w2,o)∧w=a++w2:=by
 obtain⟨w1,w2,y,h1,h2,h3⟩:=Q9 h
 simp_all
theorem E8 {α β:Type}{a c:α}{b d:β}(h:some (a,b)=some (c,d)):a=c∧b=d:=by simp_all
theorem bind_some {α β:Type}{m:Option α}{F:α→Option β}{r:β}(h:m.bind F=some r):∃x,m=some x∧F x=some r:=by
 cases m with
 |none=>cases h
 |some x=>simp_all
theorem K8 {α:Type}{a b:α}(h:some a=some b):a=b:=X8 h
end Go.Ab
namespace Go.Ab
open Go.RowKit
variable [K9][Ar]
def FV (l:Fl):Fl→Prop
 |[]=>True
 |(k,s)::r=>BQ (BY l k) s.V∧(∀j w x,s≠ .g j w x)∧FV l r
theorem FV.wk {l:Fl}:∀{r:Fl},FV l r→∀t,Wk (BY l t) (BY r t)
 |[],_,t=>Wk.bad _
 | (k,s)::r,h,t=>by
  simp only[BY]
  cases hb:Nat.beq t k with
  |true=>
   have:=Bs hb;subst this
   cases s with
   |v x=>exact h.1.wk
   |b c=>exact h.1.wk
   |g j w x=>exact absurd rfl (h.2.1 j w x)
  |false=>exact FV.wk h.2.2 t
theorem FV.v {l r:Fl}{k:Nat}{x:V}(h:BQ (BY l k) x)(hr:FV l r):FV l ((k,.v x)::r):=⟨h,fun _ _ _ h=>(by cases h),hr⟩
theorem FV.b {l r:Fl}{k:Nat}{c:Bool}(h:BY l k= .bool c)(hr:FV l r):FV l ((k,.b c)::r):=⟨h▸ .refl _,fun _ _ _ h=>(by cases h),hr⟩
theorem FV.e {l r:Fl}{k:Nat}{x:V}(h:BY l k=x)(hr:FV l r):FV l ((k,.v x)::r):=⟨h▸ .refl _,fun _ _ _ h=>(by cases h),hr⟩
theorem FV.z {l:Fl}:FV l []:=trivial
theorem Wk.trans {x y z:V}(h:Wk x y)(k:Wk y z):Wk x z:=fun g w v hv=>k g w v (h g w v hv)
theorem CZ.le {fr:Fr}{l l':Fl}{df:List Nat}(h:CZ fr ⟨l,df⟩)(k:FV l l'):CZ fr ⟨l',df⟩:=⟨fun t=>(h.s t).trans (k.wk t),h.df⟩
theorem B4 {α:Type}{f:α→V}:([]:List V)=lst f []:=by rw[lst_eq];rfl
theorem D4 {α:Type}{f:α→V}{v:V}{vs:List V}{x:α}{l:List α}(h:v=f x)(k:vs=lst f l):v::vs=lst f (x::l):=by
 rw[h,k,lst_eq,lst_eq];rfl
theorem Mn {α:Type}{f:α→V}(l m:List α):lst f l++lst f m=lst f (l++m):=by simp[lst_eq]
theorem L5 {α:Type}{f:α→V}(l:List α):(lst f l).length=l.length:=by simp[lst_eq]
theorem LB {α:Type}{f:α→V}{sz:Nat}(h:∀x,(f x).cells.length=sz)(l:List α):(lst f l).all (fun x=>x.cells.length==sz)=true:=by
 rw[lst_eq];simp[h]
theorem L8.lst0 {α:Type}{f:α→V}:L8 [] (lst f []):=by rw[←B4];exact .nil
theorem L8.lstc {α:Type}{f:α→V}{v:V}{vs:List V}{x:α}{l:List α}(h:BQ v (f x))(k:L8 vs (lst f l)):L8 (v::vs) (lst f (x::l)):=by
 rw[←D4 rfl rfl];exact .cons h k
theorem BQ.eq {v x y:V}(h:y=x)(k:BQ v x):BQ v y:=h▸k
theorem BQ.lit {xs ys:List V}(t:E5)(h:xs=ys):BQ (.sl xs t) (.sl ys .ro):=h▸ .ro _ _
section
variable {P:Program}{nt:Nat}{rd:Option Nat}{T:FQ}{E:Eu}
variable (hE:E=G7 P nt rd)
include hE
theorem B0 {R:Type}{c:Bool}{x y:Unit→Prop}{a b:Option R}{r:R}(h:(if c=true then a else b)=some r)(h1:c=true→a=some r→x ())(h2:c=false→b=some r→y ()):E.br c x y:=by
 grind [G7]
theorem NU {c:Bool}{x y:Unit→Prop}(h1:c=true→x ())(h2:c=false→y ()):E.br c x y:=by simp_all[G7]
theorem HD {p:Prop}{k:Unit→Prop}(h:p)(hk:k ()):E.need p k:=by simp_all[G7]
theorem Mj {R:Type}{b:Bool}{k:Unit→Prop}{F:Unit→Option R}{r:R}(h:(DK b).bind F=some r)(hk:F ()=some r→k ()):E.needB b k:=by
 grind [G7,DK]
theorem KF {b:Bool}{k:Unit→Prop}(hb:b=true)(hk:k ()):E.needB b k:=by simp_all[G7]
theorem Id {op:BinOp}{a b:Int}(h:EK op a b=true):Ar.cmp op a b=true:=by rw[Ar.cmp_eq];exact h
theorem F3 {α:Type}{f:α→V}{l:List α}{k:Int→Prop}(h:k (Ar.len l)):E.ln (lst f l) k:=by
 subst hE
 show k _
 rw[L5,←len_eq];exact h
theorem Aa6 {xs:List V}{k:Int→Prop}{n:Int}(hn:(xs.length:Int)=n)(h:k n):E.ln xs k:=by
 simp_all[G7]
theorem D3 {α R:Type} {f g:α→V} (hf:∀x,f x=g x) {l:List α} {i:Int} {k:V→Prop} {F:α→Option R} {r:R} (h:(D0 l i).bind F=some r) (hk:∀x,F x=some r→k (g x)):E.idx (lst f l) i k:=by
 subst hE;obtain⟨x,h1,h2⟩:=bind_some h
 unfold D0 at h1
 split at h1
 ·rename_i h0
  have hlt:i.toNat<l.length:=by
   grind
  refine⟨⟨h0,by rw[L5];omega⟩,?_⟩;rw[lst_eq,EA,Z8,h1]
  simp_all
 cases h1
theorem Al1 {α R:Type} {f:α→V} {sz:Nat} (hsz:∀x,(f x).cells.length=sz) {l:List α} {tl:E5} {lo hi mx:Option Int} {k:V→Prop} {F:List α→Option R} {r:R} (h:(Ao l lo hi mx).bind F=some r)
 (hk:∀x t,F x=some r→k (.sl (lst f x) t)):E.slice sz (lst f l) tl lo hi mx k:=by
 subst hE;obtain⟨x,h1,h2⟩:=bind_some h
 unfold Ao at h1
 split at h1
 ·rename_i hc;obtain⟨c1,c2,c3,c4,c5⟩:=hc;cases h1;refine⟨?_,?_⟩
  ·rw[L5]
   simp_all[LB]
  rw[L5,lst_eq,←IW,←IV];have:=hk _ (EY (lo.getD 0).toNat (hi.getD l.length).toNat l.length mx tl) h2
  rwa[lst_eq]at this
 cases h1
theorem Aa1 {α R:Type} {f:α→V} {sz:Nat} (hsz:∀x,(f x).cells.length=sz) {l:List α} {tl:E5} {lo:Option Int} {k:V→Prop} {F:List α→Option R} {r:R} (h:(Ao l lo none none).bind F=some r)
 (hk:∀x t,(t=tl∨t= .ro∧x=[])→F x=some r→k (.sl (lst f x) t)):E.slice sz (lst f l) tl lo none none k:=by
 subst hE;obtain⟨x,h1,h2⟩:=bind_some h
 unfold Ao at h1
 split at h1
 ·rename_i hc;obtain⟨c1,c2,c3,c4,c5⟩:=hc;cases h1;refine⟨?_,?_⟩
  ·rw[L5]
   simp_all[LB]
  rw[L5,lst_eq,←IW,←IV];have:=hk _ (EY (lo.getD 0).toNat ((none:Option Int).getD l.length).toNat l.length none tl) ?_ h2
  ·rwa[lst_eq]at this
  simp only[Dj]at c2 ⊢
  simp only[EY,N3,C7]
  grind
 cases h1
theorem A8 {R S:Type}{m:Option S}{F:S→Option R}{r:R}{f:FuncId}{args args':List V}{g:S→V}{H:A1}{k:V→A1→Prop}(h:m.bind F=some r)(hc:∀x,m=some x→C5 P f args' (g x))(hl:L8 args args')
 (hk:∀x,F x=some r→k (g x) H):E.call (.func (.func f) [] []) args H k:=by
 subst hE;obtain⟨x,h1,h2⟩:=bind_some h
 exact U2.at (C5.value (F:=[]) (C:=[]) (by simpa using(hc x h1).args hl)) (hk x h2)
theorem M0 {R S:Type}{m:Option S}{F:S→Option R}{r:R}{f:FuncId}{args args':List V}{g:S→V}{H:A1}{k:V→Prop}(h:m.bind F=some r)(hc:∀x,m=some x→C5 P f args' (g x))(hl:L8 args args')
 (hk:∀x,F x=some r→k (g x)):E.pcall H (.func (.func f) [] []) args k:=by
 subst hE;obtain⟨x,h1,h2⟩:=bind_some h;exact⟨g x,(C5.value (F:=[]) (C:=[]) (by simpa using(hc x h1).args hl)).toH H,hk x h2⟩
theorem CF {R S:Type}{m:Option S}{F:S→Option R}{r:R}{fv:V}{args args':List V}{g:S→V}{H:A1}{k:V→A1→Prop}(h:m.bind F=some r)(hc:∀x,m=some x→U2 P fv args' (g x))(hl:L8 args args')
 (hk:∀x,F x=some r→k (g x) H):E.call fv args H k:=by
 subst hE;obtain⟨x,h1,h2⟩:=bind_some h
 exact U2.at ((hc x h1).args hl) (hk x h2)
theorem Aa3 {R S:Type}{m:Option S}{F:S→Option R}{r:R}{fv:V}{args args':List V}{g:S→V}{H:A1}{k:V→Prop}(h:m.bind F=some r)(hc:∀x,m=some x→U2 P fv args' (g x))(hl:L8 args args')
 (hk:∀x,F x=some r→k (g x)):E.pcall H fv args k:=by
 subst hE;obtain⟨x,h1,h2⟩:=bind_some h;exact⟨g x,((hc x h1).args hl).toH H,hk x h2⟩
theorem B1 {Φ:A1→A1→Prop}{H0 H:A1}{L:List En}(hO:B6 Φ H0 L H)(i:Nat){id:Nat}{cs:List V}{k:List V→Prop}(hi:L[i]? =some (.blk id (.cells cs)))(hk:k cs):E.load H id k:=by
 subst hE;exact⟨cs,hO.get i hi,hk⟩
theorem A7 {Φ:A1→A1→Prop}{H0 H:A1}{L:List En}(hO:B6 Φ H0 L H)(i:Nat){id off sz:Nat}{cs vs:List V}{k:A1→Prop}(hi:L[i]? =some (.blk id (.cells cs)))(hb:Nat.ble (off+sz) cs.length=true)
 (hk:∀H',B6 Φ H0 (L.set i (.blk id (.cells (S7 cs off vs)))) H'→k H'):E.store H id off sz vs k:=by
 subst hE;exact⟨cs,vs,.refl _,hO.get i hi,hb,hk _ (hO.set i hi)⟩
theorem Aa0 {Φ:A1→A1→Prop}{H0 H:A1}{L:List En}(hO:B6 Φ H0 L H)(i:Nat){id off sz:Nat}{cs vs:List V}{k:A1→Prop}(hi:L[i]? =some (.blk id (.cells cs)))(hb:Nat.ble (off+sz) cs.length=true)
 (hk:∀H',B6 Φ H0 (L.set i (.blk id (.cells (S7 cs off vs)))) H'→k H'):E.storeP H id off sz vs k:=by
 subst hE;exact⟨cs,hO.get i hi,hb,hk _ (hO.set i hi)⟩
theorem E6 {Φ:A1→A1→Prop}{H0 H:A1}{L:List En}(hO:B6 Φ H0 L H){cs:List V}{k:Nat→A1→Prop}(hk:∀id H',B6 Φ H0 (.blk id (.cells cs)::L) H'→k id H'):E.alloc H cs k:=by
 subst hE;exact fun id hid=>hk id _ (hO.push hid rfl)
theorem Aa7 {Φ:A1→A1→Prop}{H0 H:A1}{L:List En}(hO:B6 Φ H0 L H)(i:Nat){id:Nat}{cs:List V}{k:List V→A1→Prop}(hi:L[i]? =some (.blk id (.cells cs)))(hk:∀H',B6 Φ H0 (L.eraseIdx i) H'→k cs H'):E.frzL H id k:=by
 subst hE;exact⟨cs,cs,hO.get i hi,.refl _,hk _ (hO.del i hi)⟩
theorem So {Φ:A1→A1→Prop}{H0 H:A1}{L:List En}(hO:B6 Φ H0 L H)(i:Nat){id:Nat}{cs:List V}{k:List V→A1→Prop}(hi:L[i]? =some (.blk id (.cells cs)))
 (hk:∀H',H'=upd H id none→B6 Φ H0 (L.eraseIdx i) H'→k cs H'):E.frz H id k:=by
 subst hE;exact⟨cs,hO.get i hi,hk _ rfl (hO.del i hi)⟩
theorem Sr {Φ:A1→A1→Prop} {H0 H H1:A1} {L:List En} (hO:B6 Φ H0 L H) (i:Nat) {id:Nat} {cs cs':List V} {k:A1→Prop} (hi:L[i]? =some (.blk id (.cells cs))) (he:H1=upd H id none)
 (hk:∀H',B6 Φ H0 (L.set i (.blk id (.cells cs'))) H'→k H'):E.give H1 id cs' k:=by
 subst hE;subst he;refine hk _ ?_
 have e:upd (upd H id none) id (some (.cells cs'))=upd H id (some (.cells cs')):=by
  funext x;simp_all[upd]
 rw[e];exact hO.set i hi
theorem Aa9 {α R:Type} {g:α→V} {cs:List V} {off sz n:Nat} {l:List α} {i:Int} {k:V→Prop} {F:α→Option R} {r:R} (hcs:cs=l.flatMap fun x=>(g x).cells) (hsz:∀x,(g x).cells.length=sz) (hn:l.length=n) (ho:off=0)
 (h:(D0 l i).bind F=some r) (hk:∀x,F x=some r→k (.eref (g x).cells 0)):E.elem cs off sz n i k:=by
 subst hE;subst ho;obtain⟨x,h1,h2⟩:=bind_some h
 unfold D0 at h1
 split at h1
 ·rename_i h0
  have key:∀(l:List α) (m:Nat) (x:α),l[m]? =some x→(((l.flatMap fun x=>(g x).cells).drop (m*sz)).take sz)=(g x).cells∧m<l.length∧(l.flatMap fun x=>(g x).cells).length=l.length*sz:=by
   intro l
   induction l with
   |nil=>simp_all
   | cons y l ih=>
    intro m x h
    have hlen:∀l:List α,(l.flatMap fun x=>(g x).cells).length=l.length*sz:=by
     intro l
     induction l with
     |nil=>simp
     |cons z l ih=>grind
    refine⟨?_,?_,hlen _⟩
    ·cases m with
     |zero=>
      simp_all
     |succ m=>
      have:=(ih m x (by grind)).1;rw[DI,show(m+1)*sz=(g y).cells.length+m*sz by rw[hsz,G2,Au];omega,List.drop_append,];rw[Jt (by omega),P4,show(g y).cells.length+m*sz - (g y).cells.length=m*sz by omega];exact this
    grind
  grind [G7]
 cases h1
theorem T5 {α R:Type} {f:α→V} {sz by_:Nat} (hsz:∀x,(f x).cells.length=sz) (hby:by_≤131072) {Φ:A1→A1→Prop} {H0 H:A1} {L:List En} (hO:B6 Φ H0 L H) (i:Nat) {tl:E5} (hi:L[i]? =some (.tl tl)) (ha:K1 tl)
 {xs ys:List V} {l m:List α} {k:V→A1→Prop} {F:List α→Option R} {r:R} (hx:L8 xs (lst f l)) (hy:L8 ys (lst f m)) (h:(N5 l m).bind F=some r)
 (hk:∀x tl' H',B6 Φ H0 (L.set i (.tl tl')) H'→K1 tl'→F x=some r→k (.sl (lst f x) tl') H'):E.appn sz by_ H tl xs ys k:=by
 subst hE;obtain⟨x,h1,h2⟩:=bind_some h
 unfold N5 at h1
 split at h1
 ·rename_i hc;cases h1;refine⟨_,_,hx,hy,hO.appOk i hi ha,LB hsz l,LB hsz m,?_,fun hm=>?_,fun t ht hn=>?_⟩
  ·rw[L5,L5];exact Z6 (AE hc hby) (by decide)
  ·have hm':m=[]:=by
    have:=O8 List.length hm
    rw[L5]at this
    simp_all
   subst hm'
   have:=hk _ tl H (by
    have e:L.set i (.tl tl)=L:=by
     apply AH
     grind
    rw[e];exact hO) ha h2
   rwa[H7]at this
  rw[Mn];exact hk _ _ _ (hO.tok i hi hn) trivial h2
 cases h1
end
section
variable {P:Program}{nt:Nat}{rd:Option Nat}{T:FQ}{E:Eu}
abbrev OM (P:Program)(T:FQ):Prop:=IM P T∧P.follows .mixedOrders=true
theorem P0 (cf:Cf)(hE:E=G7 P nt rd)(hP:OM P T){c:Code}{st:St}{H:A1}{K:Exit→St→A1→Prop}(X:Exit→Fl→A1→Prop)(hd:I8 cf c=true)
 (h:ZF E T nt cf c st H fun e st' H'=>∃l,X e l H'∧FV st'.l l∧st'.df=st.df) (after:∀e l H',X e l H'→K e ⟨l,st.df⟩ H'):E.sim c st H K:=by
 subst hE;refine(Vx hP.1 hP.2 c _ _ _ hd h).mono fun e fr2 H2 ⟨st',hle',l,h3,h1,h2⟩=>?_;exact⟨⟨l,st.df⟩,⟨fun t=>(hle'.s t).trans (h1.wk t),hle'.df.trans h2⟩,after _ _ _ h3⟩
theorem J5 (cf:Cf) (hE:E=G7 P nt rd) (hP:OM P T) {σ R:Type} {step:σ→Option (σ⊕R)} {c:Code} {st:St} {H:A1} {K:Exit→St→A1→Prop} (fm:σ→Fl) (Inv:σ→A1→Prop) (X:R→Exit→Fl→A1→Prop) (hd:I8 cf c=true)
 (round:∀s H o,Inv s H→step s=some o→run E T nt cf c ⟨fm s,st.df⟩ H fun e st' H'=>match e with
  | .normal=>∃s',o= .inl s'∧FV st'.l (fm s')∧st'.df=st.df∧Inv s' H'
  |e=>∃x l,o= .inr x∧X x e l H'∧FV st'.l l∧st'.df=st.df)
 {N:Nat} {s0:σ} {r:R} (h:loopN step N s0=some r) (hf:FV st.l (fm s0)) (hI:Inv s0 H) (after:∀e l H',X r e l H'→K e ⟨l,st.df⟩ H'):E.sim (.loop c) st H K:=by
 subst hE;refine S0.loopN (fun n fr' H'=>∃s,loopN step n s=some r∧CZ fr' ⟨fm s,st.df⟩∧Inv s H') N ⟨s0,h,⟨fun t=>hf.wk t,rfl⟩,hI⟩ fun n fr' H' ⟨s,hs,hle,hi⟩=>?_
 cases n with
 |zero=>cases hs
 | succ n=>
  simp only[loopN]at hs
  cases ho:step s with
  |none=>rw[ho]at hs;cases hs
  | some o=>
   rw[ho]at hs
   refine S0.frLe hle ((L3 hP.1 hP.2 c _ _ _ hd (round s H' o hi ho)).mono fun e fr2 H2 ⟨st',hle',hq⟩=>?_)
   cases e with
   |normal=>
    obtain⟨s',h1,h2,h3,h4⟩:=hq;subst h1;exact⟨n,Fe n,s',hs,⟨fun t=>(hle'.s t).trans (h2.wk t),hle'.df.trans h3⟩,h4⟩
   |_=>
    obtain⟨x,l,h1,h4,h2,h3⟩:=hq;subst h1;cases hs;exact⟨⟨l,st.df⟩,⟨fun t=>(hle'.s t).trans (h2.wk t),hle'.df.trans h3⟩,after _ _ _ h4⟩
theorem M1 (cf:Cf) (hE:E=G7 P nt rd) (hP:OM P T) {σ γ R:Type} {step:σ→Option (σ⊕R)} {c:Code} {st:St} {H:A1} {K:Exit→St→A1→Prop} (fm:σ→γ→Fl) (Inv:σ→γ→A1→Prop) (X:R→Exit→Fl→A1→Prop) (hd:I8 cf c=true)
 (round:∀s g H o,Inv s g H→step s=some o→run E T nt cf c ⟨fm s g,st.df⟩ H fun e st' H'=>match e with
  | .normal=>∃s' g',o= .inl s'∧FV st'.l (fm s' g')∧st'.df=st.df∧Inv s' g' H'
  |e=>∃x l,o= .inr x∧X x e l H'∧FV st'.l l∧st'.df=st.df)
 {N:Nat} {s0:σ} (g0:γ) {r:R} (h:loopN step N s0=some r) (hf:FV st.l (fm s0 g0)) (hI:Inv s0 g0 H) (after:∀e l H',X r e l H'→K e ⟨l,st.df⟩ H'):E.sim (.loop c) st H K:=by
 subst hE;refine S0.loopN (fun n fr' H'=>∃s g,loopN step n s=some r∧CZ fr' ⟨fm s g,st.df⟩∧Inv s g H') N ⟨s0,g0,h,⟨fun t=>hf.wk t,rfl⟩,hI⟩ fun n fr' H' ⟨s,g,hs,hle,hi⟩=>?_
 cases n with
 |zero=>cases hs
 | succ n=>
  simp only[loopN]at hs
  cases ho:step s with
  |none=>rw[ho]at hs;cases hs
  | some o=>
   rw[ho]at hs
   refine S0.frLe hle ((L3 hP.1 hP.2 c _ _ _ hd (round s g H' o hi ho)).mono fun e fr2 H2 ⟨st',hle',hq⟩=>?_)
   cases e with
   |normal=>
    obtain⟨s',g',h1,h2,h3,h4⟩:=hq;subst h1;exact⟨n,Fe n,s',g',hs,⟨fun t=>(hle'.s t).trans (h2.wk t),hle'.df.trans h3⟩,h4⟩
   |_=>
    obtain⟨x,l,h1,h4,h2,h3⟩:=hq;subst h1;cases hs;exact⟨⟨l,st.df⟩,⟨fun t=>(hle'.s t).trans (h2.wk t),hle'.df.trans h3⟩,after _ _ _ h4⟩
theorem QP {f:FuncId}{fn:Func}{c:Code}{n:Nat}{rs:List ResultVar}{args:List V}{r:V}(cf:Cf)(hP:OM P T)(hf:P.funcs[f]? =some fn)(hb:fn.body=some c)(hd:I8 cf c=true)
 (hcall:∀vals w,(callFunc f vals).run P w= .ok (.enter f vals) w) (hnt:fn.ntmps=n) (hrs:fn.results.toList=rs) (hn:Nat.ble args.length n=true)
 (h:∀(E:Eu) (H:A1) (K:V→A1→Prop),E=G7 P n none→(∀x L H',B6 Eq H L H'→BQ x r→K x H')→run E T n cf c ⟨BN args 0,[]⟩ H (Mx E T rs K)):C5 P f args r:=fun H=>by
 refine(U0 (K:=fun x H'=>∃y H2,BQ x y∧FD H2 H'∧y=r∧H2=H) cf hP.1 hP.2 hf hb hd hcall hnt hrs hn fun E hE=>?_).le;exact h E H _ hE fun x L H' hO hx=>⟨r,H,hx,hO.ext,rfl,rfl⟩
end
end Go.Ab
namespace Go.Ab
open Go.RowKit
variable [K9][Ar]
abbrev DB :CT:=.obj (.deferred (some []))
section
variable {P:Program}{nt:Nat}{rd:Option Nat}{T:FQ}{E:Eu}
theorem Ec (hE:E=G7 P nt rd) {Φ:A1→A1→Prop} {H0 H:A1} {L:List En} (hO:B6 Φ H0 L H) (i:Nat) {d:Nat} {k:A1→Prop} (hi:L[i]? =some (.blk d DB)) (hk:∀H',B6 Φ H0 (L.eraseIdx i) H'→k H'):E.fin [d] H k:=by
 subst hE;have hd:=hO.get i hi;refine⟨⟨by simp,fun id hid=>?_⟩,?_⟩
 ·simp_all
 have e:clear H [d]=upd H d none:=by
  funext x;simp[clear,upd]
 rw[e];exact hk _ (hO.del i hi)
def Ew (P:Program)(f:FuncId)(args:List V)(Q:V→Prop):Prop:=∀H,J0 P f args H fun x H'=>Q x∧H'=H
theorem Ew.args {f:FuncId}{xs ys:List V}{Q:V→Prop}(h:Ew P f ys Q)(k:L8 xs ys):Ew P f xs Q:=fun H=>(h H).args k
theorem C5.q {f:FuncId}{args:List V}{r:V}{Q:V→Prop}(h:C5 P f args r)(hq:Q r):Ew P f args Q:=fun H=>(h H).mono fun x H' ⟨e1,e2⟩=>⟨e1▸hq,e2⟩
theorem T4 (hE:E=G7 P nt rd){R S:Type}{m:Option S}{F:S→Option R}{r:R}{f:FuncId}{args args':List V}{Q:S→V→Prop}{H:A1}{k:V→A1→Prop}(h:m.bind F=some r)(hc:∀x,m=some x→Ew P f args' (Q x))(hl:L8 args args')
 (hk:∀x v,Q x v→F x=some r→k v H):E.call (.func (.func f) [] []) args H k:=by
 subst hE;obtain⟨x,h1,h2⟩:=bind_some h
 have h3:J0 P f args H k:=((hc x h1).args hl H).mono fun v H' ⟨hq,hH⟩=>by grind
 exact J0.value (F:=[]) (C:=[]) (by grind)
theorem W3 {f:FuncId}{fn:Func}{c:Code}{n:Nat}{rs:List ResultVar}{args:List V}{Q:V→Prop}(cf:Cf)(hP:OM P T)(hf:P.funcs[f]? =some fn)(hb:fn.body=some c)(hd:I8 cf c=true)
 (hcall:∀vals w,(callFunc f vals).run P w= .ok (.enter f vals) w) (hnt:fn.ntmps=n) (hrs:fn.results.toList=rs) (hn:Nat.ble args.length n=true)
 (h:∀(E:Eu) (H:A1) (K:V→A1→Prop),E=G7 P n none→(∀x L H',B6 Eq H L H'→Q x→K x H')→run E T n cf c ⟨BN args 0,[]⟩ H (Mx E T rs K)):Ew P f args Q:=fun H=>by
 refine(U0 (K:=fun x H'=>∃y H2,BQ x y∧FD H2 H'∧Q y∧H2=H) cf hP.1 hP.2 hf hb hd hcall hnt hrs hn fun E hE=>?_).le;exact h E H _ hE fun x L H' hO hx=>⟨x,H,.refl _,hO.ext,hx,rfl⟩
def Sk :List Nat→List V→Fl→Fl
 |p::ps,x::xs,l=>Sk ps xs ((p,.v x)::l)
 |_,_,l=>l
theorem Sj :∀(ps:List Nat) (xs:List V) (l:Fl) (t:Nat),FH (fun t=>BY l t) ps xs t=BY (Sk ps xs l) t
 |[],xs,l,t=>by cases xs<;>rfl
 |p::ps,[],l,t=>rfl
 |p::ps,x::xs,l,t=>by
  simp only[FH,Sk];rw[←Sj ps xs]
  congr 1
  funext q
  rw[Xc];rfl
def YO :Exit→Option Code
 | .ret=>some .ret
 | .exit k=>some (.exit k)
 |_=>none
variable {α σ R ι:Type}
def RgI (enc:α→List V)(step:σ→α→Option (σ⊕R))(o:σ⊕R)(Inv:σ→A1→A1→Prop)(l:List (List V))(F H:A1):Prop:=
 ∃q:σ×List α,(l=q.2.map enc∧G0 step q.2 q.1=some o)∧Inv q.1 F H
def RgD (o:σ⊕R)(X:R→Exit→A1→A1→Prop)(c:Code)(F H:A1):Prop:=∃q:R×Exit,(o= .inr q.1∧YO q.2=some c)∧X q.1 q.2 F H
def RgJ (enc:α→List V)(step:σ→α→Option (σ⊕R))(o:σ⊕R)(fJ:ι→σ→α→Fl)(J:ι→σ→α→A1→A1→Prop)(x:List V)(l:List (List V))(fr:Fr)(F H:A1):Prop:=
 ∃q:ι×σ×α×List α,(x=enc q.2.2.1∧l=q.2.2.2.map enc∧G0 step (q.2.2.1::q.2.2.2) q.2.1=some o∧CZ fr ⟨fJ q.1 q.2.1 q.2.2.1,[]⟩)∧J q.1 q.2.1 q.2.2.1 F H
section
variable {enc:α→List V}{step:σ→α→Option (σ⊕R)}{g:Operand}{ps:Array Tmp}{asg body:Code}{st:St}{H:A1}{K:Exit→St→A1→Prop}
 {xs:List α} {s0:σ} {o:σ⊕R}
theorem Rb (cf:Cf) (hP:OM P T) {Inv:σ→A1→A1→Prop} {fJ:ι→σ→α→Fl} {J:ι→σ→α→A1→A1→Prop} (hda:I8 cf asg=true)
 (asgP:∀(E':Eu) (id:Nat) y s F H,E'=G7 P nt (some id)→Inv s F H→run E' T nt cf asg ⟨Sk ps.toList (enc y) st.l,[]⟩ H fun e st' H'=>match e with| .normal=>∃i,J i s y F H'∧FV st'.l (fJ i s y)∧st'.df=[]|_=>False):
 ∀(id:Nat) (L:LpI) x l F H,RgI enc step o Inv (x::l) F H→F id=some (.loop L)→x.length=ps.size→S0 P nt (some id) asg ⟨FH (G9 st).s ps.toList x,[]⟩ H fun e fr' H1=>e= .normal∧RgJ enc step o fJ J x l fr' F H1:=by
 intro id L x l F H ⟨⟨s,ys⟩,⟨hl,hr⟩,hi⟩ _ _
 cases ys with
 |nil=>cases hl
 | cons y ys=>
  simp only[E9,V0]at hl
  obtain⟨rfl,rfl⟩:=hl
  have e:(⟨FH (G9 st).s ps.toList (enc y),[]⟩:Fr)=G9 ⟨Sk ps.toList (enc y) st.l,[]⟩:=by
   simp only[G9,Fr.mk.injEq,I9]
   funext t
   grind [Sj]
  rw[e];refine(L3 hP.1 hP.2 asg _ _ _ hda (asgP _ id y s F H rfl hi)).mono fun e fr' H1 ⟨st',hle,hq⟩=>?_
  cases e with
  |normal=>
   obtain⟨i,hj,hl,hdf⟩:=hq;exact⟨rfl,⟨i,s,y,ys⟩,⟨rfl,rfl,hr,fun t=>(hle.s t).trans (hl.wk t),hle.df.trans hdf⟩,hj⟩
  |_=>exact hq.elim
theorem TH (cf:Cf) (hP:OM P T) {Inv:σ→A1→A1→Prop} {X:R→Exit→A1→A1→Prop} {fJ:ι→σ→α→Fl} {J:ι→σ→α→A1→A1→Prop} (hdb:I8 cf body=true)
 (bodyP:∀(E':Eu) (id:Nat) i y s F H o',E'=G7 P nt (some id)→(∃L,F id=some (.loop L))→step s y=some o'→J i s y F H→run E' T nt cf body ⟨fJ i s y,[]⟩ H fun e _ H'=>match e with
  | .normal=>∃s',o'= .inl s'∧Inv s' F H'
  |e=>∃r,o'= .inr r∧(YO e).isSome=true∧X r e F H'):
 ∀(id:Nat) (L:LpI) x l fr' F H,RgJ enc step o fJ J x l fr' F H→F id=some (.loop L)→S0 P nt (some id) body fr' H fun e _ H'=>Ru (RgI enc step o Inv l) (RgD o X) F e H':=by
 intro id L x l fr' F H ⟨⟨i,s,y,ys⟩,⟨hx,hl,hr,hf⟩,hj⟩ hL;subst hx;subst hl
 simp only[G0]at hr
 cases ho:step s y with
 |none=>rw[ho]at hr;cases hr
 | some o'=>
  rw[ho]at hr
  refine S0.frLe hf ((L3 hP.1 hP.2 body _ _ _ hdb (bodyP _ id i y s F H o' rfl ⟨L,hL⟩ ho hj)).mono fun e fr2 H2 ⟨st',hle,hq⟩=>?_)
  cases e with
  |normal=>
   obtain⟨s',h1,h2⟩:=hq;subst h1;exact⟨⟨s',ys⟩,⟨rfl,hr⟩,h2⟩
  |ret=>
   obtain⟨r,h1,h2,h3⟩:=hq;subst h1;exact⟨⟨r,.ret⟩,⟨by grind,rfl⟩,h3⟩
  |exit k=>
   obtain⟨r,h1,h2,h3⟩:=hq;subst h1;exact⟨⟨r,.exit k⟩,⟨by grind,rfl⟩,h3⟩
  |_=>
   obtain⟨r,h1,h2,h3⟩:=hq;cases h2
theorem BT (cf:Cf) (hE:E=G7 P nt none) (hP:OM P T) (Inv:σ→A1→A1→Prop) (X:R→Exit→A1→A1→Prop) (fJ:ι→σ→α→Fl) (J:ι→σ→α→A1→A1→Prop)
 (hI:∀s,D2 (Inv s)) (hX:∀r e,D2 (X r e)) (hJ:∀i s y,D2 (J i s y)) (hit:Ga P ((Q3 [] st.l g).V) (xs.map enc)) (h:G0 step xs s0=some o) {F:A1} (h0:Inv s0 F H)
 (hnt:∀p∈ps,p<nt) (hps:∀x,(enc x).length=ps.size) (hda:I8 cf asg=true) (hdb:I8 cf body=true)
 (asgP:∀(E':Eu) (id:Nat) y s F H,E'=G7 P nt (some id)→Inv s F H→run E' T nt cf asg ⟨Sk ps.toList (enc y) st.l,[]⟩ H fun e st' H'=>match e with| .normal=>∃i,J i s y F H'∧FV st'.l (fJ i s y)∧st'.df=[]|_=>False)
 (bodyP:∀(E':Eu) (id:Nat) i y s F H o',E'=G7 P nt (some id)→(∃L,F id=some (.loop L))→step s y=some o'→J i s y F H→run E' T nt cf body ⟨fJ i s y,[]⟩ H fun e _ H'=>match e with
  | .normal=>∃s',o'= .inl s'∧Inv s' F H'
  |e=>∃r,o'= .inr r∧(YO e).isSome=true∧X r e F H')
 (done:∀d s H',o= .inl s→F d=none→Inv s (upd F d (some DB)) H'→K .normal ⟨st.l,d::st.df⟩ H')
 (stop:∀d r e H',o= .inr r→F d=none→X r e (upd F d (some DB)) H'→K e ⟨st.l,d::st.df⟩ H'):E.sim (.rangeFunc g ps asg body) st H K:=by
 subst hE;have hev:ev (G9 st) g=(Q3 [] st.l g).V:=(Ds (df:=st.df) IP.nil g).symm
 rw[←hev]at hit
 have sI:∀l,D2 (RgI enc step o Inv l):=fun l=>D2.ex fun q=>hI q.1;have sD:∀c,D2 (RgD o X c):=fun c=>D2.ex fun q=>hX q.1 q.2;have sJ:∀x l fr,D2 (RgJ enc step o fJ J x l fr):=fun x l fr=>D2.ex fun q=>hJ q.1 q.2.1 q.2.2.1;refine S0.rangeOuter (nt:=nt) hnt (fun x hx=>?_) hit (RgI enc step o Inv) (RgD o X) sI sD (RgJ enc step o fJ J) sJ ⟨⟨s0,xs⟩,⟨rfl,h⟩,h0⟩ (Rb cf hP hda asgP) (TH cf hP hdb bodyP) (fun d H' hd ⟨⟨s,ys⟩,⟨hl,hr⟩,hi⟩=>?_) fun c d H' hd ⟨⟨r,e⟩,⟨ho,hj⟩,hx⟩=>?_
 ·grind
 ·have hys:ys=[]:=by
   simp_all
  subst hys;cases hr;exact⟨⟨st.l,d::st.df⟩,⟨fun t=>Wk.refl _,rfl⟩,done d s H' rfl hd hi⟩
 have hk:=stop d r e H' ho hd hx
 cases e with
 |ret=>cases hj;exact S0.ret ⟨⟨st.l,d::st.df⟩,⟨fun t=>Wk.refl _,rfl⟩,hk⟩
 |exit k=>cases hj;exact S0.exit ⟨⟨st.l,d::st.df⟩,⟨fun t=>Wk.refl _,rfl⟩,hk⟩
 |_=>cases hj
theorem Uc (cf:Cf) {id0:Nat} (hE:E=G7 P nt (some id0)) (hP:OM P T) (Inv:σ→A1→A1→Prop) (X:R→Exit→A1→A1→Prop) (fJ:ι→σ→α→Fl) (J:ι→σ→α→A1→A1→Prop)
 (hI:∀s,D2 (Inv s)) (hX:∀r e,D2 (X r e)) (hJ:∀i s y,D2 (J i s y)) (hit:Ga P ((Q3 [] st.l g).V) (xs.map enc)) (h:G0 step xs s0=some o) {F:A1} (hF:∃L,F id0=some (.loop L)) (h0:Inv s0 F H)
 (hnt:∀p∈ps,p<nt) (hps:∀x,(enc x).length=ps.size) (hda:I8 cf asg=true) (hdb:I8 cf body=true)
 (asgP:∀(E':Eu) (id:Nat) y s F H,E'=G7 P nt (some id)→Inv s F H→run E' T nt cf asg ⟨Sk ps.toList (enc y) st.l,[]⟩ H fun e st' H'=>match e with| .normal=>∃i,J i s y F H'∧FV st'.l (fJ i s y)∧st'.df=[]|_=>False)
 (bodyP:∀(E':Eu) (id:Nat) i y s F H o',E'=G7 P nt (some id)→(∃L,F id=some (.loop L))→step s y=some o'→J i s y F H→run E' T nt cf body ⟨fJ i s y,[]⟩ H fun e _ H'=>match e with
  | .normal=>∃s',o'= .inl s'∧Inv s' F H'
  |e=>∃r,o'= .inr r∧(YO e).isSome=true∧X r e F H')
 (done:∀s H',o= .inl s→Inv s F H'→K .normal st H')
 (stop:∀r e H',o= .inr r→X r e F H'→K e st H'):E.sim (.rangeFunc g ps asg body) st H K:=by
 subst hE;have hev:ev (G9 st) g=(Q3 [] st.l g).V:=(Ds (df:=st.df) IP.nil g).symm
 rw[←hev]at hit
 have sI:∀l,D2 (RgI enc step o Inv l):=fun l=>D2.ex fun q=>hI q.1;have sD:∀c,D2 (RgD o X c):=fun c=>D2.ex fun q=>hX q.1 q.2;have sJ:∀x l fr,D2 (RgJ enc step o fJ J x l fr):=fun x l fr=>D2.ex fun q=>hJ q.1 q.2.1 q.2.2.1;obtain⟨L0,hL0⟩:=hF;refine S0.rangeInner (nt:=nt) (id0:=id0) (L0:=L0) ((hI _).le h0 _ _ hL0) hnt (fun x hx=>?_) hit (RgI enc step o Inv) (RgD o X) sI sD (RgJ enc step o fJ J) sJ ⟨⟨s0,xs⟩,⟨rfl,h⟩,h0⟩ (Rb cf hP hda asgP) (TH cf hP hdb bodyP) (fun H' ⟨⟨s,ys⟩,⟨hl,hr⟩,hi⟩=>?_) fun c H' ⟨⟨r,e⟩,⟨ho,hj⟩,hx⟩=>?_
 ·grind
 ·have hys:ys=[]:=by
   simp_all
  subst hys;cases hr
  grind [CZ.refl]
 have hk:=stop r e H' ho hx
 cases e with
 |ret=>cases hj;grind [S0.ret,CZ.refl]
 |exit k=>cases hj;grind [S0.exit,CZ.refl]
 |_=>cases hj
end
end
theorem B6.dblk {Φ:A1→A1→Prop} {H0 H:A1} {L:List En} {d:Nat} (hd:H0 d=none) (h:B6 Φ (upd H0 d (some DB)) L H):B6 Φ H0 (L++[.blk d DB]) H:=by
 obtain⟨hs,F',H1,h0,h1,h2⟩:=h;refine⟨hs,F',H1,⟨fun x b hx=>h0.ext x b ?_,fun i e x b hi he=>?_,fun i j e e' x b b' hi hj he he'=>?_,fun x b hx=>?_⟩,h1,h2⟩
 rotate_right
 ·rcases h0.only x b hx with h|⟨i,e,hi,he⟩
  ·by_cases hxd:x=d
   ·subst hxd;rw[C8]at h;cases h;exact .inr ⟨L.length,.blk x DB,by simp,rfl⟩
   simp_all[upd]
  refine .inr ⟨i,e,?_,he⟩
  grind
 ·rw[C1 _ _ (Ae hd hx)];exact hx
 ·rcases H6 i L.length with hlt|hge
  ·rw[Bt hlt]at hi
   have:=h0.has i e x b hi he
   grind [C1]
  rw[Gt hge]at hi
  cases hm:i - L.length with
  |zero=>rw[hm]at hi;simp at hi;subst hi;cases he;exact⟨hd,h0.ext _ _ (C8 _ _ _)⟩
  |succ m=>rw[hm]at hi;simp at hi
 have hDB:∀(i:Nat) e,(L++[.blk d DB])[i]? =some e→(i<L.length∧L[i]? =some e)∨(i=L.length∧e= .blk d DB):=fun i e hi=>by
  grind
 have nd:∀(i:Nat) e x b,L[i]? =some e→e.id=some (x,b)→x≠d:=fun m e x b hm he eq=>by
  have:=(h0.has m e x b hm he).1
  rw[eq,C8]at this;cases this
 rcases hDB i e hi with⟨_,ki⟩|⟨ki,rfl⟩<;>rcases hDB j e' hj with⟨_,kj⟩|⟨kj,rfl⟩
 ·exact h0.inj i j e e' x b b' ki kj he he'
 ·cases he';grind
 ·cases he;grind
 omega
end Go.Ab
namespace Go.Ab
open Go.RowKit
variable [K9][Ar]
def OL (P:Program)(yv:V)(I:List (List V)→A1→A1→Prop)(D:A1→A1→Prop):Prop:=
 (yv.one=true∧yv.cells=[yv])∧∀x l F H,I (x::l) F H→Cz P yv x H fun r H'=>(r= .bool true∧I l F H')∨(r= .bool false∧D F H')
def Ie (P:Program)(f:FuncId)(args:V→List V)(xs:List (List V))(rb:V→Bool→Prop):Prop:=
 ∀yv I D,(∀l,D2 (I l))→D2 D→OL P yv I D→∀tl F H,I (xs++tl) F H→J0 P f (args yv) H fun v H'=>(rb v true∧I tl F H')∨(rb v false∧D F H')
def rbB (v:V)(b:Bool):Prop:=v= .bool b
def rbN (_:V)(_:Bool):Prop:=True
section
variable {P:Program}{nt:Nat}{rd:Option Nat}{T:FQ}{E:Eu}{I:List (List V)→A1→A1→Prop}{D:A1→A1→Prop}
theorem Cz.heap {fv:V}{args:List V}{H H1:A1}{K:V→A1→Prop}(h:Cz P fv args H1 K)(hl:FD H1 H):Cz P fv args H K:=
 fun g w v vals hR hv hA=>h g w v vals (hR.less hl) hv hA
theorem J0.heap {f:FuncId}{args:List V}{H H1:A1}{K:V→A1→Prop}(h:J0 P f args H1 K)(hl:FD H1 H):J0 P f args H K:=
 fun g w vals hR hA=>h g w vals (hR.less hl) hA
theorem De (hE:E=G7 P nt rd)(hI:∀l,D2 (I l))(hD:D2 D){yv:V}(hy:OL P yv I D){F H:A1}{L:List En}{args x:List V}{l:List (List V)}{k:V→A1→Prop}(hO:B6 (I (x::l)) F L H)(hl:L8 args x)
 (h1:∀H',B6 (I l) F L H'→k (.bool true) H') (h2:∀H',B6 D F L H'→k (.bool false) H'):E.call yv args H k:=by
 subst hE;obtain⟨hs,F',H1,h0,hi,hle⟩:=hO;refine(Cz.mono (((hy.2 x l F' H1 hi).heap hle).args hl) fun r H' hr=>?_)
 rcases hr with⟨rfl,hr⟩|⟨rfl,hr⟩
 ·exact h1 H' ⟨hI l,F',H',h0,hr,FD.refl _⟩
 exact h2 H' ⟨hD,F',H',h0,hr,FD.refl _⟩
theorem Aa8 (hE:E=G7 P nt rd) (hI:∀l,D2 (I l)) (hD:D2 D) {yv:V} (hy:OL P yv I D) {f:FuncId} {args':V→List V} {xs tl:List (List V)} {rb:V→Bool→Prop} (hc:Ie P f args' xs rb) {F H:A1} {L:List En} {args:List V} {k:V→A1→Prop} (hO:B6 (I (xs++tl)) F L H)
 (hl:L8 args (args' yv)) (h1:∀v H',rb v true→B6 (I tl) F L H'→k v H') (h2:∀v H',rb v false→B6 D F L H'→k v H'):E.call (.func (.func f) [] []) args H k:=by
 subst hE;obtain⟨hs,F',H1,h0,hi,hle⟩:=hO
 have h3:J0 P f args H k:=(((hc yv I D hI hD hy tl F' H1 hi).heap hle).args hl).mono fun v H' hr=>by
  rcases hr with⟨hb,hr⟩|⟨hb,hr⟩
  ·exact h1 v H' hb ⟨hI tl,F',H',h0,hr,FD.refl _⟩
  exact h2 v H' hb ⟨hD,F',H',h0,hr,FD.refl _⟩
 exact J0.value (F:=[]) (C:=[]) (by grind)
theorem JY (hE:E=G7 P nt rd){c:Bool}{x y:Unit→Prop}(hc:c=true)(h:x ()):E.br c x y:=by simp_all[G7]
theorem JZ (hE:E=G7 P nt rd){c:Bool}{x y:Unit→Prop}(hc:c=false)(h:y ()):E.br c x y:=by simp_all[G7]
theorem R9 {f:FuncId} {fn:Func} {c:Code} {n:Nat} {rs:List ResultVar} {args:V→List V} {xs:List (List V)} {rb:V→Bool→Prop} (cf:Cf) (hP:OM P T) (hf:P.funcs[f]? =some fn) (hb:fn.body=some c) (hd:I8 cf c=true)
 (hcall:∀vals w,(callFunc f vals).run P w= .ok (.enter f vals) w) (hnt:fn.ntmps=n) (hrs:fn.results.toList=rs) (hn:∀yv,Nat.ble (args yv).length n=true)
 (h:∀(yv:V) (I:List (List V)→A1→A1→Prop) (D:A1→A1→Prop),(∀l,D2 (I l))→D2 D→OL P yv I D→∀(tl:List (List V)) (F:A1) (E:Eu) (H:A1) (K:V→A1→Prop),E=G7 P n none→B6 (I (xs++tl)) F [] H→
  (∀x L H',B6 (I tl) F L H'→rb x true→K x H')→(∀x L H',B6 D F L H'→rb x false→K x H')→run E T n cf c ⟨BN (args yv) 0,[]⟩ H (Mx E T rs K)):Ie P f args xs rb:=by
 intro yv I D hI hD hy tl F H hi;refine(U0 (K:=fun x H'=>∃y H2,BQ x y∧FD H2 H'∧((rb y true∧I tl F H2)∨(rb y false∧D F H2))) cf hP.1 hP.2 hf hb hd hcall hnt hrs (hn yv) fun E hE=>?_).le;refine h yv I D hI hD hy tl F E H _ hE (B6.start (hI _) hi) (fun x L H' hO hx=>?_) fun x L H' hO hx=>?_
 ·obtain⟨H2,h1,h2⟩:=hO.out;exact⟨x,H2,.refl _,h2,.inl ⟨hx,h1⟩⟩
 obtain⟨H2,h1,h2⟩:=hO.out;exact⟨x,H2,.refl _,h2,.inr ⟨hx,h1⟩⟩
theorem W1 {f:FuncId}{C:List V}{xs:List (List V)}{rb:V→Bool→Prop}(hcall:∀vals w,(callFunc f vals).run P w= .ok (.enter f vals) w)(h:Ie P f (fun yv=>yv::C) xs rb):Ga P (.func (.func f) [] C) xs:=
 ⟨f,C,rfl,hcall,fun yv I D hI hD hy F H hi=>(h yv I D hI hD hy [] F H (by rwa[H7])).mono fun v H' hr=>hr.imp (fun h=>h.2) fun h=>h.2⟩
theorem B6.cast {Φ:A1→A1→Prop}{H0 H:A1}{L L':List En}(h:B6 Φ H0 L H)(e:L=L'):B6 Φ H0 L' H:=e▸h
noncomputable def Bl (ds:List Nat):List En:=List.rec (motive:=fun _=>List En) [] (fun d _ l=>l++[.blk d DB]) ds
theorem UI (d:Nat)(ds:List Nat):Bl (d::ds)=Bl ds++[.blk d DB]:=rfl
theorem B6.dbs1 {Φ:A1→A1→Prop}{H0 H:A1}{A:List En}{d:Nat}{ds:List Nat}(h:B6 Φ H0 ((A++Bl ds)++[.blk d DB]) H):B6 Φ H0 (A++Bl (d::ds)) H:=by
 rw[UI,←E7];exact h
theorem An2 {Φ:A1→A1→Prop} {H0:A1} {A:List En}:∀{ds:List Nat} {H:A1},B6 Φ H0 (A++Bl ds) H→ds.Nodup∧(∀id,id∈ds→H id=some DB)∧B6 Φ H0 A (clear H ds):=by
 intro ds
 induction ds with
 |nil=>
  intro H h
  have e:clear H []=H:=by funext x;simp[clear]
  rw[e]
  grind [Bl]
 | cons d ds ih=>
  intro H h
  rw[UI,←E7]at h
  have hi:((A++Bl ds)++[En.blk d DB])[(A++Bl ds).length]? =some (.blk d DB):=by simp
  have hd:=h.get _ hi;have h1:=h.del _ hi
  have e:((A++Bl ds)++[En.blk d DB]).eraseIdx (A++Bl ds).length=A++Bl ds:=by
   rw[List.eraseIdx_append_of_length_le (D1 _)];simp
  rw[e]at h1
  obtain⟨a1,a2,a3⟩:=ih h1;refine⟨List.nodup_cons.2 ⟨fun hm=>?_,a1⟩,fun id hid=>?_,?_⟩
  ·have:=a2 d hm;rw[C8]at this;cases this
  ·grind [C1]
  have e2:clear (upd H d none) ds=clear H (d::ds):=by
   funext x
   grind [clear,upd]
  rwa[e2]at a3
theorem Iu (hE:E=G7 P nt rd){Φ:A1→A1→Prop}{H0 H:A1}{A:List En}{ds:List Nat}(hO:B6 Φ H0 (A++Bl ds) H){k:A1→Prop}(hk:∀H',B6 Φ H0 A H'→k H'):E.fin ds H k:=by
 subst hE;obtain⟨a1,a2,a3⟩:=An2 hO;exact⟨⟨a1,a2⟩,hk _ a3⟩
theorem Aa5 (cf:Cf) (hE:E=G7 P nt rd) (hP:OM P T) {β σ γ R:Type} {step:σ→Option (List β×(σ⊕R))} {c:Code} {st:St} {H:A1} {K:Exit→St→A1→Prop} (fm:σ→γ→Fl) (Inv:σ→γ→List Nat→List β→A1→Prop) (X:R→Exit→Fl→List Nat→List β→A1→Prop) (Xa:Exit→Fl→List Nat→A1→Prop) (hd:I8 cf c=true)
 (round:∀s g ds w1 w2 H o,Inv s g ds (w1++w2) H→step s=some (w1,o)→run E T nt cf c ⟨fm s g,ds⟩ H fun e st' H'=>match e with
  | .normal=>∃s' g' ds',o= .inl s'∧FV st'.l (fm s' g')∧st'.df=ds'∧Inv s' g' ds' w2 H'
  |e=>(∃x l ds',o= .inr x∧X x e l ds' w2 H'∧FV st'.l l∧st'.df=ds')∨∃l ds',Xa e l ds' H'∧FV st'.l l∧st'.df=ds')
 {N:Nat} {s0:σ} (g0:γ) {w w':List β} {r:R} (h:Cs step N s0=some (w,r)) (hdf:st.df=[]) (hf:FV st.l (fm s0 g0)) (hI:Inv s0 g0 [] (w++w') H) (after:∀e l ds H',X r e l ds w' H'→K e ⟨l,ds⟩ H') (afterA:∀e l ds H',Xa e l ds H'→K e ⟨l,ds⟩ H'):E.sim (.loop c) st H K:=by
 subst hE;refine S0.loopN (fun n fr' H'=>∃s g ds w,Cs step n s=some (w,r)∧CZ fr' ⟨fm s g,ds⟩∧Inv s g ds (w++w') H') N ⟨s0,g0,[],w,h,⟨fun t=>hf.wk t,hdf⟩,hI⟩ fun n fr' H' ⟨s,g,ds,w,hs,hle,hi⟩=>?_
 cases n with
 |zero=>cases hs
 | succ n=>
  simp only[Cs]at hs
  cases ho:step s with
  |none=>rw[ho]at hs;cases hs
  | some p=>
   obtain⟨w1,o⟩:=p
   rw[ho]at hs
   obtain⟨w2,hw,hrest⟩:∃w2,w=w1++w2∧match o with| .inl s'=>Cs step n s'=some (w2,r)| .inr x=>x=r∧w2=[]:=by
    cases o with
    |inl s'=>
     grind
    |inr x=>grind
   subst hw
   rw[E7]at hi
   refine S0.frLe hle ((L3 hP.1 hP.2 c _ _ _ hd (round s g ds w1 (w2++w') H' o hi ho)).mono fun e fr2 H2 ⟨st',hle',hq⟩=>?_)
   have exits:∀e,((∃x l ds',o= .inr x∧X x e l ds' (w2++w') H2∧FV st'.l l∧st'.df=ds')∨∃l ds',Xa e l ds' H2∧FV st'.l l∧st'.df=ds')→∃st'',CZ fr2 st''∧K e st'' H2:=by
    intro e hq
    rcases hq with⟨x,l,ds',h1,h4,h2,h3⟩|⟨l,ds',h4,h2,h3⟩
    ·subst h1;obtain⟨rfl,rfl⟩:=hrest;exact⟨⟨l,ds'⟩,⟨fun t=>(hle'.s t).trans (h2.wk t),hle'.df.trans h3⟩,after _ _ _ _ h4⟩
    exact⟨⟨l,ds'⟩,⟨fun t=>(hle'.s t).trans (h2.wk t),hle'.df.trans h3⟩,afterA _ _ _ _ h4⟩
   cases e with
   |normal=>
    obtain⟨s',g',ds',h1,h2,h3,h4⟩:=hq;subst h1;exact⟨n,Fe n,s',g',ds',w2,hrest,⟨fun t=>(hle'.s t).trans (h2.wk t),hle'.df.trans h3⟩,h4⟩
   |_=>exact exits _ hq
theorem KI (cf:Cf) (hE:E=G7 P nt rd) (hP:OM P T) {β σ γ R:Type} {step:σ→Option (List β×(σ⊕R))} {c:Code} {st:St} {H:A1} {K:Exit→St→A1→Prop} (fm:σ→γ→Fl) (Inv:σ→γ→List β→A1→Prop) (X:R→Exit→Fl→List β→A1→Prop) (Xa:Exit→Fl→A1→Prop) (hd:I8 cf c=true)
 (round:∀s g w1 w2 H o,Inv s g (w1++w2) H→step s=some (w1,o)→run E T nt cf c ⟨fm s g,st.df⟩ H fun e st' H'=>match e with
  | .normal=>∃s' g',o= .inl s'∧FV st'.l (fm s' g')∧st'.df=st.df∧Inv s' g' w2 H'
  |e=>(∃x l,o= .inr x∧X x e l w2 H'∧FV st'.l l∧st'.df=st.df)∨∃l,Xa e l H'∧FV st'.l l∧st'.df=st.df)
 {N:Nat} {s0:σ} (g0:γ) {w w':List β} {r:R} (h:Cs step N s0=some (w,r)) (hf:FV st.l (fm s0 g0)) (hI:Inv s0 g0 (w++w') H) (after:∀e l H',X r e l w' H'→K e ⟨l,st.df⟩ H') (afterA:∀e l H',Xa e l H'→K e ⟨l,st.df⟩ H'):E.sim (.loop c) st H K:=by
 subst hE;refine S0.loopN (fun n fr' H'=>∃s g w,Cs step n s=some (w,r)∧CZ fr' ⟨fm s g,st.df⟩∧Inv s g (w++w') H') N ⟨s0,g0,w,h,⟨fun t=>hf.wk t,rfl⟩,hI⟩ fun n fr' H' ⟨s,g,w,hs,hle,hi⟩=>?_
 cases n with
 |zero=>cases hs
 | succ n=>
  simp only[Cs]at hs
  cases ho:step s with
  |none=>rw[ho]at hs;cases hs
  | some p=>
   obtain⟨w1,o⟩:=p
   rw[ho]at hs
   obtain⟨w2,hw,hrest⟩:∃w2,w=w1++w2∧match o with| .inl s'=>Cs step n s'=some (w2,r)| .inr x=>x=r∧w2=[]:=by
    cases o with
    |inl s'=>
     grind
    |inr x=>grind
   subst hw
   rw[E7]at hi
   refine S0.frLe hle ((L3 hP.1 hP.2 c _ _ _ hd (round s g w1 (w2++w') H' o hi ho)).mono fun e fr2 H2 ⟨st',hle',hq⟩=>?_)
   have exits:∀e,((∃x l,o= .inr x∧X x e l (w2++w') H2∧FV st'.l l∧st'.df=st.df)∨∃l,Xa e l H2∧FV st'.l l∧st'.df=st.df)→∃st'',CZ fr2 st''∧K e st'' H2:=by
    intro e hq
    rcases hq with⟨x,l,h1,h4,h2,h3⟩|⟨l,h4,h2,h3⟩
    ·subst h1;obtain⟨rfl,rfl⟩:=hrest;exact⟨⟨l,st.df⟩,⟨fun t=>(hle'.s t).trans (h2.wk t),hle'.df.trans h3⟩,after _ _ _ h4⟩
    exact⟨⟨l,st.df⟩,⟨fun t=>(hle'.s t).trans (h2.wk t),hle'.df.trans h3⟩,afterA _ _ _ h4⟩
   cases e with
   |normal=>
    obtain⟨s',g',h1,h2,h3,h4⟩:=hq;subst h1;exact⟨n,Fe n,s',g',w2,hrest,⟨fun t=>(hle'.s t).trans (h2.wk t),hle'.df.trans h3⟩,h4⟩
   |_=>exact exits _ hq
end
section
variable {P:Program}{nt:Nat}{T:FQ}{E:Eu}{α β σ R ι:Type}
def REI (enc:α→List V)(step:σ→α→Option (List β×(σ⊕R)))(o:σ⊕R)(w':List β)(Inv:σ→List β→A1→A1→Prop)(l:List (List V))(F H:A1):Prop:=
 ∃q:σ×List α×List β,(l=q.2.1.map enc∧CP step q.2.1 q.1=some (q.2.2,o))∧Inv q.1 (q.2.2++w') F H
def RED (o:σ⊕R)(w':List β)(X:R→Exit→List β→A1→A1→Prop)(Xa:Exit→A1→A1→Prop)(c:Code)(F H:A1):Prop:=
 (∃q:R×Exit,(o= .inr q.1∧YO q.2=some c)∧X q.1 q.2 w' F H)∨∃q:Exit,YO q=some c∧Xa q F H
def REJ (enc:α→List V)(step:σ→α→Option (List β×(σ⊕R)))(o:σ⊕R)(w':List β)(fJ:ι→σ→α→Fl)(J:ι→σ→α→List β→A1→A1→Prop)(x:List V)(l:List (List V))(fr:Fr)(F H:A1):Prop:=
 ∃q:ι×σ×α×List α×List β,(x=enc q.2.2.1∧l=q.2.2.2.1.map enc∧CP step (q.2.2.1::q.2.2.2.1) q.2.1=some (q.2.2.2.2,o)∧CZ fr ⟨fJ q.1 q.2.1 q.2.2.1,[]⟩)∧J q.1 q.2.1 q.2.2.1 (q.2.2.2.2++w') F H
theorem D2.or {I J:A1→A1→Prop}(h:D2 I)(k:D2 J):D2 fun F H=>I F H∨J F H:=
 ⟨fun hh=>hh.elim (fun x=>h.le x) fun x=>k.le x,fun id b hh e=>hh.imp (fun x=>h.chg id b x e) fun x=>k.chg id b x e⟩
variable {enc:α→List V}{step:σ→α→Option (List β×(σ⊕R))}{g:Operand}{ps:Array Tmp}{asg body:Code}{st:St}{H:A1}{K:Exit→St→A1→Prop}
 {xs:List α} {s0:σ} {o:σ⊕R} {w w':List β}
theorem Pz (cf:Cf) (hE:E=G7 P nt none) (hP:OM P T) (Inv:σ→List β→A1→A1→Prop) (X:R→Exit→List β→A1→A1→Prop) (Xa:Exit→A1→A1→Prop) (fJ:ι→σ→α→Fl) (J:ι→σ→α→List β→A1→A1→Prop)
 (hI:∀s w,D2 (Inv s w)) (hX:∀r e w,D2 (X r e w)) (hXa:∀e,D2 (Xa e)) (hJ:∀i s y w,D2 (J i s y w)) (hit:Ga P ((Q3 [] st.l g).V) (xs.map enc)) (h:CP step xs s0=some (w,o)) {F:A1} (h0:Inv s0 (w++w') F H)
 (hnt:∀p∈ps,p<nt) (hps:∀x,(enc x).length=ps.size) (hda:I8 cf asg=true) (hdb:I8 cf body=true)
 (asgP:∀(E':Eu) (id:Nat) y s w F H,E'=G7 P nt (some id)→Inv s w F H→run E' T nt cf asg ⟨Sk ps.toList (enc y) st.l,[]⟩ H fun e st' H'=>match e with| .normal=>∃i,J i s y w F H'∧FV st'.l (fJ i s y)∧st'.df=[]|_=>False)
 (bodyP:∀(E':Eu) (id:Nat) i y s w1 w2 F H o',E'=G7 P nt (some id)→(∃L,F id=some (.loop L))→step s y=some (w1,o')→J i s y (w1++w2) F H→run E' T nt cf body ⟨fJ i s y,[]⟩ H fun e _ H'=>match e with
  | .normal=>∃s',o'= .inl s'∧Inv s' w2 F H'
  |e=>(∃r,o'= .inr r∧(YO e).isSome=true∧X r e w2 F H')∨((YO e).isSome=true∧Xa e F H'))
 (done:∀d s H',o= .inl s→F d=none→Inv s w' (upd F d (some DB)) H'→K .normal ⟨st.l,d::st.df⟩ H')
 (stop:∀d r e H',o= .inr r→F d=none→X r e w' (upd F d (some DB)) H'→K e ⟨st.l,d::st.df⟩ H')
 (stopA:∀d e H',F d=none→Xa e (upd F d (some DB)) H'→K e ⟨st.l,d::st.df⟩ H'):E.sim (.rangeFunc g ps asg body) st H K:=by
 subst hE;have hev:ev (G9 st) g=(Q3 [] st.l g).V:=(Ds (df:=st.df) IP.nil g).symm
 rw[←hev]at hit
 have sI:∀l,D2 (REI enc step o w' Inv l):=fun l=>D2.ex fun q=>hI q.1 _;have sD:∀c,D2 (RED o w' X Xa c):=fun c=>D2.or (D2.ex fun q=>hX q.1 q.2 w') (D2.ex fun q=>hXa q);have sJ:∀x l fr,D2 (REJ enc step o w' fJ J x l fr):=fun x l fr=>D2.ex fun q=>hJ q.1 q.2.1 q.2.2.1 _;refine S0.rangeOuter (nt:=nt) hnt (fun x hx=>?_) hit (REI enc step o w' Inv) (RED o w' X Xa) sI sD (REJ enc step o w' fJ J) sJ ⟨⟨s0,xs,w⟩,⟨rfl,h⟩,h0⟩ ?_ ?_ (fun d H' hd ⟨⟨s,ys,w2⟩,⟨hl,hr⟩,hi⟩=>?_) fun c d H' hd hx=>?_
 ·grind
 ·intro id L x l F H ⟨⟨s,ys,w2⟩,⟨hl,hr⟩,hi⟩ _ _
  cases ys with
  |nil=>cases hl
  | cons y ys=>
   simp only[E9,V0]at hl
   obtain⟨rfl,rfl⟩:=hl
   have e:(⟨FH (G9 st).s ps.toList (enc y),[]⟩:Fr)=G9 ⟨Sk ps.toList (enc y) st.l,[]⟩:=by
    simp only[G9,Fr.mk.injEq,I9]
    funext t
    grind [Sj]
   rw[e];refine(L3 hP.1 hP.2 asg _ _ _ hda (asgP _ id y s _ F H rfl hi)).mono fun e fr' H1 ⟨st',hle,hq⟩=>?_
   cases e with
   |normal=>
    obtain⟨i,hj,hl,hdf⟩:=hq;exact⟨rfl,⟨i,s,y,ys,w2⟩,⟨rfl,rfl,hr,fun t=>(hle.s t).trans (hl.wk t),hle.df.trans hdf⟩,hj⟩
   |_=>exact hq.elim
 ·intro id L x l fr' F H ⟨⟨i,s,y,ys,w2⟩,⟨hx,hl,hr,hf⟩,hj⟩ hL;subst hx;subst hl
  simp only[CP]at hr
  cases ho:step s y with
  |none=>rw[ho]at hr;cases hr
  | some p=>
   obtain⟨w1,o'⟩:=p
   rw[ho]at hr
   obtain⟨w3,hw,hrest⟩:∃w3,w2=w1++w3∧match o' with| .inl s'=>CP step ys s'=some (w3,o)| .inr x=>o= .inr x∧w3=[]:=by
    cases o' with
    |inl s'=>
     grind
    |inr x=>grind
   subst hw
   dsimp only at hj
   rw[E7]at hj
   refine S0.frLe hf ((L3 hP.1 hP.2 body _ _ _ hdb (bodyP _ id i y s w1 (w3++w') F H o' rfl ⟨L,hL⟩ ho hj)).mono fun e fr2 H2 ⟨st',hle,hq⟩=>?_)
   have out:∀e c,YO e=some c→((∃r,o'= .inr r∧(YO e).isSome=true∧X r e (w3++w') F H2)∨((YO e).isSome=true∧Xa e F H2))→RED o w' X Xa c F H2:=by
    intro e c hc hq
    rcases hq with⟨r,h1,_,h3⟩|⟨_,h3⟩
    ·subst h1;obtain⟨rfl,rfl⟩:=hrest;exact .inl ⟨⟨r,e⟩,⟨rfl,hc⟩,h3⟩
    grind [RED]
   cases e with
   |normal=>
    obtain⟨s',h1,h2⟩:=hq;subst h1;exact⟨⟨s',ys,w3⟩,⟨rfl,hrest⟩,h2⟩
   |ret=>exact out .ret _ rfl hq
   |exit k=>exact out (.exit k) _ rfl hq
   |_=>rcases hq with⟨_,_,h,_⟩|⟨h,_⟩<;>cases h
 ·have hys:ys=[]:=by
   simp_all
  subst hys;cases hr;exact⟨⟨st.l,d::st.df⟩,⟨fun t=>Wk.refl _,rfl⟩,done d s H' rfl hd hi⟩
 have fin:∀e,YO e=some c→K e ⟨st.l,d::st.df⟩ H'→S0 P nt none c {G9 st with df:=d::(G9 st).df} H' fun e fr' H'=>∃st',CZ fr' st'∧K e st' H':=by
  intro e hj hk
  cases e with
  |ret=>cases hj;exact S0.ret ⟨⟨st.l,d::st.df⟩,⟨fun t=>Wk.refl _,rfl⟩,hk⟩
  |exit k=>cases hj;exact S0.exit ⟨⟨st.l,d::st.df⟩,⟨fun t=>Wk.refl _,rfl⟩,hk⟩
  |_=>cases hj
 rcases hx with⟨⟨r,e⟩,⟨ho,hj⟩,hx⟩|⟨e,hj,hx⟩
 ·grind
 grind
end
end Go.Ab
namespace Go.Ab
def Eh {α:Type}(l:List α)(i:Int):Bool:=decide (0≤i∧i<(l.length:Nat))
def CM {α:Type}(l:List α)(i:Int)(u:α→α):Option (List α):=(D0 l i).map fun x=>l.set i.toNat (u x)
def VN {α:Type}(n m:Int)(z:α):Option (List α):=if 0≤n∧n≤m∧m≤1073741824 then some (List.replicate n.toNat z)else none
def SK {α:Type}(l:List α)(i j:Int):Option (List α):=if 0≤i∧i≤j∧j≤(l.length:Nat)then some (l.take i.toNat++l.drop j.toNat)else none
def SA {α:Type}(l:List α)(i:Int)(m:List α):Option (List α):=if 0≤i∧i≤(l.length:Nat)∧l.length+m.length≤1073741824 then some (l.take i.toNat++m++l.drop i.toNat)else none
def Kj {α:Type}(_:List α)(n:Int):Option (List α):=if 0≤n∧n≤1073741824 then some []else none
end Go.Ab
namespace Go.Ab
open Go.RowKit
variable [K9][Ar]
theorem BP.swap {H0 H:A1} {L:List En} (h:BP H0 L H) (i:Nat) {en en':En} {id t:Nat} {b b':CT} (hi:L[i]? =some en) (he:en.id=some (id,b)) (he':en'.id=some (t,b')) (ht:upd H id none t=none):
 BP H0 (L.set i en') (upd (upd H id none) t (some b')):=by
 have hlt:i<L.length:=by
  grind
 have KW:∀(j:Nat) e,(L.set i en')[j]? =some e→(j=i∧e=en')∨(j≠i∧L[j]? =some e):=fun j e hj=>by
  rw[P5]at hj
  grind
 have hid:=h.has i _ id b hi he
 have h0:∀x c,H0 x=some c→upd H id none x=some c:=fun x c hx=>by
  rw[C1 _ _ (Ae hid.1 hx)];exact h.ext x c hx
 have hoth:∀(j:Nat) e x c,j≠i→L[j]? =some e→e.id=some (x,c)→H0 x=none∧upd H id none x=some c:=fun j e x c hne hj hx=>by
  have:=h.has j e x c hj hx
  have hxid:x≠id:=fun eq=>by subst eq;exact hne (h.inj j i e _ x c b hj hi hx he)
  simp_all[upd]
 have hid0:H0 t=none:=by
  cases e:H0 t with
  |none=>rfl
  |some c=>rw[h0 t c e]at ht;cases ht
 refine⟨fun x bb hx=>?_,fun j e x bb hj hx=>?_,fun j k e e' x bb bb' hj hk hx hx'=>?_,fun x bb hx=>?_⟩
 rotate_right
 ·by_cases hxi:x=t
  ·grind [upd]
  rw[C1 _ _ hxi]at hx
  have hxid:x≠id:=fun eq=>by simp_all[upd]
  rw[C1 _ _ hxid]at hx
  refine(h.only x bb hx).imp (fun h=>h) fun⟨j,e,h1,h2⟩=>⟨j,e,?_,h2⟩;rw[P5]
  grind
 ·rw[C1 _ _ (Ae hid0 hx)];simp_all
 ·grind [upd]
 rcases KW j e hj with⟨hji,rfl⟩|⟨hne,hj'⟩<;>rcases KW k e' hk with⟨hki,rfl⟩|⟨hne',hk'⟩
 ·rw[hji,hki]
 ·rw[he']at hx;grind
 ·rw[he']at hx';grind
 exact h.inj j k e e' x bb bb' hj' hk' hx hx'
theorem B6.swap {Φ:A1→A1→Prop}{F H:A1}{L:List En}(h:B6 Φ F L H)(i:Nat){id t:Nat}{b b':CT}(hi:L[i]? =some (.blk id b))(ht:upd H id none t=none):B6 Φ F (L.set i (.blk t b')) (upd (upd H id none) t (some b')):=by
 obtain⟨hs,F',H1,h0,h1,h2⟩:=h;have e:=h0.get i hi;have e1:=hs.le h1 _ _ e;have h3:=hs.chg id none h1 (by rw[e,e1]);have hle:FD (upd H1 id none) (upd H id none):=h2.upd id none;have hn1:=hle.none ht;have hn':=hs.fresh h3 hn1;exact⟨hs,_,_,h0.swap i hi rfl rfl hn',hs.chg t (some b') h3 (by rw[hn1,hn']),hle.upd t _⟩
theorem B6.swap' {Φ:A1→A1→Prop}{F H:A1}{L:List En}(h:B6 Φ F L H)(i:Nat){id t:Nat}{b b':CT}(hi:L[i]? =some (.blk id b))(ht:H t=none):B6 Φ F (L.set i (.blk t b')) (upd H t (some b')):=by
 have hid:=h.get i hi
 have hne:t≠id:=fun e=>by simp_all
 obtain⟨hs,F',H1,h0,h1,h2⟩:=h.swap (b':=b') i hi (t:=t) (by rw[C1 _ _ hne];exact ht)
 grind [B6,upd,FD]
structure OG where
 id:Nat
 lo:Int
 n:Int
 pre:List V
 rest:List V
def Al (q:OG)(m:Int):Prop:=q.lo=(q.pre.length:Nat)∧q.n=m
theorem Xd {α:Type}{f:α→V}(l:List α):Ar.len l=((lst f l).length:Nat):=by rw[len_eq,L5]
theorem Ab7 {α:Type}{f:α→V}(l:List α):Ar.len l=Ab8 (lst f l):=by rw[Xe,Xd (f:=f) l]
theorem Ku {pre xs rest:List V}{lo n:Int}(h0:lo=(pre.length:Nat))(h1:n=(xs.length:Nat)):L1 (pre++xs++rest) lo n=xs:=by
 simp_all[L1]
theorem TU {pre xs rest ys:List V}{i:Nat}(hi:i=pre.length+xs.length):Ap (pre++xs++rest) i ys=pre++(xs++ys)++rest.drop ys.length:=by
 subst hi;simp only[Ap,E7];rw[show pre++(xs++rest)=(pre++xs)++rest by simp,←I6,List.take_left,List.drop_append];simp
theorem Uu {pre xs rest:List V}{i:Nat}(h:i<xs.length):(pre++xs++rest).getD (pre.length+i) .bad=xs.getD i .bad:=by
 grind
theorem Ah8 {pre xs rest:List V}{i:Nat}{v:V}(h:i<xs.length):(pre++xs++rest).set (pre.length+i) v=pre++xs.set i v++rest:=by
 simp_all
theorem B6.set_self {L:List En}(i:Nat){e:En}(hi:L[i]? =some e):L.set i e=L:=by
 apply AH
 grind
section
variable {P:Program}{nt:Nat}{rd:Option Nat}{T:FQ}{E:Eu}
variable (hE:E=G7 P nt rd)
include hE
variable {α R:Type}{f:α→V}{Φ:A1→A1→Prop}{H0 H:A1}{L:List En}{sz:Nat}{q:OG}{l:List α}{r:R}
theorem JU (hq:Al q (Ar.len l)){k:Int→Prop}(h:k (Ar.len l)):E.olen q.n k:=by
 grind [G7,Al]
theorem Aq (hO:B6 Φ H0 L H)(hq:Al q (Ar.len l))(i:Nat){j:Int}{k:Int→Prop}{F:Unit→Option R}(hi:L[i]? =some (.blk q.id (.arr sz (q.pre++lst f l++q.rest))))(h:(DK (Eh l j)).bind F=some r)(hk:F ()=some r→k (ofs q.lo j)):
 E.oidx H q.id sz q.lo q.n j k:=by
 subst hE;obtain⟨x,h1,h2⟩:=bind_some h
 unfold DK at h1
 split at h1
 ·rename_i hp;refine⟨⟨_,hO.get i hi⟩,?_,hk h2⟩;rw[hq.2,len_eq];grind [Eh]
 cases h1
theorem Rq {l:List α}{i:Int}{x:α}(h:D0 l i=some x):(0≤i∧i<(l.length:Nat))∧l[i.toNat]? =some x:=by
 grind [D0]
theorem Uj {l:List α}{i:Nat}{x:α}(h:l[i]? =some x):(lst f l).getD i .bad=f x:=by
 rw[lst_eq];simp_all
theorem Df {g:α→V}(hf:∀x,f x=g x)(hO:B6 Φ H0 L H)(hq:Al q (Ar.len l))(i:Nat){j:Int}{k:V→Prop}{F:α→Option R}(hi:L[i]? =some (.blk q.id (.arr sz (q.pre++lst f l++q.rest))))(h:(D0 l j).bind F=some r)(hk:∀x,F x=some r→k (g x)):
 E.oload H q.id (ofs q.lo j) k:=by
 obtain⟨x,h1,h2⟩:=bind_some h;obtain⟨hb,h3⟩:=Rq hE h1;have h4:=Uj hE (f:=f) h3;subst hE;have e1:=L5 (f:=f) l;refine⟨_,_,hO.get i hi,?_,?_⟩
 ·rw[ofs_eq,hq.1];grind
 rw[ofs_eq,hq.1,show((q.pre.length:Nat)+j:Int).toNat=q.pre.length+j.toNat by omega,Uu (by rw[e1];omega),h4,hf]
 grind
theorem Uf {β:Type}{f0:β→V}{esz:Nat}(hO:B6 Φ H0 L H){k:Nat→A1→Prop}(hk:∀(q:OG) id H',Al q (Ar.len ([]:List β))→B6 Φ H0 (.blk id (.cells [.own q.id q.lo q.n]):: .blk q.id (.arr esz (q.pre++lst f0 []++q.rest))::L) H'→k id H'):E.oalloc esz H k:=by
 subst hE;intro t id ht hid
 have e:([]:List V)++lst f0 []++[]=[]:=by rw[←B4 (f:=f0)];rfl
 have h0:B6 Φ H0 (.blk t (.arr esz [])::L) (upd H t (some (.arr esz []))):=hO.push ht rfl;have h1:B6 Φ H0 (.blk id (.cells [.own t 0 0]):: .blk t (.arr esz [])::L) (upd (upd H t (some (.arr esz []))) id (some (.cells [.own t 0 0]))):=h0.push hid rfl;refine hk ⟨t,0,0,[],[]⟩ id _ ⟨rfl,by rw[len_eq];rfl⟩ ?_
 simp_all
theorem WY (hO:B6 Φ H0 L H)(hq:Al q (Ar.len l))(i m:Nat){id j:Nat}{cs:List V}{k:A1→Prop}(hi:L[i]? =some (.blk id (.cells cs)))(hm:L[m]? =some (.blk q.id (.arr sz (q.pre++lst f l++q.rest))))(hj:cs[j]? =some (.own q.id q.lo q.n))(him:i≠m)
 (hk:∀H',B6 Φ H0 ((L.set i (.blk id (.cells (cs.set j (.sl (lst f l) .ro))))).eraseIdx m) H'→k H'):E.frzIn H id j k:=by
 subst hE;have h1:=hO.get i hi;have h2:=hO.get m hm
 have hne:q.id≠id:=fun e=>by rw[e,h1]at h2;cases h2
 refine⟨cs,q.id,q.lo,q.n,sz,_,_,h1,hj,h2,.refl _,?_⟩;have h3:=(hO.set i (b':=.cells (cs.set j (.sl (lst f l) .ro))) hi).del m (id:=q.id) (b:=.arr sz (q.pre++lst f l++q.rest)) (by rw[P5,A3 him];exact hm);rw[Ku hq.1 (by rw[hq.2,len_eq,L5]),OQ _ _ _ hne]
 grind
theorem Bc {u:α→α} {esz tz off:Nat} {y:V} (hu:∀x,∃y',BQ y y'∧y'.one=true∧y'.cells.length=tz∧Si (f x) esz tz off y'=f (u x)) (hle:off+tz≤esz) (hO:B6 Φ H0 L H) (hq:Al q (Ar.len l)) (i:Nat) {j:Int} {k:A1→Prop} {F:List α→Option R}
 (hi:L[i]? =some (.blk q.id (.arr esz (q.pre++lst f l++q.rest)))) (h:(CM l j u).bind F=some r)
 (hk:∀l' H',Al q (Ar.len l')→F l'=some r→B6 Φ H0 (L.set i (.blk q.id (.arr esz (q.pre++lst f l'++q.rest)))) H'→k H'):E.ostore H q.id (ofs q.lo j) esz tz off y k:=by
 obtain⟨l',h1,h2⟩:=bind_some h
 unfold CM at h1
 cases hx:D0 l j with
 |none=>rw[hx]at h1;cases h1
 | some x=>
  rw[hx]at h1
  simp only[H8,D9]at h1
  obtain⟨hb,h3⟩:=Rq hE hx;obtain⟨y',q1,q2,q3,q4⟩:=hu x;have e1:=Uj hE (f:=f) h3
  have e2:(lst f l).set j.toNat (f (u x))=lst f l':=by
   rw[←h1,lst_eq,lst_eq,List.map_set]
  subst hE;have el:=L5 (f:=f) l
  have ej:(ofs q.lo j).toNat=q.pre.length+j.toNat:=by rw[ofs_eq,hq.1];omega
  refine⟨_,y',q1,q2,q3,hle,hO.get i hi,?_,?_⟩
  ·rw[ofs_eq,hq.1];grind
  rw[ej,Uu (by rw[el];omega),Ah8 (by rw[el];omega),e1,q4,e2];refine hk l' _ ⟨hq.1,?_⟩ h2 (hO.set i hi);rw[hq.2,len_eq,len_eq,←h1,IZ]
theorem PB {by_:Nat} (hby:by_≤131072) {z:V} {z0:α} (hz:BQ z (f z0)) (hO:B6 Φ H0 L H) {n m:Int} {k:V→A1→Prop} {F:List α→Option R} (h:(VN n m z0).bind F=some r)
 (hk:∀l' (q:OG) H',Al q (Ar.len l')→F l'=some r→B6 Φ H0 (.blk q.id (.arr sz (q.pre++lst f l'++q.rest))::L) H'→k (.own q.id q.lo q.n) H'):E.omk sz by_ z n m H k:=by
 subst hE;obtain⟨l',h1,h2⟩:=bind_some h
 unfold VN at h1
 split at h1
 ·rename_i hc;cases h1;refine⟨⟨hc.1,hc.2.1,?_⟩,List.replicate m.toNat (f z0),?_,fun id hid=>?_⟩
  ·have:m*(by_:Nat)≤1073741824*131072:=Int.mul_le_mul hc.2.2 (by omega) (by omega) (by omega);omega
  ·have:∀k:Nat,L8 (List.replicate k z) (List.replicate k (f z0)):=fun k=>by
    induction k with
    |zero=>exact .nil
    |succ k ih=>rw[Fj,Fj];exact .cons hz ih
   exact this _
  have e:List.replicate m.toNat (f z0)=[]++lst f (List.replicate n.toNat z0)++List.replicate (m.toNat - n.toNat) (f z0):=by
   rw[lst_eq,List.map_replicate,P4,NJ];grind
  rw[e];exact hk _ ⟨id,0,n,[],List.replicate (m.toNat - n.toNat) (f z0)⟩ _ ⟨rfl,by rw[len_eq];simp;omega⟩ h2 (hO.push hid rfl)
 cases h1
theorem FI {by_:Nat} {z:V} (hsz:∀x,(f x).cells.length=sz) (hby:by_≤131072) (hO:B6 Φ H0 L H) (hq:Al q (Ar.len l)) (i:Nat) (hi:L[i]? =some (.blk q.id (.arr sz (q.pre++lst f l++q.rest)))) {y:V} {m:List α} {k:V→A1→Prop} {F:List α→Option R}
 (hs:Oq sz H y (lst f m)) (h:(N5 l m).bind F=some r)
 (hk:∀x (q:OG) H',Al q (Ar.len x)→B6 Φ H0 (L.set i (.blk q.id (.arr sz (q.pre++lst f x++q.rest)))) H'→F x=some r→k (.own q.id q.lo q.n) H'):E.oapp sz by_ z H (.own q.id q.lo q.n) y k:=by
 subst hE;obtain⟨x,h1,h2⟩:=bind_some h;have el:=L5 (f:=f) l;have em:=L5 (f:=f) m
 have hn:q.n=(l.length:Nat):=by rw[hq.2,len_eq]
 unfold N5 at h1
 split at h1
 ·rename_i hc;cases h1;refine⟨_,hs,_,hO.get i hi,fun hfit=>?_,fun _=>⟨?_,fun t j ht=>?_⟩⟩
  rotate_left
  ·rw[em,hn,N3];exact Z6 (AE hc hby) (by decide)
  rotate_left
  ·have e:Ap (q.pre++lst f l++q.rest) (q.lo+q.n).toNat (lst f m)=q.pre++lst f (l++m)++q.rest.drop m.length:=by
    rw[TU (by rw[hq.1,hn,el];omega),Mn,em]
   rw[e];refine hk _ ⟨q.id,q.lo,q.n+((lst f m).length:Nat),q.pre,q.rest.drop m.length⟩ _ ⟨hq.1,?_⟩ (hO.set i hi) h2;rw[len_eq,hn,em];simp
  have e:L1 (q.pre++lst f l++q.rest) q.lo q.n++lst f m++List.replicate j z=[]++lst f (l++m)++List.replicate j z:=by
   rw[Ku hq.1 (by rw[el];exact hn),Mn,P4]
  rw[e];refine hk _ ⟨t,0,q.n+((lst f m).length:Nat),[],List.replicate j z⟩ _ ⟨rfl,?_⟩ (hO.swap' i hi ht) h2;rw[len_eq,hn,em];simp
 cases h1
theorem Sp {by_:Nat} {z:V} (hsz:∀x,(f x).cells.length=sz) (hby:by_≤131072) (hO:B6 Φ H0 L H) {x:V} (hx:x= .sl [] .nil∨x= .sl [] .full) {y:V} {m:List α} {k:V→A1→Prop} {F:List α→Option R}
 (hs:Oq sz H y (lst f m)) (h:(N5 [] m).bind F=some r)
 (hk:∀x (q:OG) H',Al q (Ar.len x)→B6 Φ H0 (.blk q.id (.arr sz (q.pre++lst f x++q.rest))::L) H'→F x=some r→k (.own q.id q.lo q.n) H'):E.oapp sz by_ z H x y k:=by
 subst hE;obtain⟨x',h1,h2⟩:=bind_some h;have em:=L5 (f:=f) m
 unfold N5 at h1
 split at h1
 ·rename_i hc;cases h1;refine⟨_,hs,?_⟩
  have key:(lst f m).length*by_≤140737488355328∧∀t j,H t=none→k (.own t 0 ((lst f m).length:Nat)) (upd H t (some (.arr sz (lst f m++List.replicate j z)))):=by
   refine⟨?_,fun t j ht=>?_⟩
   ·rw[em];exact Z6 (AE (by simpa using hc) hby) (by decide)
   refine hk m ⟨t,0,((lst f m).length:Nat),[],List.replicate j z⟩ _ ⟨rfl,by rw[len_eq,em]⟩ ?_ (by grind);exact hO.push ht rfl
  grind [FZ]
 cases h1
theorem Ah (h:Al q (Ar.len l)):Al q ((lst f l).length:Nat):=⟨h.1,by rw[h.2,len_eq,L5]⟩
theorem Ah4 (hO:B6 Φ H0 L H)(hq:Al q (Ar.len l))(i:Nat)(hi:L[i]? =some (.blk q.id (.arr sz (q.pre++lst f l++q.rest)))):Oq sz H (.own q.id q.lo q.n) (lst f l):=by
 refine⟨_,hO.get i hi,?_⟩;rw[Ku hq.1 (by rw[hq.2,len_eq,L5])];exact .refl _
theorem CN (hsz:∀x,(f x).cells.length=sz){ys:List V}{tl:E5}(h:L8 ys (lst f l)):Oq sz H (.sl ys tl) (lst f l):=⟨h,LB hsz l⟩
theorem Ud (hO:B6 Φ H0 L H) (hq:Al q (Ar.len l)) (i:Nat) (hi:L[i]? =some (.blk q.id (.arr sz (q.pre++lst f l++q.rest)))) {lo hi':Option Int} {k:V→Prop} {F:List α→Option R}
 (h:(Ao l lo hi' none).bind F=some r) (hk:∀x (q:OG),Al q (Ar.len x)→B6 Φ H0 (L.set i (.blk q.id (.arr sz (q.pre++lst f x++q.rest)))) H→F x=some r→k (.own q.id q.lo q.n)):
 E.oslice sz H q.id q.lo q.n lo hi' none k:=by
 subst hE;obtain⟨x,h1,h2⟩:=bind_some h;have el:=L5 (f:=f) l
 have hn:q.n=(l.length:Nat):=by rw[hq.2,len_eq]
 unfold Ao at h1
 split at h1
 ·rename_i hc;cases h1;obtain⟨c1,c2,c3,c4,c5⟩:=hc
  simp only[Dj]at c3
  refine⟨_,hO.get i hi,?_,?_⟩
  ·rw[hn,hq.1]
   grind
  rw[hn]
  generalize hA:lo.getD 0=a at *
  generalize hB:hi'.getD (l.length:Nat)=b at *
  have hm:((l.drop a.toNat).take (b.toNat - a.toNat)).length=b.toNat - a.toNat:=by simp;omega
  refine hk _ ⟨q.id,q.lo+a,b - a,q.pre++lst f (l.take a.toNat),lst f (l.drop b.toNat)++q.rest⟩ ⟨?_,?_⟩ ?_ h2
  ·simp only[I6,L5,Br,hq.1];omega
  ·rw[len_eq,hm];grind
  have e:q.pre++lst f (l.take a.toNat)++lst f ((l.drop a.toNat).take (b.toNat - a.toNat))++(lst f (l.drop b.toNat)++q.rest)=q.pre++lst f l++q.rest:=by
   have e1:l=l.take a.toNat++((l.drop a.toNat).take (b.toNat - a.toNat)++l.drop b.toNat):=by
    have e2:l.drop b.toNat=(l.drop a.toNat).drop (b.toNat - a.toNat):=by rw[Fb];grind
    rw[e2,Dm,Dm]
   have e3:lst f l=lst f (l.take a.toNat)++(lst f ((l.drop a.toNat).take (b.toNat - a.toNat))++lst f (l.drop b.toNat)):=by
    rw[Mn,Mn,←e1]
   rw[e3];grind
  grind [B6.set_self]
 cases h1
theorem Yg (hO:B6 Φ H0 L H)(hq:Al q (Ar.len l))(i:Nat)(hi:L[i]? =some (.blk q.id (.arr sz (q.pre++lst f l++q.rest)))){lo hi':Option Int}{k:V→Prop}{F:List α→Option R}
 (h:(Ao l lo hi' none).bind F=some r) (hk:∀x (q':OG),Oq sz H (.own q'.id q'.lo q'.n) (lst f x)→F x=some r→k (.own q'.id q'.lo q'.n)):
 E.oslice sz H q.id q.lo q.n lo hi' none k:=
 Ud hE hO hq i hi h fun x q' hq' hO' h2=>hk x q' (Ah4 hE hO' hq' i (by rw[P5];grind)) h2
theorem JV (hO:B6 Φ H0 L H)(hq:Al q (Ar.len l))(i:Nat){k:List V→A1→Prop}(hi:L[i]? =some (.blk q.id (.arr sz (q.pre++lst f l++q.rest))))(hk:∀H',B6 Φ H0 (L.eraseIdx i) H'→k (lst f l) H'):E.ofrz H q.id q.lo q.n k:=by
 subst hE;have:=hk _ (hO.del i hi);refine⟨_,_,_,hO.get i hi,.refl _,?_⟩;rw[Ku hq.1 (by rw[hq.2,len_eq,L5])];exact this
end
end Go.Ab
namespace Go.Ab
open Go.RowKit
variable [K9][Ar]
theorem Ui {α:Type}{f:α→V}{l:List α}(h:lst f l=[]):l=[]:=by
 rw[lst_eq]at h;simp_all
theorem Qn {α:Type}{f:α→V}{l r:List α}(hx:lst f l=[])(h:(N5 [] l).bind (fun x=>some x)=some r):lst f r=[]:=by
 rw[Ui hx]at h
 grind [N5,lst_eq]
def Wt (F:A1)(sz:Nat)(xs:List V)(v:V)(H':A1):Prop:=∃q:OG,v= .own q.id q.lo q.n∧Al q (xs.length:Nat)∧F q.id=none∧H'=upd F q.id (some (.arr sz (q.pre++xs++q.rest)))
def Li (P:Program)(f:FuncId)(args:List V)(sz:Nat)(xs:List V):Prop:=∀H,J0 P f args H (Wt H sz xs)
def Nv (P:Program)(f:FuncId)(args:List V)(sz:Nat)(xs xs':List V):Prop:=
 ∀H (q:OG),Al q (xs.length:Nat)→H q.id=some (.arr sz (q.pre++xs++q.rest))→J0 P f (.own q.id q.lo q.n::args) H (Wt (upd H q.id none) sz xs')
def HJ (mk:V→V):Prop:=∀(g:Gh) (w:World) (u:Value) (x:V),VR g w u (mk x)→∃v,VR g w v x∧∀(g':Gh) (w':World) (y:V),U1 g w g' w'→VR g' w' v y→VR g' w' u (mk y)
theorem HJ.id :HJ fun x=>x:=fun _ _ u _ h=>⟨u,h,fun _ _ _ _ k=>k⟩
theorem HJ.agg (cs:List V) (i:Nat) (hi:i<cs.length):HJ fun x=>.agg (cs.set i x):=fun g w u x h=>by
 cases h with
 |agg hl h1 hv=>
  rename_i vs
  have hi':i<(cs.set i x).length:=by grind
  refine⟨vs.getD i undef,by have:=hv i hi';rwa[DP hi,A2 rfl]at this,fun g' w' y s k=>?_⟩;refine .agg (by grind) (fun j hj=>h1 j (by grind)) fun j hj=>?_;rw[DP hi]
  split
  ·simp_all
  rename_i e;have:=hv j (by grind)
  rw[DP hi,A3 e]at this
  exact this.mono s
theorem HJ.tup (cs:List V) (i:Nat) (hi:i<cs.length):HJ fun x=>.tup (cs.set i x):=fun g w u x h=>by
 cases h with
 |tup hl hv=>
  rename_i vs
  have hi':i<(cs.set i x).length:=by grind
  refine⟨vs.getD i undef,by have:=hv i hi';rwa[DP hi,A2 rfl]at this,fun g' w' y s k=>?_⟩;refine .tup (by grind) fun j hj=>?_;rw[DP hi]
  split
  ·simp_all
  rename_i e;have:=hv j (by grind)
  rw[DP hi,A3 e]at this
  exact this.mono s
theorem J0.adopt {P:Program} {f:FuncId} {args:List V} {H:A1} {K:V→A1→Prop} {sz:Nat} (h:J0 P f args H fun x H'=>K x H'∨(x= .sl [] .nil∧∀t,H' t=none→K (.own t 0 0) (upd H' t (some (.arr sz []))))):J0 P f args H K:=
 fun g w vals hR hA=>(h g w vals hR hA).mono fun v w' ⟨g',x,H',s,hR',hv,hK⟩=>by
  rcases hK with hK|⟨rfl,hK⟩
  ·grind [K6]
  obtain⟨g2,s2,hR2,hn,hv2⟩:=DL hR' sz (.inl rfl) hv;exact⟨g2,_,_,s.trans s2,hR2,hv2,hK _ hn⟩
def Ao9 (F:A1)(sz:Nat)(xs:List V)(mk:V→V)(v:V)(H':A1):Prop:=∃q:OG,v=mk (.own q.id q.lo q.n)∧Al q (xs.length:Nat)∧F q.id=none∧H'=upd F q.id (some (.arr sz (q.pre++xs++q.rest)))
def Af8 (P:Program)(f:FuncId)(args:List V)(sz:Nat)(xs:List V)(mk:V→V):Prop:=∀H,J0 P f args H (Ao9 H sz xs mk)
theorem J0.adoptG {P:Program} {f:FuncId} {args:List V} {H:A1} {K:V→A1→Prop} {sz:Nat} {mk:V→V} (hm:HJ mk) (h:J0 P f args H fun x H'=>K x H'∨(x=mk (.sl [] .nil)∧∀t,H' t=none→K (mk (.own t 0 0)) (upd H' t (some (.arr sz []))))):J0 P f args H K:=
 fun g w vals hR hA=>(h g w vals hR hA).mono fun v w' ⟨g',x,H',s,hR',hv,hK⟩=>by
  rcases hK with hK|⟨rfl,hK⟩
  ·grind [K6]
  obtain⟨u,hu,hb⟩:=hm g' w' v _ hv;obtain⟨g2,s2,hR2,hn,hv2⟩:=DL hR' sz (.inl rfl) hu;exact⟨g2,_,_,s.trans s2,hR2,hb _ _ _ s2 hv2,hK _ hn⟩
theorem B6.last {F H:A1}{t:Nat}{b:CT}(h:B6 Eq F [.blk t b] H):F t=none∧FD (upd F t (some b)) H:=by
 obtain⟨hs,F',H1,h0,h1,h2⟩:=h;subst h1;have h3:=h0.has 0 _ t b rfl rfl;refine⟨h3.1,fun x c hx=>?_⟩
 by_cases e:x=t
 ·grind [FD,upd]
 rw[C1 _ _ e]at hx;exact h2 _ _ (h0.ext x c hx)
theorem B6.only {F H:A1}{L:List En}{t:Nat}{b:CT}(h:B6 Eq F L H)(i:Nat)(hi:L[i]? =some (.blk t b)):B6 Eq F [.blk t b] H:=by
 obtain⟨hs,F',H1,h0,h1,h2⟩:=h;subst h1;have h3:=h0.has i _ t b hi rfl;refine⟨hs,upd F t (some b),upd F t (some b),(BP.start F).push h3.1 rfl,rfl,fun x c hx=>?_⟩
 by_cases e:x=t
 ·grind [FD,upd]
 rw[C1 _ _ e]at hx;exact h2 _ _ (h0.ext x c hx)
theorem B6.only1 {F H:A1}{L:List En}{t:Nat}{b:CT}(h:B6 Eq F (.blk t b::L) H):B6 Eq F [.blk t b] H:=by
 obtain⟨hs,F',H1,h0,h1,h2⟩:=h;subst h1;have h3:=h0.has 0 _ t b rfl rfl;refine⟨hs,upd F t (some b),upd F t (some b),(BP.start F).push h3.1 rfl,rfl,fun x c hx=>?_⟩
 by_cases e:x=t
 ·grind [FD,upd]
 rw[C1 _ _ e]at hx;exact h2 _ _ (h0.ext x c hx)
section
variable {P:Program}{T:FQ}{f:FuncId}{fn:Func}{c:Code}{n:Nat}{rs:List ResultVar}{args:List V}
theorem BK {F H:A1}{sz:Nat}{xs:List V}(cf:Cf)(hP:OM P T)(hf:P.funcs[f]? =some fn)(hb:fn.body=some c)(hd:I8 cf c=true)
 (hcall:∀vals w,(callFunc f vals).run P w= .ok (.enter f vals) w) (hnt:fn.ntmps=n) (hrs:fn.results.toList=rs) (hn:Nat.ble args.length n=true)
 (h:∀(E:Eu) (K:V→A1→Prop),E=G7 P n none→(∀(q:OG) L H',Al q (xs.length:Nat)→B6 Eq F (.blk q.id (.arr sz (q.pre++xs++q.rest))::L) H'→K (.own q.id q.lo q.n) H')→(xs=[]→∀L H',B6 Eq F L H'→K (.sl [] .nil) H')→run E T n cf c ⟨BN args 0,[]⟩ H (Mx E T rs K)):
 J0 P f args H (Wt F sz xs):=by
 refine J0.adopt (sz:=sz) (J0.le (U0 (K:=fun x H'=>∃y H2,BQ x y∧FD H2 H'∧(Wt F sz xs y H2∨(y= .sl [] .nil∧∀t,H2 t=none→Wt F sz xs (.own t 0 0) (upd H2 t (some (.arr sz [])))))) cf hP.1 hP.2 hf hb hd hcall hnt hrs hn fun E hE=>?_));refine h E _ hE (fun q L H' hq hO=>?_) fun hx L H' hO=>?_
 ·obtain⟨h1,h2⟩:=hO.only1.last;exact⟨_,_,.refl _,h2,.inl ⟨q,rfl,hq,h1,rfl⟩⟩
 exact⟨_,F,.refl _,hO.ext,.inr ⟨rfl,fun t ht=>⟨⟨t,0,0,[],[]⟩,rfl,⟨rfl,by rw[hx];rfl⟩,ht,by rw[hx];rfl⟩⟩⟩
end
section
variable {P:Program}{nt:Nat}{rd:Option Nat}{T:FQ}{E:Eu}
variable (hE:E=G7 P nt rd)
include hE
theorem Ss {α β R:Type} {f:α→V} {Φ:A1→A1→Prop} {H0 H:A1} {L:List En} {sz:Nat} {r:R} {m:Option β} {F:β→Option R} {g:β→List α} {mk:β→V→V} {fid:FuncId} {args args':List V} {k:V→A1→Prop}
 (h:m.bind F=some r) (hc:∀x,m=some x→Af8 P fid args' sz (lst f (g x)) (mk x)) (hl:L8 args args') (hO:B6 Φ H0 L H)
 (hk:∀x (q:OG) H',Al q (Ar.len (g x))→B6 Φ H0 (.blk q.id (.arr sz (q.pre++lst f (g x)++q.rest))::L) H'→F x=some r→k (mk x (.own q.id q.lo q.n)) H'):
 E.call (.func (.func fid) [] []) args H k:=by
 subst hE;obtain⟨x,h1,h2⟩:=bind_some h;refine J0.value (F:=[]) (C:=[]) ?_;have:=((hc x h1) H).args hl;simp only[P4,H7]
 exact this.mono fun v H' ⟨q,e1,e0,e2,e3⟩=>by
  subst e1;subst e3;exact hk x q _ (by rw[len_eq];rwa[L5]at e0) (hO.push e2 rfl) h2
variable {α R S:Type}{f:α→V}{Φ:A1→A1→Prop}{H0 H:A1}{L:List En}{sz:Nat}{q:OG}{r:R}{m:Option (List α)}{F:List α→Option R}{fid:FuncId}{args args':List V}{k:V→A1→Prop}
theorem EU (h:m.bind F=some r) (hc:∀x,m=some x→Li P fid args' sz (lst f x)) (hl:L8 args args') (hO:B6 Φ H0 L H)
 (hk:∀x (q:OG) H',Al q (Ar.len x)→B6 Φ H0 (.blk q.id (.arr sz (q.pre++lst f x++q.rest))::L) H'→F x=some r→k (.own q.id q.lo q.n) H'):
 E.call (.func (.func fid) [] []) args H k:=by
 subst hE;obtain⟨x,h1,h2⟩:=bind_some h;refine J0.value (F:=[]) (C:=[]) ?_;have:=((hc x h1) H).args hl;simp only[P4,H7]
 exact this.mono fun v H' ⟨q,e1,e0,e2,e3⟩=>by
  subst e1;subst e3;exact hk x q _ (by rw[len_eq];rwa[L5]at e0) (hO.push e2 rfl) h2
theorem Ml {l:List α} (hO:B6 Φ H0 L H) (hq:Al q (Ar.len l)) (i:Nat) (hi:L[i]? =some (.blk q.id (.arr sz (q.pre++lst f l++q.rest)))) (h:m.bind F=some r) (hc:∀x,m=some x→Nv P fid args' sz (lst f l) (lst f x)) (hl:L8 args args')
 (hk:∀x (q:OG) H',Al q (Ar.len x)→B6 Φ H0 (L.set i (.blk q.id (.arr sz (q.pre++lst f x++q.rest)))) H'→F x=some r→k (.own q.id q.lo q.n) H'):
 E.call (.func (.func fid) [] []) (.own q.id q.lo q.n::args) H k:=by
 subst hE;obtain⟨x,h1,h2⟩:=bind_some h;refine J0.value (F:=[]) (C:=[]) ?_;have:=((hc x h1) H q (by rw[L5,←len_eq];exact hq) (hO.get i hi)).args (.cons (.refl _) hl);simp only[P4,H7]
 exact this.mono fun v H' ⟨q',e1,e0,e2,e3⟩=>by
  subst e1;subst e3;exact hk x q' _ (by rw[len_eq];rwa[L5]at e0) (hO.swap i hi e2) h2
theorem VM {p:Prop}{v:V}{a b:Unit→Prop}(hv:Yf v=some p)(h1:p→a ())(h0:b ()):E.nilc v a b:=by grind [G7]
end
end Go.Ab
namespace Go.Ab
open Go.RowKit
variable [K9][Ar]
section
variable {P:Program}{T:FQ}{f:FuncId}{fn:Func}{c:Code}{n:Nat}{rs:List ResultVar}{args:List V}
theorem Qe {H:A1} {sz:Nat} {q:OG} {xs':List V} (cf:Cf) (hP:OM P T) (hf:P.funcs[f]? =some fn) (hb:fn.body=some c) (hd:I8 cf c=true)
 (hcall:∀vals w,(callFunc f vals).run P w= .ok (.enter f vals) w) (hnt:fn.ntmps=n) (hrs:fn.results.toList=rs) (hn:Nat.ble (args.length+1) n=true)
 (h:∀(E:Eu) (K:V→A1→Prop),E=G7 P n none→
  (∀(t:Nat) (lo m:Int) (row pre rest:List V) H',row=pre++xs'++rest→lo=(pre.length:Nat)→m=(xs'.length:Nat)→(t=q.id∨H t=none)→FD (upd (upd H q.id none) t (some (.arr sz row))) H'→K (.own t lo m) H')→
  run E T n cf c ⟨BN (.own q.id q.lo q.n::args) 0,[]⟩ H (Mx E T rs K)):
 J0 P f (.own q.id q.lo q.n::args) H (Wt (upd H q.id none) sz xs'):=by
 refine J0.le (U0 (K:=fun x H'=>∃y H2,BQ x y∧FD H2 H'∧Wt (upd H q.id none) sz xs' y H2) cf hP.1 hP.2 hf hb hd hcall hnt hrs hn fun E hE=>?_);refine h E _ hE fun t lo m row pre rest H' e1 e2 e3 e4 e5=>?_;subst e1;refine⟨_,_,.refl _,e5,⟨t,lo,m,pre,rest⟩,rfl,⟨e2,e3⟩,?_,rfl⟩
 grind [upd]
end
section
variable {P:Program}{nt:Nat}{rd:Option Nat}{T:FQ}{E:Eu}
variable (hE:E=G7 P nt rd)
include hE
variable {H:A1}{sz id:Nat}{l n RL:Int}{row:List V}
theorem T3 (hk:H id=some (.arr sz row))(hl:RL=(row.length:Nat)){lo hi:Option Int}{k:V→Prop}(a b:Int)(ha:lo.getD 0=a)(hb:hi.getD n=b)(h1:0≤a)(h2:a≤b)(h3:l+b≤RL)(h:∀l' n',l'=l+a→n'=b - a→k (.own id l' n')):
 E.oslice sz H id l n lo hi none k:=by
 grind [G7]
theorem XY (hk:H id=some (.arr sz row))(hl:RL=(row.length:Nat)){lo hi:Option Int}{m:Int}{k:V→Prop}(a b:Int)(ha:lo.getD 0=a)(hb:hi.getD n=b)(h1:0≤a)(h2:a≤b)(h3:b≤m)(h4:l+m≤RL)(h5:hi.isSome=true)(h:k .bad):
 E.oslice sz H id l n lo hi (some m) k:=by
 grind [G7]
theorem As5 (hk:H id=some (.arr sz row))(hl:RL=(row.length:Nat)){k:Int→Prop}(h:∀c,c=RL - l→k c):E.ocap H id l k:=by
 grind [G7]
theorem Sg {k:Int→Prop}(h:k n):E.olen n k:=by grind [G7]
theorem JN {c:Bool}{x y:Unit→Prop}(h1:c=true→x ())(h2:c=false→y ()):E.br c x y:=by simp_all[G7]
theorem Na {xs:List V}(hl:RL=(xs.length:Nat)){k:Int→Prop}(h:k RL):E.ln xs k:=by simp_all[G7]
theorem Kz {k:V→Prop}(h:k (.sl [] .nil)):E.slice sz [] .nil none (some 0) none k:=by
 subst hE;exact⟨⟨by decide,by decide,by decide,by decide,fun h=>(by cases h),.inl (by decide)⟩,h⟩
theorem RU (hk:H id=some (.arr sz row)):Oq sz H (.own id l n) (L1 row l n):=⟨_,hk,.refl _⟩
theorem Mf (hk:H id=some (.arr sz row)){y:V}{ys':List V}(hs:Oq sz H y ys'){YL:Int}(hy:YL=(ys'.length:Nat)){k:V→A1→Prop}
 (h:∀m row',m=(if n<YL then n else YL)→row'=Ap row l.toNat (ys'.take n.toNat)→k (.int .i64 m) (upd H id (some (.arr sz row')))):E.ocopy sz H (.own id l n) y k:=by
 grind [G7]
theorem ZJ {z:V}(hk:H id=some (.arr sz row)){k:A1→Prop}(h:∀row',row'=Ap row l.toNat (List.replicate n.toNat z)→k (upd H id (some (.arr sz row')))):E.oclear sz z H (.own id l n) k:=by
 simp_all[G7]
theorem ZK {by_:Nat}{z:V}(hk:H id=some (.arr sz row))(hl:RL=(row.length:Nat)){y:V}{ys':List V}(hs:Oq sz H y ys'){YL:Int}(hy:YL=(ys'.length:Nat)){k:V→A1→Prop}
 (hin:l+n+YL≤RL→∀m row',m=n+YL→row'=Ap row (l+n).toNat ys'→k (.own id l m) (upd H id (some (.arr sz row'))))
 (hout:RL<l+n+YL→(n.toNat+ys'.length)*by_≤140737488355328∧∀t m row' j,H t=none→m=n+YL→row'=L1 row l n++ys'++List.replicate j z→k (.own t 0 m) (upd H t (some (.arr sz row')))):
 E.oapp sz by_ z H (.own id l n) y k:=by
 subst hE;subst hl;subst hy;exact⟨_,hs,_,hk,fun e=>hin e _ _ rfl rfl,fun e=>⟨(hout e).1,fun t j ht=>(hout e).2 t _ _ j ht rfl rfl⟩⟩
theorem Ai9 {by_:Nat} {z:V} {i0:Int} (i:Int) (hi:i0=i) (hk:H id=some (.arr sz row)) (hl:RL=(row.length:Nat)) (h0:0≤i) (hb:(n.toNat+i.toNat)*by_≤140737488355328) {k:V→A1→Prop}
 (hin:l+n+i≤RL→∀m row',m=n+i→row'=Ap row (l+n).toNat (List.replicate i.toNat z)→k (.own id l m) (upd H id (some (.arr sz row'))))
 (hout:RL<l+n+i→∀t m row' j,H t=none→m=n+i→row'=L1 row l n++List.replicate i.toNat z++List.replicate j z→k (.own t 0 m) (upd H t (some (.arr sz row')))):
 E.oappz sz by_ z H (.own id l n) i0 k:=by
 subst hE;subst hl;subst hi
 generalize i0=i at *
 have e:((i.toNat:Nat):Int)=i:=by omega
 have hbn:n.toNat+i.toNat≤(n.toNat+i.toNat)*by_∨by_=0:=by
  rcases Nat.eq_zero_or_pos by_ with h|h
  ·exact .inr h
  simp_all[Ju]
 refine⟨⟨h0,hb⟩,_,hk,fun hle=>?_,fun hlt=>⟨?_,fun t j ht=>?_⟩⟩
 ·simp_all
 ·grind
 simp_all
theorem HU {by_:Nat} {z x:V} {i0:Int} (i:Int) (hi:i0=i) (hx:x= .sl [] .nil∨x= .sl [] .full) (h0:0≤i) (hb:i.toNat*by_≤140737488355328) {k:V→A1→Prop}
 (hout:∀t m row' j,H t=none→m=i→row'=List.replicate i.toNat z++List.replicate j z→k (.own t 0 m) (upd H t (some (.arr sz row')))):
 E.oappz sz by_ z H x i0 k:=by
 subst hE;subst hi
 generalize i0=i at *
 have e:((i.toNat:Nat):Int)=i:=by omega
 have key:FZ H k sz by_ z x (List.replicate i.toNat z):=by
  have h2:(List.replicate i.toNat z).length*by_≤140737488355328∧∀t j,H t=none→k (.own t 0 ((List.replicate i.toNat z).length:Nat)) (upd H t (some (.arr sz (List.replicate i.toNat z++List.replicate j z)))):=by
   simp_all
  grind [FZ]
 refine⟨⟨h0,?_⟩,key⟩
 rcases hx with rfl|rfl<;>simpa[ownN]using hb
end
end Go.Ab
namespace Go.Ab
open Go.RowKit
theorem OV {A B C row:List V}{lo n:Int}(hr:row=A++B++C)(h0:lo=(A.length:Nat))(h1:n=(B.length:Nat)):L1 row lo n=B:=by
 simp_all[L1]
theorem Ir {A B C ys row:List V}{i:Nat}(hr:row=A++B++C)(hi:i=A.length)(hl:ys.length=B.length):Ap row i ys=A++ys++C:=by
 simp_all[Ap]
theorem Ah2 {row ys:List V}{l n m RL:Int}(hRL:RL=(row.length:Nat))(hy:m=(ys.length:Nat))(h0:0≤l)(h1:0≤n)(h:l+n+m≤RL):(l+n).toNat+ys.length≤row.length:=by omega
theorem An6 {pre xs rest row row1 row2:List V} {z:V} {lo i j n l1 n1 l2 n2 m l3 n3:Int} (hr:row=pre++xs++rest) (e1:lo=(pre.length:Nat)) (e2:n=(xs.length:Nat)) (h0:0≤i) (h1:i≤j) (h2:j≤(xs.length:Nat))
 (q1:l1=lo) (q2:n1=i) (q3:l2=lo+j) (q4:n2=n - j) (hr1:row1=Ap row (l1+n1).toNat (L1 row l2 n2)) (q5:m=n1+((L1 row l2 n2).length:Nat)) (q6:l3=l1+m) (q7:n3=n - m) (hr2:row2=Ap row1 l3.toNat (List.replicate n3.toNat z)):
 row2=pre++(xs.take i.toNat++xs.drop j.toNat)++(List.replicate (j - i).toNat z++rest)∧m=((xs.take i.toNat++xs.drop j.toNat).length:Nat):=by
 have e3:L1 row l2 n2=xs.drop j.toNat:=by
  refine OV (A:=pre++xs.take j.toNat) (C:=rest) ?_ ?_ ?_
  ·rw[hr];simp_all
  ·simp;omega
  grind
 rw[e3]at hr1 q5
 have hm:m=((xs.take i.toNat++xs.drop j.toNat).length:Nat):=by grind
 refine⟨?_,hm⟩
 have hr1':row1=(pre++xs.take i.toNat)++xs.drop j.toNat++((xs.drop i.toNat).drop (xs.length - j.toNat)++rest):=by
  rw[hr1];refine Ir (B:=(xs.drop i.toNat).take (xs.length - j.toNat)) ?_ ?_ ?_
  ·rw[hr]
   grind [List.take_append_drop]
  ·simp;omega
  grind
 rw[hr2];have:=Ir (row:=row1) (A:=pre++xs.take i.toNat++xs.drop j.toNat) (B:=(xs.drop i.toNat).drop (xs.length - j.toNat)) (C:=rest) (ys:=List.replicate n3.toNat z) (i:=l3.toNat) (by rw[hr1'];simp_all) (by grind) (by grind);rw[this,show n3.toNat=(j - i).toNat by grind]
 simp_all
theorem Ar8 [K9]{H:A1}{id:Nat}{b:CT}(h:H id=some b):FD (Go.Ab.upd H id (some b)) H:=fun y c hy=>by
 grind [upd]
theorem Xl [K9]{H:A1}{id t:Nat}{b:Option CT}:FD (Go.Ab.upd (Go.Ab.upd H id none) t b) (Go.Ab.upd H t b):=fun x d hx=>by
 grind [upd]
theorem Hn {a b by_:Nat}(h:a+b≤1073741824)(hb:by_≤131072):(a+b)*by_≤140737488355328:=Z6 (AE h hb) (by decide)
theorem Al7 {α:Type} [Ar] {f:α→V} {l r:List α} {i j:Int} (h:SK l i j=some r):0≤i∧i≤j∧j≤((lst f l).length:Nat)∧lst f r=(lst f l).take i.toNat++(lst f l).drop j.toNat:=by
 unfold SK at h
 split at h
 ·rename_i hc;cases h
  simp_all[lst_eq]
 cases h
theorem Al6 {α:Type} [Ar] {f:α→V} {l r m:List α} {i:Int} (h:SA l i m=some r):0≤i∧i≤((lst f l).length:Nat)∧(lst f l).length+(lst f m).length≤1073741824∧lst f r=(lst f l).take i.toNat++lst f m++(lst f l).drop i.toNat:=by
 unfold SA at h
 split at h
 ·rename_i hc;cases h
  simp_all[lst_eq]
 cases h
theorem HX {α:Type}[K9][Ar]{f:α→V}{l r:List α}{n:Int}(h:Kj l n=some r):0≤n∧n≤1073741824∧lst f r=[]:=by
 grind [Kj,lst_eq]
end Go.Ab
namespace Go.Ab
open Go.RowKit
variable [K9]
theorem Sf {P:Program} {g:Gh} {H:A1} {w:World} (hR:Rl g H w) {tS tR e:TypeId} {sz id:Nat} {lo n:Int} {xs row:List V} {t:E5} {v u:Value} (hu:Ev P tS=some e) (hs:DS P e=some sz) (hk:H id=some (.arr sz row))
 (hall:xs.all (fun x=>x.cells.length==sz)=true) (hv:VR g w v (.sl xs t)) (hw:VR g w u (.own id lo n)):(Extern.SlicesOverlaps.overlaps #[tS,tS] #[tR] #[v,u]).run P w= .ok (.bool false) w:=by
 obtain⟨b,p,h1,h2,h3,h4,h5,h6,h7,h8,h9,h10⟩:=Eb hR hk hw;obtain⟨base,cap,vs,f1,f2,f3,f4,f5⟩:=DJ (P:=P) hv hall;have ht:=O4 hu;have hz:=N6 hs;subst f1;subst h2;obtain⟨la,hla⟩:∃la,la=xs.length:=⟨_,rfl⟩;obtain⟨lb,hlb⟩:∃lb,lb=n.toNat:=⟨_,rfl⟩;rw[←hla,←hlb]
 change Sem.run P (α:=Value) (do
  let some t:=(#[tS,tS]:Array TypeId)[0]? |stuck "slices.overlaps: no parameter types"
  let .slice elem ←underlying t|stuck "slices.overlaps: slice type expected"
  let size ←sizeOf elem
  match base,p with
  | some a,some b=>
   if la=0∨lb=0∨size=0 then pure (Value.bool false)
   else if a.block !=b.block&&(←frozen a)&&(←frozen b)then unsupported .addressObserved
   else do
    if a.block !=b.block then do
     noView a;noView b
     if ←mayBeOne a b then return Value.bool ((←choose (.extern "sameAddr.stringBytes" 2))==1)
    pure (Value.bool (a.block==b.block&&a.off<b.off+lb*size&&b.off<a.off+la*size))
  |_,_=>pure (Value.bool false)) w=_
 rcases f5 with⟨hx,_⟩|⟨vb,vo,rfl,f6,f7,_⟩
 ·have hla0:la=0:=by rw[hla,hx];rfl
  cases base<;>cases p<;>simp[run_underlying ht,hz,hla0]
 cases p with
 |none=>simp_all[run_underlying]
 | some q=>
  by_cases h0:la=0∨lb=0∨sz=0
  ·simp[run_underlying ht,hz,h0]
  have hx0:0<xs.length:=by omega
  have hn0:0<n.toNat:=by omega
  have hs0:0<sz:=by omega
  have hq:=h8 (by omega);cases hq
  rcases h10 with h10|⟨c,T,k1,k2,k3,k4,k5,k6⟩
  ·omega
  have hc0:0<c.size:=by
   have:=J3 sz (show 1≤row.length by omega);omega
  have hfb:∀o,w.frozen? ⟨b,o,none⟩=false:=fun o=>by simp[World.frozen?,k2]
  have hsb:w.shape? b=some (T,c.size):=by simp[World.shape?,k2]
  have hva:=f6 0 0 hx0 hs0
  obtain⟨tA,kA,hsa⟩:∃tA kA,w.shape? vb=some (tA,kA+1):=by
   have:=hva.2
   simp only[World.cell?]at this
   split at this
   ·rename_i c' e' _ hh
    simp at this
    have hlt:vo+0*sz+0<c'.size:=by
     grind
    exact⟨e',c'.size - 1,by simp[World.shape?,hh];omega⟩
   grind
  by_cases hne:vb=b
  ·subst hne;have hlast:=(f6 (xs.length - 1) (sz - 1) (by omega) (by omega)).1
   have hlt:vo+xs.length*sz≤(g.ow id).o:=by
    rcases H6 (vo+(xs.length - 1)*sz+(sz - 1)) (g.ow id).o with hh|hh
    ·have:xs.length*sz=(xs.length - 1)*sz+sz:=by rw[←Nat.succ_mul];grind
     omega
    simp_all
   have h1':¬((g.ow id).o+lo.toNat*sz<vo+la*sz):=by rw[hla];omega
   simp_all[run_underlying]
  have hnb:(vb !=b)=true:=by grind
  have hnb':(vb==b)=false:=by grind
  obtain⟨kB,hkB⟩:∃kB,c.size=kB+1:=⟨c.size - 1,by omega⟩
  rw[hkB]at hsb
  simp[run_underlying ht,hz,h0,hnb,hnb',frozen,noView,viewAt,mayBeOne,stringish,shape,Sem.run,hsa,hsb,hfb]
theorem Qi {P:Program} {f:FuncId} {tS tR e:TypeId} {sz id:Nat} {lo n:Int} {xs row:List V} {t:E5} {H:A1} (hrun:∀vals w,(callFunc f vals).run P w=((Extern.SlicesOverlaps.overlaps #[tS,tS] #[tR] vals).run P w).andThen fun v w=>.ok (.value v) w)
 (hu:Ev P tS=some e) (hs:DS P e=some sz) (hk:H id=some (.arr sz row)) (hall:xs.all (fun x=>x.cells.length==sz)=true):J0 P f [.sl xs t,.own id lo n] H fun x H'=>x= .bool false∧H'=H:=by
 intro g w vals hR hA;obtain⟨hl,hv⟩:=hA;obtain⟨vals⟩:=vals
 match vals,hl with
 |[v,u],_=>
  have h1:=hv 0 (by simp);have h2:=hv 1 (by simp)
  simp at h1 h2
  rw[hrun,Sf hR hu hs hk hall h1 h2];exact K6.here hR (.bool _) ⟨rfl,rfl⟩
theorem Aj0 [Ar]{P:Program}{nt:Nat}{rd:Option Nat}{E:Eu}(hE:E=G7 P nt rd){fid:FuncId}{args:List V}{r:V}{H:A1}{k:V→A1→Prop}(h:J0 P fid args H fun x H'=>x=r∧H'=H)(hk:k r H):E.call (.func (.func fid) [] []) args H k:=by
 subst hE;refine J0.value (F:=[]) (C:=[]) ?_;simp only[P4,H7]
 exact h.mono fun x H' ⟨e1,e2⟩=>by rw[e1,e2];exact hk
end Go.Ab
