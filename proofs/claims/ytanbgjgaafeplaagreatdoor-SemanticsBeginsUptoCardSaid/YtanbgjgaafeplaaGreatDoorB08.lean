/- AbB5 AbB6 AbB7 AbB8 AbB9 AbB10 AbS4 AbS7 AbC1 AbK3 AbT1 AbB14 AbB11 AbH1 AbH4 -/
import Derived.Test.YtanbgjgaafeplaaGreatDoorB07
import Derived.Laws.Externs
import Derived.Sort.Grow
import Derived.Shelf.Strconv.Itoa1
import Derived.KernelRfl
set_option linter.all false
open List (append_assoc append_nil)
open Bool (and_eq_true)
open Go.Ab.Ar (len_eq lst lst_eq ofs ofs_eq)
namespace Go.Ab
open Go.RowKit
variable [G7][Ar]
theorem Z2.swap {H0 H:A2} {L:List En} (h:Z2 H0 L H) (i:Nat) {en en':En} {id t:Nat} {b b':Eu} (hi:L[i]? =some en) (he:en.id=some (id,b)) (he':en'.id=some (t,b')) (ht:upd H id none t=none):
 Z2 H0 (L.set i en') (upd (upd H id none) t (some b')):=by
 have hlt:i<L.length:=by
  rcases Nat.lt_or_ge i L.length with h'|h'
  ·exact h'
  rw[List.getElem?_eq_none h']at hi;cases hi
 have Gr:∀(j:Nat) e,(L.set i en')[j]? =some e→(j=i∧e=en')∨(j≠i∧L[j]? =some e):=fun j e hj=>by
  rw[List.getElem?_set]at hj
  split at hj
  ·rename_i hij;subst hij
   try rw[if_pos hlt]at hj
   exact .inl ⟨rfl,(Option.some.inj hj).symm⟩
  rename_i hij;exact .inr ⟨fun e=>hij e.symm,hj⟩
 have hid:=h.has i _ id b hi he
 have h0:∀x c,H0 x=some c→upd H id none x=some c:=fun x c hx=>by
  rw[A3 _ _ (O3 hid.1 hx)];exact h.ext x c hx
 have hoth:∀(j:Nat) e x c,j≠i→L[j]? =some e→e.id=some (x,c)→H0 x=none∧upd H id none x=some c:=fun j e x c hne hj hx=>by
  have:=h.has j e x c hj hx
  have hxid:x≠id:=fun eq=>by subst eq;exact hne (h.inj j i e _ x c b hj hi hx he)
  exact⟨this.1,by rw[A3 _ _ hxid];exact this.2⟩
 have hid0:H0 t=none:=by
  cases e:H0 t with
  |none=>rfl
  |some c=>rw[h0 t c e]at ht;cases ht
 refine⟨fun x bb hx=>?_,fun j e x bb hj hx=>?_,fun j k e e' x bb bb' hj hk hx hx'=>?_,fun x bb hx=>?_⟩
 rotate_right
 ·by_cases hxi:x=t
  ·subst hxi;rw[B1]at hx;cases hx
   exact .inr ⟨i,en',by rw[List.getElem?_set,if_pos rfl,if_pos hlt],he'⟩
  rw[A3 _ _ hxi]at hx
  have hxid:x≠id:=fun eq=>by subst eq;rw[B1]at hx;cases hx
  rw[A3 _ _ hxid]at hx
  refine(h.only x bb hx).imp (fun h=>h) fun⟨j,e,h1,h2⟩=>⟨j,e,?_,h2⟩;rw[List.getElem?_set]
  split
  ·rename_i hij;subst hij;rw[hi]at h1;cases h1;rw[he]at h2;cases h2;exact absurd rfl hxid
  exact h1
 ·rw[A3 _ _ (O3 hid0 hx)];exact h0 x bb hx
 ·rcases Gr j e hj with⟨_,rfl⟩|⟨hne,hj'⟩
  ·rw[he']at hx;cases hx;exact⟨hid0,B1 _ _ _⟩
  have:=hoth j e x bb hne hj' hx;exact⟨this.1,by rw[A3 _ _ (O3 ht this.2)];exact this.2⟩
 rcases Gr j e hj with⟨hji,rfl⟩|⟨hne,hj'⟩<;>rcases Gr k e' hk with⟨hki,rfl⟩|⟨hne',hk'⟩
 ·rw[hji,hki]
 ·rw[he']at hx;cases hx;have:=(hoth k e' t bb' hne' hk' hx').2;rw[ht]at this;cases this
 ·rw[he']at hx';cases hx';have:=(hoth j e t bb hne hj' hx).2;rw[ht]at this;cases this
 exact h.inj j k e e' x bb bb' hj' hk' hx hx'
theorem B7.swap {Φ:A2→A2→Prop}{F H:A2}{L:List En}(h:B7 Φ F L H)(i:Nat){id t:Nat}{b b':Eu}(hi:L[i]? =some (.blk id b))(ht:upd H id none t=none):B7 Φ F (L.set i (.blk t b')) (upd (upd H id none) t (some b')):=by
 obtain⟨hs,F',H1,h0,h1,h2⟩:=h;have e:=h0.get i hi;have e1:=hs.le h1 _ _ e;have h3:=hs.chg id none h1 (by rw[e,e1]);have hle:Gq (upd H1 id none) (upd H id none):=h2.upd id none;have hn1:=hle.none ht;have hn':=hs.fresh h3 hn1;exact⟨hs,_,_,h0.swap i hi rfl rfl hn',hs.chg t (some b') h3 (by rw[hn1,hn']),hle.upd t _⟩
theorem B7.swap' {Φ:A2→A2→Prop}{F H:A2}{L:List En}(h:B7 Φ F L H)(i:Nat){id t:Nat}{b b':Eu}(hi:L[i]? =some (.blk id b))(ht:H t=none):B7 Φ F (L.set i (.blk t b')) (upd H t (some b')):=by
 have hid:=h.get i hi
 have hne:t≠id:=fun e=>by subst e;rw[ht]at hid;cases hid
 obtain⟨hs,F',H1,h0,h1,h2⟩:=h.swap (b':=b') i hi (t:=t) (by rw[A3 _ _ hne];exact ht);refine⟨hs,F',H1,h0,h1,fun x c hx=>?_⟩;have:=h2 x c hx
 by_cases e:x=t
 ·subst e;rw[B1]at this ⊢;exact this
 rw[A3 _ _ e]at this ⊢
 by_cases e2:x=id
 ·subst e2;rw[B1]at this;cases this
 rwa[A3 _ _ e2]at this
structure OG where
 id:Nat
 lo:Int
 n:Int
 pre:List V
 rest:List V
def CN (q:OG)(m:Int):Prop:=q.lo=(q.pre.length:Nat)∧q.n=m
theorem IV {pre xs rest:List V}{lo n:Int}(h0:lo=(pre.length:Nat))(h1:n=(xs.length:Nat)):K4 (pre++xs++rest) lo n=xs:=by
 subst h0;subst h1;simp[K4]
theorem XO {pre xs rest ys:List V}{i:Nat}(hi:i=pre.length+xs.length):Bm (pre++xs++rest) i ys=pre++(xs++ys)++rest.drop ys.length:=by
 subst hi;simp only[Bm,append_assoc];rw[show pre++(xs++rest)=(pre++xs)++rest by simp,←List.length_append,List.take_left,List.drop_append];simp
theorem Rs {pre xs rest:List V}{i:Nat}(h:i<xs.length):(pre++xs++rest).getD (pre.length+i) .bad=xs.getD i .bad:=by
 simp only[List.getD_eq_getElem?_getD,append_assoc];rw[List.getElem?_append_right (by omega),show pre.length+i - pre.length=i by omega,List.getElem?_append_left h]
theorem ZI {pre xs rest:List V}{i:Nat}{v:V}(h:i<xs.length):(pre++xs++rest).set (pre.length+i) v=pre++xs.set i v++rest:=by
 simp only[append_assoc];rw[List.set_append_right _ _ (by omega),show pre.length+i - pre.length=i by omega,List.set_append_left _ _ h]
section
variable {P:Program}{nt:Nat}{rd:Option Nat}{T:Et}{E:CV}
variable (hE:E=E9 P nt rd)
include hE
variable {α R:Type}{f:α→V}{Φ:A2→A2→Prop}{H0 H:A2}{L:List En}{sz:Nat}{q:OG}{l:List α}{r:R}
theorem Aj4 (hq:CN q (Ar.len l)){k:Int→Prop}(h:k (Ar.len l)):E.olen q.n k:=by
 subst hE
 show k q.n
 rw[hq.2];exact h
theorem SY (hO:B7 Φ H0 L H)(hq:CN q (Ar.len l))(i:Nat){j:Int}{k:Int→Prop}{F:Unit→Option R}(hi:L[i]? =some (.blk q.id (.arr sz (q.pre++lst f l++q.rest))))(h:(Uj (inR l j)).bind F=some r)(hk:F ()=some r→k (ofs q.lo j)):
 E.oidx H q.id sz q.lo q.n j k:=by
 subst hE;obtain⟨x,h1,h2⟩:=bind_some h
 unfold Uj at h1
 split at h1
 ·rename_i hp;refine⟨⟨_,hO.get i hi⟩,?_,hk h2⟩;rw[hq.2,len_eq];exact of_decide_eq_true hp
 cases h1
theorem Of {l:List α} {i:Int} {x:α} (h:B9 l i=some x):(0≤i∧i<(l.length:Nat))∧l[i.toNat]? =some x:=by
 unfold B9 at h
 split at h
 ·rename_i h0;refine⟨⟨h0,?_⟩,h⟩
  rcases Nat.lt_or_ge i.toNat l.length with h'|h'
  ·omega
  rw[List.getElem?_eq_none h']at h;cases h
 cases h
theorem Rg {l:List α}{i:Nat}{x:α}(h:l[i]? =some x):(lst f l).getD i .bad=f x:=by
 rw[lst_eq];simp[List.getD,h]
theorem Uv {g:α→V}(hf:∀x,f x=g x)(hO:B7 Φ H0 L H)(hq:CN q (Ar.len l))(i:Nat){j:Int}{k:V→Prop}{F:α→Option R}(hi:L[i]? =some (.blk q.id (.arr sz (q.pre++lst f l++q.rest))))(h:(B9 l j).bind F=some r)(hk:∀x,F x=some r→k (g x)):
 E.oload H q.id (ofs q.lo j) k:=by
 obtain⟨x,h1,h2⟩:=bind_some h;obtain⟨hb,h3⟩:=Of hE h1;have h4:=Rg hE (f:=f) h3;subst hE;have e1:=J4 (f:=f) l;refine⟨_,_,hO.get i hi,?_,?_⟩
 ·rw[ofs_eq,hq.1];simp only[List.length_append,e1];omega
 rw[ofs_eq,hq.1,show((q.pre.length:Nat)+j:Int).toNat=q.pre.length+j.toNat by omega,Rs (by rw[e1];omega),h4,hf];exact hk x h2
theorem Rd {u:α→α} {esz tz off:Nat} {y:V} (hu:∀x,∃y',AW y y'∧y'.one=true∧y'.cells.length=tz∧Pf (f x) esz tz off y'=f (u x)) (hle:off+tz≤esz) (hO:B7 Φ H0 L H) (hq:CN q (Ar.len l)) (i:Nat) {j:Int} {k:A2→Prop} {F:List α→Option R}
 (hi:L[i]? =some (.blk q.id (.arr esz (q.pre++lst f l++q.rest)))) (h:(HG l j u).bind F=some r)
 (hk:∀l' H',CN q (Ar.len l')→F l'=some r→B7 Φ H0 (L.set i (.blk q.id (.arr esz (q.pre++lst f l'++q.rest)))) H'→k H'):E.ostore H q.id (ofs q.lo j) esz tz off y k:=by
 obtain⟨l',h1,h2⟩:=bind_some h
 unfold HG at h1
 cases hx:B9 l j with
 |none=>rw[hx]at h1;cases h1
 | some x=>
  rw[hx]at h1
  simp only[Option.map_some,Option.some.injEq]at h1
  obtain⟨hb,h3⟩:=Of hE hx;obtain⟨y',q1,q2,q3,q4⟩:=hu x;have e1:=Rg hE (f:=f) h3
  have e2:(lst f l).set j.toNat (f (u x))=lst f l':=by
   rw[←h1,lst_eq,lst_eq,List.map_set]
  subst hE;have el:=J4 (f:=f) l
  have ej:(ofs q.lo j).toNat=q.pre.length+j.toNat:=by rw[ofs_eq,hq.1];omega
  refine⟨_,y',q1,q2,q3,hle,hO.get i hi,?_,?_⟩
  ·rw[ofs_eq,hq.1];simp only[List.length_append,el];omega
  rw[ej,Rs (by rw[el];omega),ZI (by rw[el];omega),e1,q4,e2];refine hk l' _ ⟨hq.1,?_⟩ h2 (hO.set i hi);rw[hq.2,len_eq,len_eq,←h1,List.length_set]
theorem Ag0 {by_:Nat} (hby:by_≤131072) {z:V} {z0:α} (hz:AW z (f z0)) (hO:B7 Φ H0 L H) {n m:Int} {k:V→A2→Prop} {F:List α→Option R} (h:(WQ n m z0).bind F=some r)
 (hk:∀l' (q:OG) H',CN q (Ar.len l')→F l'=some r→B7 Φ H0 (.blk q.id (.arr sz (q.pre++lst f l'++q.rest))::L) H'→k (.own q.id q.lo q.n) H'):E.omk sz by_ z n m H k:=by
 subst hE;obtain⟨l',h1,h2⟩:=bind_some h
 unfold WQ at h1
 split at h1
 ·rename_i hc;cases h1;refine⟨⟨hc.1,hc.2.1,?_⟩,List.replicate m.toNat (f z0),?_,fun id hid=>?_⟩
  ·have:m*(by_:Nat)≤1073741824*131072:=Int.mul_le_mul hc.2.2 (by omega) (by omega) (by omega);omega
  ·have:∀k:Nat,G3 (List.replicate k z) (List.replicate k (f z0)):=fun k=>by
    induction k with
    |zero=>exact .nil
    |succ k ih=>rw[List.replicate_succ,List.replicate_succ];exact .cons hz ih
   exact this _
  have e:List.replicate m.toNat (f z0)=[]++lst f (List.replicate n.toNat z0)++List.replicate (m.toNat - n.toNat) (f z0):=by
   rw[lst_eq,List.map_replicate,List.nil_append,List.replicate_append_replicate];congr 1;omega
  rw[e];exact hk _ ⟨id,0,n,[],List.replicate (m.toNat - n.toNat) (f z0)⟩ _ ⟨rfl,by rw[len_eq];simp;omega⟩ h2 (hO.push hid rfl)
 cases h1
theorem GO {by_:Nat} {z:V} (hsz:∀x,(f x).cells.length=sz) (hby:by_≤131072) (hO:B7 Φ H0 L H) (hq:CN q (Ar.len l)) (i:Nat) (hi:L[i]? =some (.blk q.id (.arr sz (q.pre++lst f l++q.rest)))) {y:V} {m:List α} {k:V→A2→Prop} {F:List α→Option R}
 (hs:PW sz H y (lst f m)) (h:(S1 l m).bind F=some r)
 (hk:∀x (q:OG) H',CN q (Ar.len x)→B7 Φ H0 (L.set i (.blk q.id (.arr sz (q.pre++lst f x++q.rest)))) H'→F x=some r→k (.own q.id q.lo q.n) H'):E.oapp sz by_ z H (.own q.id q.lo q.n) y k:=by
 subst hE;obtain⟨x,h1,h2⟩:=bind_some h;have el:=J4 (f:=f) l;have em:=J4 (f:=f) m
 have hn:q.n=(l.length:Nat):=by rw[hq.2,len_eq]
 unfold S1 at h1
 split at h1
 ·rename_i hc;cases h1;refine⟨_,hs,_,hO.get i hi,fun hfit=>?_,fun _=>⟨?_,fun t j ht=>?_⟩⟩
  rotate_left
  ·rw[em,hn,Int.toNat_natCast];exact Nat.le_trans (Nat.mul_le_mul hc hby) (by decide)
  rotate_left
  ·have e:Bm (q.pre++lst f l++q.rest) (q.lo+q.n).toNat (lst f m)=q.pre++lst f (l++m)++q.rest.drop m.length:=by
    rw[XO (by rw[hq.1,hn,el];omega),Le,em]
   rw[e];refine hk _ ⟨q.id,q.lo,q.n+((lst f m).length:Nat),q.pre,q.rest.drop m.length⟩ _ ⟨hq.1,?_⟩ (hO.set i hi) h2;rw[len_eq,hn,em];simp
  have e:K4 (q.pre++lst f l++q.rest) q.lo q.n++lst f m++List.replicate j z=[]++lst f (l++m)++List.replicate j z:=by
   rw[IV hq.1 (by rw[el];exact hn),Le,List.nil_append]
  rw[e];refine hk _ ⟨t,0,q.n+((lst f m).length:Nat),[],List.replicate j z⟩ _ ⟨rfl,?_⟩ (hO.swap' i hi ht) h2;rw[len_eq,hn,em];simp
 cases h1
theorem Ch (h:CN q (Ar.len l)):CN q ((lst f l).length:Nat):=⟨h.1,by rw[h.2,len_eq,J4]⟩
theorem ZD (hO:B7 Φ H0 L H)(hq:CN q (Ar.len l))(i:Nat)(hi:L[i]? =some (.blk q.id (.arr sz (q.pre++lst f l++q.rest)))):PW sz H (.own q.id q.lo q.n) (lst f l):=by
 refine⟨_,hO.get i hi,?_⟩;rw[IV hq.1 (by rw[hq.2,len_eq,J4])];exact .refl _
theorem GB (hsz:∀x,(f x).cells.length=sz){ys:List V}{tl:E3}(h:G3 ys (lst f l)):PW sz H (.sl ys tl) (lst f l):=⟨h,JT hsz l⟩
theorem Aj5 (hO:B7 Φ H0 L H)(hq:CN q (Ar.len l))(i:Nat){k:List V→A2→Prop}(hi:L[i]? =some (.blk q.id (.arr sz (q.pre++lst f l++q.rest))))(hk:∀H',B7 Φ H0 (L.eraseIdx i) H'→k (lst f l) H'):E.ofrz H q.id q.lo q.n k:=by
 subst hE;have:=hk _ (hO.del i hi);refine⟨_,_,_,hO.get i hi,.refl _,?_⟩;rw[IV hq.1 (by rw[hq.2,len_eq,J4])];exact this
end
end Go.Ab
namespace Go.Ab
open Go.RowKit
variable [G7][Ar]
def Ad8 (F:A2)(sz:Nat)(xs:List V)(v:V)(H':A2):Prop:=∃q:OG,v= .own q.id q.lo q.n∧CN q (xs.length:Nat)∧F q.id=none∧H'=upd F q.id (some (.arr sz (q.pre++xs++q.rest)))
def Nc (P:Program)(f:FuncId)(args:List V)(sz:Nat)(xs xs':List V):Prop:=
 ∀H (q:OG),CN q (xs.length:Nat)→H q.id=some (.arr sz (q.pre++xs++q.rest))→H6 P f (.own q.id q.lo q.n::args) H (Ad8 (upd H q.id none) sz xs')
def CP (mk:V→V):Prop:=∀(g:Gh) (w:World) (u:Value) (x:V),VR g w u (mk x)→∃v,VR g w v x∧∀(g':Gh) (w':World) (y:V),P1 g w g' w'→VR g' w' v y→VR g' w' u (mk y)
theorem CP.id :CP fun x=>x:=fun _ _ u _ h=>⟨u,h,fun _ _ _ _ k=>k⟩
theorem CP.agg (cs:List V) (i:Nat) (hi:i<cs.length):CP fun x=>.agg (cs.set i x):=fun g w u x h=>by
 cases h with
 |agg hl h1 hv=>
  rename_i vs
  have hi':i<(cs.set i x).length:=by simpa using hi
  refine⟨vs.getD i undef,by have:=hv i hi';rwa[BW hi,if_pos rfl]at this,fun g' w' y s k=>?_⟩;refine .agg (by simpa using hl) (fun j hj=>h1 j (by simpa using hj)) fun j hj=>?_;rw[BW hi]
  split
  ·rename_i e;subst e;exact k
  rename_i e;have:=hv j (by simpa using hj)
  rw[BW hi,if_neg e]at this
  exact this.mono s
theorem CP.tup (cs:List V) (i:Nat) (hi:i<cs.length):CP fun x=>.tup (cs.set i x):=fun g w u x h=>by
 cases h with
 |tup hl hv=>
  rename_i vs
  have hi':i<(cs.set i x).length:=by simpa using hi
  refine⟨vs.getD i undef,by have:=hv i hi';rwa[BW hi,if_pos rfl]at this,fun g' w' y s k=>?_⟩;refine .tup (by simpa using hl) fun j hj=>?_;rw[BW hi]
  split
  ·rename_i e;subst e;exact k
  rename_i e;have:=hv j (by simpa using hj)
  rw[BW hi,if_neg e]at this
  exact this.mono s
theorem H6.adopt {P:Program} {f:FuncId} {args:List V} {H:A2} {K:V→A2→Prop} {sz:Nat} (h:H6 P f args H fun x H'=>K x H'∨(x= .sl [] .nil∧∀t,H' t=none→K (.own t 0 0) (upd H' t (some (.arr sz []))))):H6 P f args H K:=
 fun g w vals hR hA=>(h g w vals hR hA).mono fun v w' ⟨g',x,H',s,hR',hv,hK⟩=>by
  rcases hK with hK|⟨rfl,hK⟩
  ·exact⟨g',x,H',s,hR',hv,hK⟩
  obtain⟨g2,s2,hR2,hn,hv2⟩:=BU hR' sz (.inl rfl) hv;exact⟨g2,_,_,s.trans s2,hR2,hv2,hK _ hn⟩
def Ad9 (F:A2)(sz:Nat)(xs:List V)(mk:V→V)(v:V)(H':A2):Prop:=∃q:OG,v=mk (.own q.id q.lo q.n)∧CN q (xs.length:Nat)∧F q.id=none∧H'=upd F q.id (some (.arr sz (q.pre++xs++q.rest)))
def Ah3 (P:Program)(f:FuncId)(args:List V)(sz:Nat)(xs:List V)(mk:V→V):Prop:=∀H,H6 P f args H (Ad9 H sz xs mk)
theorem H6.adoptG {P:Program} {f:FuncId} {args:List V} {H:A2} {K:V→A2→Prop} {sz:Nat} {mk:V→V} (hm:CP mk) (h:H6 P f args H fun x H'=>K x H'∨(x=mk (.sl [] .nil)∧∀t,H' t=none→K (mk (.own t 0 0)) (upd H' t (some (.arr sz []))))):H6 P f args H K:=
 fun g w vals hR hA=>(h g w vals hR hA).mono fun v w' ⟨g',x,H',s,hR',hv,hK⟩=>by
  rcases hK with hK|⟨rfl,hK⟩
  ·exact⟨g',x,H',s,hR',hv,hK⟩
  obtain⟨u,hu,hb⟩:=hm g' w' v _ hv;obtain⟨g2,s2,hR2,hn,hv2⟩:=BU hR' sz (.inl rfl) hu;exact⟨g2,_,_,s.trans s2,hR2,hb _ _ _ s2 hv2,hK _ hn⟩
theorem B7.last {F H:A2}{t:Nat}{b:Eu}(h:B7 Eq F [.blk t b] H):F t=none∧Gq (upd F t (some b)) H:=by
 obtain⟨hs,F',H1,h0,h1,h2⟩:=h;subst h1;have h3:=h0.has 0 _ t b rfl rfl;refine⟨h3.1,fun x c hx=>?_⟩
 by_cases e:x=t
 ·subst e;rw[B1]at hx;cases hx;exact h2 _ _ h3.2
 rw[A3 _ _ e]at hx;exact h2 _ _ (h0.ext x c hx)
theorem B7.only {F H:A2}{L:List En}{t:Nat}{b:Eu}(h:B7 Eq F L H)(i:Nat)(hi:L[i]? =some (.blk t b)):B7 Eq F [.blk t b] H:=by
 obtain⟨hs,F',H1,h0,h1,h2⟩:=h;subst h1;have h3:=h0.has i _ t b hi rfl;refine⟨hs,upd F t (some b),upd F t (some b),(Z2.start F).push h3.1 rfl,rfl,fun x c hx=>?_⟩
 by_cases e:x=t
 ·subst e;rw[B1]at hx;cases hx;exact h2 _ _ h3.2
 rw[A3 _ _ e]at hx;exact h2 _ _ (h0.ext x c hx)
theorem B7.only1 {F H:A2}{L:List En}{t:Nat}{b:Eu}(h:B7 Eq F (.blk t b::L) H):B7 Eq F [.blk t b] H:=by
 obtain⟨hs,F',H1,h0,h1,h2⟩:=h;subst h1;have h3:=h0.has 0 _ t b rfl rfl;refine⟨hs,upd F t (some b),upd F t (some b),(Z2.start F).push h3.1 rfl,rfl,fun x c hx=>?_⟩
 by_cases e:x=t
 ·subst e;rw[B1]at hx;cases hx;exact h2 _ _ h3.2
 rw[A3 _ _ e]at hx;exact h2 _ _ (h0.ext x c hx)
section
variable {P:Program}{T:Et}{f:FuncId}{fn:Func}{c:Code}{n:Nat}{rs:List ResultVar}{args:List V}
theorem HD {F H:A2}{sz:Nat}{xs:List V}(cf:Cf)(hP:RX P T)(hf:P.funcs[f]? =some fn)(hb:fn.body=some c)(hd:G4 cf c=true)
 (hcall:∀vals w,(callFunc f vals).run P w= .ok (.enter f vals) w) (hnt:fn.ntmps=n) (hrs:fn.results.toList=rs) (hn:Nat.ble args.length n=true)
 (h:∀(E:CV) (K:V→A2→Prop),E=E9 P n none→(∀(q:OG) L H',CN q (xs.length:Nat)→B7 Eq F (.blk q.id (.arr sz (q.pre++xs++q.rest))::L) H'→K (.own q.id q.lo q.n) H')→(xs=[]→∀L H',B7 Eq F L H'→K (.sl [] .nil) H')→run E T n cf c ⟨BM args 0,[]⟩ H (MI E T rs K)):
 H6 P f args H (Ad8 F sz xs):=by
 refine H6.adopt (sz:=sz) (H6.le (W7 (K:=fun x H'=>∃y H2,AW x y∧Gq H2 H'∧(Ad8 F sz xs y H2∨(y= .sl [] .nil∧∀t,H2 t=none→Ad8 F sz xs (.own t 0 0) (upd H2 t (some (.arr sz [])))))) cf hP.1 hP.2 hf hb hd hcall hnt hrs hn fun E hE=>?_));refine h E _ hE (fun q L H' hq hO=>?_) fun hx L H' hO=>?_
 ·obtain⟨h1,h2⟩:=hO.only1.last;exact⟨_,_,.refl _,h2,.inl ⟨q,rfl,hq,h1,rfl⟩⟩
 exact⟨_,F,.refl _,hO.ext,.inr ⟨rfl,fun t ht=>⟨⟨t,0,0,[],[]⟩,rfl,⟨rfl,by rw[hx];rfl⟩,ht,by rw[hx];rfl⟩⟩⟩
end
section
variable {P:Program}{nt:Nat}{rd:Option Nat}{T:Et}{E:CV}
variable (hE:E=E9 P nt rd)
include hE
theorem Aa5 {α β R:Type} {f:α→V} {Φ:A2→A2→Prop} {H0 H:A2} {L:List En} {sz:Nat} {r:R} {m:Option β} {F:β→Option R} {g:β→List α} {mk:β→V→V} {fid:FuncId} {args args':List V} {k:V→A2→Prop}
 (h:m.bind F=some r) (hc:∀x,m=some x→Ah3 P fid args' sz (lst f (g x)) (mk x)) (hl:G3 args args') (hO:B7 Φ H0 L H)
 (hk:∀x (q:OG) H',CN q (Ar.len (g x))→B7 Φ H0 (.blk q.id (.arr sz (q.pre++lst f (g x)++q.rest))::L) H'→F x=some r→k (mk x (.own q.id q.lo q.n)) H'):
 E.call (.func (.func fid) [] []) args H k:=by
 subst hE;obtain⟨x,h1,h2⟩:=bind_some h;refine H6.value (F:=[]) (C:=[]) ?_;have:=((hc x h1) H).args hl;simp only[List.nil_append,append_nil]
 exact this.mono fun v H' ⟨q,e1,e0,e2,e3⟩=>by
  subst e1;subst e3;exact hk x q _ (by rw[len_eq];rwa[J4]at e0) (hO.push e2 rfl) h2
variable {α R S:Type}{f:α→V}{Φ:A2→A2→Prop}{H0 H:A2}{L:List En}{sz:Nat}{q:OG}{r:R}{m:Option (List α)}{F:List α→Option R}{fid:FuncId}{args args':List V}{k:V→A2→Prop}
theorem Fq {l:List α} (hO:B7 Φ H0 L H) (hq:CN q (Ar.len l)) (i:Nat) (hi:L[i]? =some (.blk q.id (.arr sz (q.pre++lst f l++q.rest)))) (h:m.bind F=some r) (hc:∀x,m=some x→Nc P fid args' sz (lst f l) (lst f x)) (hl:G3 args args')
 (hk:∀x (q:OG) H',CN q (Ar.len x)→B7 Φ H0 (L.set i (.blk q.id (.arr sz (q.pre++lst f x++q.rest)))) H'→F x=some r→k (.own q.id q.lo q.n) H'):
 E.call (.func (.func fid) [] []) (.own q.id q.lo q.n::args) H k:=by
 subst hE;obtain⟨x,h1,h2⟩:=bind_some h;refine H6.value (F:=[]) (C:=[]) ?_;have:=((hc x h1) H q (by rw[J4,←len_eq];exact hq) (hO.get i hi)).args (.cons (.refl _) hl);simp only[List.nil_append,append_nil]
 exact this.mono fun v H' ⟨q',e1,e0,e2,e3⟩=>by
  subst e1;subst e3;exact hk x q' _ (by rw[len_eq];rwa[J4]at e0) (hO.swap i hi e2) h2
end
end Go.Ab
namespace Go.Ab
open Go.RowKit
variable [G7][Ar]
section
variable {P:Program}{T:Et}{f:FuncId}{fn:Func}{c:Code}{n:Nat}{rs:List ResultVar}{args:List V}
end
section
variable {P:Program}{nt:Nat}{rd:Option Nat}{T:Et}{E:CV}
variable (hE:E=E9 P nt rd)
include hE
variable {H:A2}{sz id:Nat}{l n RL:Int}{row:List V}
theorem XJ {z:V}(hk:H id=some (.arr sz row)){k:A2→Prop}(h:∀row',row'=Bm row l.toNat (List.replicate n.toNat z)→k (upd H id (some (.arr sz row')))):E.oclear sz z H (.own id l n) k:=by
 subst hE;exact⟨_,hk,h _ rfl⟩
end
end Go.Ab
namespace Go.Ab
open Go.RowKit
theorem Xq {A B C row:List V}{lo n:Int}(hr:row=A++B++C)(h0:lo=(A.length:Nat))(h1:n=(B.length:Nat)):K4 row lo n=B:=by
 subst hr;subst h0;subst h1;simp[K4]
theorem ZW {A B C ys row:List V}{i:Nat}(hr:row=A++B++C)(hi:i=A.length)(hl:ys.length=B.length):Bm row i ys=A++ys++C:=by
 subst hr;subst hi;simp only[Bm,append_assoc,List.take_left];rw[show A.length+ys.length=A.length+B.length by omega,←List.drop_drop];simp
end Go.Ab
namespace Go.Ab
open Go.RowKit
variable [G7]
end Go.Ab
namespace Go.Ab
open Go.RowKit
end Go.Ab
namespace Go.Ab
def Ud (l:List Int):Option ByteArray:=some (Qp l)
def ID {K X:Type}[DecidableEq K](m:List (K×X))(k:K)(z:X):Option (X×Bool):=some (match m.find? (fun p=>decide (p.1=k))with|some p=>(p.2,true)|none=>(z,false))
def HI {K X:Type}[DecidableEq K](m:List (K×X))(k:K)(v:X):Option (List (K×X)):=some (if m.any (fun p=>decide (p.1=k))=true then m.map (fun p=>if p.1=k then(k,v)else p)else m++[(k,v)])
end Go.Ab
namespace Go.Ab
variable {α:Type}
def Po (cmp:α→α→Option Int)(a b:α):Bool:=match cmp a b with|some c=>decide (c<0)|none=>false
def Zt (cmp:α→α→Option Int)(a b:α):Bool:=match cmp a b with|some c=>decide (0≤c)|none=>false
def Tr (lt:α→α→Bool)(x:α):List α→List α
 |[]=>[x]
 |y::l=>if lt x y then x::y::l else y::Tr lt x l
def IA (lt:α→α→Bool):List α→List α
 |[]=>[]
 |x::l=>Tr lt x (IA lt l)
def Ay (cmp:α→α→Option Int):List α→Bool
 |[]=>true
 |a::r=>Zt cmp a a&&r.all (fun b=>Po cmp a b&&Zt cmp b a)&&Ay cmp r
def Gg (cmp:α→α→Option Int)(l:List α):Option (List α):=
 if decide (l.length<4611686018427387904)&&Ay cmp (IA (Po cmp) l)then some (IA (Po cmp) l)else none
theorem JV (lt:α→α→Bool) (x:α):∀l,(Tr lt x l).Perm (x::l)
 |[]=>.refl _
 |y::l=>by
  unfold Tr
  split
  ·exact .refl _
  exact((JV lt x l).cons y).trans (.swap _ _ _)
theorem EI (lt:α→α→Bool):∀l,(IA lt l).Perm l
 |[]=>.refl _
 |x::l=>(JV lt x _).trans ((EI lt l).cons x)
variable {cmp:α→α→Option Int}
theorem Sx {l r:List α} (h:Gg cmp l=some r):r.Perm l∧Ay cmp r=true∧l.length<4611686018427387904:=by
 unfold Gg at h
 split at h
 ·rename_i hc;cases h
  simp only[and_eq_true,decide_eq_true_eq]at hc
  exact⟨EI _ l,hc.2,hc.1⟩
 cases h
def Rel (cmp:α→α→Option Int)(a b:α):Prop:=Po cmp a b=true∧Zt cmp b a=true
theorem BP :∀{r:List α},Ay cmp r=true↔(∀a∈r,Zt cmp a a=true)∧r.Pairwise (Rel cmp)
 |[]=>by simp[Ay]
 |a::r=>by
  simp only[Ay,and_eq_true,List.all_eq_true,List.pairwise_cons,List.mem_cons,BP (r:=r),Rel]
  constructor
  ·rintro⟨⟨h1,h2⟩,h3,h4⟩;exact⟨fun x hx=>hx.elim (fun e=>e▸h1) (h3 x),h2,h4⟩
  rintro⟨h1,h2,h3⟩;exact⟨⟨h1 a (.inl rfl),h2⟩,fun x hx=>h1 x (.inr hx),h3⟩
theorem YC {a b:α}(h:Zt cmp a b=true):Po cmp a b=false:=by
 unfold Zt at h;unfold Po
 split at h
 ·rename_i c e;simp at h ⊢;omega
 cases h
theorem Ak0 {a b:α}(h:Po cmp a b=true):∃c,cmp a b=some c:=by
 unfold Po at h
 split at h
 ·exact⟨_,by assumption⟩
 cases h
theorem YD {a b:α}(h:Zt cmp a b=true):∃c,cmp a b=some c:=by
 unfold Zt at h
 split at h
 ·exact⟨_,by assumption⟩
 cases h
theorem Y1 {r:List α}(h:Ay cmp r=true){i j:Nat}(hi:i<r.length)(hj:j<r.length):Po cmp r[i] r[j]=decide (i<j):=by
 obtain⟨h1,h2⟩:=BP.1 h
 rw[List.pairwise_iff_getElem]at h2
 by_cases hij:i<j
 ·rw[(h2 i j hi hj hij).1];simp[hij]
 simp only[hij,decide_false]
 by_cases e:i=j
 ·subst e;exact YC (h1 _ (List.getElem_mem hi))
 exact YC (h2 j i hj hi (by omega)).2
theorem Sv {r:List α}(h:Ay cmp r=true){a b:α}(ha:a∈r)(hb:b∈r):∃c,cmp a b=some c:=by
 obtain⟨h1,h2⟩:=BP.1 h
 rw[List.pairwise_iff_getElem]at h2
 obtain⟨i,hi,rfl⟩:=List.getElem_of_mem ha;obtain⟨j,hj,rfl⟩:=List.getElem_of_mem hb
 rcases Nat.lt_trichotomy i j with e|e|e
 ·exact Ak0 (h2 i j hi hj e).1
 ·subst e;exact YD (h1 _ ha)
 exact YD (h2 j i hj hi e).2
theorem Lz {r:List α}(h:Ay cmp r=true){i j:Nat}(hi:i<r.length)(hj:j<r.length)(e:r[i]=r[j]):i=j:=by
 have a:=Y1 h hi hj;have b:=Y1 h hj hi;have c:=Y1 h hi hi
 rw[e]at a b c
 rw[Y1 h hj hj]at a b c
 simp at a b c
 omega
theorem ON {r:List α}(h:Ay cmp r=true):r.Nodup:=by
 rw[List.Nodup,List.pairwise_iff_getElem];intro i j hi hj hij e;have:=Lz h hi hj e;omega
theorem HM {r s:List α} (h:Ay cmp r=true) (hp:s.Perm r) (hs:s.Pairwise fun a b=>Po cmp b a=false):s=r:=by
 refine List.Perm.eq_of_pairwise (le:=fun a b=>Po cmp b a=false) (fun a b ha hb h1 h2=>?_) hs ?_ hp
 ·obtain⟨i,hi,rfl⟩:=List.getElem_of_mem (hp.mem_iff.1 ha);obtain⟨j,hj,rfl⟩:=List.getElem_of_mem hb
  rw[Y1 h hj hi]at h1
  rw[Y1 h hi hj]at h2
  simp at h1 h2
  have:i=j:=by omega
  subst this;rfl
 exact(BP.1 h).2.imp fun h=>YC h.2
theorem UN {r:List α} (h:Ay cmp r=true) {x:α} (hx:x∈r):∀{l:List α},(∀y∈l,y∈r)→l.Pairwise (fun a b=>Po cmp b a=false)→(Tr (Po cmp) x l).Pairwise (fun a b=>Po cmp b a=false)
 |[],_,_=>by simp[Tr]
 | y::l,hm,hp=>by
  rw[List.pairwise_cons]at hp
  unfold Tr;obtain⟨i,hi,rfl⟩:=List.getElem_of_mem hx;obtain⟨j,hj,e⟩:=List.getElem_of_mem (hm y (by simp))
  split
  ·rename_i hlt;refine List.pairwise_cons.2 ⟨fun z hz=>?_,List.pairwise_cons.2 hp⟩;obtain⟨k,hk,rfl⟩:=List.getElem_of_mem (hm z hz)
   rw[←e,Y1 h hi hj]at hlt
   rw[Y1 h hk hi]
   rcases List.mem_cons.1 hz with hz|hz
   ·have:=Lz h hk hj (hz.trans e.symm)
    simp at hlt ⊢;omega
   have:=hp.1 _ hz
   rw[←e,Y1 h hk hj]at this
   simp at this hlt ⊢;omega
  rename_i hlt;refine List.pairwise_cons.2 ⟨fun z hz=>?_,UN h hx (fun z hz=>hm z (by simp[hz])) hp.2⟩
  rcases List.mem_cons.1 ((JV _ _ _).mem_iff.1 hz)with hz|hz
  ·subst hz;simpa using hlt
  exact hp.1 _ hz
theorem Oe {r:List α}(h:Ay cmp r=true):∀{l:List α},(∀y∈l,y∈r)→(IA (Po cmp) l).Pairwise (fun a b=>Po cmp b a=false)
 |[],_=>by simp[IA]
 |x::l,hm=>UN h (hm x (by simp)) (fun y hy=>hm y (by simp[(EI _ l).mem_iff.1 hy])) (Oe h fun y hy=>hm y (by simp[hy]))
theorem Qs {l r:List α}(hp:r.Perm l)(h:Ay cmp r=true)(hl:l.length<4611686018427387904):Gg cmp l=some r:=by
 have e:IA (Po cmp) l=r:=HM h ((EI _ l).trans hp.symm) (Oe h fun y hy=>hp.mem_iff.2 hy);unfold Gg;rw[e,if_pos];simp[h,hl]
end Go.Ab
namespace Go.Ab
open Go.RowKit Go.Sort
variable [G7]
theorem Rl.more {g:Gh}{H:A2}{w w':World}(h:Rl g H w)(hb:Below g.base w w')(hs:∀b,b<w.heap.size→w'.heap[b]? =w.heap[b]?)(hd:w.drawn≤w'.drawn:=by first|exact Nat.le_refl _|exact Nat.le_succ _|exact Nat.le_add_right _ _):P1 g w g w'∧Rl g H w':=by
 have s:P1 g w g w':=⟨fun _ _ e=>e,fun _ _ e=>e,fun _ _ e=>e,rfl,fun b o hf=>by simp only[World.cell?,hs b (h.fz_lt hf)],hb,fun _ _ _=>rfl,hd⟩;exact⟨s,fun x k hx=>(h.blk x k hx).mono hx s fun y hy=>⟨hs y (h.lt hy),fun _ ho=>ho⟩,h.inj,fun b o hf=>by obtain⟨v,hv⟩:=h.frz b o hf;exact⟨v,(s.cell b o hf).trans hv⟩,h.nxt,Nat.le_trans h.bnd hb.size,fun n=>(h.glb n).mono s⟩
end Go.Ab
namespace Go.Ab
open Go.RowKit Go.Shelf
variable [G7]
def V0 (i:Nat):List UInt8:=if i<10 then[UInt8.ofNat (48+i)]else[UInt8.ofNat (48+i / 10),UInt8.ofNat (48+i % 10)]
def LD (i:Int):Option ByteArray:=if decide (0≤i)&&decide (i<100)then some ⟨(V0 i.toNat).toArray⟩else none
theorem Vn {i:Nat}(h:i<100):Lib.decDigits i=V0 i:=by
 unfold V0;rw[Lib.decDigits]
 split
 ·rfl
 rw[Lib.decDigits,dif_pos (by omega)];rfl
theorem RK {P:Program} {ρ:Ren} (L:Go.Proofs.Lays.n283 P ρ) (hrun:∀vals w,(callFunc (ρ.f 283) vals).run P w= .ok (.enter (ρ.f 283) vals) w) {i:Int} {r:ByteArray} (h:LD i=some r):B2 P (ρ.f 283) [.int .i64 i] (.str r):=by
 intro H g w vals hR hA;obtain⟨hlen,hv⟩:=hA;obtain⟨vals⟩:=vals
 match vals,hlen with
 | [v],_=>
  have hv1:=hv 0 (by simp)
  simp at hv1
  rw[hv1.int_inv,hrun]
  show CallsIn Fence.wide 0 P (ρ.f 283) #[.int .i64 i] w _
  rw[callsIn_wide]
  unfold LD at h
  split at h
  ·rename_i hc
   simp only[and_eq_true,decide_eq_true_eq]at hc
   cases h;obtain⟨u,rfl⟩:∃u:Nat,i=u:=⟨i.toNat,by omega⟩
   have hu:u<100:=by omega
   refine(Go.Proofs.Any.internal_strconv_small L u hu w).mono ?_;rintro e w' ⟨rfl,rfl⟩;refine⟨_,rfl,g,_,H,P1.refl _ _,hR,VR.str _,?_,rfl⟩;rw[Vn hu];rfl
  cases h
def Ka (s:ByteArray):List Int:=s.data.toList.map fun b=>(b.toNat:Int)
theorem OO (s:ByteArray):Cv s=(Ka s).map (V.int .u8):=by simp[Cv,Ka]
theorem Od {k:IntKind}:∀{l:List Int} {ys:List V},G3 (l.map (V.int k)) ys→ys=l.map (V.int k)
 |[],_,h=>by cases h;rfl
 |x::l,_,h=>by
  cases h with
  |cons a b=>cases a;rw[Od b];rfl
section
variable [Ar]{P:Program}{nt:Nat}{rd:Option Nat}{E:CV}(hE:E=E9 P nt rd){Φ:A2→A2→Prop}{H0 H:A2}{L:List En}{R:Type}{r:R}
include hE
theorem Aa3 {by_:Nat}{z:V}(hby:by_≤131072){q:OG}{l:List Int}(hO:B7 Φ H0 L H)(hq:CN q (Ar.len l))(i:Nat)(hi:L[i]? =some (.blk q.id (.arr 1 (q.pre++lst (V.int .u8) l++q.rest)))){s:ByteArray}{k:V→A2→Prop}{F:List Int→Option R}
 (h:(S1 l (Ka s)).bind F=some r)
 (hk:∀x (q:OG) H',CN q (Ar.len x)→B7 Φ H0 (L.set i (.blk q.id (.arr 1 (q.pre++lst (V.int .u8) x++q.rest)))) H'→F x=some r→k (.own q.id q.lo q.n) H'):E.oapps by_ z H (.own q.id q.lo q.n) s k:=by
 have h0:=GO (z:=z) (f:=V.int .u8) hE (fun _=>rfl) hby hO hq i hi (y:=.sl (Cv s) .ro) (m:=Ka s) (GB (f:=V.int .u8) hE (fun _=>rfl) (by rw[lst_eq,OO];exact .refl _)) h hk;subst hE;obtain⟨ys',h1,h2⟩:=h0;have h1:=h1.1
 rw[OO]at h1
 rw[Od h1,←OO]at h2
 exact h2
end
end Go.Ab
namespace Go.Ab
open Go.RowKit
variable [G7][Ar]
theorem Fj {L:List En} {i j:Nat} {e' e:En} (hj:(L.set i e')[j]? =some e):(j=i∧e=e')∨(j≠i∧L[j]? =some e):=by
 rw[List.getElem?_set]at hj
 split at hj
 ·rename_i hij;subst hij
  split at hj
  ·exact .inl ⟨rfl,(Option.some.inj hj).symm⟩
  cases hj
 rename_i hij;exact .inr ⟨fun e=>hij e.symm,hj⟩
theorem NM {L:List En}{i j:Nat}{e':En}(h:j≠i):(L.set i e')[j]? =L[j]? :=by
 rw[List.getElem?_set,if_neg (fun e=>h e.symm)]
theorem Z2.setNone {H0 H:A2} {L:List En} (h:Z2 H0 L H) (i:Nat) {e e':En} (hi:L[i]? =some e) (he:e.id=none) (he':e'.id=none):Z2 H0 (L.set i e') H:=by
 refine⟨h.ext,fun j x id b hj hx=>?_,fun j k x x' id b b' hj hk hx hx'=>?_,fun x b hx=>?_⟩
 ·rcases Fj hj with⟨_,rfl⟩|⟨_,hj⟩
  ·rw[he']at hx;cases hx
  exact h.has j x id b hj hx
 ·rcases Fj hj with⟨_,rfl⟩|⟨_,hj⟩
  ·rw[he']at hx;cases hx
  rcases Fj hk with⟨_,rfl⟩|⟨_,hk⟩
  ·rw[he']at hx';cases hx'
  exact h.inj j k x x' id b b' hj hk hx hx'
 refine(h.only x b hx).imp (fun h=>h) fun⟨j,y,h1,h2⟩=>⟨j,y,?_,h2⟩;rw[NM fun e=>by subst e;rw[hi]at h1;cases h1;rw[he]at h2;cases h2];exact h1
theorem Z2.drop {H0 H:A2} {L:List En} (h:Z2 H0 L H) (i:Nat) {e e':En} {id:Nat} {b0:Eu} (hi:L[i]? =some e) (he:e.id=some (id,b0)) (he':e'.id=none):Z2 H0 (L.set i e') (upd H id none):=by
 have hid:=h.has i e id b0 hi he;refine⟨fun x b hx=>?_,fun j x y b hj hx=>?_,fun j k x x' y b b' hj hk hx hx'=>?_,fun x b hx=>?_⟩
 ·rw[A3 _ _ (O3 hid.1 hx)];exact h.ext x b hx
 ·rcases Fj hj with⟨_,rfl⟩|⟨hne,hj⟩
  ·rw[he']at hx;cases hx
  have:=h.has j x y b hj hx;refine⟨this.1,?_⟩;rw[A3 _ _ (fun eq=>by subst eq;exact hne (h.inj j i x e y b b0 hj hi hx he))];exact this.2
 ·rcases Fj hj with⟨_,rfl⟩|⟨_,hj⟩
  ·rw[he']at hx;cases hx
  rcases Fj hk with⟨_,rfl⟩|⟨_,hk⟩
  ·rw[he']at hx';cases hx'
  exact h.inj j k x x' y b b' hj hk hx hx'
 by_cases hxi:x=id
 ·subst hxi;rw[B1]at hx;cases hx
 rw[A3 _ _ hxi]at hx
 refine(h.only x b hx).imp (fun h=>h) fun⟨j,y,h1,h2⟩=>⟨j,y,?_,h2⟩;rw[NM fun ej=>by subst ej;rw[hi]at h1;cases h1;rw[he]at h2;cases h2;exact hxi rfl];exact h1
theorem B7.untok {Φ:A2→A2→Prop} {F H:A2} {L:List En} (h:B7 Φ F L H) (i:Nat) {tl tl':E3} (hi:L[i]? =some (.tl tl)) (ht:(En.tl tl').id=none):B7 Φ F (L.set i (.tl tl')) (C7 H tl):=by
 obtain⟨hs,F',H1,h0,h1,h2⟩:=h
 cases tl with
 |tok t=>
  have e:=(h0.has i _ t _ hi rfl).2;exact⟨hs,_,_,h0.drop i hi rfl ht,hs.chg t none h1 (by rw[e,hs.le h1 _ _ e]),h2.upd t none⟩
 |nil=>exact⟨hs,_,_,h0.setNone i hi rfl ht,h1,h2⟩
 |full=>exact⟨hs,_,_,h0.setNone i hi rfl ht,h1,h2⟩
 |ro=>exact⟨hs,_,_,h0.setNone i hi rfl ht,h1,h2⟩
section
variable {P:Program}{T:Et}{f:FuncId}{fn:Func}{c:Code}{n:Nat}{rs:List ResultVar}{args:List V}
end
section
variable {P:Program}{nt:Nat}{rd:Option Nat}{T:Et}{E:CV}
variable (hE:E=E9 P nt rd)
include hE
variable {α R:Type}{f:α→V}{Φ:A2→A2→Prop}{H0 H:A2}{L:List En}{r:R}{m:Option (List α)}{F:List α→Option R}{fid:FuncId}{args args':List V}{k:V→A2→Prop}
end
end Go.Ab
namespace Go.Ab
open Go.RowKit
variable [G7][Ar]
def Gh.lend (g:Gh)(w:World):Gh:={g with fz:=fun b o=>∃v,w.cell? ⟨b,o,none⟩=some v,base:=w.heap.size}
theorem VR.lend {g:Gh}{w:World}{B:Nat}{F:Nat→Nat→Prop}(hB:g.base≤B)(hF:∀b o,g.fz b o→F b o){v:Value}{x:V}(h:VR g w v x):VR {g with fz:=F,base:=B} w v x:=by
 induction h with
 |bad v=>exact .bad v
 |bool b=>exact .bool b
 |int k n=>exact .int k n
 |str s=>exact .str s
 |nilp=>exact .nilp
 |nilf=>exact .nilf
 |nili=>exact .nili
 |nilmap=>exact .nilmap
 |map h=>exact .map h
 |fmap hb hw hk hn hl hv ih=>exact VR.fmap (g:={g with fz:=F,base:=B}) (Nat.lt_of_lt_of_le hb hB) hw hk hn hl ih
 |ref h=>exact .ref h
 |own h h0 h1 h2 hp=>exact VR.own (g:={g with fz:=F,base:=B}) h h0 h1 h2 hp
 |elem h hs=>exact VR.elem (g:={g with fz:=F,base:=B}) h hs
 |eref vs hf hw h1 hv ih=>exact .eref vs (fun j hj=>hF _ _ (hf j hj)) hw h1 ih
 |sl0 ht=>exact .sl0 ht
 |sle ht=>exact .sle ht
 |sl vs hn hc hz hf hw h1 hv ht ih=>exact .sl vs hn hc hz (fun i j hi hj=>hF _ _ (hf i j hi hj)) hw h1 ih (ht.mono fun _ _ e=>e)
 |func hl hv hl' hv' ih ih'=>exact .func hl ih hl' ih'
 |yield h=>exact .yield h
 |iface h ih=>exact .iface ih
 |agg hl h1 hv ih=>exact .agg hl h1 ih
 |tup hl hv ih=>exact .tup hl ih
theorem Rl.lend {g:Gh}{H:A2}{w:World}(h:Rl g H w):Rl (g.lend w) (fun _=>none) w:=by
 refine⟨fun id b hb=>(by cases hb),fun id id' b h1 _=>(by simp[Gh.at]at h1),fun b o hf=>hf,fun id hi=>⟨(h.nxt id hi).1,(h.nxt id hi).2.1,rfl⟩,Nat.le_refl _,fun n=>(h.glb n).lend h.bnd fun b o hf=>h.frz b o hf⟩
theorem Rl.lendOwn {g:Gh} {H:A2} {w:World} (h:Rl g H w) {id sz:Nat} {xs:List V} (hk:H id=some (.arr sz xs)) {v:Value} {lo n:Int} (hv:VR g w v (.own id lo n)):VR (g.lend w) w v (.sl (K4 xs lo n) .ro):=by
 obtain⟨g',⟨e1,e2,e3⟩,s,hR,hw⟩:=h.freezeArr' hk;have:=(hw v lo n (hv.mono s)).lend (F:=fun b o=>∃v,w.cell? ⟨b,o,none⟩=some v) (B:=w.heap.size) hR.bnd fun b o hf=>hR.frz b o hf
 have e:({g' with fz:=fun b o=>∃v,w.cell? ⟨b,o,none⟩=some v,base:=w.heap.size}:Gh)={(g.lend w)with nx:=g'.nx}:=by
  simp only[Gh.lend,Gh.mk.injEq,and_true];exact⟨e1,e3,e2⟩
 rw[e]at this
 exact VR.nxt this
where
 VR.nxt {g:Gh} {w:World} {n:Nat} {v:Value} {x:V} (h:VR {g with nx:=n} w v x):VR g w v x:=by
  generalize hg:({g with nx:=n}:Gh)=g1 at h
  have hmu:g1.mu=g.mu:=by rw[←hg]
  have htk:g1.tk=g.tk:=by rw[←hg]
  have hfz:g1.fz=g.fz:=by rw[←hg]
  have how:g1.ow=g.ow:=by rw[←hg]
  have hba:g1.base=g.base:=by rw[←hg]
  clear hg
  induction h with
  |bad v=>exact .bad v
  |bool b=>exact .bool b
  |int k n=>exact .int k n
  |str s=>exact .str s
  |nilp=>exact .nilp
  |nilf=>exact .nilf
  |nili=>exact .nili
  |nilmap=>exact .nilmap
  |map h=>exact .map (hmu▸h)
  |fmap hb hw hk hn hl hv ih=>exact .fmap (hba▸hb) hw hk hn hl ih
  |ref h=>exact .ref (hmu▸h)
  |own h h0 h1 h2 hp=>rw[how]at h2 hp ⊢;exact VR.own (hmu▸h) h0 h1 h2 hp
  |elem h hs=>rw[how]at hs ⊢;exact VR.elem (hmu▸h) hs
  |eref vs hf hw h1 hv ih=>exact .eref vs (fun j hj=>hfz▸hf j hj) hw h1 ih
  |sl0 ht=>exact .sl0 ht
  |sle ht=>exact .sle ht
  |sl vs hn hc hz hf hw h1 hv ht ih=>exact .sl vs hn hc hz (fun i j hi hj=>hfz▸hf i j hi hj) hw h1 ih (ht.mono fun _ _ e=>htk▸e)
  |func hl hv hl' hv' ih ih'=>exact .func hl ih hl' ih'
  |yield h=>exact .yield (hmu▸h)
  |iface h ih=>exact .iface ih
  |agg hl h1 hv ih=>exact .agg hl h1 ih
  |tup hl hv ih=>exact .tup hl ih
def XM :V→Bool
 | .bool _=>true
 | .int _ _=>true
 | .str _=>true
 |_=>false
inductive IJ :V→Prop
 |bool (b:Bool):IJ (.bool b)
 |int (k:IntKind) (n:Int):IJ (.int k n)
 |str (s:ByteArray):IJ (.str s)
 |agg {cs:List V} (h:cs.all XM=true):IJ (.agg cs)
 |tup2 {x y:V} (h:IJ x) (k:IJ y):IJ (.tup [x,y])
 |tup3 {x y z:V} (h:IJ x) (k:IJ y) (m:IJ z):IJ (.tup [x,y,z])
theorem IJ.any {x:V} (h:IJ x):∀{g g':Gh} {w w':World} {v:Value},VR g w v x→VR g' w' v x:=by
 induction h with
 |bool b=>intro g g' w w' v h;cases h;exact .bool b
 |int k n=>intro g g' w w' v h;cases h;exact .int k n
 |str s=>intro g g' w w' v h;cases h;exact .str s
 | @agg cs hp=>
  intro g g' w w' v h
  cases h with
  |agg hl h1 hv=>
   refine .agg hl h1 fun i hi=>?_;have hvi:=hv i hi;have hm:=List.all_eq_true.1 hp _ (List.getElem_mem hi)
   rw[show cs.getD i .bad=cs[i] by rw[List.getD_eq_getElem?_getD,List.getElem?_eq_getElem hi];rfl]at hvi ⊢
   generalize cs[i]=c at hvi hm ⊢
   generalize Array.getD _ i undef=u at hvi ⊢
   cases c<;>simp only[XM,Bool.false_eq_true]at hm<;>cases hvi<;>constructor
 | tup2 _ _ ih1 ih2=>
  intro g g' w w' v h
  cases h with
  |tup hl hv=>
   refine .tup hl fun i hi=>?_
   match i with
   |0=>exact ih1 (hv 0 hi)
   |1=>exact ih2 (hv 1 hi)
   |i+2=>simp at hi;omega
 | tup3 _ _ _ ih1 ih2 ih3=>
  intro g g' w w' v h
  cases h with
  |tup hl hv=>
   refine .tup hl fun i hi=>?_
   match i with
   |0=>exact ih1 (hv 0 hi)
   |1=>exact ih2 (hv 1 hi)
   |2=>exact ih3 (hv 2 hi)
   |i+3=>simp at hi;omega
inductive Gc (H:A2):List V→List V→Prop
 |nil:Gc H [] []
 |le {x y:V} {xs ys:List V} (h:AW x y) (k:Gc H xs ys):Gc H (x::xs) (y::ys)
 |fm {id:Nat} {ks:List Int} {zs xs ys:List V} (h:H id=some (.fm ks zs)) (k:Gc H xs ys):Gc H (.map id::xs) (.fmap ks zs::ys)
 |agg {us ws xs ys:List V} (h:Gc H us ws) (k:Gc H xs ys):Gc H (.agg us::xs) (.agg ws::ys)
 |own {id sz:Nat} {zs:List V} {lo n:Int} {xs ys:List V} (h:H id=some (.arr sz zs)) (k:Gc H xs ys):Gc H (.own id lo n::xs) (.sl (K4 zs lo n) .ro::ys)
theorem Gc.length {H:A2}{xs ys:List V}(h:Gc H xs ys):xs.length=ys.length:=by
 induction h with
 |nil=>rfl
 |le _ _ ih=>simp[ih]
 |fm _ _ ih=>simp[ih]
 |agg _ _ _ ih=>simp[ih]
 |own _ _ ih=>simp[ih]
theorem Gc.at {g:Gh} {H:A2} {w:World} (hR:Rl g H w) {xs ys:List V} (h:Gc H xs ys):∀(vals:Nat→Value),(∀i,i<xs.length→VR g w (vals i) (xs.getD i .bad))→∀i,i<ys.length→VR (g.lend w) w (vals i) (ys.getD i .bad):=by
 induction h with
 |nil=>intro _ _ i hi;simp at hi
 |le h k ih=>
  intro vals hv i hi
  cases i with
  |zero=>exact((hv 0 (by simp)).le h).lend hR.bnd fun b o hf=>hR.frz b o hf
  |succ i=>exact ih (fun i=>vals (i+1)) (fun i hi=>by simpa using hv (i+1) (by simpa using hi)) i (by simpa using hi)
 | fm h k ih=>
  intro vals hv i hi
  cases i with
  | zero=>
   have h0:=hv 0 (by simp)
   simp only[List.getD_cons_zero]at h0 ⊢
   generalize vals 0=u at h0
   cases h0 with
   |map hm=>
    obtain⟨b,es,clock,k1,k2,k3,k4,k5,k6,k7⟩:=hR.blk _ _ h
    rw[hm]at k1;cases k1
    exact VR.fmap (g:=Gh.lend _ _) (Mn k3) k3 k4 k5 k6 fun i e hi=>(k7 i e hi).lend hR.bnd fun b o hf=>hR.frz b o hf
  |succ i=>exact ih (fun i=>vals (i+1)) (fun i hi=>by simpa using hv (i+1) (by simpa using hi)) i (by simpa using hi)
 | agg h k ih1 ih=>
  intro vals hv i hi
  cases i with
  | zero=>
   have h0:=hv 0 (by simp)
   simp only[List.getD_cons_zero]at h0 ⊢
   generalize vals 0=u at h0
   cases h0 with
   |agg hl h1 hv1=>
    have e:=h.length;exact .agg (hl.trans e) (fun i hi=>h1 i (by omega)) fun i hi=>ih1 (fun i=>Array.getD _ i undef) hv1 i hi
  |succ i=>exact ih (fun i=>vals (i+1)) (fun i hi=>by simpa using hv (i+1) (by simpa using hi)) i (by simpa using hi)
 |own h k ih=>
  intro vals hv i hi
  cases i with
  |zero=>exact hR.lendOwn h (hv 0 (by simp))
  |succ i=>exact ih (fun i=>vals (i+1)) (fun i hi=>by simpa using hv (i+1) (by simpa using hi)) i (by simpa using hi)
theorem B2.lent {P:Program}{f:FuncId}{ys:List V}{r:V}(c:B2 P f ys r)(hr:IJ r){H:A2}{xs:List V}(hl:Gc H xs ys):H6 P f xs H fun x H'=>x=r∧H'=H:=by
 intro g w vals hR hA;have hA2:Args (g.lend w) w vals ys:=⟨hA.1.trans hl.length,hl.at hR (fun i=>vals.getD i undef) hA.2⟩;refine(c _ _ w vals hR.lend hA2).mono fun v w' ⟨g',x,H',s,hR',hv,e1,e2⟩=>?_;subst e1;have hb:Below w.heap.size w w':=s.low;have sg:P1 g w g w':=⟨fun _ _ e=>e,fun _ _ e=>e,fun _ _ e=>e,rfl,fun b o hf=>hb.cell (hR.fz_lt hf),hb.mono hR.bnd,fun _ _ _=>rfl,s.dr⟩;refine⟨g,x,H,sg,⟨fun id b hk=>(hR.blk id b hk).mono hk sg fun y hy=>⟨hb.block _ (hR.lt hy),fun _ ho=>ho⟩,hR.inj,fun b o hf=>?_,hR.nxt,Nat.le_trans hR.bnd hb.size,fun n=>(hR.glb n).mono sg⟩,hr.any hv,rfl,rfl⟩;obtain⟨u,hu⟩:=hR.frz b o hf;exact⟨u,(hb.cell (hR.fz_lt hf)).trans hu⟩
section
variable {P:Program}{nt:Nat}{rd:Option Nat}{T:Et}{E:CV}
variable (hE:E=E9 P nt rd)
include hE
theorem Uy {R S:Type}{m:Option S}{F:S→Option R}{r:R}{f:FuncId}{args args':List V}{g:S→V}{H:A2}{k:V→A2→Prop}(h:m.bind F=some r)(hc:∀x,m=some x→B2 P f args' (g x))(hs:∀x,IJ (g x))(hl:Gc H args args')
 (hk:∀x,F x=some r→k (g x) H):E.call (.func (.func f) [] []) args H k:=by
 subst hE;obtain⟨x,h1,h2⟩:=bind_some h;refine H6.value (F:=[]) (C:=[]) ?_;simp only[List.nil_append,append_nil]
 exact((hc x h1).lent (hs x) hl).mono fun v H' ⟨e1,e2⟩=>by subst e1;subst e2;exact hk x h2
theorem Yo {α:Type}{f:α→V}{Φ:A2→A2→Prop}{H0 H:A2}{L:List En}{sz:Nat}{q:OG}{l:List α}(hO:B7 Φ H0 L H)(hq:CN q (Ar.len l))(i:Nat)(hi:L[i]? =some (.blk q.id (.arr sz (q.pre++lst f l++q.rest)))){xs ys:List V}(k:Gc H xs ys):
 Gc H (.own q.id q.lo q.n::xs) (.sl (lst f l) .ro::ys):=by
 have:=Gc.own (lo:=q.lo) (n:=q.n) (hO.get i hi) k
 rwa[IV hq.1 (by rw[hq.2,len_eq,J4])]at this
end
end Go.Ab
namespace Go.Ab
open Go.RowKit Go.MapKept
variable [G7][Ar]
def WN {K X:Type}(d:TypeDesc)(kf:K→V)(vf:X→V)(o:Obj)(m:List (K×X)):Prop:=∃m':List (K×X),V6 d o (m'.map fun p=>(kf p.1,vf p.2))∧m'.Perm m
theorem WN.perm {K X:Type}{d:TypeDesc}{kf:K→V}{vf:X→V}{o:Obj}{m l:List (K×X)}(h:WN d kf vf o m)(hp:m.Perm l):WN d kf vf o l:=
 let⟨m',h1,h2⟩:=h;⟨m',h1,h2.trans hp⟩
theorem Ab7 {K X:Type}{m:List (K×X)}(hn:(m.map (·.1)).Nodup){p q:K×X}(hp:p∈m)(hq:q∈m)(e:p.1=q.1):p=q:=by
 obtain⟨i,hi,rfl⟩:=List.getElem_of_mem hp;obtain⟨j,hj,rfl⟩:=List.getElem_of_mem hq;have:i=j:=Hx hn (by simpa using hi) (by simpa using hj) (by simpa using e);subst this;rfl
theorem Ws {K X:Type} [DecidableEq K] {m m':List (K×X)} (hp:m'.Perm m) (hn:(m'.map (·.1)).Nodup) (k:K) (z:X):ID m' k z=ID m k z:=by
 unfold ID
 cases hf:m.find? (fun p=>decide (p.1=k))with
 |none=>
  have:m'.find? (fun p=>decide (p.1=k))=none:=List.find?_eq_none.2 fun p hm=>List.find?_eq_none.1 hf p (hp.mem_iff.1 hm);rw[this]
 | some p=>
  have h1:p.1=k:=by simpa using List.find?_some hf
  have h2:=hp.mem_iff.2 (List.mem_of_find?_eq_some hf)
  cases hg:m'.find? (fun p=>decide (p.1=k))with
  |none=>exact absurd h1 (by simpa using List.find?_eq_none.1 hg p h2)
  |some q=>
   have h3:q.1=k:=by simpa using List.find?_some hg
   rw[Ab7 hn (List.mem_of_find?_eq_some hg) h2 (h3.trans h1.symm)]
theorem VJ {K X:Type} [DecidableEq K] {m m' r:List (K×X)} (hp:m'.Perm m) {k:K} {v:X} (h:HI m k v=some r):∃r',HI m' k v=some r'∧r'.Perm r:=by
 unfold HI at h
 cases h;refine⟨_,rfl,?_⟩
 have e:m'.any (fun p=>decide (p.1=k))=m.any (fun p=>decide (p.1=k)):=by
  rw[Bool.eq_iff_iff,List.any_eq_true,List.any_eq_true];exact⟨fun⟨p,h1,h2⟩=>⟨p,hp.mem_iff.1 h1,h2⟩,fun⟨p,h1,h2⟩=>⟨p,hp.mem_iff.2 h1,h2⟩⟩
 rw[e]
 split
 ·exact hp.map _
 exact hp.append_right _
theorem Ti {K X:Type}{d:TypeDesc}{kf:K→V}{vf:X→V}{o:Obj}{m:List (K×X)}(h:V6 d o (m.map fun p=>(kf p.1,vf p.2))):(m.map (·.1)).Nodup:=by
 have:=h.nodup
 rw[List.map_map]at this
 have e:(m.map ((·.1)∘fun p=>(kf p.1,vf p.2)))=(m.map (·.1)).map kf:=by rw[List.map_map];rfl
 rw[e]at this
 exact List.Pairwise.imp (fun h e=>h (by rw[e])) (List.pairwise_map.1 this)
def ZC (P:Program)(kt:TypeId)(d:TypeDesc):Bool:=match d with| .struct _=> !P.stoodInHeld kt|_=>true
structure TQ {K:Type} (P:Program) (d:TypeDesc) (kf:K→V):Prop where
 raw:∀x,∃v,Bb (kf x)=some v∧CO d v
 inj:∀x y,kf x=kf y→x=y
 kg:∀kt,P.underlying kt=some d→ZC P kt d=true→KG P kt (CO d)
theorem Re {P:Program}:TQ P .string V.str:=⟨fun _=>⟨_,rfl,trivial⟩,fun x y h=>by cases h;rfl,fun _ h _=>KG.scalar h⟩
theorem NR :∀l:List Int,FK (l.map (V.int .i64))=some (l.map (Value.int .i64))
 |[]=>rfl
 |x::l=>by simp[FK,GH,NR l]
def Ag8 (P:Program)(fs:Array Field):Bool:=
 fs.toList.all (fun f=>f.name != "_" &&(match P.underlying f.type with|some (.int .i64)=>true|_=>false)&&decide (f.offset<fs.size))&&(List.range fs.size).all (fun i=>fs.toList.any fun f=>f.offset==i)
theorem We {K:Type} {P:Program} {fs:Array Field} {g:K→List Int} {kf:K→V} (hk:∀x,kf x= .agg ((g x).map (V.int .i64))) (hn:∀x,(g x).length=fs.size) (hg:∀x y,g x=g y→x=y)
 (hf:Ag8 P fs=true):TQ P (.struct fs) kf where
 raw:=fun x=>⟨.agg ((g x).map (Value.int .i64)).toArray,by rw[hk];simp[Bb,NR],g x,hn x,rfl⟩
 inj:=fun x y h=>hg x y (by
  rw[hk,hk]at h
  have h2:=V.agg.inj h
  exact(List.map_inj_right (fun a b h=>by cases h;rfl)).1 h2)
 kg:=fun kt h hs=>by
  unfold Ag8 at hf
  simp only[and_eq_true,List.all_eq_true,List.any_eq_true,decide_eq_true_eq,bne_iff_ne,beq_iff_eq,List.mem_range]at hf
  obtain⟨h1,h2⟩:=hf
  have e:P.fieldsOf kt=fs:=by simp[Program.fieldsOf,h]
  refine KG.flds (by rw[e];exact h) (by simpa[ZC]using hs) ⟨fun f hf=>?_,fun i hi=>?_⟩
  ·rw[e]at hf
   obtain⟨⟨a,b⟩,c⟩:=h1 f hf;refine⟨a,?_,c⟩
   revert b
   split
   ·rename_i h;exact fun _=>h
   intro h;cases h
  rw[e];obtain⟨f,hf,he⟩:=h2 i hi;exact⟨f,hf,he⟩
def MvOk {X:Type}(vf:X→V):Prop:=∀x,∃v,Bb (vf x)=some v
theorem JR :MvOk V.bool:=fun _=>⟨_,rfl⟩
abbrev OneV (v:V):Prop:=v.one=true∧v.cells=[v]
theorem B7.startO {H0:A2}{id:Nat}{b:Eu}(hk:H0 id=some b):B7 Eq (upd H0 id none) [.blk id b] H0:=by
 have h:B7 Eq (upd H0 id none) [.blk id b] (upd (upd H0 id none) id (some b)):=(B7.start G0 rfl).push (B1 _ _ _) rfl
 rwa[CR,Xk H0 id (some b) hk]at h
theorem KX {α:Type}{f:α→V}{q:OG}{l:List α}(h:CN q ((lst f l).length:Nat)):CN q (Ar.len l):=⟨h.1,by rw[h.2,len_eq,J4]⟩
section
variable {P:Program}{nt:Nat}{rd:Option Nat}{T:Et}{E:CV}
variable (hE:E=E9 P nt rd)
include hE
variable {α R:Type}{f:α→V}{Φ:A2→A2→Prop}{H0 H:A2}{L:List En}{sz:Nat}{q:OG}{l:List α}{r:R}
theorem JQ (hO:B7 Φ H0 L H){k:V→A2→Prop}(hk:∀(q:OG) H',CN q (Ar.len ([]:List α))→B7 Φ H0 (.blk q.id (.arr sz (q.pre++lst f []++q.rest))::L) H'→k (.own q.id q.lo q.n) H'):E.onil sz H k:=by
 subst hE;intro t ht
 have e:([]:List V)++lst f []++[]=[]:=by rw[←F3 (f:=f)];rfl
 refine hk ⟨t,0,0,[],[]⟩ _ ⟨rfl,by rw[len_eq];rfl⟩ ?_
 show B7 Φ H0 (.blk t (.arr sz (([]:List V)++lst f []++[]))::L) _
 rw[e];exact hO.push ht rfl
theorem Aj3 {s d e:Nat}{l:List Int}(hs:Cy P s=some e)(he:P.underlying e=some (.int .u8))(hd:P.underlying d=some .string)(hO:B7 Φ H0 L H)(hq:CN q (Ar.len l))(i:Nat)(hi:L[i]? =some (.blk q.id (.arr 1 (q.pre++lst (V.int .u8) l++q.rest))))
 {k:V→Prop} {F:ByteArray→Option R} (h:(Ud l).bind F=some r) (hk:∀b,F b=some r→k (.str b)):E.ostr s d H (.own q.id q.lo q.n) k:=by
 have hsrc:=ZD hE hO hq i hi;subst hE;exact⟨_,⟨e,l,hs,he,hd,by rw[←lst_eq];exact hsrc,rfl⟩,hk _ h⟩
section
variable {K X:Type}{kf:K→V}{vf:X→V}{t kt et:Nat}{d:TypeDesc}{m:List (K×X)}{o:Obj}{id:Nat}
theorem Ag1 (d:TypeDesc)(kf:K→V)(vf:X→V)(hO:B7 Φ H0 L H){k:V→A2→Prop}(hk:∀id o H',WN d kf vf o []→B7 Φ H0 (.blk id (.obj o)::L) H'→k (.map id) H'):E.mmk H k:=by
 subst hE;exact .inl fun id hid=>hk id _ _ ⟨[],V6.empty d,.refl _⟩ (hO.push hid rfl)
theorem Ar2 [DecidableEq K] (hK:TQ P d kf) {z:V} {z0:X} (hz:EW P et=some z) (hvz:z=vf z0) {key:K} {x:X×Bool} (hx:ID m key z0=some x) (ok:Bool):
 Ah4 P et (m.map fun p=>(kf p.1,vf p.2)) (kf key) ok (if ok=true then .tup [vf x.1,.bool x.2]else vf x.1):=by
 unfold ID at hx
 cases hx
 cases hf:m.find? (fun p=>decide (p.1=key))with
 |none=>
  refine .inl ⟨fun p hp=>?_,z,hz,by simp only[hvz]⟩;obtain⟨q,hq,rfl⟩:=List.mem_map.1 hp;have:=List.find?_eq_none.1 hf q hq;exact fun e=>this (by simpa using hK.inj _ _ e)
 |some p=>
  have h1:=List.find?_some hf;have h2:=List.mem_of_find?_eq_some hf;refine .inr ⟨vf p.2,List.mem_map.2 ⟨p,h2,?_⟩,rfl⟩;rw[show p.1=key by simpa using h1]
theorem Ta [DecidableEq K](hm:P.underlying t=some (.map kt et))(hd:P.underlying kt=some d)(hK:TQ P d kf){z:V}(z0:X)(hz:EW P et=some z)(hvz:z=vf z0)(hO:B7 Φ H0 L H)(hq:WN d kf vf o m)(i:Nat)(hi:L[i]? =some (.blk id (.obj o)))
 {key:K} {k:V→Prop} {F:X×Bool→Option R} (h:(ID m key z0).bind F=some r) (hk:∀x,F x=some r→k (vf x.1)) (hst:ZC P kt d=true:=by kernel_rfl):E.mget t H (.map id) (kf key) false k:=by
 obtain⟨x,h1,h2⟩:=bind_some h;obtain⟨m',hq,hp⟩:=hq
 rw[←Ws hp (Ti hq)]at h1
 have ha:=Ar2 (P:=P) (vf:=vf) hE hK hz hvz h1 false;subst hE;obtain⟨v,hv1,hv2⟩:=hK.raw key;exact⟨_,.inl ⟨kt,et,d,v,id,o,_,hm,hK.kg _ hd hst,hv1,hv2,rfl,hO.get i hi,hq,ha⟩,hk x h2⟩
theorem ZJ [DecidableEq K] (hK:TQ P d kf) (hn:((m.map fun p=>(kf p.1,vf p.2)).map (·.1)).Nodup) {key:K} {v:X} {m':List (K×X)} (hx:HI m key v=some m'):Am3 (m.map fun p=>(kf p.1,vf p.2)) (kf key) (vf v) (m'.map fun p=>(kf p.1,vf p.2)):=by
 unfold HI at hx
 cases hx
 split
 ·rename_i h;obtain⟨p,hp,he⟩:=List.any_eq_true.1 h
  have he:p.1=key:=by simpa using he
  obtain⟨a,b,hab⟩:=List.append_of_mem hp;subst hab;refine .inr ⟨a.map fun p=>(kf p.1,vf p.2),vf p.2,b.map fun p=>(kf p.1,vf p.2),by simp[he],?_⟩
  have hna:∀l:List (K×X),(∀q∈l,q.1≠key)→(l.map (fun p=>if p.1=key then(key,v)else p))=l:=fun l hl=>by
   induction l with
   |nil=>rfl
   |cons y l ih=>rw[List.map_cons,if_neg (hl y (by simp)),ih fun q hq=>hl q (by simp[hq])]
  rw[List.map_map,List.map_append,List.map_cons,List.nodup_append]at hn
  obtain⟨_,n2,n3⟩:=hn
  rw[List.nodup_cons]at n2
  have ha:∀q∈a,q.1≠key:=fun q hq e=>n3 (kf q.1) (List.mem_map.2 ⟨q,hq,rfl⟩) (kf p.1) (by simp) (by rw[e,he]);have hb:∀q∈b,q.1≠key:=fun q hq e=>n2.1 (List.mem_map.2 ⟨q,hq,by simp[e,he]⟩);rw[List.map_append,List.map_cons,hna a ha,hna b hb,if_pos he];simp
 rename_i h;refine .inl ⟨fun p hp=>?_,by simp⟩;obtain⟨q,hq,rfl⟩:=List.mem_map.1 hp;exact fun e=>h (List.any_eq_true.2 ⟨q,hq,by simpa using hK.inj _ _ e⟩)
theorem SZ [DecidableEq K](hm:P.underlying t=some (.map kt et))(hd:P.underlying kt=some d)(hK:TQ P d kf)(hV:MvOk vf)(hO:B7 Φ H0 L H)(hq:WN d kf vf o m)(i:Nat)(hi:L[i]? =some (.blk id (.obj o)))
 {key:K} {v:X} {k:A2→Prop} {F:List (K×X)→Option R} (h:(HI m key v).bind F=some r) (hk:∀m' o' H',WN d kf vf o' m'→F m'=some r→B7 Φ H0 (L.set i (.blk id (.obj o'))) H'→k H') (hst:ZC P kt d=true:=by kernel_rfl):E.mset t H (.map id) (kf key) (vf v) k:=by
 obtain⟨m',h1,h2⟩:=bind_some h;obtain⟨m0,hq,hp⟩:=hq;obtain⟨r',h3,hp'⟩:=VJ hp h1;have hs:=ZJ (d:=d) hE hK hq.nodup h3;subst hE;obtain⟨kv,hv1,hv2⟩:=hK.raw key;obtain⟨vv,hv3⟩:=hV v;exact .inl ⟨kt,et,d,kv,vv,id,o,_,_,hm,hK.kg _ hd hst,hv1,hv2,hv3,rfl,hO.get i hi,hq,hs,fun o' ho=>hk m' o' _ ⟨r',ho,hp'⟩ h2 (hO.set i hi)⟩
end
end
end Go.Ab
namespace Go.Ab
open Go.RowKit
variable [G7][Ar]
def TU (P:Program)(f:FuncId)(args:List V)(ks:List Int)(xs:List V):Prop:=∀H,H6 P f args H fun v H'=>∃id,H id=none∧v= .map id∧H'=upd H id (some (.fm ks xs))
def FG (E:CV)(n:Int)(K:V→Prop)(z:V):List Int→List V→Prop
 |k::ks,x::xs=>E.br (Ar.cmp .eql n k) (fun _=>K x) (fun _=>FG E n K z ks xs)
 |_,_=>K z
def AG (E:CV)(i:Int)(K:Nat→Prop):List Int→Prop
 |m::ms=>E.br (Ar.cmp .eql i m) (fun _=>K m.toNat) (fun _=>AG E i K ms)
 |[]=>False
section
variable {P:Program}{nt:Nat}{rd:Option Nat}{T:Et}{E:CV}
variable (hE:E=E9 P nt rd)
include hE
variable {Φ:A2→A2→Prop}{H0 H:A2}{L:List En}{t kt et id:Nat}{ks:List Int}{xs:List V}
theorem Ap4 (hO:B7 Φ H0 L H){k:V→A2→Prop}(hk:∀id H',B7 Φ H0 (.blk id (.fm [] [])::L) H'→k (.map id) H'):E.mmk H k:=by
 subst hE;exact .inr fun id hid=>hk id _ (hO.push hid rfl)
theorem Iu (hm:P.underlying t=some (.map kt et))(hd:P.underlying kt=some (.int .i64))(hO:B7 Φ H0 L H)(i:Nat)(hi:L[i]? =some (.blk id (.fm ks xs))){n:Int}{v:V}(hn:ks.all (fun k=> !(k==n))=true)
 {k:A2→Prop} (hk:∀H',B7 Φ H0 (L.set i (.blk id (.fm (ks++[n]) (xs++[v])))) H'→k H'):E.mset t H (.map id) (.int .i64 n) v k:=by
 subst hE;exact .inr ⟨kt,et,ks,xs,n,id,hm,hd,rfl,hO.get i hi,rfl,(fun x hx=>by have:=List.all_eq_true.1 hn x hx;simpa using this),hk _ (hO.set i hi)⟩
theorem UP {n:Int} {K:V→Prop} {z:V}:∀(ks:List Int) (xs:List V),xs.length=ks.length→FG E n K z ks xs→∃v,((∃i:Nat,ks[i]? =some n∧v=xs.getD i .bad)∨((∀k∈ks,k≠n)∧z=v))∧K v
 |[],[],_,h=>⟨z,.inr ⟨(fun _ h=>by cases h),rfl⟩,h⟩
 |[],_::_,hl,_=>by simp at hl
 |_::_,[],hl,_=>by simp at hl
 | k::ks,x::xs,hl,h=>by
  have ih:=UP (n:=n) (K:=K) (z:=z) ks xs (by simpa using hl)
  unfold FG at h
  subst hE;obtain⟨h1,h2⟩:=h
  rw[Ar.cmp_eq]at h1 h2
  cases hb:KQ .eql n k with
  |true=>
   have e:n=k:=by simpa[KQ]using hb
   exact⟨x,.inl ⟨0,by simp[e],by simp⟩,h1 hb⟩
  |false=>
   have e:n≠k:=by simpa[KQ]using hb
   obtain⟨v,hv,hk⟩:=ih (h2 hb);refine⟨v,?_,hk⟩
   rcases hv with⟨i,q1,q2⟩|⟨q1,q2⟩
   ·exact .inl ⟨i+1,by simpa using q1,by simpa using q2⟩
   refine .inr ⟨fun y hy=>?_,q2⟩
   rcases List.mem_cons.1 hy with rfl|hy
   ·exact fun e'=>e e'.symm
   exact q1 y hy
theorem UZ {i:Int} {K:Nat→Prop}:∀ms:List Int,AG E i K ms→∃m∈ms,i=m∧K i.toNat
 |[],h=>h.elim
 | m::ms,h=>by
  have ih:=UZ (i:=i) (K:=K) ms
  unfold AG at h
  subst hE;obtain⟨h1,h2⟩:=h
  rw[Ar.cmp_eq]at h1 h2
  cases hb:KQ .eql i m with
  |true=>
   have e:i=m:=by simpa[KQ]using hb
   exact⟨m,by simp,e,by rw[e];exact h1 hb⟩
  |false=>
   obtain⟨m',q1,q2,q3⟩:=ih (h2 hb);exact⟨m',by simp[q1],q2,q3⟩
theorem Aj8 (hm:P.underlying t=some (.map kt et))(hd:P.underlying kt=some (.int .i64)){z:V}(hz:EW P et=some z)(hl:xs.length=ks.length){n:Int}{k:V→Prop}(h:FG E n k z ks xs):E.mget t H (.fmap ks xs) (.int .i64 n) false k:=by
 obtain⟨v,hv,hk⟩:=UP hE ks xs hl h;subst hE;exact⟨v,.inr ⟨kt,et,ks,xs,n,hm,hd,rfl,rfl,rfl,hv.imp (fun h=>h) fun⟨h1,h2⟩=>⟨h1,h2▸hz⟩⟩,hk⟩
theorem Aa7 {n:Nat}{i:Int}{K:Nat→Prop}(ms:List Int)(hm:(ms.map Int.toNat==List.range n&&ms.all (fun m=>decide (0≤m)))=true)(h:AG E i K ms):E.aidx i n K:=by
 obtain⟨m,h1,h2,h3⟩:=UZ hE ms h;subst hE;subst h2
 simp only[and_eq_true,beq_iff_eq,List.all_eq_true,decide_eq_true_eq]at hm
 have hmem:i.toNat∈List.range n:=by rw[←hm.1];exact List.mem_map.2 ⟨_,h1,rfl⟩
 have h0:=hm.2 _ h1
 rw[List.mem_range]at hmem
 exact⟨⟨h0,by omega⟩,h3⟩
theorem Yc {fid:FuncId}{args args':List V}(hc:TU P fid args' ks xs)(hl:G3 args args')(hO:B7 Φ H0 L H){k:V→A2→Prop}(hk:∀id H',B7 Φ H0 (.blk id (.fm ks xs)::L) H'→k (.map id) H'):E.call (.func (.func fid) [] []) args H k:=by
 subst hE;refine H6.value (F:=[]) (C:=[]) ?_;simp only[List.nil_append,append_nil]
 exact((hc H).args hl).mono fun v H' ⟨id,e1,e2,e3⟩=>by subst e2;subst e3;exact hk id _ (hO.push e1 rfl)
end
theorem TK {P:Program}{T:Et}{f:FuncId}{fn:Func}{c:Code}{n:Nat}{rs:List ResultVar}{args:List V}{ks:List Int}{xs:List V}(cf:Cf)(hP:RX P T)(hf:P.funcs[f]? =some fn)(hb:fn.body=some c)(hd:G4 cf c=true)
 (hcall:∀vals w,(callFunc f vals).run P w= .ok (.enter f vals) w) (hnt:fn.ntmps=n) (hrs:fn.results.toList=rs) (hn:Nat.ble args.length n=true)
 (h:∀(E:CV) (H:A2) (k:V→A2→Prop),E=E9 P n none→(∀id (L:List En) (i:Nat) H',L[i]? =some (.blk id (.fm ks xs))→B7 Eq H L H'→k (.map id) H')→run E T n cf c ⟨BM args 0,[]⟩ H (MI E T rs k)):TU P f args ks xs:=fun H=>by
 refine H6.le (W7 (K:=fun x H'=>∃y H2,AW x y∧Gq H2 H'∧∃id,H id=none∧y= .map id∧H2=upd H id (some (.fm ks xs))) cf hP.1 hP.2 hf hb hd hcall hnt hrs hn fun E hE=>?_);refine h E H _ hE fun id L i H' hi hO=>?_;obtain⟨h1,h2⟩:=(hO.only i hi).last;exact⟨_,_,.refl _,h2,id,h1,rfl,rfl⟩
end Go.Ab
namespace Go.Ab
open Go.RowKit
variable [G7][Ar]
inductive Sb {α β:Type} (R:α→β→Prop):List α→List β→Prop
 |nil:Sb R [] []
 |cons {x:α} {y:β} {xs:List α} {ys:List β} (h:R x y) (k:Sb R xs ys):Sb R (x::xs) (y::ys)
theorem Sb.get {α β:Type}{R:α→β→Prop}:∀{xs:List α} {ys:List β},Sb R xs ys→∀{i:Nat} {y:β},ys[i]? =some y→∃x,xs[i]? =some x∧R x y
 |_,_,.nil,i,y,h=>by simp at h
 |_,_,.cons h k,0,y,e=>by simp at e;subst e;exact⟨_,rfl,h⟩
 |_,_,.cons h k,i+1,y,e=>by simp at e ⊢;exact k.get e
theorem Sb.len {α β:Type}{R:α→β→Prop}:∀{xs:List α} {ys:List β},Sb R xs ys→xs.length=ys.length
 |_,_,.nil=>rfl
 |_,_,.cons _ k=>by simp[k.len]
def TS (P:Program)(fv:V)(args:List V)(Q:V→Prop):Prop:=∀H,AV P fv args H fun x H'=>Q x∧H'=H
theorem An.value {P:Program}{f:FuncId}{F C args:List V}{Q:V→Prop}(h:An P f (F++args++C) Q):TS P (.func (.func f) F C) args Q:=fun H=>(h H).value
section
variable {P:Program}{nt:Nat}{rd:Option Nat}{E:CV}(hE:E=E9 P nt rd)
include hE
theorem Aa6 {φ R:Type} {Good:V→φ→Prop} {xs:List V} {fs:List φ} (hp:Sb Good xs fs) {i:Int} {F:φ→Option R} {r:R} (h:(B9 fs i).bind F=some r) {ag:Bool} {sz n:Nat} {k:V→Prop}
 (hk:∀v f,Good v f→F f=some r→k v) (ha:ag=false:=by rfl) (hs:sz=1:=by rfl) (hn:n=fs.length:=by rfl):E.aidx i n fun m=>Gw (Cz ag sz xs (m*sz)) k:=by
 subst hE;subst ha;subst hs;subst hn;obtain⟨f,h1,h2⟩:=bind_some h
 unfold B9 at h1
 split at h1
 ·rename_i h0;obtain⟨v,e,hg⟩:=hp.get h1
  have hlt:i.toNat<fs.length:=by
   rcases Nat.lt_or_ge i.toNat fs.length with h'|h'
   ·exact h'
   rw[List.getElem?_eq_none h']at h1;cases h1
  refine⟨⟨h0,by omega⟩,?_⟩;simp only[Nat.mul_one,Cz,Bool.false_eq_true,if_false];rw[e];exact hk v f hg h2
 cases h1
theorem Aj6 {α R:Type}{f g:α→V}{xs:List V}{l:List α}(hx:xs=lst f l)(hf:∀x,f x=g x){i:Int}{k:V→Prop}{F:α→Option R}{r:R}(h:(B9 l i).bind F=some r)(hk:∀x,F x=some r→k (g x)):E.idx xs i k:=by
 rw[hx];exact C5 hE hf h hk
theorem Yb {R S:Type}{m:Option S}{F:S→Option R}{r:R}{fv:V}{args:List V}{args':List V}{Q:S→V→Prop}{H:A2}{k:V→A2→Prop}(h:m.bind F=some r)(hc:∀x,m=some x→TS P fv args' (Q x))(hl:G3 args args')
 (hk:∀x v,Q x v→F x=some r→k v H):E.call fv args H k:=by
 subst hE;obtain⟨x,h1,h2⟩:=bind_some h;intro g w v vals hR hv hA;exact D5.mono (fun _ _ p=>H5.mono (fun v H' ⟨hq,hH⟩=>by subst hH;exact hk x v hq h2) p) (hc x h1 H g w v vals hR hv (hA.le hl))
end
end Go.Ab
