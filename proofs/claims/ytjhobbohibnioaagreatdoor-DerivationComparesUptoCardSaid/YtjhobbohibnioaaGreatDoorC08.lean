/- AbB5 AbB6 AbB7 AbB8 AbB9 AbB10 AbS4 AbS5 AbS7 AbC1 AbK3 AbS3 AbC2 AbC3 AbT1 AbB14 AbB11 -/
import Derived.Test.YtjhobbohibnioaaGreatDoorC07
import Derived.Laws.Externs
import Derived.Sort.Grow
import Derived.Shelf.Strconv.Itoa1
import Derived.Shelf.Sort.Plain
import Derived.Shelf.Slices.In.SortNone
import Derived.Shelf.Slices.CompactI
import Derived.KernelRfl
set_option linter.all false
open List (append_assoc append_nil)
open Go.Ab.Ar (len_eq lst lst_eq ofs ofs_eq)
namespace Go.Ab
open Go.RowKit
variable [G7][Ar]
theorem T8.swap {H0 H:A0} {L:List En} (h:T8 H0 L H) (i:Nat) {en en':En} {id t:Nat} {b b':CW} (hi:L[i]? =some en) (he:en.id=some (id,b)) (he':en'.id=some (t,b')) (ht:upd H id none t=none):
 T8 H0 (L.set i en') (upd (upd H id none) t (some b')):=by
 have hlt:i<L.length:=by
  rcases Nat.lt_or_ge i L.length with h'|h'
  ·exact h'
  rw[List.getElem?_eq_none h']at hi;cases hi
 have EO:∀(j:Nat) e,(L.set i en')[j]? =some e→(j=i∧e=en')∨(j≠i∧L[j]? =some e):=fun j e hj=>by
  rw[List.getElem?_set]at hj
  split at hj
  ·rename_i hij;subst hij
   try rw[if_pos hlt]at hj
   exact .inl ⟨rfl,(Option.some.inj hj).symm⟩
  rename_i hij;exact .inr ⟨fun e=>hij e.symm,hj⟩
 have hid:=h.has i _ id b hi he
 have h0:∀x c,H0 x=some c→upd H id none x=some c:=fun x c hx=>by
  rw[A6 _ _ (M0 hid.1 hx)];exact h.ext x c hx
 have hoth:∀(j:Nat) e x c,j≠i→L[j]? =some e→e.id=some (x,c)→H0 x=none∧upd H id none x=some c:=fun j e x c hne hj hx=>by
  have:=h.has j e x c hj hx
  have hxid:x≠id:=fun eq=>by subst eq;exact hne (h.inj j i e _ x c b hj hi hx he)
  exact⟨this.1,by rw[A6 _ _ hxid];exact this.2⟩
 have hid0:H0 t=none:=by
  cases e:H0 t with
  |none=>rfl
  |some c=>rw[h0 t c e]at ht;cases ht
 refine⟨fun x bb hx=>?_,fun j e x bb hj hx=>?_,fun j k e e' x bb bb' hj hk hx hx'=>?_,fun x bb hx=>?_⟩
 rotate_right
 ·by_cases hxi:x=t
  ·subst hxi;rw[B1]at hx;cases hx
   exact .inr ⟨i,en',by rw[List.getElem?_set,if_pos rfl,if_pos hlt],he'⟩
  rw[A6 _ _ hxi]at hx
  have hxid:x≠id:=fun eq=>by subst eq;rw[B1]at hx;cases hx
  rw[A6 _ _ hxid]at hx
  refine(h.only x bb hx).imp (fun h=>h) fun⟨j,e,h1,h2⟩=>⟨j,e,?_,h2⟩;rw[List.getElem?_set]
  split
  ·rename_i hij;subst hij;rw[hi]at h1;cases h1;rw[he]at h2;cases h2;exact absurd rfl hxid
  exact h1
 ·rw[A6 _ _ (M0 hid0 hx)];exact h0 x bb hx
 ·rcases EO j e hj with⟨_,rfl⟩|⟨hne,hj'⟩
  ·rw[he']at hx;cases hx;exact⟨hid0,B1 _ _ _⟩
  have:=hoth j e x bb hne hj' hx;exact⟨this.1,by rw[A6 _ _ (M0 ht this.2)];exact this.2⟩
 rcases EO j e hj with⟨hji,rfl⟩|⟨hne,hj'⟩<;>rcases EO k e' hk with⟨hki,rfl⟩|⟨hne',hk'⟩
 ·rw[hji,hki]
 ·rw[he']at hx;cases hx;have:=(hoth k e' t bb' hne' hk' hx').2;rw[ht]at this;cases this
 ·rw[he']at hx';cases hx';have:=(hoth j e t bb hne hj' hx).2;rw[ht]at this;cases this
 exact h.inj j k e e' x bb bb' hj' hk' hx hx'
theorem B7.swap {Φ:A0→A0→Prop}{F H:A0}{L:List En}(h:B7 Φ F L H)(i:Nat){id t:Nat}{b b':CW}(hi:L[i]? =some (.blk id b))(ht:upd H id none t=none):B7 Φ F (L.set i (.blk t b')) (upd (upd H id none) t (some b')):=by
 obtain⟨hs,F',H1,h0,h1,h2⟩:=h;have e:=h0.get i hi;have e1:=hs.le h1 _ _ e;have h3:=hs.chg id none h1 (by rw[e,e1]);have hle:Eb (upd H1 id none) (upd H id none):=h2.upd id none;have hn1:=hle.none ht;have hn':=hs.fresh h3 hn1;exact⟨hs,_,_,h0.swap i hi rfl rfl hn',hs.chg t (some b') h3 (by rw[hn1,hn']),hle.upd t _⟩
theorem B7.swap' {Φ:A0→A0→Prop}{F H:A0}{L:List En}(h:B7 Φ F L H)(i:Nat){id t:Nat}{b b':CW}(hi:L[i]? =some (.blk id b))(ht:H t=none):B7 Φ F (L.set i (.blk t b')) (upd H t (some b')):=by
 have hid:=h.get i hi
 have hne:t≠id:=fun e=>by subst e;rw[ht]at hid;cases hid
 obtain⟨hs,F',H1,h0,h1,h2⟩:=h.swap (b':=b') i hi (t:=t) (by rw[A6 _ _ hne];exact ht);refine⟨hs,F',H1,h0,h1,fun x c hx=>?_⟩;have:=h2 x c hx
 by_cases e:x=t
 ·subst e;rw[B1]at this ⊢;exact this
 rw[A6 _ _ e]at this ⊢
 by_cases e2:x=id
 ·subst e2;rw[B1]at this;cases this
 rwa[A6 _ _ e2]at this
structure OG where
 id:Nat
 lo:Int
 n:Int
 pre:List V
 rest:List V
def T7 (q:OG)(m:Int):Prop:=q.lo=(q.pre.length:Nat)∧q.n=m
theorem Jt {pre xs rest:List V}{lo n:Int}(h0:lo=(pre.length:Nat))(h1:n=(xs.length:Nat)):J3 (pre++xs++rest) lo n=xs:=by
 subst h0;subst h1;simp[J3]
theorem TN {pre xs rest ys:List V}{i:Nat}(hi:i=pre.length+xs.length):Z4 (pre++xs++rest) i ys=pre++(xs++ys)++rest.drop ys.length:=by
 subst hi;simp only[Z4,append_assoc];rw[show pre++(xs++rest)=(pre++xs)++rest by simp,←List.length_append,List.take_left,List.drop_append];simp
theorem OK {pre xs rest:List V}{i:Nat}(h:i<xs.length):(pre++xs++rest).getD (pre.length+i) .bad=xs.getD i .bad:=by
 simp only[List.getD_eq_getElem?_getD,append_assoc];rw[List.getElem?_append_right (by omega),show pre.length+i - pre.length=i by omega,List.getElem?_append_left h]
theorem VF {pre xs rest:List V}{i:Nat}{v:V}(h:i<xs.length):(pre++xs++rest).set (pre.length+i) v=pre++xs.set i v++rest:=by
 simp only[append_assoc];rw[List.set_append_right _ _ (by omega),show pre.length+i - pre.length=i by omega,List.set_append_left _ _ h]
theorem B7.set_self {L:List En} (i:Nat) {e:En} (hi:L[i]? =some e):L.set i e=L:=by
 apply List.ext_getElem?;intro j;rw[List.getElem?_set]
 split
 ·rename_i h;subst h
  split
  ·exact hi.symm
  rename_i h;rw[List.getElem?_eq_none (by omega)]
 rfl
section
variable {P:Program}{nt:Nat}{rd:Option Nat}{T:Cr}{E:Bm}
variable (hE:E=E8 P nt rd)
include hE
variable {α R:Type}{f:α→V}{Φ:A0→A0→Prop}{H0 H:A0}{L:List En}{sz:Nat}{q:OG}{l:List α}{r:R}
theorem Kp (hq:T7 q (Ar.len l)){k:Int→Prop}(h:k (Ar.len l)):E.olen q.n k:=by
 subst hE
 show k q.n
 rw[hq.2];exact h
theorem Q4 (hO:B7 Φ H0 L H)(hq:T7 q (Ar.len l))(i:Nat){j:Int}{k:Int→Prop}{F:Unit→Option R}(hi:L[i]? =some (.blk q.id (.arr sz (q.pre++lst f l++q.rest))))(h:(GT (JD l j)).bind F=some r)(hk:F ()=some r→k (ofs q.lo j)):
 E.oidx H q.id sz q.lo q.n j k:=by
 subst hE;obtain⟨x,h1,h2⟩:=bind_some h
 unfold GT at h1
 split at h1
 ·rename_i hp;refine⟨⟨_,hO.get i hi⟩,?_,hk h2⟩;rw[hq.2,len_eq];exact of_decide_eq_true hp
 cases h1
theorem Ma {l:List α} {i:Int} {x:α} (h:D4 l i=some x):(0≤i∧i<(l.length:Nat))∧l[i.toNat]? =some x:=by
 unfold D4 at h
 split at h
 ·rename_i h0;refine⟨⟨h0,?_⟩,h⟩
  rcases Nat.lt_or_ge i.toNat l.length with h'|h'
  ·omega
  rw[List.getElem?_eq_none h']at h;cases h
 cases h
theorem Oz {l:List α}{i:Nat}{x:α}(h:l[i]? =some x):(lst f l).getD i .bad=f x:=by
 rw[lst_eq];simp[List.getD,h]
theorem U9 {g:α→V}(hf:∀x,f x=g x)(hO:B7 Φ H0 L H)(hq:T7 q (Ar.len l))(i:Nat){j:Int}{k:V→Prop}{F:α→Option R}(hi:L[i]? =some (.blk q.id (.arr sz (q.pre++lst f l++q.rest))))(h:(D4 l j).bind F=some r)(hk:∀x,F x=some r→k (g x)):
 E.oload H q.id (ofs q.lo j) k:=by
 obtain⟨x,h1,h2⟩:=bind_some h;obtain⟨hb,h3⟩:=Ma hE h1;have h4:=Oz hE (f:=f) h3;subst hE;have e1:=G3 (f:=f) l;refine⟨_,_,hO.get i hi,?_,?_⟩
 ·rw[ofs_eq,hq.1];simp only[List.length_append,e1];omega
 rw[ofs_eq,hq.1,show((q.pre.length:Nat)+j:Int).toNat=q.pre.length+j.toNat by omega,OK (by rw[e1];omega),h4,hf];exact hk x h2
theorem Ou {β:Type}{f0:β→V}{esz:Nat}(hO:B7 Φ H0 L H){k:Nat→A0→Prop}(hk:∀(q:OG) id H',T7 q (Ar.len ([]:List β))→B7 Φ H0 (.blk id (.cells [.own q.id q.lo q.n]):: .blk q.id (.arr esz (q.pre++lst f0 []++q.rest))::L) H'→k id H'):E.oalloc esz H k:=by
 subst hE;intro t id ht hid
 have e:([]:List V)++lst f0 []++[]=[]:=by rw[←C1 (f:=f0)];rfl
 have h0:B7 Φ H0 (.blk t (.arr esz [])::L) (upd H t (some (.arr esz []))):=hO.push ht rfl;have h1:B7 Φ H0 (.blk id (.cells [.own t 0 0]):: .blk t (.arr esz [])::L) (upd (upd H t (some (.arr esz []))) id (some (.cells [.own t 0 0]))):=h0.push hid rfl;refine hk ⟨t,0,0,[],[]⟩ id _ ⟨rfl,by rw[len_eq];rfl⟩ ?_
 show B7 Φ H0 (.blk id (.cells [.own t 0 0]):: .blk t (.arr esz (([]:List V)++lst f0 []++[]))::L) _
 rw[e];exact h1
theorem AP {u:α→α} {esz tz off:Nat} {y:V} (hu:∀x,∃y',W6 y y'∧y'.one=true∧y'.cells.length=tz∧ML (f x) esz tz off y'=f (u x)) (hle:off+tz≤esz) (hO:B7 Φ H0 L H) (hq:T7 q (Ar.len l)) (i:Nat) {j:Int} {k:A0→Prop} {F:List α→Option R}
 (hi:L[i]? =some (.blk q.id (.arr esz (q.pre++lst f l++q.rest)))) (h:(Hy l j u).bind F=some r)
 (hk:∀l' H',T7 q (Ar.len l')→F l'=some r→B7 Φ H0 (L.set i (.blk q.id (.arr esz (q.pre++lst f l'++q.rest)))) H'→k H'):E.ostore H q.id (ofs q.lo j) esz tz off y k:=by
 obtain⟨l',h1,h2⟩:=bind_some h
 unfold Hy at h1
 cases hx:D4 l j with
 |none=>rw[hx]at h1;cases h1
 | some x=>
  rw[hx]at h1
  simp only[Option.map_some,Option.some.injEq]at h1
  obtain⟨hb,h3⟩:=Ma hE hx;obtain⟨y',q1,q2,q3,q4⟩:=hu x;have e1:=Oz hE (f:=f) h3
  have e2:(lst f l).set j.toNat (f (u x))=lst f l':=by
   rw[←h1,lst_eq,lst_eq,List.map_set]
  subst hE;have el:=G3 (f:=f) l
  have ej:(ofs q.lo j).toNat=q.pre.length+j.toNat:=by rw[ofs_eq,hq.1];omega
  refine⟨_,y',q1,q2,q3,hle,hO.get i hi,?_,?_⟩
  ·rw[ofs_eq,hq.1];simp only[List.length_append,el];omega
  rw[ej,OK (by rw[el];omega),VF (by rw[el];omega),e1,q4,e2];refine hk l' _ ⟨hq.1,?_⟩ h2 (hO.set i hi);rw[hq.2,len_eq,len_eq,←h1,List.length_set]
theorem Re {by_:Nat} (hby:by_≤131072) {z:V} {z0:α} (hz:W6 z (f z0)) (hO:B7 Φ H0 L H) {n m:Int} {k:V→A0→Prop} {F:List α→Option R} (h:(Ui n m z0).bind F=some r)
 (hk:∀l' (q:OG) H',T7 q (Ar.len l')→F l'=some r→B7 Φ H0 (.blk q.id (.arr sz (q.pre++lst f l'++q.rest))::L) H'→k (.own q.id q.lo q.n) H'):E.omk sz by_ z n m H k:=by
 subst hE;obtain⟨l',h1,h2⟩:=bind_some h
 unfold Ui at h1
 split at h1
 ·rename_i hc;cases h1;refine⟨⟨hc.1,hc.2.1,?_⟩,List.replicate m.toNat (f z0),?_,fun id hid=>?_⟩
  ·have:m*(by_:Nat)≤1073741824*131072:=Int.mul_le_mul hc.2.2 (by omega) (by omega) (by omega);omega
  ·have:∀k:Nat,G1 (List.replicate k z) (List.replicate k (f z0)):=fun k=>by
    induction k with
    |zero=>exact .nil
    |succ k ih=>rw[List.replicate_succ,List.replicate_succ];exact .cons hz ih
   exact this _
  have e:List.replicate m.toNat (f z0)=[]++lst f (List.replicate n.toNat z0)++List.replicate (m.toNat - n.toNat) (f z0):=by
   rw[lst_eq,List.map_replicate,List.nil_append,List.replicate_append_replicate];congr 1;omega
  rw[e];exact hk _ ⟨id,0,n,[],List.replicate (m.toNat - n.toNat) (f z0)⟩ _ ⟨rfl,by rw[len_eq];simp;omega⟩ h2 (hO.push hid rfl)
 cases h1
theorem MP {by_:Nat} {z:V} (hsz:∀x,(f x).cells.length=sz) (hby:by_≤131072) (hO:B7 Φ H0 L H) (hq:T7 q (Ar.len l)) (i:Nat) (hi:L[i]? =some (.blk q.id (.arr sz (q.pre++lst f l++q.rest)))) {y:V} {m:List α} {k:V→A0→Prop} {F:List α→Option R}
 (hs:La sz H y (lst f m)) (h:(BC l m).bind F=some r)
 (hk:∀x (q:OG) H',T7 q (Ar.len x)→B7 Φ H0 (L.set i (.blk q.id (.arr sz (q.pre++lst f x++q.rest)))) H'→F x=some r→k (.own q.id q.lo q.n) H'):E.oapp sz by_ z H (.own q.id q.lo q.n) y k:=by
 subst hE;obtain⟨x,h1,h2⟩:=bind_some h;have el:=G3 (f:=f) l;have em:=G3 (f:=f) m
 have hn:q.n=(l.length:Nat):=by rw[hq.2,len_eq]
 unfold BC at h1
 split at h1
 ·rename_i hc;cases h1;refine⟨_,hs,_,hO.get i hi,fun hfit=>?_,fun _=>⟨?_,fun t j ht=>?_⟩⟩
  rotate_left
  ·rw[em,hn,Int.toNat_natCast];exact Nat.le_trans (Nat.mul_le_mul hc hby) (by decide)
  rotate_left
  ·have e:Z4 (q.pre++lst f l++q.rest) (q.lo+q.n).toNat (lst f m)=q.pre++lst f (l++m)++q.rest.drop m.length:=by
    rw[TN (by rw[hq.1,hn,el];omega),Gc,em]
   rw[e];refine hk _ ⟨q.id,q.lo,q.n+((lst f m).length:Nat),q.pre,q.rest.drop m.length⟩ _ ⟨hq.1,?_⟩ (hO.set i hi) h2;rw[len_eq,hn,em];simp
  have e:J3 (q.pre++lst f l++q.rest) q.lo q.n++lst f m++List.replicate j z=[]++lst f (l++m)++List.replicate j z:=by
   rw[Jt hq.1 (by rw[el];exact hn),Gc,List.nil_append]
  rw[e];refine hk _ ⟨t,0,q.n+((lst f m).length:Nat),[],List.replicate j z⟩ _ ⟨rfl,?_⟩ (hO.swap' i hi ht) h2;rw[len_eq,hn,em];simp
 cases h1
theorem VW {by_:Nat} {z:V} (hsz:∀x,(f x).cells.length=sz) (hby:by_≤131072) (hO:B7 Φ H0 L H) {x:V} (hx:x= .sl [] .nil∨x= .sl [] .full) {y:V} {m:List α} {k:V→A0→Prop} {F:List α→Option R}
 (hs:La sz H y (lst f m)) (h:(BC [] m).bind F=some r)
 (hk:∀x (q:OG) H',T7 q (Ar.len x)→B7 Φ H0 (.blk q.id (.arr sz (q.pre++lst f x++q.rest))::L) H'→F x=some r→k (.own q.id q.lo q.n) H'):E.oapp sz by_ z H x y k:=by
 subst hE;obtain⟨x',h1,h2⟩:=bind_some h;have em:=G3 (f:=f) m
 unfold BC at h1
 split at h1
 ·rename_i hc;cases h1;refine⟨_,hs,?_⟩
  have key:(lst f m).length*by_≤140737488355328∧∀t j,H t=none→k (.own t 0 ((lst f m).length:Nat)) (upd H t (some (.arr sz (lst f m++List.replicate j z)))):=by
   refine⟨?_,fun t j ht=>?_⟩
   ·rw[em];exact Nat.le_trans (Nat.mul_le_mul (by simpa using hc) hby) (by decide)
   refine hk m ⟨t,0,((lst f m).length:Nat),[],List.replicate j z⟩ _ ⟨rfl,by rw[len_eq,em]⟩ ?_ (by simpa using h2);exact hO.push ht rfl
  rcases hx with rfl|rfl
  ·exact⟨.inl rfl,key.1,key.2⟩
  exact⟨.inr rfl,key.1,key.2⟩
 cases h1
theorem AO (h:T7 q (Ar.len l)):T7 q ((lst f l).length:Nat):=⟨h.1,by rw[h.2,len_eq,G3]⟩
theorem VC (hO:B7 Φ H0 L H)(hq:T7 q (Ar.len l))(i:Nat)(hi:L[i]? =some (.blk q.id (.arr sz (q.pre++lst f l++q.rest)))):La sz H (.own q.id q.lo q.n) (lst f l):=by
 refine⟨_,hO.get i hi,?_⟩;rw[Jt hq.1 (by rw[hq.2,len_eq,G3])];exact .refl _
theorem Il (hsz:∀x,(f x).cells.length=sz){ys:List V}{tl:E5}(h:G1 ys (lst f l)):La sz H (.sl ys tl) (lst f l):=⟨h,He hsz l⟩
theorem TY (hO:B7 Φ H0 L H) (hq:T7 q (Ar.len l)) (i:Nat) (hi:L[i]? =some (.blk q.id (.arr sz (q.pre++lst f l++q.rest)))) {lo hi':Option Int} {k:V→Prop} {F:List α→Option R}
 (h:(S9 l lo hi' none).bind F=some r) (hk:∀x (q:OG),T7 q (Ar.len x)→B7 Φ H0 (L.set i (.blk q.id (.arr sz (q.pre++lst f x++q.rest)))) H→F x=some r→k (.own q.id q.lo q.n)):
 E.oslice sz H q.id q.lo q.n lo hi' none k:=by
 subst hE;obtain⟨x,h1,h2⟩:=bind_some h;have el:=G3 (f:=f) l
 have hn:q.n=(l.length:Nat):=by rw[hq.2,len_eq]
 unfold S9 at h1
 split at h1
 ·rename_i hc;cases h1;obtain⟨c1,c2,c3,c4,c5⟩:=hc
  simp only[Option.getD_none]at c3
  refine⟨_,hO.get i hi,?_,?_⟩
  ·rw[hn,hq.1];simp only[List.length_append,el,Option.getD_none];refine⟨c1,c2,by omega,by omega,fun h=>by cases h⟩
  rw[hn]
  generalize hA:lo.getD 0=a at *
  generalize hB:hi'.getD (l.length:Nat)=b at *
  have hm:((l.drop a.toNat).take (b.toNat - a.toNat)).length=b.toNat - a.toNat:=by simp;omega
  refine hk _ ⟨q.id,q.lo+a,b - a,q.pre++lst f (l.take a.toNat),lst f (l.drop b.toNat)++q.rest⟩ ⟨?_,?_⟩ ?_ h2
  ·simp only[List.length_append,G3,List.length_take,hq.1];omega
  ·rw[len_eq,hm];simp only;omega
  have e:q.pre++lst f (l.take a.toNat)++lst f ((l.drop a.toNat).take (b.toNat - a.toNat))++(lst f (l.drop b.toNat)++q.rest)=q.pre++lst f l++q.rest:=by
   have e1:l=l.take a.toNat++((l.drop a.toNat).take (b.toNat - a.toNat)++l.drop b.toNat):=by
    have e2:l.drop b.toNat=(l.drop a.toNat).drop (b.toNat - a.toNat):=by rw[List.drop_drop];congr 1;omega
    rw[e2,List.take_append_drop,List.take_append_drop]
   have e3:lst f l=lst f (l.take a.toNat)++(lst f ((l.drop a.toNat).take (b.toNat - a.toNat))++lst f (l.drop b.toNat)):=by
    rw[Gc,Gc,←e1]
   rw[e3];simp only[append_assoc]
  simp only
  rw[e,B7.set_self i hi];exact hO
 cases h1
theorem Sx (hO:B7 Φ H0 L H)(hq:T7 q (Ar.len l))(i:Nat)(hi:L[i]? =some (.blk q.id (.arr sz (q.pre++lst f l++q.rest)))){lo hi':Option Int}{k:V→Prop}{F:List α→Option R}
 (h:(S9 l lo hi' none).bind F=some r) (hk:∀x (q':OG),La sz H (.own q'.id q'.lo q'.n) (lst f x)→F x=some r→k (.own q'.id q'.lo q'.n)):
 E.oslice sz H q.id q.lo q.n lo hi' none k:=
 TY hE hO hq i hi h fun x q' hq' hO' h2=>hk x q' (VC hE hO' hq' i (by rw[List.getElem?_set];simp[(List.getElem?_eq_some_iff.1 hi).1])) h2
theorem XF (hO:B7 Φ H0 L H)(hq:T7 q (Ar.len l))(i:Nat){k:List V→A0→Prop}(hi:L[i]? =some (.blk q.id (.arr sz (q.pre++lst f l++q.rest))))(hk:∀H',B7 Φ H0 (L.eraseIdx i) H'→k (lst f l) H'):E.ofrz H q.id q.lo q.n k:=by
 subst hE;have:=hk _ (hO.del i hi);refine⟨_,_,_,hO.get i hi,.refl _,?_⟩;rw[Jt hq.1 (by rw[hq.2,len_eq,G3])];exact this
end
end Go.Ab
namespace Go.Ab
open Go.RowKit
variable [G7][Ar]
theorem Oy {α:Type}{f:α→V}{l:List α}(h:lst f l=[]):l=[]:=by
 rw[lst_eq]at h;exact List.map_eq_nil_iff.1 h
theorem Vf {α:Type}{f:α→V}{l r:List α}(hx:lst f l=[])(h:(BC [] l).bind (fun x=>some x)=some r):lst f r=[]:=by
 rw[Oy hx]at h
 simp[BC]at h
 subst h;rw[lst_eq];rfl
def Vj (F:A0)(sz:Nat)(xs:List V)(v:V)(H':A0):Prop:=∃q:OG,v= .own q.id q.lo q.n∧T7 q (xs.length:Nat)∧F q.id=none∧H'=upd F q.id (some (.arr sz (q.pre++xs++q.rest)))
def Mq (P:Program)(f:FuncId)(args:List V)(sz:Nat)(xs:List V):Prop:=∀H,G2 P f args H (Vj H sz xs)
def QK (P:Program)(f:FuncId)(args:List V)(sz:Nat)(xs xs':List V):Prop:=
 ∀H (q:OG),T7 q (xs.length:Nat)→H q.id=some (.arr sz (q.pre++xs++q.rest))→G2 P f (.own q.id q.lo q.n::args) H (Vj (upd H q.id none) sz xs')
def Bk (mk:V→V):Prop:=∀(g:Gh) (w:World) (u:Value) (x:V),VR g w u (mk x)→∃v,VR g w v x∧∀(g':Gh) (w':World) (y:V),N0 g w g' w'→VR g' w' v y→VR g' w' u (mk y)
theorem Bk.id :Bk fun x=>x:=fun _ _ u _ h=>⟨u,h,fun _ _ _ _ k=>k⟩
theorem Bk.agg (cs:List V) (i:Nat) (hi:i<cs.length):Bk fun x=>.agg (cs.set i x):=fun g w u x h=>by
 cases h with
 |agg hl h1 hv=>
  rename_i vs
  have hi':i<(cs.set i x).length:=by simpa using hi
  refine⟨vs.getD i undef,by have:=hv i hi';rwa[AB hi,if_pos rfl]at this,fun g' w' y s k=>?_⟩;refine .agg (by simpa using hl) (fun j hj=>h1 j (by simpa using hj)) fun j hj=>?_;rw[AB hi]
  split
  ·rename_i e;subst e;exact k
  rename_i e;have:=hv j (by simpa using hj)
  rw[AB hi,if_neg e]at this
  exact this.mono s
theorem Bk.tup (cs:List V) (i:Nat) (hi:i<cs.length):Bk fun x=>.tup (cs.set i x):=fun g w u x h=>by
 cases h with
 |tup hl hv=>
  rename_i vs
  have hi':i<(cs.set i x).length:=by simpa using hi
  refine⟨vs.getD i undef,by have:=hv i hi';rwa[AB hi,if_pos rfl]at this,fun g' w' y s k=>?_⟩;refine .tup (by simpa using hl) fun j hj=>?_;rw[AB hi]
  split
  ·rename_i e;subst e;exact k
  rename_i e;have:=hv j (by simpa using hj)
  rw[AB hi,if_neg e]at this
  exact this.mono s
theorem Bk.comp {m n:V→V}(hm:Bk m)(hn:Bk n):Bk fun x=>m (n x):=fun g w u x h=>by
 obtain⟨v,h1,h2⟩:=hm g w u _ h;obtain⟨v',h3,h4⟩:=hn g w v _ h1;exact⟨v',h3,fun g' w' y s k=>h2 g' w' _ s (h4 g' w' y s k)⟩
theorem G2.adopt {P:Program} {f:FuncId} {args:List V} {H:A0} {K:V→A0→Prop} {sz:Nat} (h:G2 P f args H fun x H'=>K x H'∨(x= .sl [] .nil∧∀t,H' t=none→K (.own t 0 0) (upd H' t (some (.arr sz []))))):G2 P f args H K:=
 fun g w vals hR hA=>(h g w vals hR hA).mono fun v w' ⟨g',x,H',s,hR',hv,hK⟩=>by
  rcases hK with hK|⟨rfl,hK⟩
  ·exact⟨g',x,H',s,hR',hv,hK⟩
  obtain⟨g2,s2,hR2,hn,hv2⟩:=Bs hR' sz (.inl rfl) hv;exact⟨g2,_,_,s.trans s2,hR2,hv2,hK _ hn⟩
theorem B7.last {F H:A0}{t:Nat}{b:CW}(h:B7 Eq F [.blk t b] H):F t=none∧Eb (upd F t (some b)) H:=by
 obtain⟨hs,F',H1,h0,h1,h2⟩:=h;subst h1;have h3:=h0.has 0 _ t b rfl rfl;refine⟨h3.1,fun x c hx=>?_⟩
 by_cases e:x=t
 ·subst e;rw[B1]at hx;cases hx;exact h2 _ _ h3.2
 rw[A6 _ _ e]at hx;exact h2 _ _ (h0.ext x c hx)
theorem B7.only {F H:A0}{L:List En}{t:Nat}{b:CW}(h:B7 Eq F L H)(i:Nat)(hi:L[i]? =some (.blk t b)):B7 Eq F [.blk t b] H:=by
 obtain⟨hs,F',H1,h0,h1,h2⟩:=h;subst h1;have h3:=h0.has i _ t b hi rfl;refine⟨hs,upd F t (some b),upd F t (some b),(T8.start F).push h3.1 rfl,rfl,fun x c hx=>?_⟩
 by_cases e:x=t
 ·subst e;rw[B1]at hx;cases hx;exact h2 _ _ h3.2
 rw[A6 _ _ e]at hx;exact h2 _ _ (h0.ext x c hx)
theorem B7.only1 {F H:A0}{L:List En}{t:Nat}{b:CW}(h:B7 Eq F (.blk t b::L) H):B7 Eq F [.blk t b] H:=by
 obtain⟨hs,F',H1,h0,h1,h2⟩:=h;subst h1;have h3:=h0.has 0 _ t b rfl rfl;refine⟨hs,upd F t (some b),upd F t (some b),(T8.start F).push h3.1 rfl,rfl,fun x c hx=>?_⟩
 by_cases e:x=t
 ·subst e;rw[B1]at hx;cases hx;exact h2 _ _ h3.2
 rw[A6 _ _ e]at hx;exact h2 _ _ (h0.ext x c hx)
section
variable {P:Program}{T:Cr}{f:FuncId}{fn:Func}{c:Code}{n:Nat}{rs:List ResultVar}{args:List V}
theorem Gl {F H:A0}{sz:Nat}{xs:List V}(cf:Cf)(hP:Mp P T)(hf:P.funcs[f]? =some fn)(hb:fn.body=some c)(hd:F4 cf c=true)
 (hcall:∀vals w,(callFunc f vals).run P w= .ok (.enter f vals) w) (hnt:fn.ntmps=n) (hrs:fn.results.toList=rs) (hn:Nat.ble args.length n=true)
 (h:∀(E:Bm) (K:V→A0→Prop),E=E8 P n none→(∀(q:OG) L H',T7 q (xs.length:Nat)→B7 Eq F (.blk q.id (.arr sz (q.pre++xs++q.rest))::L) H'→K (.own q.id q.lo q.n) H')→(xs=[]→∀L H',B7 Eq F L H'→K (.sl [] .nil) H')→run E T n cf c ⟨X6 args 0,[]⟩ H (Iz E T rs K)):
 G2 P f args H (Vj F sz xs):=by
 refine G2.adopt (sz:=sz) (G2.le (O2 (K:=fun x H'=>∃y H2,W6 x y∧Eb H2 H'∧(Vj F sz xs y H2∨(y= .sl [] .nil∧∀t,H2 t=none→Vj F sz xs (.own t 0 0) (upd H2 t (some (.arr sz [])))))) cf hP.1 hP.2 hf hb hd hcall hnt hrs hn fun E hE=>?_));refine h E _ hE (fun q L H' hq hO=>?_) fun hx L H' hO=>?_
 ·obtain⟨h1,h2⟩:=hO.only1.last;exact⟨_,_,.refl _,h2,.inl ⟨q,rfl,hq,h1,rfl⟩⟩
 exact⟨_,F,.refl _,hO.ext,.inr ⟨rfl,fun t ht=>⟨⟨t,0,0,[],[]⟩,rfl,⟨rfl,by rw[hx];rfl⟩,ht,by rw[hx];rfl⟩⟩⟩
end
section
variable {P:Program}{nt:Nat}{rd:Option Nat}{T:Cr}{E:Bm}
variable (hE:E=E8 P nt rd)
include hE
variable {α R S:Type}{f:α→V}{Φ:A0→A0→Prop}{H0 H:A0}{L:List En}{sz:Nat}{q:OG}{r:R}{m:Option (List α)}{F:List α→Option R}{fid:FuncId}{args args':List V}{k:V→A0→Prop}
theorem JA (h:m.bind F=some r) (hc:∀x,m=some x→Mq P fid args' sz (lst f x)) (hl:G1 args args') (hO:B7 Φ H0 L H)
 (hk:∀x (q:OG) H',T7 q (Ar.len x)→B7 Φ H0 (.blk q.id (.arr sz (q.pre++lst f x++q.rest))::L) H'→F x=some r→k (.own q.id q.lo q.n) H'):
 E.call (.func (.func fid) [] []) args H k:=by
 subst hE;obtain⟨x,h1,h2⟩:=bind_some h;refine G2.value (F:=[]) (C:=[]) ?_;have:=((hc x h1) H).args hl;simp only[List.nil_append,append_nil]
 exact this.mono fun v H' ⟨q,e1,e0,e2,e3⟩=>by
  subst e1;subst e3;exact hk x q _ (by rw[len_eq];rwa[G3]at e0) (hO.push e2 rfl) h2
theorem Uf {l:List α} (hO:B7 Φ H0 L H) (hq:T7 q (Ar.len l)) (i:Nat) (hi:L[i]? =some (.blk q.id (.arr sz (q.pre++lst f l++q.rest)))) (h:m.bind F=some r) (hc:∀x,m=some x→QK P fid args' sz (lst f l) (lst f x)) (hl:G1 args args')
 (hk:∀x (q:OG) H',T7 q (Ar.len x)→B7 Φ H0 (L.set i (.blk q.id (.arr sz (q.pre++lst f x++q.rest)))) H'→F x=some r→k (.own q.id q.lo q.n) H'):
 E.call (.func (.func fid) [] []) (.own q.id q.lo q.n::args) H k:=by
 subst hE;obtain⟨x,h1,h2⟩:=bind_some h;refine G2.value (F:=[]) (C:=[]) ?_;have:=((hc x h1) H q (by rw[G3,←len_eq];exact hq) (hO.get i hi)).args (.cons (.refl _) hl);simp only[List.nil_append,append_nil]
 exact this.mono fun v H' ⟨q',e1,e0,e2,e3⟩=>by
  subst e1;subst e3;exact hk x q' _ (by rw[len_eq];rwa[G3]at e0) (hO.swap i hi e2) h2
theorem XG {p:Prop}{v:V}{a b:Unit→Prop}(hv:Sw v=some p)(h1:p→a ())(h0:b ()):E.nilc v a b:=by subst hE;exact⟨p,hv,h1,h0⟩
end
end Go.Ab
namespace Go.Ab
open Go.RowKit
variable [G7][Ar]
section
variable {P:Program}{T:Cr}{f:FuncId}{fn:Func}{c:Code}{n:Nat}{rs:List ResultVar}{args:List V}
end
section
variable {P:Program}{nt:Nat}{rd:Option Nat}{T:Cr}{E:Bm}
variable (hE:E=E8 P nt rd)
include hE
variable {H:A0}{sz id:Nat}{l n RL:Int}{row:List V}
theorem TH (hk:H id=some (.arr sz row))(hl:RL=(row.length:Nat)){lo hi:Option Int}{k:V→Prop}(a b:Int)(ha:lo.getD 0=a)(hb:hi.getD n=b)(h1:0≤a)(h2:a≤b)(h3:l+b≤RL)(h:∀l' n',l'=l+a→n'=b - a→k (.own id l' n')):
 E.oslice sz H id l n lo hi none k:=by
 subst hE;subst ha;subst hb;subst hl;exact⟨_,hk,⟨h1,h2,by simp only[Option.getD_none];omega,by simp only[Option.getD_none];omega,fun h=>by cases h⟩,h _ _ rfl rfl⟩
theorem YA {c:Bool}{x y:Unit→Prop}(h1:c=true→x ())(h2:c=false→y ()):E.br c x y:=by subst hE;exact⟨h1,h2⟩
theorem Yz {xs:List V}(hl:RL=(xs.length:Nat)){k:Int→Prop}(h:k RL):E.ln xs k:=by subst hE;subst hl;exact h
theorem VI {k:V→Prop}(h:k (.sl [] .nil)):E.slice sz [] .nil none (some 0) none k:=by
 subst hE;exact⟨⟨by decide,by decide,by decide,by decide,fun h=>(by cases h),.inl (by decide)⟩,h⟩
theorem VJ (hk:H id=some (.arr sz row)){y:V}{ys':List V}(hs:La sz H y ys'){YL:Int}(hy:YL=(ys'.length:Nat)){k:V→A0→Prop}
 (h:∀m row',m=(if n<YL then n else YL)→row'=Z4 row l.toNat (ys'.take n.toNat)→k (.int .i64 m) (upd H id (some (.arr sz row')))):E.ocopy sz H (.own id l n) y k:=by
 subst hE;subst hy;exact⟨_,_,hk,hs,h _ _ rfl rfl⟩
theorem TI {by_:Nat} {z x:V} {i0:Int} (i:Int) (hi:i0=i) (hx:x= .sl [] .nil∨x= .sl [] .full) (h0:0≤i) (hb:i.toNat*by_≤140737488355328) {k:V→A0→Prop}
 (hout:∀t m row' j,H t=none→m=i→row'=List.replicate i.toNat z++List.replicate j z→k (.own t 0 m) (upd H t (some (.arr sz row')))):
 E.oappz sz by_ z H x i0 k:=by
 subst hE;subst hi
 generalize i0=i at *
 have e:((i.toNat:Nat):Int)=i:=by omega
 have key:Dn H k sz by_ z x (List.replicate i.toNat z):=by
  have h2:(List.replicate i.toNat z).length*by_≤140737488355328∧∀t j,H t=none→k (.own t 0 ((List.replicate i.toNat z).length:Nat)) (upd H t (some (.arr sz (List.replicate i.toNat z++List.replicate j z)))):=by
   refine⟨by simpa using hb,fun t j ht=>?_⟩;simp only[List.length_replicate,e];exact hout t _ _ j ht rfl rfl
  rcases hx with rfl|rfl
  ·exact⟨.inl rfl,h2⟩
  exact⟨.inr rfl,h2⟩
 refine⟨⟨h0,?_⟩,key⟩
 rcases hx with rfl|rfl<;>simpa[ownN]using hb
end
end Go.Ab
namespace Go.Ab
open Go.RowKit
theorem PA {A B C row:List V}{lo n:Int}(hr:row=A++B++C)(h0:lo=(A.length:Nat))(h1:n=(B.length:Nat)):J3 row lo n=B:=by
 subst hr;subst h0;subst h1;simp[J3]
theorem VO {A B C ys row:List V}{i:Nat}(hr:row=A++B++C)(hi:i=A.length)(hl:ys.length=B.length):Z4 row i ys=A++ys++C:=by
 subst hr;subst hi;simp only[Z4,append_assoc,List.take_left];rw[show A.length+ys.length=A.length+B.length by omega,←List.drop_drop];simp
theorem Wb {a b by_:Nat}(h:a+b≤1073741824)(hb:by_≤131072):(a+b)*by_≤140737488355328:=Nat.le_trans (Nat.mul_le_mul h hb) (by decide)
theorem Ul {α:Type}[G7][Ar]{f:α→V}{l r:List α}{n:Int}(h:UD l n=some r):0≤n∧n≤1073741824∧lst f r=[]:=by
 unfold UD at h
 split at h
 ·rename_i hc;cases h;exact⟨hc.1,hc.2,by rw[lst_eq];rfl⟩
 cases h
end Go.Ab
namespace Go.Ab
open Go.RowKit
variable [G7]
end Go.Ab
namespace Go.Ab
open Go.RowKit
end Go.Ab
namespace Go.Ab
def KD {K X:Type}[DecidableEq K](m:List (K×X))(k:K)(z:X):Option (X×Bool):=some (match m.find? (fun p=>decide (p.1=k))with|some p=>(p.2,true)|none=>(z,false))
def JX {K X:Type}[DecidableEq K](m:List (K×X))(k:K)(v:X):Option (List (K×X)):=some (if m.any (fun p=>decide (p.1=k))=true then m.map (fun p=>if p.1=k then(k,v)else p)else m++[(k,v)])
end Go.Ab
namespace Go.Ab
def OY {α:Type}(l:List α)(a:Int)(m:List α):Option (List α×Int):=
 if 0≤a∧a≤(l.length:Nat)then some (l.take a.toNat++m.take (l.length - a.toNat)++l.drop (a.toNat+m.length),if(l.length:Int) - a<(m.length:Nat)then(l.length:Int) - a else(m.length:Nat))else none
end Go.Ab
namespace Go.Ab
variable {α:Type}
def SY (cmp:α→α→Option Int)(a b:α):Bool:=match cmp a b with|some c=>decide (c<0)|none=>false
def Xn (cmp:α→α→Option Int)(a b:α):Bool:=match cmp a b with|some c=>decide (0≤c)|none=>false
def Ws (lt:α→α→Bool)(x:α):List α→List α
 |[]=>[x]
 |y::l=>if lt x y then x::y::l else y::Ws lt x l
def MY (lt:α→α→Bool):List α→List α
 |[]=>[]
 |x::l=>Ws lt x (MY lt l)
def AI (cmp:α→α→Option Int):List α→Bool
 |[]=>true
 |a::r=>Xn cmp a a&&r.all (fun b=>SY cmp a b&&Xn cmp b a)&&AI cmp r
def JQ (cmp:α→α→Option Int)(l:List α):Option (List α):=
 if decide (l.length<4611686018427387904)&&AI cmp (MY (SY cmp) l)then some (MY (SY cmp) l)else none
theorem LZ (lt:α→α→Bool) (x:α):∀l,(Ws lt x l).Perm (x::l)
 |[]=>.refl _
 |y::l=>by
  unfold Ws
  split
  ·exact .refl _
  exact((LZ lt x l).cons y).trans (.swap _ _ _)
theorem IX (lt:α→α→Bool):∀l,(MY lt l).Perm l
 |[]=>.refl _
 |x::l=>(LZ lt x _).trans ((IX lt l).cons x)
variable {cmp:α→α→Option Int}
theorem PF {l r:List α} (h:JQ cmp l=some r):r.Perm l∧AI cmp r=true∧l.length<4611686018427387904:=by
 unfold JQ at h
 split at h
 ·rename_i hc;cases h
  simp only[Bool.and_eq_true,decide_eq_true_eq]at hc
  exact⟨IX _ l,hc.2,hc.1⟩
 cases h
def Rel (cmp:α→α→Option Int)(a b:α):Prop:=SY cmp a b=true∧Xn cmp b a=true
theorem Da :∀{r:List α},AI cmp r=true↔(∀a∈r,Xn cmp a a=true)∧r.Pairwise (Rel cmp)
 |[]=>by simp[AI]
 |a::r=>by
  simp only[AI,Bool.and_eq_true,List.all_eq_true,List.pairwise_cons,List.mem_cons,Da (r:=r),Rel]
  constructor
  ·rintro⟨⟨h1,h2⟩,h3,h4⟩;exact⟨fun x hx=>hx.elim (fun e=>e▸h1) (h3 x),h2,h4⟩
  rintro⟨h1,h2,h3⟩;exact⟨⟨h1 a (.inl rfl),h2⟩,fun x hx=>h1 x (.inr hx),h3⟩
theorem UE {a b:α}(h:Xn cmp a b=true):SY cmp a b=false:=by
 unfold Xn at h;unfold SY
 split at h
 ·rename_i c e;simp at h ⊢;omega
 cases h
theorem XI {a b:α}(h:SY cmp a b=true):∃c,cmp a b=some c:=by
 unfold SY at h
 split at h
 ·exact⟨_,by assumption⟩
 cases h
theorem UF {a b:α}(h:Xn cmp a b=true):∃c,cmp a b=some c:=by
 unfold Xn at h
 split at h
 ·exact⟨_,by assumption⟩
 cases h
theorem Ax {r:List α}(h:AI cmp r=true){i j:Nat}(hi:i<r.length)(hj:j<r.length):SY cmp r[i] r[j]=decide (i<j):=by
 obtain⟨h1,h2⟩:=Da.1 h
 rw[List.pairwise_iff_getElem]at h2
 by_cases hij:i<j
 ·rw[(h2 i j hi hj hij).1];simp[hij]
 simp only[hij,decide_false]
 by_cases e:i=j
 ·subst e;exact UE (h1 _ (List.getElem_mem hi))
 exact UE (h2 j i hj hi (by omega)).2
theorem PC {r:List α}(h:AI cmp r=true){a b:α}(ha:a∈r)(hb:b∈r):∃c,cmp a b=some c:=by
 obtain⟨h1,h2⟩:=Da.1 h
 rw[List.pairwise_iff_getElem]at h2
 obtain⟨i,hi,rfl⟩:=List.getElem_of_mem ha;obtain⟨j,hj,rfl⟩:=List.getElem_of_mem hb
 rcases Nat.lt_trichotomy i j with e|e|e
 ·exact XI (h2 i j hi hj e).1
 ·subst e;exact UF (h1 _ ha)
 exact UF (h2 j i hj hi e).2
theorem PB {r:List α}(h:AI cmp r=true){i j:Nat}(hi:i<r.length)(hj:j<r.length)(e:r[i]=r[j]):i=j:=by
 have a:=Ax h hi hj;have b:=Ax h hj hi;have c:=Ax h hi hi
 rw[e]at a b c
 rw[Ax h hj hj]at a b c
 simp at a b c
 omega
theorem My {r:List α}(h:AI cmp r=true):r.Nodup:=by
 rw[List.Nodup,List.pairwise_iff_getElem];intro i j hi hj hij e;have:=PB h hi hj e;omega
theorem Li {r s:List α} (h:AI cmp r=true) (hp:s.Perm r) (hs:s.Pairwise fun a b=>SY cmp b a=false):s=r:=by
 refine List.Perm.eq_of_pairwise (le:=fun a b=>SY cmp b a=false) (fun a b ha hb h1 h2=>?_) hs ?_ hp
 ·obtain⟨i,hi,rfl⟩:=List.getElem_of_mem (hp.mem_iff.1 ha);obtain⟨j,hj,rfl⟩:=List.getElem_of_mem hb
  rw[Ax h hj hi]at h1
  rw[Ax h hi hj]at h2
  simp at h1 h2
  have:i=j:=by omega
  subst this;rfl
 exact(Da.1 h).2.imp fun h=>UE h.2
end Go.Ab
namespace Go.Ab
open Go.RowKit Go.Sort
variable [G7]
theorem Rl.more {g:Gh}{H:A0}{w w':World}(h:Rl g H w)(hb:Below g.base w w')(hs:∀b,b<w.heap.size→w'.heap[b]? =w.heap[b]?)(hd:w.drawn≤w'.drawn:=by first|exact Nat.le_refl _|exact Nat.le_succ _|exact Nat.le_add_right _ _):N0 g w g w'∧Rl g H w':=by
 have s:N0 g w g w':=⟨fun _ _ e=>e,fun _ _ e=>e,fun _ _ e=>e,rfl,fun b o hf=>by simp only[World.cell?,hs b (h.fz_lt hf)],hb,fun _ _ _=>rfl,hd⟩;exact⟨s,fun x k hx=>(h.blk x k hx).mono hx s fun y hy=>⟨hs y (h.lt hy),fun _ ho=>ho⟩,h.inj,fun b o hf=>by obtain⟨v,hv⟩:=h.frz b o hf;exact⟨v,(s.cell b o hf).trans hv⟩,h.nxt,Nat.le_trans h.bnd hb.size,fun n=>(h.glb n).mono s⟩
def Iq (q:OG)(zs:List Int):List V:=q.pre++zs.map (V.int .i64)++q.rest
theorem CE (q:OG)(zs:List Int):(Iq q zs).length=q.pre.length+zs.length+q.rest.length:=by simp[Iq];omega
theorem JZ {q:OG}{zs:List Int}{j:Nat}(hj:j<zs.length):(Iq q zs).getD (q.pre.length+j) .bad= .int .i64 zs[j]:=by
 unfold Iq;rw[append_assoc,List.getD_eq_getElem?_getD,List.getElem?_append_right (by omega),Nat.add_sub_cancel_left,List.getElem?_append_left (by simpa using hj),List.getElem?_map,List.getElem?_eq_getElem hj];rfl
theorem NW {q:OG} {zs ds:List Int} (hl:ds.length=zs.length) {i:Nat} (hi:i<q.pre.length∨q.pre.length+ds.length≤i):(Iq q ds).getD i .bad=(Iq q zs).getD i .bad:=by
 unfold Iq;simp only[append_assoc,List.getD_eq_getElem?_getD]
 rcases hi with hi|hi
 ·rw[List.getElem?_append_left hi,List.getElem?_append_left hi]
 have key:∀l:List V,l.length=zs.length→(q.pre++(l++q.rest))[i]? =q.rest[i - q.pre.length - zs.length]? :=fun l h=>by
  rw[List.getElem?_append_right (by omega),List.getElem?_append_right (by omega),h]
 rw[key _ (by simp[hl]),key _ (by simp)]
theorem VN {off:Nat}{ds:List Int}{c:Array Value}{k:Nat}(hk:k<c.size):(putCells (Value.int .i64) off ds.toArray c).getD k undef=if off≤k∧k<off+ds.length then .int .i64 (ds.toArray[k - off]!)else c.getD k undef:=by
 unfold putCells;simp only[Array.getD,Array.size_mapIdx,hk,dif_pos,Array.getInternal_eq_getElem,Array.getElem_mapIdx,List.size_toArray]
def Vn (P:Program)(f:FuncId)(zs ds:List Int)(r:OG→V):Prop:=
 ∀H (q:OG),T7 q (zs.length:Nat)→H q.id=some (.arr 1 (Iq q zs))→G2 P f [.own q.id q.lo q.n] H fun x H'=>x=r q∧H'=upd H q.id (some (.arr 1 (Iq q ds)))
theorem Pb {P:Program} {f:FuncId} {zs ds:List Int} {r:OG→V} {m:Nat} (hl:ds.length=zs.length)
 (hrun:∀vals w,(callFunc f vals).run P w= .ok (.enter f vals) w)
 (h0:zs=[]→∀p cap w,Calls P f #[.slice p 0 cap] w fun e w'=>∃v,e= .returned v∧w'=w∧(v= .slice p 0 cap∧(∀q,T7 q (zs.length:Nat)→r q= .own q.id q.lo q.n)∨v= .tuple #[]∧∀q,r q= .tup []))
 (h1:∀blk off cap w,0<zs.length→zs.length≤cap→Holds (Value.int .i64) w blk off zs.toArray→blk<w.heap.size→
  Calls P f #[.slice (some ⟨blk,off,none⟩) zs.length cap] w fun e w'=>∃v,e= .returned v∧(v= .slice (some ⟨blk,off,none⟩) m cap∧m≤zs.length∧(∀q,r q= .own q.id q.lo (m:Nat))∨v= .tuple #[]∧∀q,r q= .tup [])∧
   ∃n os,w'=grow (putRow (Value.int .i64) (Sort.ahead w n) blk off ds.toArray) os):Vn P f zs ds r:=by
 intro H q hq hk g w vals hR hA;obtain⟨hlen,hv⟩:=hA;obtain⟨vals⟩:=vals
 match vals,hlen with
 | [v],_=>
  have hv1:=hv 0 (by simp)
  simp at hv1
  rw[hrun]
  show CallsIn Fence.wide 0 P f #[v] w _
  rw[callsIn_wide];have hq0:=hq;obtain⟨hlo,hn⟩:=hq;obtain⟨b,p,e1,e2,e3,e4,e5,e6,e7,e8,e9,e10⟩:=AN hR hk hv1
  rw[CE]at e2 e5 e7 e8 e10
  subst e2
  have hnn:q.n.toNat=zs.length:=by omega
  by_cases hz:zs=[]
  ·subst hz;have hd:ds=[]:=List.length_eq_zero_iff.1 hl;subst hd;rw[hnn];refine(h0 rfl p _ w).mono ?_;rintro e w' ⟨v,rfl,rfl,hcase⟩;refine⟨v,rfl,g,r q,H,N0.refl _ _,hR,?_,rfl,?_⟩
   ·rcases hcase with⟨rfl,hr⟩|⟨rfl,hr⟩
    ·rw[hr q hq0];rw[hnn]at hv1;exact hv1
    rw[hr];exact VR.und g w'
   funext x
   by_cases hx:x=q.id
   ·subst hx;rw[B1];exact hk
   rw[A6 _ _ hx]
  have hzl:0<zs.length:=List.length_pos_iff.2 hz
  rcases e10 with e10|⟨c,T,k1,k2,k3,k4,k5,k6⟩
  ·omega
  have hp:=e8 (by omega);subst hp
  have hoff:(g.ow q.id).o+q.lo.toNat*1=(g.ow q.id).o+q.pre.length:=by rw[hlo];simp
  rw[hnn,hoff]
  have hblt:b<w.heap.size:=by
   rcases Nat.lt_or_ge b w.heap.size with h|h
   ·exact h
   rw[Array.getElem?_eq_none h]at k2;cases k2
  have hcell:∀o,w.cell? ⟨b,o,none⟩=c[o]? :=fun o=>by simp[World.cell?,k2]
  have hH:Holds (Value.int .i64) w b ((g.ow q.id).o+q.pre.length) zs.toArray:=fun j hj=>by
   have hj':j<zs.length:=by simpa using hj
   refine⟨?_,by simp[World.frozen?,k2]⟩;have h:=(k4 (q.pre.length+j) 0 (by omega) (by omega)).2
   rw[JZ hj']at h
   have h:=VR.int_inv h;rw[hcell]
   have hlt:(g.ow q.id).o+q.pre.length+j<c.size:=by omega
   rw[show(g.ow q.id).o+(q.pre.length+j)*1+0=(g.ow q.id).o+q.pre.length+j by omega]at h
   simp only[Array.getD,hlt,dif_pos,Array.getInternal_eq_getElem]at h
   rw[Array.getElem?_eq_getElem hlt,h];simp[hj']
  refine(h1 b _ _ w hzl (by omega) hH hblt).mono ?_;rintro e w' ⟨v,rfl,hcase,n,os,rfl⟩
  have hs:=Rl.setArr hR (ys:=Iq q ds) (c':=putCells (Value.int .i64) ((g.ow q.id).o+q.pre.length) ds.toArray c) hk e1 (by rw[CE];omega) k2 (by simp[putCells])
   (fun o ho=>by
    simp only[putCells,Array.getElem?_mapIdx]
    cases c[o]? with
    |none=>rfl
    |some x=>simp only[Option.map_some];rw[if_neg (by omega)])
   (by rw[CE,CE,hl])
   (fun i hi=>by
    rw[CE]at hi
    by_cases hm:i<q.pre.length∨q.pre.length+ds.length≤i
    ·rw[NW hl hm];exact e9 i (by rw[CE];omega)
    obtain⟨j,rfl⟩:∃j,i=q.pre.length+j:=⟨i - q.pre.length,by omega⟩
    rw[JZ (show j<ds.length by omega)];rfl)
   (fun i j hi hj=>by
    rw[CE]at hi
    have hj0:j=0:=by omega
    subst hj0;rw[VN (by omega)]
    by_cases hm:i<q.pre.length∨q.pre.length+ds.length≤i
    ·rw[if_neg (by omega),NW hl hm];exact k4 i 0 (by omega) (by omega)
    obtain⟨j,rfl⟩:∃j,i=q.pre.length+j:=⟨i - q.pre.length,by omega⟩
    have hj:j<ds.length:=by omega
    rw[if_pos (by omega),JZ hj,show(g.ow q.id).o+(q.pre.length+j)*1+0 - ((g.ow q.id).o+q.pre.length)=j by omega]
    have:ds.toArray[j]! =ds[j]:=by simp[hj]
    rw[this]
    exact⟨rfl,VR.int _ _⟩)
  obtain⟨s1,R1⟩:=hs
  generalize hw1:w.setRow b (putCells (Value.int .i64) ((g.ow q.id).o+q.pre.length) ds.toArray c)=w1 at s1 R1
  have hsz1:w1.heap.size=w.heap.size:=by rw[←hw1];simp[World.setRow]
  have hheap:∀x,x<w1.heap.size→(grow (putRow (Value.int .i64) (Sort.ahead w n) b ((g.ow q.id).o+q.pre.length) ds.toArray) os).heap[x]? =w1.heap[x]? :=fun x hx=>by
   have hx':x<w.heap.size:=by omega
   simp only[grow,putRow,mapBlock,Sort.ahead];rw[Array.getElem?_append_left (by simpa using hx'),Array.getElem?_modify]
   by_cases hxb:b=x
   ·subst hxb;rw[if_pos rfl,k2,←hw1,setRow_heap w b c _ T (0,0) k2];rfl
   rw[if_neg hxb,←hw1,H9 w b _ x (fun e=>hxb e.symm)]
  have hbel:Below g.base w1 (grow (putRow (Value.int .i64) (Sort.ahead w n) b ((g.ow q.id).o+q.pre.length) ds.toArray) os):=by
   refine⟨by rw[←hw1];rfl,by rw[←hw1];rfl,by rw[←hw1];rfl,?_,fun k hk'=>?_⟩
   ·rw[hsz1];simp[grow,putRow,mapBlock,Sort.ahead]
   exact hheap k (by have:=hR.bnd;omega)
  obtain⟨s2,R2⟩:=R1.more hbel hheap (by rw[←hw1];exact Nat.le_add_right _ _);refine⟨v,rfl,g,r q,_,s1.trans s2,R2,?_,rfl,rfl⟩
  rcases hcase with⟨rfl,hm,hr⟩|⟨rfl,hr⟩
  ·rw[hr]
   have hcap:(g.ow q.id).cap=q.pre.length+zs.length+q.rest.length:=by rw[e7]
   have:=VR.own (g:=g) (w:=grow (putRow (Value.int .i64) (Sort.ahead w n) b ((g.ow q.id).o+q.pre.length) ds.toArray) os) (id:=q.id) (b:=b) (lo:=q.lo) (n:=(m:Nat)) (p:=some ⟨b,(g.ow q.id).o+q.pre.length,none⟩) e1 e3 (by omega) (by omega) (fun _=>by rw[e6,hoff])
   rw[hcap]at this
   simpa using this
  rw[hr];exact VR.und _ _
end Go.Ab
namespace Go.Ab
open Go.RowKit Go.Shelf
variable [G7]
section
variable [Ar]{P:Program}{nt:Nat}{rd:Option Nat}{E:Bm}(hE:E=E8 P nt rd){Φ:A0→A0→Prop}{H0 H:A0}{L:List En}{R:Type}{r:R}
include hE
end
end Go.Ab
namespace Go.Ab
def Ux (x:Int):List Int→List Int
 |[]=>[x]
 |y::r=>if x≤y then x::y::r else y::Ux x r
def KB :List Int→List Int
 |[]=>[]
 |x::r=>Ux x (KB r)
theorem Rt (a:Int):∀(l m:List Int),(∀b∈l,¬a≤b)→(∀b∈m,a≤b)→Ux a (l++m)=l++a::m
 |[],[],_,_=>rfl
 |[],y::m,_,h=>by simp only[List.nil_append,Ux];rw[if_pos (h y (by simp))]
 |y::l,m,h,k=>by
  simp only[List.cons_append,Ux];rw[if_neg (h y (by simp)),Rt a l m (fun b hb=>h b (by simp[hb])) k]
theorem LY :∀l:List Int,KB l=l.mergeSort fun x y=>decide (x≤y)
 |[]=>by simp[KB]
 |a::l=>by
  have ht:∀x y z:Int,decide (x≤y)=true→decide (y≤z)=true→decide (x≤z)=true:=fun x y z h k=>by simp at *;omega
  have hc:∀x y:Int,(decide (x≤y)||decide (y≤x))=true:=fun x y=>by simp;omega
  obtain⟨l1,l2,h1,h2,h3⟩:=List.mergeSort_cons ht hc a l;have hs:=List.pairwise_mergeSort ht hc (a::l)
  rw[h1]at hs
  rw[KB,LY l,h1,h2];refine Rt a l1 l2 (fun b hb=>?_) fun b hb=>?_
  ·have:=h3 b hb;simpa using this
  have:=(List.pairwise_cons.1 (List.pairwise_append.1 hs).2.1).1 b hb
  simpa using this
def QV (l:List Int):Option (List Int):=if l.length<4611686018427387904 then some (KB l)else none
theorem PE {l r:List Int}(h:QV l=some r):l.length<4611686018427387904∧r=l.mergeSort fun x y=>decide (x≤y):=by
 unfold QV at h
 split at h
 ·rename_i hc;cases h;exact⟨hc,LY l⟩
 cases h
end Go.Ab
namespace Go.Ab
open Go.RowKit
variable [G7]
def Vm (P:Program)(f:FuncId)(zs ds:List Int):Prop:=Vn P f zs ds (fun _=>.tup [])∧ds.length=zs.length
theorem NX [Ar](q:OG)(zs:List Int):q.pre++lst (V.int .i64) zs++q.rest=Iq q zs:=by rw[lst_eq];rfl
section
variable [Ar]{P:Program}{nt:Nat}{rd:Option Nat}{E:Bm}(hE:E=E8 P nt rd)
include hE
theorem VY {Φ:A0→A0→Prop}{H0 H:A0}{L:List En}{fid:FuncId}{q:OG}{k:V→A0→Prop}{R:Type}{m:Option (List Int)}{F:List Int→Option R}{r:R}
 {l:List Int} (hO:B7 Φ H0 L H) (hq:T7 q (Ar.len l)) (i:Nat) (hi:L[i]? =some (.blk q.id (.arr 1 (q.pre++lst (V.int .i64) l++q.rest)))) (h:m.bind F=some r) (hc:∀x,m=some x→Vm P fid l x)
 (hk:∀x H',T7 q (Ar.len x)→B7 Φ H0 (L.set i (.blk q.id (.arr 1 (q.pre++lst (V.int .i64) x++q.rest)))) H'→F x=some r→k (.tup []) H'):
 E.call (.func (.func fid) [] []) [.own q.id q.lo q.n] H k:=by
 subst hE;obtain⟨x,h1,h2⟩:=bind_some h;obtain⟨c1,c2⟩:=hc x h1;refine G2.value (F:=[]) (C:=[]) ?_;simp only[List.nil_append,append_nil]
 rw[NX]at hi
 refine(c1 H q (by rw[←len_eq];exact hq) (hO.get i hi)).mono fun v H' ⟨e1,e2⟩=>?_;subst e1;subst e2;refine hk x _ ?_ ?_ h2
 ·rw[len_eq]at hq ⊢;rw[c2];exact hq
 rw[NX];exact hO.set i hi
end
end Go.Ab
namespace Go.Ab
open Go.RowKit Go.Shelf Go.Sort
variable [G7]
theorem QF {P:Program}{ρ:Ren}(Ly:Go.Proofs.Lays.n189 P ρ)(hrun:∀vals w,(callFunc (ρ.f 189) vals).run P w= .ok (.enter (ρ.f 189) vals) w){zs r:List Int}(h:QV zs=some r):Vm P (ρ.f 189) zs r:=by
 obtain⟨hlt,rfl⟩:=PE h;have hl:(zs.mergeSort fun x y=>decide (x≤y)).length=zs.length:=List.length_mergeSort ..;refine⟨Pb (m:=0) hl hrun ?_ ?_,hl⟩
 ·intro _ p cap w;exact(Go.Proofs.Any.slices_Sort_int_none Ly p cap w).mono fun e w' ⟨a,b⟩=>⟨_,a,b,.inr ⟨rfl,fun _=>rfl⟩⟩
 intro blk off cap w _ _ hH hb;exact(Go.Proofs.Any.slices_Sort_int Ly blk off cap zs w hH hb hlt).mono fun e w' ⟨a,n,os,b⟩=>⟨_,a,.inr ⟨rfl,fun _=>rfl⟩,n,os,b⟩
def KP (l:List Int):Option (List Int):=if l.length≤9223372036854775807 then some (Lib.compact l)else none
theorem Jg (zs:List Int):(Lib.compact zs).length≤zs.length:=by
 unfold Lib.compact Lib.compactUpTo;rw[List.length_map];exact Nat.le_trans (List.length_filter_le ..) (by simp)
theorem KV [Ar] {P:Program} {ρ:Ren} (Ly:Go.Proofs.Lays2.n20 P ρ) (hrun:∀vals w,(callFunc (ρ.f 20) vals).run P w= .ok (.enter (ρ.f 20) vals) w) {zs r:List Int} (h:KP zs=some r):
 QK P (ρ.f 20) [] 1 (lst (V.int .i64) zs) (lst (V.int .i64) r):=by
 unfold KP at h
 split at h
 case isFalse=>cases h
 rename_i hlt;cases h;have hle:(Lib.compact zs).length≤zs.length:=Jg zs
 have key:Vn P (ρ.f 20) zs (Lib.compact zs++List.replicate (zs.length - (Lib.compact zs).length) 0) (fun q=>.own q.id q.lo ((Lib.compact zs).length:Nat)):=by
  refine Pb (m:=(Lib.compact zs).length) (by simp;omega) hrun ?_ ?_
  ·rintro rfl p cap w;refine(Go.Proofs.Any.slices_Compact_int_empty Ly p cap w).mono fun e w' ⟨a,b⟩=>⟨_,a,b,.inl ⟨rfl,fun q hq=>?_⟩⟩;rw[hq.2]
   have:(Lib.compact ([]:List Int)).length=0:=by have:=Jg [];simp only[List.length_nil]at this;omega
   rw[this];rfl
  intro blk off cap w _ hc hH hb;refine(Go.Proofs.Any.slices_Compact_int Ly blk off cap zs w hH hlt hc).mono fun e w' ⟨a,n,b⟩=>⟨_,a,.inl ⟨rfl,hle,fun _=>rfl⟩,n, #[],by rw[b,grow_empty]⟩
 intro H q hq hk
 rw[lst_eq]at hk hq
 refine(key H q (by simpa using hq) (by unfold Iq;exact hk)).mono fun v H' ⟨e1,e2⟩=>?_;subst e1;subst e2;refine⟨⟨q.id,q.lo,((Lib.compact zs).length:Nat),q.pre,(List.replicate (zs.length - (Lib.compact zs).length) 0).map (V.int .i64)++q.rest⟩,rfl,⟨hq.1,by rw[lst_eq];simp⟩,by rw[B1],?_⟩
 funext x
 rw[lst_eq]
 by_cases hx:x=q.id
 ·subst hx;rw[B1,B1];simp[Iq]
 rw[A6 _ _ hx,A6 _ _ hx,A6 _ _ hx]
end Go.Ab
namespace Go.Ab
open Go.RowKit
variable [G7][Ar]
theorem DN {L:List En} {i j:Nat} {e' e:En} (hj:(L.set i e')[j]? =some e):(j=i∧e=e')∨(j≠i∧L[j]? =some e):=by
 rw[List.getElem?_set]at hj
 split at hj
 ·rename_i hij;subst hij
  split at hj
  ·exact .inl ⟨rfl,(Option.some.inj hj).symm⟩
  cases hj
 rename_i hij;exact .inr ⟨fun e=>hij e.symm,hj⟩
theorem LK {L:List En}{i j:Nat}{e':En}(h:j≠i):(L.set i e')[j]? =L[j]? :=by
 rw[List.getElem?_set,if_neg (fun e=>h e.symm)]
theorem T8.setNone {H0 H:A0} {L:List En} (h:T8 H0 L H) (i:Nat) {e e':En} (hi:L[i]? =some e) (he:e.id=none) (he':e'.id=none):T8 H0 (L.set i e') H:=by
 refine⟨h.ext,fun j x id b hj hx=>?_,fun j k x x' id b b' hj hk hx hx'=>?_,fun x b hx=>?_⟩
 ·rcases DN hj with⟨_,rfl⟩|⟨_,hj⟩
  ·rw[he']at hx;cases hx
  exact h.has j x id b hj hx
 ·rcases DN hj with⟨_,rfl⟩|⟨_,hj⟩
  ·rw[he']at hx;cases hx
  rcases DN hk with⟨_,rfl⟩|⟨_,hk⟩
  ·rw[he']at hx';cases hx'
  exact h.inj j k x x' id b b' hj hk hx hx'
 refine(h.only x b hx).imp (fun h=>h) fun⟨j,y,h1,h2⟩=>⟨j,y,?_,h2⟩;rw[LK fun e=>by subst e;rw[hi]at h1;cases h1;rw[he]at h2;cases h2];exact h1
theorem T8.drop {H0 H:A0} {L:List En} (h:T8 H0 L H) (i:Nat) {e e':En} {id:Nat} {b0:CW} (hi:L[i]? =some e) (he:e.id=some (id,b0)) (he':e'.id=none):T8 H0 (L.set i e') (upd H id none):=by
 have hid:=h.has i e id b0 hi he;refine⟨fun x b hx=>?_,fun j x y b hj hx=>?_,fun j k x x' y b b' hj hk hx hx'=>?_,fun x b hx=>?_⟩
 ·rw[A6 _ _ (M0 hid.1 hx)];exact h.ext x b hx
 ·rcases DN hj with⟨_,rfl⟩|⟨hne,hj⟩
  ·rw[he']at hx;cases hx
  have:=h.has j x y b hj hx;refine⟨this.1,?_⟩;rw[A6 _ _ (fun eq=>by subst eq;exact hne (h.inj j i x e y b b0 hj hi hx he))];exact this.2
 ·rcases DN hj with⟨_,rfl⟩|⟨_,hj⟩
  ·rw[he']at hx;cases hx
  rcases DN hk with⟨_,rfl⟩|⟨_,hk⟩
  ·rw[he']at hx';cases hx'
  exact h.inj j k x x' y b b' hj hk hx hx'
 by_cases hxi:x=id
 ·subst hxi;rw[B1]at hx;cases hx
 rw[A6 _ _ hxi]at hx
 refine(h.only x b hx).imp (fun h=>h) fun⟨j,y,h1,h2⟩=>⟨j,y,?_,h2⟩;rw[LK fun ej=>by subst ej;rw[hi]at h1;cases h1;rw[he]at h2;cases h2;exact hxi rfl];exact h1
theorem B7.untok {Φ:A0→A0→Prop} {F H:A0} {L:List En} (h:B7 Φ F L H) (i:Nat) {tl tl':E5} (hi:L[i]? =some (.tl tl)) (ht:(En.tl tl').id=none):B7 Φ F (L.set i (.tl tl')) (D0 H tl):=by
 obtain⟨hs,F',H1,h0,h1,h2⟩:=h
 cases tl with
 |tok t=>
  have e:=(h0.has i _ t _ hi rfl).2;exact⟨hs,_,_,h0.drop i hi rfl ht,hs.chg t none h1 (by rw[e,hs.le h1 _ _ e]),h2.upd t none⟩
 |nil=>exact⟨hs,_,_,h0.setNone i hi rfl ht,h1,h2⟩
 |full=>exact⟨hs,_,_,h0.setNone i hi rfl ht,h1,h2⟩
 |ro=>exact⟨hs,_,_,h0.setNone i hi rfl ht,h1,h2⟩
section
variable {P:Program}{T:Cr}{f:FuncId}{fn:Func}{c:Code}{n:Nat}{rs:List ResultVar}{args:List V}
end
section
variable {P:Program}{nt:Nat}{rd:Option Nat}{T:Cr}{E:Bm}
variable (hE:E=E8 P nt rd)
include hE
variable {α R:Type}{f:α→V}{Φ:A0→A0→Prop}{H0 H:A0}{L:List En}{r:R}{m:Option (List α)}{F:List α→Option R}{fid:FuncId}{args args':List V}{k:V→A0→Prop}
end
end Go.Ab
namespace Go.Ab
open Go.RowKit
variable [G7][Ar]
def Gh.lend (g:Gh)(w:World):Gh:={g with fz:=fun b o=>∃v,w.cell? ⟨b,o,none⟩=some v,base:=w.heap.size}
theorem VR.lend {g:Gh}{w:World}{B:Nat}{F:Nat→Nat→Prop}(hB:g.base≤B)(hF:∀b o,g.fz b o→F b o){v:Value}{x:V}(h:VR g w v x):VR {g with fz:=F,base:=B} w v x:=by
 induction h with
 |bad v=>exact .bad v
 |bool b=>exact .bool b
 |int k n=>exact .int k n
 |str s=>exact .str s
 |nilp=>exact .nilp
 |nilf=>exact .nilf
 |nili=>exact .nili
 |nilmap=>exact .nilmap
 |map h=>exact .map h
 |fmap hb hw hk hn hl hv ih=>exact VR.fmap (g:={g with fz:=F,base:=B}) (Nat.lt_of_lt_of_le hb hB) hw hk hn hl ih
 |ref h=>exact .ref h
 |own h h0 h1 h2 hp=>exact VR.own (g:={g with fz:=F,base:=B}) h h0 h1 h2 hp
 |elem h hs=>exact VR.elem (g:={g with fz:=F,base:=B}) h hs
 |eref vs hf hw h1 hv ih=>exact .eref vs (fun j hj=>hF _ _ (hf j hj)) hw h1 ih
 |sl0 ht=>exact .sl0 ht
 |sle ht=>exact .sle ht
 |sl vs hn hc hz hf hw h1 hv ht ih=>exact .sl vs hn hc hz (fun i j hi hj=>hF _ _ (hf i j hi hj)) hw h1 ih (ht.mono fun _ _ e=>e)
 |func hl hv hl' hv' ih ih'=>exact .func hl ih hl' ih'
 |yield h=>exact .yield h
 |iface h ih=>exact .iface ih
 |agg hl h1 hv ih=>exact .agg hl h1 ih
 |tup hl hv ih=>exact .tup hl ih
theorem Rl.lend {g:Gh}{H:A0}{w:World}(h:Rl g H w):Rl (g.lend w) (fun _=>none) w:=by
 refine⟨fun id b hb=>(by cases hb),fun id id' b h1 _=>(by simp[Gh.at]at h1),fun b o hf=>hf,fun id hi=>⟨(h.nxt id hi).1,(h.nxt id hi).2.1,rfl⟩,Nat.le_refl _,fun n=>(h.glb n).lend h.bnd fun b o hf=>h.frz b o hf⟩
theorem Rl.lendOwn {g:Gh} {H:A0} {w:World} (h:Rl g H w) {id sz:Nat} {xs:List V} (hk:H id=some (.arr sz xs)) {v:Value} {lo n:Int} (hv:VR g w v (.own id lo n)):VR (g.lend w) w v (.sl (J3 xs lo n) .ro):=by
 obtain⟨g',⟨e1,e2,e3⟩,s,hR,hw⟩:=h.freezeArr' hk;have:=(hw v lo n (hv.mono s)).lend (F:=fun b o=>∃v,w.cell? ⟨b,o,none⟩=some v) (B:=w.heap.size) hR.bnd fun b o hf=>hR.frz b o hf
 have e:({g' with fz:=fun b o=>∃v,w.cell? ⟨b,o,none⟩=some v,base:=w.heap.size}:Gh)={(g.lend w)with nx:=g'.nx}:=by
  simp only[Gh.lend,Gh.mk.injEq,and_true];exact⟨e1,e3,e2⟩
 rw[e]at this
 exact VR.nxt this
where
 VR.nxt {g:Gh} {w:World} {n:Nat} {v:Value} {x:V} (h:VR {g with nx:=n} w v x):VR g w v x:=by
  generalize hg:({g with nx:=n}:Gh)=g1 at h
  have hmu:g1.mu=g.mu:=by rw[←hg]
  have htk:g1.tk=g.tk:=by rw[←hg]
  have hfz:g1.fz=g.fz:=by rw[←hg]
  have how:g1.ow=g.ow:=by rw[←hg]
  have hba:g1.base=g.base:=by rw[←hg]
  clear hg
  induction h with
  |bad v=>exact .bad v
  |bool b=>exact .bool b
  |int k n=>exact .int k n
  |str s=>exact .str s
  |nilp=>exact .nilp
  |nilf=>exact .nilf
  |nili=>exact .nili
  |nilmap=>exact .nilmap
  |map h=>exact .map (hmu▸h)
  |fmap hb hw hk hn hl hv ih=>exact .fmap (hba▸hb) hw hk hn hl ih
  |ref h=>exact .ref (hmu▸h)
  |own h h0 h1 h2 hp=>rw[how]at h2 hp ⊢;exact VR.own (hmu▸h) h0 h1 h2 hp
  |elem h hs=>rw[how]at hs ⊢;exact VR.elem (hmu▸h) hs
  |eref vs hf hw h1 hv ih=>exact .eref vs (fun j hj=>hfz▸hf j hj) hw h1 ih
  |sl0 ht=>exact .sl0 ht
  |sle ht=>exact .sle ht
  |sl vs hn hc hz hf hw h1 hv ht ih=>exact .sl vs hn hc hz (fun i j hi hj=>hfz▸hf i j hi hj) hw h1 ih (ht.mono fun _ _ e=>htk▸e)
  |func hl hv hl' hv' ih ih'=>exact .func hl ih hl' ih'
  |yield h=>exact .yield (hmu▸h)
  |iface h ih=>exact .iface ih
  |agg hl h1 hv ih=>exact .agg hl h1 ih
  |tup hl hv ih=>exact .tup hl ih
def TL :V→Bool
 | .bool _=>true
 | .int _ _=>true
 | .str _=>true
 |_=>false
inductive Ho :V→Prop
 |bool (b:Bool):Ho (.bool b)
 |int (k:IntKind) (n:Int):Ho (.int k n)
 |str (s:ByteArray):Ho (.str s)
 |agg {cs:List V} (h:cs.all TL=true):Ho (.agg cs)
 |tup2 {x y:V} (h:Ho x) (k:Ho y):Ho (.tup [x,y])
 |tup3 {x y z:V} (h:Ho x) (k:Ho y) (m:Ho z):Ho (.tup [x,y,z])
theorem Ho.any {x:V} (h:Ho x):∀{g g':Gh} {w w':World} {v:Value},VR g w v x→VR g' w' v x:=by
 induction h with
 |bool b=>intro g g' w w' v h;cases h;exact .bool b
 |int k n=>intro g g' w w' v h;cases h;exact .int k n
 |str s=>intro g g' w w' v h;cases h;exact .str s
 | @agg cs hp=>
  intro g g' w w' v h
  cases h with
  |agg hl h1 hv=>
   refine .agg hl h1 fun i hi=>?_;have hvi:=hv i hi;have hm:=List.all_eq_true.1 hp _ (List.getElem_mem hi)
   rw[show cs.getD i .bad=cs[i] by rw[List.getD_eq_getElem?_getD,List.getElem?_eq_getElem hi];rfl]at hvi ⊢
   generalize cs[i]=c at hvi hm ⊢
   generalize Array.getD _ i undef=u at hvi ⊢
   cases c<;>simp only[TL,Bool.false_eq_true]at hm<;>cases hvi<;>constructor
 | tup2 _ _ ih1 ih2=>
  intro g g' w w' v h
  cases h with
  |tup hl hv=>
   refine .tup hl fun i hi=>?_
   match i with
   |0=>exact ih1 (hv 0 hi)
   |1=>exact ih2 (hv 1 hi)
   |i+2=>simp at hi;omega
 | tup3 _ _ _ ih1 ih2 ih3=>
  intro g g' w w' v h
  cases h with
  |tup hl hv=>
   refine .tup hl fun i hi=>?_
   match i with
   |0=>exact ih1 (hv 0 hi)
   |1=>exact ih2 (hv 1 hi)
   |2=>exact ih3 (hv 2 hi)
   |i+3=>simp at hi;omega
inductive Gv (H:A0):List V→List V→Prop
 |nil:Gv H [] []
 |le {x y:V} {xs ys:List V} (h:W6 x y) (k:Gv H xs ys):Gv H (x::xs) (y::ys)
 |fm {id:Nat} {ks:List Int} {zs xs ys:List V} (h:H id=some (.fm ks zs)) (k:Gv H xs ys):Gv H (.map id::xs) (.fmap ks zs::ys)
 |agg {us ws xs ys:List V} (h:Gv H us ws) (k:Gv H xs ys):Gv H (.agg us::xs) (.agg ws::ys)
 |own {id sz:Nat} {zs:List V} {lo n:Int} {xs ys:List V} (h:H id=some (.arr sz zs)) (k:Gv H xs ys):Gv H (.own id lo n::xs) (.sl (J3 zs lo n) .ro::ys)
theorem Gv.length {H:A0}{xs ys:List V}(h:Gv H xs ys):xs.length=ys.length:=by
 induction h with
 |nil=>rfl
 |le _ _ ih=>simp[ih]
 |fm _ _ ih=>simp[ih]
 |agg _ _ _ ih=>simp[ih]
 |own _ _ ih=>simp[ih]
theorem Gv.at {g:Gh} {H:A0} {w:World} (hR:Rl g H w) {xs ys:List V} (h:Gv H xs ys):∀(vals:Nat→Value),(∀i,i<xs.length→VR g w (vals i) (xs.getD i .bad))→∀i,i<ys.length→VR (g.lend w) w (vals i) (ys.getD i .bad):=by
 induction h with
 |nil=>intro _ _ i hi;simp at hi
 |le h k ih=>
  intro vals hv i hi
  cases i with
  |zero=>exact((hv 0 (by simp)).le h).lend hR.bnd fun b o hf=>hR.frz b o hf
  |succ i=>exact ih (fun i=>vals (i+1)) (fun i hi=>by simpa using hv (i+1) (by simpa using hi)) i (by simpa using hi)
 | fm h k ih=>
  intro vals hv i hi
  cases i with
  | zero=>
   have h0:=hv 0 (by simp)
   simp only[List.getD_cons_zero]at h0 ⊢
   generalize vals 0=u at h0
   cases h0 with
   |map hm=>
    obtain⟨b,es,clock,k1,k2,k3,k4,k5,k6,k7⟩:=hR.blk _ _ h
    rw[hm]at k1;cases k1
    exact VR.fmap (g:=Gh.lend _ _) (Kv k3) k3 k4 k5 k6 fun i e hi=>(k7 i e hi).lend hR.bnd fun b o hf=>hR.frz b o hf
  |succ i=>exact ih (fun i=>vals (i+1)) (fun i hi=>by simpa using hv (i+1) (by simpa using hi)) i (by simpa using hi)
 | agg h k ih1 ih=>
  intro vals hv i hi
  cases i with
  | zero=>
   have h0:=hv 0 (by simp)
   simp only[List.getD_cons_zero]at h0 ⊢
   generalize vals 0=u at h0
   cases h0 with
   |agg hl h1 hv1=>
    have e:=h.length;exact .agg (hl.trans e) (fun i hi=>h1 i (by omega)) fun i hi=>ih1 (fun i=>Array.getD _ i undef) hv1 i hi
  |succ i=>exact ih (fun i=>vals (i+1)) (fun i hi=>by simpa using hv (i+1) (by simpa using hi)) i (by simpa using hi)
 |own h k ih=>
  intro vals hv i hi
  cases i with
  |zero=>exact hR.lendOwn h (hv 0 (by simp))
  |succ i=>exact ih (fun i=>vals (i+1)) (fun i hi=>by simpa using hv (i+1) (by simpa using hi)) i (by simpa using hi)
theorem B8.lent {P:Program}{f:FuncId}{ys:List V}{r:V}(c:B8 P f ys r)(hr:Ho r){H:A0}{xs:List V}(hl:Gv H xs ys):G2 P f xs H fun x H'=>x=r∧H'=H:=by
 intro g w vals hR hA;have hA2:Args (g.lend w) w vals ys:=⟨hA.1.trans hl.length,hl.at hR (fun i=>vals.getD i undef) hA.2⟩;refine(c _ _ w vals hR.lend hA2).mono fun v w' ⟨g',x,H',s,hR',hv,e1,e2⟩=>?_;subst e1;have hb:Below w.heap.size w w':=s.low;have sg:N0 g w g w':=⟨fun _ _ e=>e,fun _ _ e=>e,fun _ _ e=>e,rfl,fun b o hf=>hb.cell (hR.fz_lt hf),hb.mono hR.bnd,fun _ _ _=>rfl,s.dr⟩;refine⟨g,x,H,sg,⟨fun id b hk=>(hR.blk id b hk).mono hk sg fun y hy=>⟨hb.block _ (hR.lt hy),fun _ ho=>ho⟩,hR.inj,fun b o hf=>?_,hR.nxt,Nat.le_trans hR.bnd hb.size,fun n=>(hR.glb n).mono sg⟩,hr.any hv,rfl,rfl⟩;obtain⟨u,hu⟩:=hR.frz b o hf;exact⟨u,(hb.cell (hR.fz_lt hf)).trans hu⟩
section
variable {P:Program}{nt:Nat}{rd:Option Nat}{T:Cr}{E:Bm}
variable (hE:E=E8 P nt rd)
include hE
theorem VZ {R S:Type}{m:Option S}{F:S→Option R}{r:R}{f:FuncId}{args args':List V}{g:S→V}{H:A0}{k:V→A0→Prop}(h:m.bind F=some r)(hc:∀x,m=some x→B8 P f args' (g x))(hs:∀x,Ho (g x))(hl:Gv H args args')
 (hk:∀x,F x=some r→k (g x) H):E.call (.func (.func f) [] []) args H k:=by
 subst hE;obtain⟨x,h1,h2⟩:=bind_some h;refine G2.value (F:=[]) (C:=[]) ?_;simp only[List.nil_append,append_nil]
 exact((hc x h1).lent (hs x) hl).mono fun v H' ⟨e1,e2⟩=>by subst e1;subst e2;exact hk x h2
end
end Go.Ab
namespace Go.Ab
open Go.RowKit Go.MapKept
variable [G7][Ar]
def Vv {K X:Type}(d:TypeDesc)(kf:K→V)(vf:X→V)(o:Obj)(m:List (K×X)):Prop:=∃m':List (K×X),Q5 d o (m'.map fun p=>(kf p.1,vf p.2))∧m'.Perm m
theorem Vv.perm {K X:Type}{d:TypeDesc}{kf:K→V}{vf:X→V}{o:Obj}{m l:List (K×X)}(h:Vv d kf vf o m)(hp:m.Perm l):Vv d kf vf o l:=
 let⟨m',h1,h2⟩:=h;⟨m',h1,h2.trans hp⟩
theorem Wo {K X:Type}{m:List (K×X)}(hn:(m.map (·.1)).Nodup){p q:K×X}(hp:p∈m)(hq:q∈m)(e:p.1=q.1):p=q:=by
 obtain⟨i,hi,rfl⟩:=List.getElem_of_mem hp;obtain⟨j,hj,rfl⟩:=List.getElem_of_mem hq;have:i=j:=DP hn (by simpa using hi) (by simpa using hj) (by simpa using e);subst this;rfl
theorem SF {K X:Type} [DecidableEq K] {m m':List (K×X)} (hp:m'.Perm m) (hn:(m'.map (·.1)).Nodup) (k:K) (z:X):KD m' k z=KD m k z:=by
 unfold KD
 cases hf:m.find? (fun p=>decide (p.1=k))with
 |none=>
  have:m'.find? (fun p=>decide (p.1=k))=none:=List.find?_eq_none.2 fun p hm=>List.find?_eq_none.1 hf p (hp.mem_iff.1 hm);rw[this]
 | some p=>
  have h1:p.1=k:=by simpa using List.find?_some hf
  have h2:=hp.mem_iff.2 (List.mem_of_find?_eq_some hf)
  cases hg:m'.find? (fun p=>decide (p.1=k))with
  |none=>exact absurd h1 (by simpa using List.find?_eq_none.1 hg p h2)
  |some q=>
   have h3:q.1=k:=by simpa using List.find?_some hg
   rw[Wo hn (List.mem_of_find?_eq_some hg) h2 (h3.trans h1.symm)]
theorem Sj {K X:Type} [DecidableEq K] {m m' r:List (K×X)} (hp:m'.Perm m) {k:K} {v:X} (h:JX m k v=some r):∃r',JX m' k v=some r'∧r'.Perm r:=by
 unfold JX at h
 cases h;refine⟨_,rfl,?_⟩
 have e:m'.any (fun p=>decide (p.1=k))=m.any (fun p=>decide (p.1=k)):=by
  rw[Bool.eq_iff_iff,List.any_eq_true,List.any_eq_true];exact⟨fun⟨p,h1,h2⟩=>⟨p,hp.mem_iff.1 h1,h2⟩,fun⟨p,h1,h2⟩=>⟨p,hp.mem_iff.2 h1,h2⟩⟩
 rw[e]
 split
 ·exact hp.map _
 exact hp.append_right _
theorem Qk {K X:Type}{d:TypeDesc}{kf:K→V}{vf:X→V}{o:Obj}{m:List (K×X)}(h:Q5 d o (m.map fun p=>(kf p.1,vf p.2))):(m.map (·.1)).Nodup:=by
 have:=h.nodup
 rw[List.map_map]at this
 have e:(m.map ((·.1)∘fun p=>(kf p.1,vf p.2)))=(m.map (·.1)).map kf:=by rw[List.map_map];rfl
 rw[e]at this
 exact List.Pairwise.imp (fun h e=>h (by rw[e])) (List.pairwise_map.1 this)
def RU (P:Program)(kt:TypeId)(d:TypeDesc):Bool:=match d with| .struct _=> !P.stoodInHeld kt|_=>true
structure Lc {K:Type} (P:Program) (d:TypeDesc) (kf:K→V):Prop where
 raw:∀x,∃v,U6 (kf x)=some v∧Bj d v
 inj:∀x y,kf x=kf y→x=y
 kg:∀kt,P.underlying kt=some d→RU P kt d=true→KG P kt (Bj d)
theorem LO :∀l:List Int,Ej (l.map (V.int .i64))=some (l.map (Value.int .i64))
 |[]=>rfl
 |x::l=>by simp[Ej,Fj,LO l]
def Xo (P:Program)(fs:Array Field):Bool:=
 fs.toList.all (fun f=>f.name != "_" &&(match P.underlying f.type with|some (.int .i64)=>true|_=>false)&&decide (f.offset<fs.size))&&(List.range fs.size).all (fun i=>fs.toList.any fun f=>f.offset==i)
theorem LT {K:Type} {P:Program} {fs:Array Field} {g:K→List Int} {kf:K→V} (hk:∀x,kf x= .agg ((g x).map (V.int .i64))) (hn:∀x,(g x).length=fs.size) (hg:∀x y,g x=g y→x=y)
 (hf:Xo P fs=true):Lc P (.struct fs) kf where
 raw:=fun x=>⟨.agg ((g x).map (Value.int .i64)).toArray,by rw[hk];simp[U6,LO],g x,hn x,rfl⟩
 inj:=fun x y h=>hg x y (by
  rw[hk,hk]at h
  have h2:=V.agg.inj h
  exact(List.map_inj_right (fun a b h=>by cases h;rfl)).1 h2)
 kg:=fun kt h hs=>by
  unfold Xo at hf
  simp only[Bool.and_eq_true,List.all_eq_true,List.any_eq_true,decide_eq_true_eq,bne_iff_ne,beq_iff_eq,List.mem_range]at hf
  obtain⟨h1,h2⟩:=hf
  have e:P.fieldsOf kt=fs:=by simp[Program.fieldsOf,h]
  refine KG.flds (by rw[e];exact h) (by simpa[RU]using hs) ⟨fun f hf=>?_,fun i hi=>?_⟩
  ·rw[e]at hf
   obtain⟨⟨a,b⟩,c⟩:=h1 f hf;refine⟨a,?_,c⟩
   revert b
   split
   ·rename_i h;exact fun _=>h
   intro h;cases h
  rw[e];obtain⟨f,hf,he⟩:=h2 i hi;exact⟨f,hf,he⟩
def Ze {X:Type}(vf:X→V):Prop:=∀x,∃v,U6 (vf x)=some v
theorem LS :Ze V.bool:=fun _=>⟨_,rfl⟩
theorem B7.startO {H0:A0}{id:Nat}{b:CW}(hk:H0 id=some b):B7 Eq (upd H0 id none) [.blk id b] H0:=by
 have h:B7 Eq (upd H0 id none) [.blk id b] (upd (upd H0 id none) id (some b)):=(B7.start F5 rfl).push (B1 _ _ _) rfl
 rwa[Y1,NB H0 id (some b) hk]at h
theorem Rb {α:Type}{f:α→V}{q:OG}{l:List α}(h:T7 q ((lst f l).length:Nat)):T7 q (Ar.len l):=⟨h.1,by rw[h.2,len_eq,G3]⟩
section
variable {P:Program}{nt:Nat}{rd:Option Nat}{T:Cr}{E:Bm}
variable (hE:E=E8 P nt rd)
include hE
variable {α R:Type}{f:α→V}{Φ:A0→A0→Prop}{H0 H:A0}{L:List En}{sz:Nat}{q:OG}{l:List α}{r:R}
theorem Qe (hO:B7 Φ H0 L H){k:V→A0→Prop}(hk:∀(q:OG) H',T7 q (Ar.len ([]:List α))→B7 Φ H0 (.blk q.id (.arr sz (q.pre++lst f []++q.rest))::L) H'→k (.own q.id q.lo q.n) H'):E.onil sz H k:=by
 subst hE;intro t ht
 have e:([]:List V)++lst f []++[]=[]:=by rw[←C1 (f:=f)];rfl
 refine hk ⟨t,0,0,[],[]⟩ _ ⟨rfl,by rw[len_eq];rfl⟩ ?_
 show B7 Φ H0 (.blk t (.arr sz (([]:List V)++lst f []++[]))::L) _
 rw[e];exact hO.push ht rfl
theorem TZ {xs:List V}(hx:G1 xs (lst f l))(hO:B7 Φ H0 L H){k:V→A0→Prop}(hk:∀(q:OG) H',T7 q (Ar.len l)→B7 Φ H0 (.blk q.id (.arr sz (q.pre++lst f l++q.rest))::L) H'→k (.own q.id q.lo q.n) H'):E.olit sz H xs k:=by
 subst hE
 have el:xs.length=l.length:=by rw[hx.length,G3]
 refine⟨_,hx,fun t ht=>?_⟩;refine hk ⟨t,0,(xs.length:Nat),[],[]⟩ _ ⟨rfl,by rw[len_eq,el]⟩ ?_
 show B7 Φ H0 (.blk t (.arr sz (([]:List V)++lst f l++[]))::L) _
 rw[List.nil_append,append_nil];exact hO.push ht rfl
section
variable {K X:Type}{kf:K→V}{vf:X→V}{t kt et:Nat}{d:TypeDesc}{m:List (K×X)}{o:Obj}{id:Nat}
theorem YH (d:TypeDesc)(kf:K→V)(vf:X→V)(hO:B7 Φ H0 L H){k:V→A0→Prop}(hk:∀id o H',Vv d kf vf o []→B7 Φ H0 (.blk id (.obj o)::L) H'→k (.map id) H'):E.mmk H k:=by
 subst hE;exact .inl fun id hid=>hk id _ _ ⟨[],Q5.empty d,.refl _⟩ (hO.push hid rfl)
theorem YZ [DecidableEq K] (hK:Lc P d kf) {z:V} {z0:X} (hz:CX P et=some z) (hvz:z=vf z0) {key:K} {x:X×Bool} (hx:KD m key z0=some x) (ok:Bool):
 Xt P et (m.map fun p=>(kf p.1,vf p.2)) (kf key) ok (if ok=true then .tup [vf x.1,.bool x.2]else vf x.1):=by
 unfold KD at hx
 cases hx
 cases hf:m.find? (fun p=>decide (p.1=key))with
 |none=>
  refine .inl ⟨fun p hp=>?_,z,hz,by simp only[hvz]⟩;obtain⟨q,hq,rfl⟩:=List.mem_map.1 hp;have:=List.find?_eq_none.1 hf q hq;exact fun e=>this (by simpa using hK.inj _ _ e)
 |some p=>
  have h1:=List.find?_some hf;have h2:=List.mem_of_find?_eq_some hf;refine .inr ⟨vf p.2,List.mem_map.2 ⟨p,h2,?_⟩,rfl⟩;rw[show p.1=key by simpa using h1]
theorem Ub [DecidableEq K](hm:P.underlying t=some (.map kt et))(hd:P.underlying kt=some d)(hK:Lc P d kf){z:V}(z0:X)(hz:CX P et=some z)(hvz:z=vf z0)(hO:B7 Φ H0 L H)(hq:Vv d kf vf o m)(i:Nat)(hi:L[i]? =some (.blk id (.obj o)))
 {key:K} {k:V→Prop} {F:X×Bool→Option R} (h:(KD m key z0).bind F=some r) (hk:∀x,F x=some r→k (vf x.1)) (hst:RU P kt d=true:=by kernel_rfl):E.mget t H (.map id) (kf key) false k:=by
 obtain⟨x,h1,h2⟩:=bind_some h;obtain⟨m',hq,hp⟩:=hq
 rw[←SF hp (Qk hq)]at h1
 have ha:=YZ (P:=P) (vf:=vf) hE hK hz hvz h1 false;subst hE;obtain⟨v,hv1,hv2⟩:=hK.raw key;exact⟨_,.inl ⟨kt,et,d,v,id,o,_,hm,hK.kg _ hd hst,hv1,hv2,rfl,hO.get i hi,hq,ha⟩,hk x h2⟩
theorem VG [DecidableEq K] (hK:Lc P d kf) (hn:((m.map fun p=>(kf p.1,vf p.2)).map (·.1)).Nodup) {key:K} {v:X} {m':List (K×X)} (hx:JX m key v=some m'):Ye (m.map fun p=>(kf p.1,vf p.2)) (kf key) (vf v) (m'.map fun p=>(kf p.1,vf p.2)):=by
 unfold JX at hx
 cases hx
 split
 ·rename_i h;obtain⟨p,hp,he⟩:=List.any_eq_true.1 h
  have he:p.1=key:=by simpa using he
  obtain⟨a,b,hab⟩:=List.append_of_mem hp;subst hab;refine .inr ⟨a.map fun p=>(kf p.1,vf p.2),vf p.2,b.map fun p=>(kf p.1,vf p.2),by simp[he],?_⟩
  have hna:∀l:List (K×X),(∀q∈l,q.1≠key)→(l.map (fun p=>if p.1=key then(key,v)else p))=l:=fun l hl=>by
   induction l with
   |nil=>rfl
   |cons y l ih=>rw[List.map_cons,if_neg (hl y (by simp)),ih fun q hq=>hl q (by simp[hq])]
  rw[List.map_map,List.map_append,List.map_cons,List.nodup_append]at hn
  obtain⟨_,n2,n3⟩:=hn
  rw[List.nodup_cons]at n2
  have ha:∀q∈a,q.1≠key:=fun q hq e=>n3 (kf q.1) (List.mem_map.2 ⟨q,hq,rfl⟩) (kf p.1) (by simp) (by rw[e,he]);have hb:∀q∈b,q.1≠key:=fun q hq e=>n2.1 (List.mem_map.2 ⟨q,hq,by simp[e,he]⟩);rw[List.map_append,List.map_cons,hna a ha,hna b hb,if_pos he];simp
 rename_i h;refine .inl ⟨fun p hp=>?_,by simp⟩;obtain⟨q,hq,rfl⟩:=List.mem_map.1 hp;exact fun e=>h (List.any_eq_true.2 ⟨q,hq,by simpa using hK.inj _ _ e⟩)
theorem Ua [DecidableEq K](hm:P.underlying t=some (.map kt et))(hd:P.underlying kt=some d)(hK:Lc P d kf)(hV:Ze vf)(hO:B7 Φ H0 L H)(hq:Vv d kf vf o m)(i:Nat)(hi:L[i]? =some (.blk id (.obj o)))
 {key:K} {v:X} {k:A0→Prop} {F:List (K×X)→Option R} (h:(JX m key v).bind F=some r) (hk:∀m' o' H',Vv d kf vf o' m'→F m'=some r→B7 Φ H0 (L.set i (.blk id (.obj o'))) H'→k H') (hst:RU P kt d=true:=by kernel_rfl):E.mset t H (.map id) (kf key) (vf v) k:=by
 obtain⟨m',h1,h2⟩:=bind_some h;obtain⟨m0,hq,hp⟩:=hq;obtain⟨r',h3,hp'⟩:=Sj hp h1;have hs:=VG (d:=d) hE hK hq.nodup h3;subst hE;obtain⟨kv,hv1,hv2⟩:=hK.raw key;obtain⟨vv,hv3⟩:=hV v;exact .inl ⟨kt,et,d,kv,vv,id,o,_,_,hm,hK.kg _ hd hst,hv1,hv2,hv3,rfl,hO.get i hi,hq,hs,fun o' ho=>hk m' o' _ ⟨r',ho,hp'⟩ h2 (hO.set i hi)⟩
end
end
end Go.Ab
