/- . -/
import Derived.Test.YtjhobbohibnioaaGreatDoorG06
import Derived.Laws.Externs
import Derived.Sort.Grow
import Derived.Shelf.Sort.Plain
import Derived.Shelf.Slices.In.SortNone
import Derived.Shelf.Slices.CompactI
import Derived.KernelRfl
set_option linter.all false
open Go.Ab.Ar (len_eq lst lst_eq ofs ofs_eq)
namespace Go.Ab
open Go.RowKit
variable [O6][Ar]
def Ce.swap {H0 H:A5} {L:List En} (h:Ce H0 L H) (i:Nat) {en en':En} {id t:Nat} {b b':IF} (hi:L[i]? =some en) (he:en.id=some (id,b)) (he':en'.id=some (t,b')) (ht:upd H id none t=none):
 Ce H0 (L.set i en') (upd (upd H id none) t (some b')):=by
 have hlt:i<L.length:=by
  grind
 have NN:∀(j:Nat) e,(L.set i en')[j]? =some e→(j=i∧e=en')∨(j≠i∧L[j]? =some e):=fun j e hj=>by
  rw[Au]at hj
  grind
 have hid:=h.has i _ id b hi he
 have h0:∀x c,H0 x=some c→upd H id none x=some c:=fun x c hx=>by
  rw[C9 _ _ (Bb hid.1 hx)];exact h.ext x c hx
 have hoth:∀(j:Nat) e x c,j≠i→L[j]? =some e→e.id=some (x,c)→H0 x=none∧upd H id none x=some c:=fun j e x c hne hj hx=>by
  have:=h.has j e x c hj hx
  have hxid:x≠id:=fun eq=>by subst eq;exact hne (h.inj j i e _ x c b hj hi hx he)
  simp_all[upd]
 have hid0:H0 t=none:=by
  cases e:H0 t with
  |none=>rfl
  |some c=>rw[h0 t c e]at ht;cases ht
 refine⟨fun x bb hx=>?_,fun j e x bb hj hx=>?_,fun j k e e' x bb bb' hj hk hx hx'=>?_,fun x bb hx=>?_⟩
 rotate_right
 ·by_cases hxi:x=t
  ·grind[upd]
  rw[C9 _ _ hxi]at hx
  have hxid:x≠id:=fun eq=>by simp_all[upd]
  rw[C9 _ _ hxid]at hx
  refine(h.only x bb hx).imp (fun h=>h) fun⟨j,e,h1,h2⟩=>⟨j,e,?_,h2⟩;rw[Au]
  grind
 ·rw[C9 _ _ (Bb hid0 hx)];simp_all
 ·grind[upd]
 rcases NN j e hj with⟨hji,rfl⟩|⟨hne,hj'⟩<;>rcases NN k e' hk with⟨hki,rfl⟩|⟨hne',hk'⟩
 ·rw[hji,hki]
 ·rw[he']at hx;grind
 ·rw[he']at hx';grind
 exact h.inj j k e e' x bb bb' hj' hk' hx hx'
def C8.swap {Φ:A5→A5→Prop}{F H:A5}{L:List En}(h:C8 Φ F L H)(i:Nat){id t:Nat}{b b':IF}(hi:L[i]? =some (.blk id b))(ht:upd H id none t=none):C8 Φ F (L.set i (.blk t b')) (upd (upd H id none) t (some b')):=by
 obtain⟨hs,F',H1,h0,h1,h2⟩:=h;have e:=h0.get i hi;have e1:=hs.le h1 _ _ e;have h3:=hs.chg id none h1 (by rw[e,e1]);have hle:HU (upd H1 id none) (upd H id none):=h2.upd id none;have hn1:=hle.none ht;have hn':=hs.fresh h3 hn1;exact⟨hs,_,_,h0.swap i hi rfl rfl hn',hs.chg t (some b') h3 (by rw[hn1,hn']),hle.upd t _⟩
def C8.swap' {Φ:A5→A5→Prop}{F H:A5}{L:List En}(h:C8 Φ F L H)(i:Nat){id t:Nat}{b b':IF}(hi:L[i]? =some (.blk id b))(ht:H t=none):C8 Φ F (L.set i (.blk t b')) (upd H t (some b')):=by
 have hid:=h.get i hi
 have hne:t≠id:=fun e=>by simp_all
 obtain⟨hs,F',H1,h0,h1,h2⟩:=h.swap (b':=b') i hi (t:=t) (by rw[C9 _ _ hne];exact ht)
 grind[C8,upd,HU]
structure OG where
 id:Nat
 lo:Int
 n:Int
 pre:List V
 rest:List V
def Cd (q:OG)(m:Int):Prop:=q.lo=(q.pre.length:Nat)∧q.n=m
def Sr {pre xs rest:List V}{lo n:Int}(h0:lo=(pre.length:Nat))(h1:n=(xs.length:Nat)):Q3 (pre++xs++rest) lo n=xs:=by
 simp_all[Q3]
def AI8 {pre xs rest ys:List V}{i:Nat}(hi:i=pre.length+xs.length):CL (pre++xs++rest) i ys=pre++(xs++ys)++rest.drop ys.length:=by
 subst hi;simp only[CL,E7];rw[show pre++(xs++rest)=(pre++xs)++rest by simp,←G8,List.take_left,List.drop_append];simp
def ZU {pre xs rest:List V}{i:Nat}(h:i<xs.length):(pre++xs++rest).getD (pre.length+i) .bad=xs.getD i .bad:=by
 grind
def AT2 {pre xs rest:List V}{i:Nat}{v:V}(h:i<xs.length):(pre++xs++rest).set (pre.length+i) v=pre++xs.set i v++rest:=by
 simp_all
theorem C8.set_self {L:List En}(i:Nat){e:En}(hi:L[i]? =some e):L.set i e=L:=by
 apply BD
 grind
section
variable {P:Program}{nt:Nat}{rd:Option Nat}{T:ID}{E:FN}
variable (hE:E=I0 P nt rd)
include hE
variable {α R:Type}{f:α→V}{Φ:A5→A5→Prop}{H0 H:A5}{L:List En}{sz:Nat}{q:OG}{l:List α}{r:R}
theorem TM (hq:Cd q (Ar.len l)){k:Int→Prop}(h:k (Ar.len l)):E.olen q.n k:=by
 grind[I0,Cd]
theorem BK (hO:C8 Φ H0 L H)(hq:Cd q (Ar.len l))(i:Nat){j:Int}{k:Int→Prop}{F:Unit→Option R}(hi:L[i]? =some (.blk q.id (.arr sz (q.pre++lst f l++q.rest))))(h:(FL (Lu l j)).bind F=some r)(hk:F ()=some r→k (ofs q.lo j)):
 E.oidx H q.id sz q.lo q.n j k:=by
 subst hE;obtain⟨x,h1,h2⟩:=bind_some h
 unfold FL at h1
 split at h1
 ·rename_i hp;refine⟨⟨_,hO.get i hi⟩,?_,hk h2⟩;rw[hq.2,len_eq];grind[Lu]
 cases h1
theorem Wc {l:List α}{i:Int}{x:α}(h:B9 l i=some x):(0≤i∧i<(l.length:Nat))∧l[i.toNat]? =some x:=by
 grind[B9]
theorem ZF {l:List α}{i:Nat}{x:α}(h:l[i]? =some x):(lst f l).getD i .bad=f x:=by
 rw[lst_eq];simp_all
theorem CT {g:α→V}(hf:∀x,f x=g x)(hO:C8 Φ H0 L H)(hq:Cd q (Ar.len l))(i:Nat){j:Int}{k:V→Prop}{F:α→Option R}(hi:L[i]? =some (.blk q.id (.arr sz (q.pre++lst f l++q.rest))))(h:(B9 l j).bind F=some r)(hk:∀x,F x=some r→k (g x)):
 E.oload H q.id (ofs q.lo j) k:=by
 obtain⟨x,h1,h2⟩:=bind_some h;obtain⟨hb,h3⟩:=Wc hE h1;have h4:=ZF hE (f:=f) h3;subst hE;have e1:=N3 (f:=f) l;refine⟨_,_,hO.get i hi,?_,?_⟩
 ·rw[ofs_eq,hq.1];grind
 rw[ofs_eq,hq.1,show((q.pre.length:Nat)+j:Int).toNat=q.pre.length+j.toNat by omega,ZU (by rw[e1];omega),h4,hf]
 grind
theorem Zy {β:Type}{f0:β→V}{esz:Nat}(hO:C8 Φ H0 L H){k:Nat→A5→Prop}(hk:∀(q:OG) id H',Cd q (Ar.len ([]:List β))→C8 Φ H0 (.blk id (.cells [.own q.id q.lo q.n]):: .blk q.id (.arr esz (q.pre++lst f0 []++q.rest))::L) H'→k id H'):E.oalloc esz H k:=by
 subst hE;intro t id ht hid
 have e:([]:List V)++lst f0 []++[]=[]:=by rw[←F3 (f:=f0)];rfl
 have h0:C8 Φ H0 (.blk t (.arr esz [])::L) (upd H t (some (.arr esz []))):=hO.push ht rfl;have h1:C8 Φ H0 (.blk id (.cells [.own t 0 0]):: .blk t (.arr esz [])::L) (upd (upd H t (some (.arr esz []))) id (some (.cells [.own t 0 0]))):=h0.push hid rfl;refine hk ⟨t,0,0,[],[]⟩ id _ ⟨rfl,by rw[len_eq];rfl⟩ ?_
 simp_all
theorem Hb {u:α→α} {esz tz off:Nat} {y:V} (hu:∀x,∃y',DF y y'∧y'.one=true∧y'.cells.length=tz∧Xf (f x) esz tz off y'=f (u x)) (hle:off+tz≤esz) (hO:C8 Φ H0 L H) (hq:Cd q (Ar.len l)) (i:Nat) {j:Int} {k:A5→Prop} {F:List α→Option R}
 (hi:L[i]? =some (.blk q.id (.arr esz (q.pre++lst f l++q.rest)))) (h:(FJ l j u).bind F=some r)
 (hk:∀l' H',Cd q (Ar.len l')→F l'=some r→C8 Φ H0 (L.set i (.blk q.id (.arr esz (q.pre++lst f l'++q.rest)))) H'→k H'):E.ostore H q.id (ofs q.lo j) esz tz off y k:=by
 obtain⟨l',h1,h2⟩:=bind_some h
 unfold FJ at h1
 cases hx:B9 l j with
 |none=>rw[hx]at h1;cases h1
 | some x=>
  rw[hx]at h1
  simp only[K2,E3]at h1
  obtain⟨hb,h3⟩:=Wc hE hx;obtain⟨y',q1,q2,q3,q4⟩:=hu x;have e1:=ZF hE (f:=f) h3
  have e2:(lst f l).set j.toNat (f (u x))=lst f l':=by
   rw[←h1,lst_eq,lst_eq,List.map_set]
  subst hE;have el:=N3 (f:=f) l
  have ej:(ofs q.lo j).toNat=q.pre.length+j.toNat:=by rw[ofs_eq,hq.1];omega
  refine⟨_,y',q1,q2,q3,hle,hO.get i hi,?_,?_⟩
  ·rw[ofs_eq,hq.1];grind
  rw[ej,ZU (by rw[el];omega),AT2 (by rw[el];omega),e1,q4,e2];refine hk l' _ ⟨hq.1,?_⟩ h2 (hO.set i hi);rw[hq.2,len_eq,len_eq,←h1,List.length_set]
theorem Aq3 {by_:Nat} (hby:by_≤131072) {z:V} {z0:α} (hz:DF z (f z0)) (hO:C8 Φ H0 L H) {n m:Int} {k:V→A5→Prop} {F:List α→Option R} (h:(mkL n m z0).bind F=some r)
 (hk:∀l' (q:OG) H',Cd q (Ar.len l')→F l'=some r→C8 Φ H0 (.blk q.id (.arr sz (q.pre++lst f l'++q.rest))::L) H'→k (.own q.id q.lo q.n) H'):E.omk sz by_ z n m H k:=by
 subst hE;obtain⟨l',h1,h2⟩:=bind_some h
 unfold mkL at h1
 split at h1
 ·rename_i hc;cases h1;refine⟨⟨hc.1,hc.2.1,?_⟩,List.replicate m.toNat (f z0),?_,fun id hid=>?_⟩
  ·have:m*(by_:Nat)≤1073741824*131072:=Int.mul_le_mul hc.2.2 (by omega) (by omega) (by omega);omega
  ·have:∀k:Nat,M3 (List.replicate k z) (List.replicate k (f z0)):=fun k=>by
    induction k with
    |zero=>exact .nil
    |succ k ih=>rw[List.replicate_succ,List.replicate_succ];exact .cons hz ih
   exact this _
  have e:List.replicate m.toNat (f z0)=[]++lst f (List.replicate n.toNat z0)++List.replicate (m.toNat-n.toNat) (f z0):=by
   rw[lst_eq,List.map_replicate,I5,List.replicate_append_replicate];grind
  rw[e];exact hk _ ⟨id,0,n,[],List.replicate (m.toNat-n.toNat) (f z0)⟩ _ ⟨rfl,by rw[len_eq];simp;omega⟩ h2 (hO.push hid rfl)
 cases h1
theorem Xi {by_:Nat} {z:V} (hsz:∀x,(f x).cells.length=sz) (hby:by_≤131072) (hO:C8 Φ H0 L H) (hq:Cd q (Ar.len l)) (i:Nat) (hi:L[i]? =some (.blk q.id (.arr sz (q.pre++lst f l++q.rest)))) {y:V} {m:List α} {k:V→A5→Prop} {F:List α→Option R}
 (hs:So sz H y (lst f m)) (h:(P9 l m).bind F=some r)
 (hk:∀x (q:OG) H',Cd q (Ar.len x)→C8 Φ H0 (L.set i (.blk q.id (.arr sz (q.pre++lst f x++q.rest)))) H'→F x=some r→k (.own q.id q.lo q.n) H'):E.oapp sz by_ z H (.own q.id q.lo q.n) y k:=by
 subst hE;obtain⟨x,h1,h2⟩:=bind_some h;have el:=N3 (f:=f) l;have em:=N3 (f:=f) m
 have hn:q.n=(l.length:Nat):=by rw[hq.2,len_eq]
 unfold P9 at h1
 split at h1
 ·rename_i hc;cases h1;refine⟨_,hs,_,hO.get i hi,fun hfit=>?_,fun _=>⟨?_,fun t j ht=>?_⟩⟩
  rotate_left
  ·rw[em,hn,R6];exact N0 (S4 hc hby) (by decide)
  rotate_left
  ·have e:CL (q.pre++lst f l++q.rest) (q.lo+q.n).toNat (lst f m)=q.pre++lst f (l++m)++q.rest.drop m.length:=by
    rw[AI8 (by rw[hq.1,hn,el];omega),Nw,em]
   rw[e];refine hk _ ⟨q.id,q.lo,q.n+((lst f m).length:Nat),q.pre,q.rest.drop m.length⟩ _ ⟨hq.1,?_⟩ (hO.set i hi) h2;rw[len_eq,hn,em];simp
  have e:Q3 (q.pre++lst f l++q.rest) q.lo q.n++lst f m++List.replicate j z=[]++lst f (l++m)++List.replicate j z:=by
   rw[Sr hq.1 (by rw[el];exact hn),Nw,I5]
  rw[e];refine hk _ ⟨t,0,q.n+((lst f m).length:Nat),[],List.replicate j z⟩ _ ⟨rfl,?_⟩ (hO.swap' i hi ht) h2;rw[len_eq,hn,em];simp
 cases h1
theorem Aq4 {by_:Nat} {z:V} (hsz:∀x,(f x).cells.length=sz) (hby:by_≤131072) (hO:C8 Φ H0 L H) {x:V} (hx:x= .sl [] .nil∨x= .sl [] .full) {y:V} {m:List α} {k:V→A5→Prop} {F:List α→Option R}
 (hs:So sz H y (lst f m)) (h:(P9 [] m).bind F=some r)
 (hk:∀x (q:OG) H',Cd q (Ar.len x)→C8 Φ H0 (.blk q.id (.arr sz (q.pre++lst f x++q.rest))::L) H'→F x=some r→k (.own q.id q.lo q.n) H'):E.oapp sz by_ z H x y k:=by
 subst hE;obtain⟨x',h1,h2⟩:=bind_some h;have em:=N3 (f:=f) m
 unfold P9 at h1
 split at h1
 ·rename_i hc;cases h1;refine⟨_,hs,?_⟩
  have key:(lst f m).length*by_≤140737488355328∧∀t j,H t=none→k (.own t 0 ((lst f m).length:Nat)) (upd H t (some (.arr sz (lst f m++List.replicate j z)))):=by
   refine⟨?_,fun t j ht=>?_⟩
   ·rw[em];exact N0 (S4 (by simpa using hc) hby) (by decide)
   refine hk m ⟨t,0,((lst f m).length:Nat),[],List.replicate j z⟩ _ ⟨rfl,by rw[len_eq,em]⟩ ?_ (by grind);exact hO.push ht rfl
  grind[Hx]
 cases h1
theorem Fi (h:Cd q (Ar.len l)):Cd q ((lst f l).length:Nat):=⟨h.1,by rw[h.2,len_eq,N3]⟩
theorem AS7 (hO:C8 Φ H0 L H)(hq:Cd q (Ar.len l))(i:Nat)(hi:L[i]? =some (.blk q.id (.arr sz (q.pre++lst f l++q.rest)))):So sz H (.own q.id q.lo q.n) (lst f l):=by
 refine⟨_,hO.get i hi,?_⟩;rw[Sr hq.1 (by rw[hq.2,len_eq,N3])];exact .refl _
theorem Ow (hsz:∀x,(f x).cells.length=sz){ys:List V}{tl:K1}(h:M3 ys (lst f l)):So sz H (.sl ys tl) (lst f l):=⟨h,OO hsz l⟩
theorem AK1 (hO:C8 Φ H0 L H) (hq:Cd q (Ar.len l)) (i:Nat) (hi:L[i]? =some (.blk q.id (.arr sz (q.pre++lst f l++q.rest)))) {lo hi':Option Int} {k:V→Prop} {F:List α→Option R}
 (h:(O5 l lo hi' none).bind F=some r) (hk:∀x (q:OG),Cd q (Ar.len x)→C8 Φ H0 (L.set i (.blk q.id (.arr sz (q.pre++lst f x++q.rest)))) H→F x=some r→k (.own q.id q.lo q.n)):
 E.oslice sz H q.id q.lo q.n lo hi' none k:=by
 subst hE;obtain⟨x,h1,h2⟩:=bind_some h;have el:=N3 (f:=f) l
 have hn:q.n=(l.length:Nat):=by rw[hq.2,len_eq]
 unfold O5 at h1
 split at h1
 ·rename_i hc;cases h1;obtain⟨c1,c2,c3,c4,c5⟩:=hc
  simp only[Ds]at c3
  refine⟨_,hO.get i hi,?_,?_⟩
  ·rw[hn,hq.1]
   grind
  rw[hn]
  generalize hA:lo.getD 0=a at *
  generalize hB:hi'.getD (l.length:Nat)=b at *
  have hm:((l.drop a.toNat).take (b.toNat-a.toNat)).length=b.toNat-a.toNat:=by simp;omega
  refine hk _ ⟨q.id,q.lo+a,b-a,q.pre++lst f (l.take a.toNat),lst f (l.drop b.toNat)++q.rest⟩ ⟨?_,?_⟩ ?_ h2
  ·simp only[G8,N3,U3,hq.1];omega
  ·rw[len_eq,hm];grind
  have e:q.pre++lst f (l.take a.toNat)++lst f ((l.drop a.toNat).take (b.toNat-a.toNat))++(lst f (l.drop b.toNat)++q.rest)=q.pre++lst f l++q.rest:=by
   have e1:l=l.take a.toNat++((l.drop a.toNat).take (b.toNat-a.toNat)++l.drop b.toNat):=by
    have e2:l.drop b.toNat=(l.drop a.toNat).drop (b.toNat-a.toNat):=by rw[IP];grind
    rw[e2,BF,BF]
   have e3:lst f l=lst f (l.take a.toNat)++(lst f ((l.drop a.toNat).take (b.toNat-a.toNat))++lst f (l.drop b.toNat)):=by
    rw[Nw,Nw,←e1]
   rw[e3];grind
  grind[C8.set_self]
 cases h1
theorem Az2 (hO:C8 Φ H0 L H)(hq:Cd q (Ar.len l))(i:Nat)(hi:L[i]? =some (.blk q.id (.arr sz (q.pre++lst f l++q.rest)))){lo hi':Option Int}{k:V→Prop}{F:List α→Option R}
 (h:(O5 l lo hi' none).bind F=some r) (hk:∀x (q':OG),So sz H (.own q'.id q'.lo q'.n) (lst f x)→F x=some r→k (.own q'.id q'.lo q'.n)):
 E.oslice sz H q.id q.lo q.n lo hi' none k:=
 AK1 hE hO hq i hi h fun x q' hq' hO' h2=>hk x q' (AS7 hE hO' hq' i (by rw[Au];grind)) h2
theorem Ai6 (hO:C8 Φ H0 L H)(hq:Cd q (Ar.len l))(i:Nat){k:List V→A5→Prop}(hi:L[i]? =some (.blk q.id (.arr sz (q.pre++lst f l++q.rest))))(hk:∀H',C8 Φ H0 (L.eraseIdx i) H'→k (lst f l) H'):E.ofrz H q.id q.lo q.n k:=by
 subst hE;have:=hk _ (hO.del i hi);refine⟨_,_,_,hO.get i hi,.refl _,?_⟩;rw[Sr hq.1 (by rw[hq.2,len_eq,N3])];exact this
end
def ZE {α:Type}{f:α→V}{l:List α}(h:lst f l=[]):l=[]:=by
 rw[lst_eq]at h;simp_all
def Ad0 {α:Type}{f:α→V}{l r:List α}(hx:lst f l=[])(h:(P9 [] l).bind (fun x=>some x)=some r):lst f r=[]:=by
 rw[ZE hx]at h
 grind[P9,lst_eq]
def An1 (F:A5)(sz:Nat)(xs:List V)(v:V)(H':A5):Prop:=∃q:OG,v= .own q.id q.lo q.n∧Cd q (xs.length:Nat)∧F q.id=none∧H'=upd F q.id (some (.arr sz (q.pre++xs++q.rest)))
def US (P:Program)(f:FuncId)(args:List V)(sz:Nat)(xs:List V):Prop:=∀H,M8 P f args H (An1 H sz xs)
def XW (P:Program)(f:FuncId)(args:List V)(sz:Nat)(xs xs':List V):Prop:=
 ∀H (q:OG),Cd q (xs.length:Nat)→H q.id=some (.arr sz (q.pre++xs++q.rest))→M8 P f (.own q.id q.lo q.n::args) H (An1 (upd H q.id none) sz xs')
def EG (mk:V→V):Prop:=∀(g:Gh) (w:World) (u:Value) (x:V),VR g w u (mk x)→∃v,VR g w v x∧∀(g':Gh) (w':World) (y:V),Af g w g' w'→VR g' w' v y→VR g' w' u (mk y)
theorem EG.id:EG fun x=>x:=fun _ _ u _ h=>⟨u,h,fun _ _ _ _ k=>k⟩
def EG.agg (cs:List V) (i:Nat) (hi:i<cs.length):EG fun x=>.agg (cs.set i x):=fun g w u x h=>by
 cases h with
 |agg hl h1 hv=>
  rename_i vs
  have hi':i<(cs.set i x).length:=by grind
  refine⟨vs.getD i undef,by have:=hv i hi';rwa[EZ hi,A1 rfl]at this,fun g' w' y s k=>?_⟩;refine .agg (by grind) (fun j hj=>h1 j (by grind)) fun j hj=>?_;rw[EZ hi]
  split
  ·simp_all
  rename_i e;have:=hv j (by grind)
  rw[EZ hi,A0 e]at this
  exact this.mono s
def EG.tup (cs:List V) (i:Nat) (hi:i<cs.length):EG fun x=>.tup (cs.set i x):=fun g w u x h=>by
 cases h with
 |tup hl hv=>
  rename_i vs
  have hi':i<(cs.set i x).length:=by grind
  refine⟨vs.getD i undef,by have:=hv i hi';rwa[EZ hi,A1 rfl]at this,fun g' w' y s k=>?_⟩;refine .tup (by grind) fun j hj=>?_;rw[EZ hi]
  split
  ·simp_all
  rename_i e;have:=hv j (by grind)
  rw[EZ hi,A0 e]at this
  exact this.mono s
def EG.comp {m n:V→V}(hm:EG m)(hn:EG n):EG fun x=>m (n x):=fun g w u x h=>by
 grind[EG]
def M8.adopt {P:Program} {f:FuncId} {args:List V} {H:A5} {K:V→A5→Prop} {sz:Nat} (h:M8 P f args H fun x H'=>K x H'∨(x= .sl [] .nil∧∀t,H' t=none→K (.own t 0 0) (upd H' t (some (.arr sz []))))):M8 P f args H K:=
 fun g w vals hR hA=>(h g w vals hR hA).mono fun v w' ⟨g',x,H',s,hR',hv,hK⟩=>by
  rcases hK with hK|⟨rfl,hK⟩
  ·grind[N5]
  obtain⟨g2,s2,hR2,hn,hv2⟩:=FY hR' sz (.inl rfl) hv;exact⟨g2,_,_,s.trans s2,hR2,hv2,hK _ hn⟩
def C8.last {F H:A5}{t:Nat}{b:IF}(h:C8 Eq F [.blk t b] H):F t=none∧HU (upd F t (some b)) H:=by
 obtain⟨hs,F',H1,h0,h1,h2⟩:=h;subst h1;have h3:=h0.has 0 _ t b rfl rfl;refine⟨h3.1,fun x c hx=>?_⟩
 by_cases e:x=t
 ·grind[HU,upd]
 rw[C9 _ _ e]at hx;exact h2 _ _ (h0.ext x c hx)
def C8.only {F H:A5}{L:List En}{t:Nat}{b:IF}(h:C8 Eq F L H)(i:Nat)(hi:L[i]? =some (.blk t b)):C8 Eq F [.blk t b] H:=by
 obtain⟨hs,F',H1,h0,h1,h2⟩:=h;subst h1;have h3:=h0.has i _ t b hi rfl;refine⟨hs,upd F t (some b),upd F t (some b),(Ce.start F).push h3.1 rfl,rfl,fun x c hx=>?_⟩
 by_cases e:x=t
 ·grind[HU,upd]
 rw[C9 _ _ e]at hx;exact h2 _ _ (h0.ext x c hx)
def C8.only1 {F H:A5}{L:List En}{t:Nat}{b:IF}(h:C8 Eq F (.blk t b::L) H):C8 Eq F [.blk t b] H:=by
 obtain⟨hs,F',H1,h0,h1,h2⟩:=h;subst h1;have h3:=h0.has 0 _ t b rfl rfl;refine⟨hs,upd F t (some b),upd F t (some b),(Ce.start F).push h3.1 rfl,rfl,fun x c hx=>?_⟩
 by_cases e:x=t
 ·grind[HU,upd]
 rw[C9 _ _ e]at hx;exact h2 _ _ (h0.ext x c hx)
section
variable {P:Program}{T:ID}{f:FuncId}{fn:Func}{c:Code}{n:Nat}{rs:List ResultVar}{args:List V}
def KD {F H:A5}{sz:Nat}{xs:List V}(cf:Cf)(hP:Vm P T)(hf:P.funcs[f]? =some fn)(hb:fn.body=some c)(hd:M6 cf c=true)
 (hcall:∀vals w,(callFunc f vals).run P w= .ok (.enter f vals) w) (hnt:fn.ntmps=n) (hrs:fn.results.toList=rs) (hn:Nat.ble args.length n=true)
 (h:∀(E:FN) (K:V→A5→Prop),E=I0 P n none→(∀(q:OG) L H',Cd q (xs.length:Nat)→C8 Eq F (.blk q.id (.arr sz (q.pre++xs++q.rest))::L) H'→K (.own q.id q.lo q.n) H')→(xs=[]→∀L H',C8 Eq F L H'→K (.sl [] .nil) H')→run E T n cf c ⟨CN args 0,[]⟩ H (Qe E T rs K)):
 M8 P f args H (An1 F sz xs):=by
 refine M8.adopt (sz:=sz) (M8.le (X8 (K:=fun x H'=>∃y H2,DF x y∧HU H2 H'∧(An1 F sz xs y H2∨(y= .sl [] .nil∧∀t,H2 t=none→An1 F sz xs (.own t 0 0) (upd H2 t (some (.arr sz [])))))) cf hP.1 hP.2 hf hb hd hcall hnt hrs hn fun E hE=>?_));refine h E _ hE (fun q L H' hq hO=>?_) fun hx L H' hO=>?_
 ·obtain⟨h1,h2⟩:=hO.only1.last;exact⟨_,_,.refl _,h2,.inl ⟨q,rfl,hq,h1,rfl⟩⟩
 exact⟨_,F,.refl _,hO.ext,.inr ⟨rfl,fun t ht=>⟨⟨t,0,0,[],[]⟩,rfl,⟨rfl,by rw[hx];rfl⟩,ht,by rw[hx];rfl⟩⟩⟩
end
section
variable {P:Program}{nt:Nat}{rd:Option Nat}{T:ID}{E:FN}
variable (hE:E=I0 P nt rd)
include hE
variable {α R S:Type}{f:α→V}{Φ:A5→A5→Prop}{H0 H:A5}{L:List En}{sz:Nat}{q:OG}{r:R}{m:Option (List α)}{F:List α→Option R}{fid:FuncId}{args args':List V}{k:V→A5→Prop}
theorem Nv (h:m.bind F=some r) (hc:∀x,m=some x→US P fid args' sz (lst f x)) (hl:M3 args args') (hO:C8 Φ H0 L H)
 (hk:∀x (q:OG) H',Cd q (Ar.len x)→C8 Φ H0 (.blk q.id (.arr sz (q.pre++lst f x++q.rest))::L) H'→F x=some r→k (.own q.id q.lo q.n) H'):
 E.call (.func (.func fid) [] []) args H k:=by
 subst hE;obtain⟨x,h1,h2⟩:=bind_some h;refine M8.value (F:=[]) (C:=[]) ?_;have:=((hc x h1) H).args hl;simp only[I5,G4]
 exact this.mono fun v H' ⟨q,e1,e0,e2,e3⟩=>by
  subst e1;subst e3;exact hk x q _ (by rw[len_eq];rwa[N3]at e0) (hO.push e2 rfl) h2
theorem ZA {l:List α} (hO:C8 Φ H0 L H) (hq:Cd q (Ar.len l)) (i:Nat) (hi:L[i]? =some (.blk q.id (.arr sz (q.pre++lst f l++q.rest)))) (h:m.bind F=some r) (hc:∀x,m=some x→XW P fid args' sz (lst f l) (lst f x)) (hl:M3 args args')
 (hk:∀x (q:OG) H',Cd q (Ar.len x)→C8 Φ H0 (L.set i (.blk q.id (.arr sz (q.pre++lst f x++q.rest)))) H'→F x=some r→k (.own q.id q.lo q.n) H'):
 E.call (.func (.func fid) [] []) (.own q.id q.lo q.n::args) H k:=by
 subst hE;obtain⟨x,h1,h2⟩:=bind_some h;refine M8.value (F:=[]) (C:=[]) ?_;have:=((hc x h1) H q (by rw[N3,←len_eq];exact hq) (hO.get i hi)).args (.cons (.refl _) hl);simp only[I5,G4]
 exact this.mono fun v H' ⟨q',e1,e0,e2,e3⟩=>by
  subst e1;subst e3;exact hk x q' _ (by rw[len_eq];rwa[N3]at e0) (hO.swap i hi e2) h2
theorem AK3 {p:Prop}{v:V}{a b:Unit→Prop}(hv:Az1 v=some p)(h1:p→a ())(h0:b ()):E.nilc v a b:=by grind[I0]
end
section
variable {P:Program}{T:ID}{f:FuncId}{fn:Func}{c:Code}{n:Nat}{rs:List ResultVar}{args:List V}
def Am6 {H:A5} {sz:Nat} {q:OG} {xs':List V} (cf:Cf) (hP:Vm P T) (hf:P.funcs[f]? =some fn) (hb:fn.body=some c) (hd:M6 cf c=true)
 (hcall:∀vals w,(callFunc f vals).run P w= .ok (.enter f vals) w) (hnt:fn.ntmps=n) (hrs:fn.results.toList=rs) (hn:Nat.ble (args.length+1) n=true)
 (h:∀(E:FN) (K:V→A5→Prop),E=I0 P n none→
  (∀(t:Nat) (lo m:Int) (row pre rest:List V) H',row=pre++xs'++rest→lo=(pre.length:Nat)→m=(xs'.length:Nat)→(t=q.id∨H t=none)→HU (upd (upd H q.id none) t (some (.arr sz row))) H'→K (.own t lo m) H')→
  run E T n cf c ⟨CN (.own q.id q.lo q.n::args) 0,[]⟩ H (Qe E T rs K)):
 M8 P f (.own q.id q.lo q.n::args) H (An1 (upd H q.id none) sz xs'):=by
 refine M8.le (X8 (K:=fun x H'=>∃y H2,DF x y∧HU H2 H'∧An1 (upd H q.id none) sz xs' y H2) cf hP.1 hP.2 hf hb hd hcall hnt hrs hn fun E hE=>?_);refine h E _ hE fun t lo m row pre rest H' e1 e2 e3 e4 e5=>?_;subst e1;refine⟨_,_,.refl _,e5,⟨t,lo,m,pre,rest⟩,rfl,⟨e2,e3⟩,?_,rfl⟩
 grind[upd]
end
section
variable {P:Program}{nt:Nat}{rd:Option Nat}{T:ID}{E:FN}
variable (hE:E=I0 P nt rd)
include hE
variable {H:A5}{sz id:Nat}{l n RL:Int}{row:List V}
theorem PK (hk:H id=some (.arr sz row))(hl:RL=(row.length:Nat)){lo hi:Option Int}{k:V→Prop}(a b:Int)(ha:lo.getD 0=a)(hb:hi.getD n=b)(h1:0≤a)(h2:a≤b)(h3:l+b≤RL)(h:∀l' n',l'=l+a→n'=b-a→k (.own id l' n')):
 E.oslice sz H id l n lo hi none k:=by
 grind[I0]
theorem Ay0 (hk:H id=some (.arr sz row))(hl:RL=(row.length:Nat)){lo hi:Option Int}{m:Int}{k:V→Prop}(a b:Int)(ha:lo.getD 0=a)(hb:hi.getD n=b)(h1:0≤a)(h2:a≤b)(h3:b≤m)(h4:l+m≤RL)(h5:hi.isSome=true)(h:k .bad):
 E.oslice sz H id l n lo hi (some m) k:=by
 grind[I0]
theorem Ah6 {k:Int→Prop}(h:k n):E.olen n k:=by grind[I0]
theorem Bf6 {c:Bool}{x y:Unit→Prop}(h1:c=true→x ())(h2:c=false→y ()):E.br c x y:=by simp_all[I0]
theorem r_ln {xs:List V}(hl:RL=(xs.length:Nat)){k:Int→Prop}(h:k RL):E.ln xs k:=by simp_all[I0]
theorem AU4 {k:V→Prop}(h:k (.sl [] .nil)):E.slice sz [] .nil none (some 0) none k:=by
 subst hE;exact⟨⟨by decide,by decide,by decide,by decide,fun h=>(by cases h),.inl (by decide)⟩,h⟩
theorem AS6 (hk:H id=some (.arr sz row)):So sz H (.own id l n) (Q3 row l n):=⟨_,hk,.refl _⟩
theorem AU5 (hk:H id=some (.arr sz row)){y:V}{ys':List V}(hs:So sz H y ys'){YL:Int}(hy:YL=(ys'.length:Nat)){k:V→A5→Prop}
 (h:∀m row',m=(if n<YL then n else YL)→row'=CL row l.toNat (ys'.take n.toNat)→k (.int .i64 m) (upd H id (some (.arr sz row')))):E.ocopy sz H (.own id l n) y k:=by
 grind[I0]
theorem AI0 {z:V}(hk:H id=some (.arr sz row)){k:A5→Prop}(h:∀row',row'=CL row l.toNat (List.replicate n.toNat z)→k (upd H id (some (.arr sz row')))):E.oclear sz z H (.own id l n) k:=by
 simp_all[I0]
theorem Bf5 {by_:Nat}{z:V}(hk:H id=some (.arr sz row))(hl:RL=(row.length:Nat)){y:V}{ys':List V}(hs:So sz H y ys'){YL:Int}(hy:YL=(ys'.length:Nat)){k:V→A5→Prop}
 (hin:l+n+YL≤RL→∀m row',m=n+YL→row'=CL row (l+n).toNat ys'→k (.own id l m) (upd H id (some (.arr sz row'))))
 (hout:RL<l+n+YL→(n.toNat+ys'.length)*by_≤140737488355328∧∀t m row' j,H t=none→m=n+YL→row'=Q3 row l n++ys'++List.replicate j z→k (.own t 0 m) (upd H t (some (.arr sz row')))):
 E.oapp sz by_ z H (.own id l n) y k:=by
 subst hE;subst hl;subst hy;exact⟨_,hs,_,hk,fun e=>hin e _ _ rfl rfl,fun e=>⟨(hout e).1,fun t j ht=>(hout e).2 t _ _ j ht rfl rfl⟩⟩
theorem AI1 {by_:Nat} {z x:V} {i0:Int} (i:Int) (hi:i0=i) (hx:x= .sl [] .nil∨x= .sl [] .full) (h0:0≤i) (hb:i.toNat*by_≤140737488355328) {k:V→A5→Prop}
 (hout:∀t m row' j,H t=none→m=i→row'=List.replicate i.toNat z++List.replicate j z→k (.own t 0 m) (upd H t (some (.arr sz row')))):
 E.oappz sz by_ z H x i0 k:=by
 subst hE;subst hi
 generalize i0=i at *
 have e:((i.toNat:Nat):Int)=i:=by omega
 have key:Hx H k sz by_ z x (List.replicate i.toNat z):=by
  have h2:(List.replicate i.toNat z).length*by_≤140737488355328∧∀t j,H t=none→k (.own t 0 ((List.replicate i.toNat z).length:Nat)) (upd H t (some (.arr sz (List.replicate i.toNat z++List.replicate j z)))):=by
   simp_all
  grind[Hx]
 refine⟨⟨h0,?_⟩,key⟩
 rcases hx with rfl|rfl<;>simpa[ownN]using hb
end
end Go.Ab
namespace Go.Ab
open Go.RowKit
def WM {A B C row:List V}{lo n:Int}(hr:row=A++B++C)(h0:lo=(A.length:Nat))(h1:n=(B.length:Nat)):Q3 row lo n=B:=by
 simp_all[Q3]
def Xh {A B C ys row:List V}{i:Nat}(hr:row=A++B++C)(hi:i=A.length)(hl:ys.length=B.length):CL row i ys=A++ys++C:=by
 simp_all[CL]
def AS4 {row ys:List V}{l n m RL:Int}(hRL:RL=(row.length:Nat))(hy:m=(ys.length:Nat))(h0:0≤l)(h1:0≤n)(h:l+n+m≤RL):(l+n).toNat+ys.length≤row.length:=by omega
def AZ9 {pre xs rest row row1 row2:List V} {z:V} {lo i j n l1 n1 l2 n2 m l3 n3:Int} (hr:row=pre++xs++rest) (e1:lo=(pre.length:Nat)) (e2:n=(xs.length:Nat)) (h0:0≤i) (h1:i≤j) (h2:j≤(xs.length:Nat))
 (q1:l1=lo) (q2:n1=i) (q3:l2=lo+j) (q4:n2=n-j) (hr1:row1=CL row (l1+n1).toNat (Q3 row l2 n2)) (q5:m=n1+((Q3 row l2 n2).length:Nat)) (q6:l3=l1+m) (q7:n3=n-m) (hr2:row2=CL row1 l3.toNat (List.replicate n3.toNat z)):
 row2=pre++(xs.take i.toNat++xs.drop j.toNat)++(List.replicate (j-i).toNat z++rest)∧m=((xs.take i.toNat++xs.drop j.toNat).length:Nat):=by
 have e3:Q3 row l2 n2=xs.drop j.toNat:=by
  refine WM (A:=pre++xs.take j.toNat) (C:=rest) ?_ ?_ ?_
  ·rw[hr];simp_all
  ·simp;omega
  grind
 rw[e3]at hr1 q5
 have hm:m=((xs.take i.toNat++xs.drop j.toNat).length:Nat):=by grind
 refine⟨?_,hm⟩
 have hr1':row1=(pre++xs.take i.toNat)++xs.drop j.toNat++((xs.drop i.toNat).drop (xs.length-j.toNat)++rest):=by
  rw[hr1];refine Xh (B:=(xs.drop i.toNat).take (xs.length-j.toNat)) ?_ ?_ ?_
  ·rw[hr]
   grind[List.take_append_drop]
  ·simp;omega
  grind
 rw[hr2];have:=Xh (row:=row1) (A:=pre++xs.take i.toNat++xs.drop j.toNat) (B:=(xs.drop i.toNat).drop (xs.length-j.toNat)) (C:=rest) (ys:=List.replicate n3.toNat z) (i:=l3.toNat) (by rw[hr1'];simp_all) (by grind) (by grind);rw[this,show n3.toNat=(j-i).toNat by grind]
 simp_all
def AW6 {a b by_:Nat}(h:a+b≤1073741824)(hb:by_≤131072):(a+b)*by_≤140737488355328:=N0 (S4 h hb) (by decide)
def AW9 {α:Type} [Ar] {f:α→V} {l r:List α} {i j:Int} (h:SI l i j=some r):0≤i∧i≤j∧j≤((lst f l).length:Nat)∧lst f r=(lst f l).take i.toNat++(lst f l).drop j.toNat:=by
 unfold SI at h
 split at h
 ·rename_i hc;cases h
  simp_all[lst_eq]
 cases h
def AL7 {α:Type}[O6][Ar]{f:α→V}{l r:List α}{n:Int}(h:As6 l n=some r):0≤n∧n≤1073741824∧lst f r=[]:=by
 grind[As6,lst_eq]
end Go.Ab
namespace Go.Ab
open Go.RowKit
variable [O6]
end Go.Ab
namespace Go.Ab
open Go.RowKit
end Go.Ab
namespace Go.Ab
def QO {K X:Type}[DecidableEq K](m:List (K×X))(k:K)(z:X):Option (X×Bool):=some (match m.find? (fun p=>decide (p.1=k))with|some p=>(p.2,true)|none=>(z,false))
def PF {K X:Type}[DecidableEq K](m:List (K×X))(k:K)(v:X):Option (List (K×X)):=some (if m.any (fun p=>decide (p.1=k))=true then m.map (fun p=>if p.1=k then(k,v)else p)else m++[(k,v)])
def Uz {α:Type}(l:List α)(a:Int)(m:List α):Option (List α×Int):=
 if 0≤a∧a≤(l.length:Nat)then some (l.take a.toNat++m.take (l.length-a.toNat)++l.drop (a.toNat+m.length),if(l.length:Int)-a<(m.length:Nat)then(l.length:Int)-a else(m.length:Nat))else none
end Go.Ab
namespace Go.Ab
variable {α:Type}
def VQ (cmp:α→α→Option Int)(a b:α):Bool:=match cmp a b with|some c=>decide (c<0)|none=>false
def geC (cmp:α→α→Option Int)(a b:α):Bool:=match cmp a b with|some c=>decide (0≤c)|none=>false
def Ak4 (lt:α→α→Bool)(x:α):List α→List α
 |[]=>[x]
 |y::l=>if lt x y then x::y::l else y::Ak4 lt x l
def OW (lt:α→α→Bool):List α→List α
 |[]=>[]
 |x::l=>Ak4 lt x (OW lt l)
def CO (cmp:α→α→Option Int):List α→Bool
 |[]=>true
 |a::r=>geC cmp a a&&r.all (fun b=>VQ cmp a b&&geC cmp b a)&&CO cmp r
def Mp (cmp:α→α→Option Int)(l:List α):Option (List α):=
 if decide (l.length<4611686018427387904)&&CO cmp (OW (VQ cmp) l)then some (OW (VQ cmp) l)else none
def QL (lt:α→α→Bool) (x:α):∀l,(Ak4 lt x l).Perm (x::l)
 |[]=>.refl _
 |y::l=>by
  unfold Ak4
  split
  ·exact .refl _
  exact((QL lt x l).cons y).trans (.swap _ _ _)
def JH (lt:α→α→Bool):∀l,(OW lt l).Perm l
 |[]=>.refl _
 |x::l=>(QL lt x _).trans ((JH lt l).cons x)
variable {cmp:α→α→Option Int}
def Af6 {l r:List α} (h:Mp cmp l=some r):r.Perm l∧CO cmp r=true∧l.length<4611686018427387904:=by
 unfold Mp at h
 split at h
 ·rename_i hc;cases h
  simp only[K3,G1]at hc
  exact⟨JH _ l,hc.2,hc.1⟩
 cases h
def Rel (cmp:α→α→Option Int)(a b:α):Prop:=VQ cmp a b=true∧geC cmp b a=true
def ES:∀{r:List α},CO cmp r=true↔(∀a∈r,geC cmp a a=true)∧r.Pairwise (Rel cmp)
 |[]=>by simp[CO]
 |a::r=>by
  simp only[CO,K3,Ek,Ew,GC,ES (r:=r),Rel]
  grind
def Bm8 {a b:α}(h:geC cmp a b=true):VQ cmp a b=false:=by
 unfold geC at h;grind[VQ]
def Bg6 {a b:α}(h:VQ cmp a b=true):∃c,cmp a b=some c:=by
 grind[VQ]
def BU {r:List α}(h:CO cmp r=true){i j:Nat}(hi:i<r.length)(hj:j<r.length):VQ cmp r[i] r[j]=decide (i<j):=by
 obtain⟨h1,h2⟩:=ES.1 h
 rw[Y9]at h2
 grind[VQ,geC,Rel]
def Af3 {r:List α}(h:CO cmp r=true){a b:α}(ha:a∈r)(hb:b∈r):∃c,cmp a b=some c:=by
 obtain⟨h1,h2⟩:=ES.1 h
 rw[Y9]at h2
 obtain⟨i,hi,rfl⟩:=M4 ha;obtain⟨j,hj,rfl⟩:=M4 hb
 rcases El i j with e|e|e
 ·exact Bg6 (h2 i j hi hj e).1
 ·grind[geC]
 grind[geC,Rel]
def Tb {r:List α}(h:CO cmp r=true){i j:Nat}(hi:i<r.length)(hj:j<r.length)(e:r[i]=r[j]):i=j:=by
 have a:=BU h hi hj;have b:=BU h hj hi;have c:=BU h hi hi
 rw[e]at a b c
 rw[BU h hj hj]at a b c
 grind
def WN {r:List α}(h:CO cmp r=true):r.Nodup:=by
 rw[List.Nodup,Y9];intro i j hi hj hij e;have:=Tb h hi hj e;omega
def NV {r s:List α} (h:CO cmp r=true) (hp:s.Perm r) (hs:s.Pairwise fun a b=>VQ cmp b a=false):s=r:=by
 refine Mi (le:=fun a b=>VQ cmp b a=false) (fun a b ha hb h1 h2=>?_) hs ?_ hp
 ·obtain⟨i,hi,rfl⟩:=M4 (hp.mem_iff.1 ha);obtain⟨j,hj,rfl⟩:=M4 hb
  rw[BU h hj hi]at h1
  rw[BU h hi hj]at h2
  grind
 exact(ES.1 h).2.imp fun h=>Bm8 h.2
def As3 {r:List α} (h:CO cmp r=true) {x:α} (hx:x∈r):∀{l:List α},(∀y∈l,y∈r)→l.Pairwise (fun a b=>VQ cmp b a=false)→(Ak4 (VQ cmp) x l).Pairwise (fun a b=>VQ cmp b a=false)
 |[],_,_=>by simp[Ak4]
 | y::l,hm,hp=>by
  rw[Ew]at hp
  unfold Ak4;obtain⟨i,hi,rfl⟩:=M4 hx;obtain⟨j,hj,e⟩:=M4 (hm y (by simp))
  split
  ·rename_i hlt;refine List.pairwise_cons.2 ⟨fun z hz=>?_,List.pairwise_cons.2 hp⟩;obtain⟨k,hk,rfl⟩:=M4 (hm z hz)
   rw[←e,BU h hi hj]at hlt
   rw[BU h hk hi]
   rcases List.mem_cons.1 hz with hz|hz
   ·have:=Tb h hk hj (hz.trans e.symm)
    grind
   have:=hp.1 _ hz
   rw[←e,BU h hk hj]at this
   grind
  rename_i hlt;refine List.pairwise_cons.2 ⟨fun z hz=>?_,As3 h hx (fun z hz=>hm z (by simp[hz])) hp.2⟩
  rcases List.mem_cons.1 ((QL _ _ _).mem_iff.1 hz)with hz|hz
  ·simp_all
  simp_all
def Wa {r:List α}(h:CO cmp r=true):∀{l:List α},(∀y∈l,y∈r)→(OW (VQ cmp) l).Pairwise (fun a b=>VQ cmp b a=false)
 |[],_=>by simp[OW]
 |x::l,hm=>As3 h (hm x (by simp)) (fun y hy=>hm y (by simp[(JH _ l).mem_iff.1 hy])) (Wa h fun y hy=>hm y (by simp[hy]))
def YB {l r:List α}(hp:r.Perm l)(h:CO cmp r=true)(hl:l.length<4611686018427387904):Mp cmp l=some r:=by
 have e:OW (VQ cmp) l=r:=NV h ((JH _ l).trans hp.symm) (Wa h fun y hy=>hp.mem_iff.2 hy)
 simp_all[Mp]
end Go.Ab
namespace Go.Ab
open Go.RowKit Go.Sort
variable [O6]
def Rl.more {g:Gh}{H:A5}{w w':World}(h:Rl g H w)(hb:Below g.base w w')(hs:∀b,b<w.heap.size→w'.heap[b]? =w.heap[b]?)(hd:w.drawn≤w'.drawn:=by first|exact Nat.le_refl _|exact Nat.le_succ _|exact Nat.le_add_right _ _):Af g w g w'∧Rl g H w':=by
 have s:Af g w g w':=⟨fun _ _ e=>e,fun _ _ e=>e,fun _ _ e=>e,rfl,fun b o hf=>by simp only[World.cell?,hs b (h.fz_lt hf)],hb,fun _ _ _=>rfl,hd⟩;exact⟨s,fun x k hx=>(h.blk x k hx).mono hx s fun y hy=>⟨hs y (h.lt hy),fun _ ho=>ho⟩,h.inj,fun b o hf=>by obtain⟨v,hv⟩:=h.frz b o hf;exact⟨v,(s.cell b o hf).trans hv⟩,h.nxt,N0 h.bnd hb.size,fun n=>(h.glb n).mono s⟩
def OA (q:OG)(zs:List Int):List V:=q.pre++zs.map (V.int .i64)++q.rest
def Kl (q:OG)(zs:List Int):(OA q zs).length=q.pre.length+zs.length+q.rest.length:=by grind[OA]
def YT {q:OG}{zs:List Int}{j:Nat}(hj:j<zs.length):(OA q zs).getD (q.pre.length+j) .bad= .int .i64 zs[j]:=by
 grind[OA]
def YS {q:OG}{zs ds:List Int}(hl:ds.length=zs.length){i:Nat}(hi:i<q.pre.length∨q.pre.length+ds.length≤i):(OA q ds).getD i .bad=(OA q zs).getD i .bad:=by
 grind[OA]
def AU9 {off:Nat}{ds:List Int}{c:Array Value}{k:Nat}(hk:k<c.size):(putCells (Value.int .i64) off ds.toArray c).getD k undef=if off≤k∧k<off+ds.length then .int .i64 (ds.toArray[k-off]!)else c.getD k undef:=by
 unfold putCells
 simp_all
def AR2 (P:Program)(f:FuncId)(zs ds:List Int)(r:OG→V):Prop:=
 ∀H (q:OG),Cd q (zs.length:Nat)→H q.id=some (.arr 1 (OA q zs))→M8 P f [.own q.id q.lo q.n] H fun x H'=>x=r q∧H'=upd H q.id (some (.arr 1 (OA q ds)))
def Ac4 {P:Program} {f:FuncId} {zs ds:List Int} {r:OG→V} {m:Nat} (hl:ds.length=zs.length)
 (hrun:∀vals w,(callFunc f vals).run P w= .ok (.enter f vals) w)
 (h0:zs=[]→∀p cap w,Calls P f #[.slice p 0 cap] w fun e w'=>∃v,e= .returned v∧w'=w∧(v= .slice p 0 cap∧(∀q,Cd q (zs.length:Nat)→r q= .own q.id q.lo q.n)∨v= .tuple #[]∧∀q,r q= .tup []))
 (h1:∀blk off cap w,0<zs.length→zs.length≤cap→Holds (Value.int .i64) w blk off zs.toArray→blk<w.heap.size→
  Calls P f #[.slice (some ⟨blk,off,none⟩) zs.length cap] w fun e w'=>∃v,e= .returned v∧(v= .slice (some ⟨blk,off,none⟩) m cap∧m≤zs.length∧(∀q,r q= .own q.id q.lo (m:Nat))∨v= .tuple #[]∧∀q,r q= .tup [])∧
   ∃n os,w'=grow (putRow (Value.int .i64) (Sort.ahead w n) blk off ds.toArray) os):AR2 P f zs ds r:=by
 intro H q hq hk g w vals hR hA;obtain⟨hlen,hv⟩:=hA;obtain⟨vals⟩:=vals
 match vals,hlen with
 | [v],_=>
  have hv1:=hv 0 (by simp)
  simp at hv1
  rw[hrun]
  show CallsIn Fence.wide 0 P f #[v] w _
  rw[callsIn_wide];have hq0:=hq;obtain⟨hlo,hn⟩:=hq;obtain⟨b,p,e1,e2,e3,e4,e5,e6,e7,e8,e9,e10⟩:=Fh hR hk hv1
  rw[Kl]at e2 e5 e7 e8 e10
  subst e2
  have hnn:q.n.toNat=zs.length:=by omega
  by_cases hz:zs=[]
  ·subst hz;have hd:ds=[]:=List.length_eq_zero_iff.1 hl;subst hd;rw[hnn];refine(h0 rfl p _ w).mono ?_;rintro e w' ⟨v,rfl,rfl,hcase⟩;refine⟨v,rfl,g,r q,H,Af.refl _ _,hR,?_,rfl,?_⟩
   ·rcases hcase with⟨rfl,hr⟩|⟨rfl,hr⟩
    ·rw[hr q hq0];rw[hnn]at hv1;exact hv1
    rw[hr];exact VR.und g w'
   grind[upd]
  have hzl:0<zs.length:=List.length_pos_iff.2 hz
  rcases e10 with e10|⟨c,T,k1,k2,k3,k4,k5,k6⟩
  ·omega
  have hp:=e8 (by omega);subst hp
  have hoff:(g.ow q.id).o+q.lo.toNat*1=(g.ow q.id).o+q.pre.length:=by rw[hlo];simp
  rw[hnn,hoff]
  have hblt:b<w.heap.size:=by
   grind
  have hcell:∀o,w.cell? ⟨b,o,none⟩=c[o]? :=fun o=>by simp[World.cell?,k2]
  have hH:Holds (Value.int .i64) w b ((g.ow q.id).o+q.pre.length) zs.toArray:=fun j hj=>by
   have hj':j<zs.length:=by omega
   refine⟨?_,by simp[World.frozen?,k2]⟩;have h:=(k4 (q.pre.length+j) 0 (by omega) (by omega)).2
   rw[YT hj']at h
   have h:=VR.int_inv h;rw[hcell]
   have hlt:(g.ow q.id).o+q.pre.length+j<c.size:=by omega
   rw[show(g.ow q.id).o+(q.pre.length+j)*1+0=(g.ow q.id).o+q.pre.length+j by omega]at h
   simp_all
  refine(h1 b _ _ w hzl (by omega) hH hblt).mono ?_;rintro e w' ⟨v,rfl,hcase,n,os,rfl⟩
  have hs:=Rl.setArr hR (ys:=OA q ds) (c':=putCells (Value.int .i64) ((g.ow q.id).o+q.pre.length) ds.toArray c) hk e1 (by rw[Kl];omega) k2 (by simp[putCells])
   (fun o ho=>by
    simp only[putCells,Rg]
    grind)
   (by rw[Kl,Kl,hl])
   (fun i hi=>by
    rw[Kl]at hi
    by_cases hm:i<q.pre.length∨q.pre.length+ds.length≤i
    ·rw[YS hl hm];grind[OA]
    grind[V.cells,OA])
   (fun i j hi hj=>by
    rw[Kl]at hi
    have hj0:j=0:=by omega
    subst hj0;rw[AU9 (by omega)]
    by_cases hm:i<q.pre.length∨q.pre.length+ds.length≤i
    ·rw[A0 (by omega),YS hl hm]
     simp_all
    obtain⟨j,rfl⟩:∃j,i=q.pre.length+j:=⟨i-q.pre.length,by omega⟩
    have hj:j<ds.length:=by omega
    rw[A1 (by omega),YT hj,show(g.ow q.id).o+(q.pre.length+j)*1+0-((g.ow q.id).o+q.pre.length)=j by omega]
    have:ds.toArray[j]! =ds[j]:=by simp[hj]
    rw[this]
    exact⟨rfl,VR.int _ _⟩)
  obtain⟨s1,R1⟩:=hs
  generalize hw1:w.setRow b (putCells (Value.int .i64) ((g.ow q.id).o+q.pre.length) ds.toArray c)=w1 at s1 R1
  have hsz1:w1.heap.size=w.heap.size:=by rw[←hw1];simp[World.setRow]
  have hheap:∀x,x<w1.heap.size→(grow (putRow (Value.int .i64) (Sort.ahead w n) b ((g.ow q.id).o+q.pre.length) ds.toArray) os).heap[x]? =w1.heap[x]? :=fun x hx=>by
   have hx':x<w.heap.size:=by omega
   simp only[grow,putRow,mapBlock,Sort.ahead];rw[Rq (by grind),GQ]
   by_cases hxb:b=x
   ·subst hxb;rw[A1 rfl,k2,←hw1,setRow_heap w b c _ T (0,0) k2];rfl
   rw[A0 hxb,←hw1,X6 w b _ x (fun e=>hxb e.symm)]
  have hbel:Below g.base w1 (grow (putRow (Value.int .i64) (Sort.ahead w n) b ((g.ow q.id).o+q.pre.length) ds.toArray) os):=by
   refine⟨by rw[←hw1];rfl,by rw[←hw1];rfl,by rw[←hw1];rfl,?_,fun k hk'=>?_⟩
   ·rw[hsz1];simp_all
   grind
  obtain⟨s2,R2⟩:=R1.more hbel hheap (by rw[←hw1];exact IU _ _);refine⟨v,rfl,g,r q,_,s1.trans s2,R2,?_,rfl,rfl⟩
  rcases hcase with⟨rfl,hm,hr⟩|⟨rfl,hr⟩
  ·rw[hr]
   have hcap:(g.ow q.id).cap=q.pre.length+zs.length+q.rest.length:=by rw[e7]
   have:=VR.own (g:=g) (w:=grow (putRow (Value.int .i64) (Sort.ahead w n) b ((g.ow q.id).o+q.pre.length) ds.toArray) os) (id:=q.id) (b:=b) (lo:=q.lo) (n:=(m:Nat)) (p:=some ⟨b,(g.ow q.id).o+q.pre.length,none⟩) e1 e3 (by omega) (by omega) (fun _=>by rw[e6,hoff])
   rw[hcap]at this
   simp_all
  rw[hr];exact VR.und _ _
end Go.Ab
namespace Go.Ab
def AM9 (x:Int):List Int→List Int
 |[]=>[x]
 |y::r=>if x≤y then x::y::r else y::AM9 x r
def Ud:List Int→List Int
 |[]=>[]
 |x::r=>AM9 x (Ud r)
theorem As2 (a:Int):∀(l m:List Int),(∀b∈l,¬a≤b)→(∀b∈m,a≤b)→AM9 a (l++m)=l++a::m
 |[],[],_,_=>rfl
 |[],y::m,_,h=>by simp_all[AM9]
 |y::l,m,h,k=>by
  simp only[Y8,AM9];rw[A0 (h y (by simp)),As2 a l m (fun b hb=>h b (by simp[hb])) k]
theorem VZ:∀l:List Int,Ud l=l.mergeSort fun x y=>decide (x≤y)
 |[]=>by simp[Ud]
 |a::l=>by
  have ht:∀x y z:Int,decide (x≤y)=true→decide (y≤z)=true→decide (x≤z)=true:=fun x y z h k=>by grind
  have hc:∀x y:Int,(decide (x≤y)||decide (y≤x))=true:=fun x y=>by simp;omega
  obtain⟨l1,l2,h1,h2,h3⟩:=List.mergeSort_cons ht hc a l;have hs:=Rm ht hc (a::l)
  rw[h1]at hs
  rw[Ud,VZ l,h1,h2]
  grind[As2,List.pairwise_cons]
def Ao6 (l:List Int):Option (List Int):=if l.length<4611686018427387904 then some (Ud l)else none
def Af5 {l r:List Int}(h:Ao6 l=some r):l.length<4611686018427387904∧r=l.mergeSort fun x y=>decide (x≤y):=by
 grind[Ao6,VZ]
end Go.Ab
namespace Go.Ab
open Go.RowKit
variable [O6]
def AR1 (P:Program)(f:FuncId)(zs ds:List Int):Prop:=AR2 P f zs ds (fun _=>.tup [])∧ds.length=zs.length
def YU [Ar](q:OG)(zs:List Int):q.pre++lst (V.int .i64) zs++q.rest=OA q zs:=by rw[lst_eq];rfl
section
variable [Ar]{P:Program}{nt:Nat}{rd:Option Nat}{E:FN}(hE:E=I0 P nt rd)
include hE
theorem AW1 {Φ:A5→A5→Prop}{H0 H:A5}{L:List En}{fid:FuncId}{q:OG}{k:V→A5→Prop}{R:Type}{m:Option (List Int)}{F:List Int→Option R}{r:R}
 {l:List Int} (hO:C8 Φ H0 L H) (hq:Cd q (Ar.len l)) (i:Nat) (hi:L[i]? =some (.blk q.id (.arr 1 (q.pre++lst (V.int .i64) l++q.rest)))) (h:m.bind F=some r) (hc:∀x,m=some x→AR1 P fid l x)
 (hk:∀x H',Cd q (Ar.len x)→C8 Φ H0 (L.set i (.blk q.id (.arr 1 (q.pre++lst (V.int .i64) x++q.rest)))) H'→F x=some r→k (.tup []) H'):
 E.call (.func (.func fid) [] []) [.own q.id q.lo q.n] H k:=by
 subst hE;obtain⟨x,h1,h2⟩:=bind_some h;obtain⟨c1,c2⟩:=hc x h1;refine M8.value (F:=[]) (C:=[]) ?_;simp only[I5,G4]
 rw[YU]at hi
 refine(c1 H q (by rw[←len_eq];exact hq) (hO.get i hi)).mono fun v H' ⟨e1,e2⟩=>?_;subst e1;subst e2;refine hk x _ ?_ ?_ h2
 ·rw[len_eq]at hq ⊢;rw[c2];exact hq
 rw[YU];exact hO.set i hi
end
end Go.Ab
namespace Go.Ab
open Go.RowKit Go.Shelf Go.Sort
variable [O6]
def Am5 {P:Program}{ρ:Ren}(Ly:Go.Proofs.Lays.n189 P ρ)(hrun:∀vals w,(callFunc (ρ.f 189) vals).run P w= .ok (.enter (ρ.f 189) vals) w){zs r:List Int}(h:Ao6 zs=some r):AR1 P (ρ.f 189) zs r:=by
 obtain⟨hlt,rfl⟩:=Af5 h;have hl:(zs.mergeSort fun x y=>decide (x≤y)).length=zs.length:=Rf ..;refine⟨Ac4 (m:=0) hl hrun ?_ ?_,hl⟩
 ·intro _ p cap w;exact(Go.Proofs.Any.slices_Sort_int_none Ly p cap w).mono fun e w' ⟨a,b⟩=>⟨_,a,b,.inr ⟨rfl,fun _=>rfl⟩⟩
 intro blk off cap w _ _ hH hb;exact(Go.Proofs.Any.slices_Sort_int Ly blk off cap zs w hH hb hlt).mono fun e w' ⟨a,n,os,b⟩=>⟨_,a,.inr ⟨rfl,fun _=>rfl⟩,n,os,b⟩
def UA (l:List Int):Option (List Int):=if l.length≤9223372036854775807 then some (Lib.compact l)else none
def RW (zs:List Int):(Lib.compact zs).length≤zs.length:=by
 unfold Lib.compact Lib.compactUpTo;rw[D4]
 grind
def UJ [Ar] {P:Program} {ρ:Ren} (Ly:Go.Proofs.Lays2.n20 P ρ) (hrun:∀vals w,(callFunc (ρ.f 20) vals).run P w= .ok (.enter (ρ.f 20) vals) w) {zs r:List Int} (h:UA zs=some r):
 XW P (ρ.f 20) [] 1 (lst (V.int .i64) zs) (lst (V.int .i64) r):=by
 unfold UA at h
 split at h
 case isFalse=>cases h
 rename_i hlt;cases h;have hle:(Lib.compact zs).length≤zs.length:=RW zs
 have key:AR2 P (ρ.f 20) zs (Lib.compact zs++List.replicate (zs.length-(Lib.compact zs).length) 0) (fun q=>.own q.id q.lo ((Lib.compact zs).length:Nat)):=by
  refine Ac4 (m:=(Lib.compact zs).length) (by simp;omega) hrun ?_ ?_
  ·rintro rfl p cap w;refine(Go.Proofs.Any.slices_Compact_int_empty Ly p cap w).mono fun e w' ⟨a,b⟩=>⟨_,a,b,.inl ⟨rfl,fun q hq=>?_⟩⟩;rw[hq.2]
   have:(Lib.compact ([]:List Int)).length=0:=by have:=RW [];simp_all
   rw[this];rfl
  intro blk off cap w _ hc hH hb;refine(Go.Proofs.Any.slices_Compact_int Ly blk off cap zs w hH hlt hc).mono fun e w' ⟨a,n,b⟩=>⟨_,a,.inl ⟨rfl,hle,fun _=>rfl⟩,n, #[],by rw[b,grow_empty]⟩
 intro H q hq hk
 rw[lst_eq]at hk hq
 refine(key H q (by grind) (by simp_all[OA])).mono fun v H' ⟨e1,e2⟩=>?_;subst e1;subst e2;refine⟨⟨q.id,q.lo,((Lib.compact zs).length:Nat),q.pre,(List.replicate (zs.length-(Lib.compact zs).length) 0).map (V.int .i64)++q.rest⟩,rfl,⟨hq.1,by rw[lst_eq];simp⟩,by rw[F5],?_⟩
 funext x
 rw[lst_eq]
 grind[upd,OA]
end Go.Ab
namespace Go.Ab
open Go.RowKit
variable [O6][Ar]
def Ki {L:List En}{i j:Nat}{e' e:En}(hj:(L.set i e')[j]? =some e):(j=i∧e=e')∨(j≠i∧L[j]? =some e):=by
 rw[Au]at hj
 grind
def VB {L:List En}{i j:Nat}{e':En}(h:j≠i):(L.set i e')[j]? =L[j]? :=by
 rw[Au,A0 (fun e=>h e.symm)]
def Ce.setNone {H0 H:A5} {L:List En} (h:Ce H0 L H) (i:Nat) {e e':En} (hi:L[i]? =some e) (he:e.id=none) (he':e'.id=none):Ce H0 (L.set i e') H:=by
 refine⟨h.ext,fun j x id b hj hx=>?_,fun j k x x' id b b' hj hk hx hx'=>?_,fun x b hx=>?_⟩
 ·rcases Ki hj with⟨_,rfl⟩|⟨_,hj⟩
  ·rw[he']at hx;cases hx
  exact h.has j x id b hj hx
 ·rcases Ki hj with⟨_,rfl⟩|⟨_,hj⟩
  ·rw[he']at hx;cases hx
  rcases Ki hk with⟨_,rfl⟩|⟨_,hk⟩
  ·rw[he']at hx';cases hx'
  exact h.inj j k x x' id b b' hj hk hx hx'
 refine(h.only x b hx).imp (fun h=>h) fun⟨j,y,h1,h2⟩=>⟨j,y,?_,h2⟩;rw[VB fun e=>by simp_all];exact h1
def Ce.drop {H0 H:A5} {L:List En} (h:Ce H0 L H) (i:Nat) {e e':En} {id:Nat} {b0:IF} (hi:L[i]? =some e) (he:e.id=some (id,b0)) (he':e'.id=none):Ce H0 (L.set i e') (upd H id none):=by
 have hid:=h.has i e id b0 hi he;refine⟨fun x b hx=>?_,fun j x y b hj hx=>?_,fun j k x x' y b b' hj hk hx hx'=>?_,fun x b hx=>?_⟩
 ·rw[C9 _ _ (Bb hid.1 hx)];exact h.ext x b hx
 ·rcases Ki hj with⟨_,rfl⟩|⟨hne,hj⟩
  ·rw[he']at hx;cases hx
  have:=h.has j x y b hj hx;refine⟨this.1,?_⟩;rw[C9 _ _ (fun eq=>by subst eq;exact hne (h.inj j i x e y b b0 hj hi hx he))];exact this.2
 ·rcases Ki hj with⟨_,rfl⟩|⟨_,hj⟩
  ·rw[he']at hx;cases hx
  rcases Ki hk with⟨_,rfl⟩|⟨_,hk⟩
  ·rw[he']at hx';cases hx'
  exact h.inj j k x x' y b b' hj hk hx hx'
 by_cases hxi:x=id
 ·simp_all[upd]
 rw[C9 _ _ hxi]at hx
 refine(h.only x b hx).imp (fun h=>h) fun⟨j,y,h1,h2⟩=>⟨j,y,?_,h2⟩;rw[VB fun ej=>by simp_all];exact h1
def C8.untok {Φ:A5→A5→Prop} {F H:A5} {L:List En} (h:C8 Φ F L H) (i:Nat) {tl tl':K1} (hi:L[i]? =some (.tl tl)) (ht:(En.tl tl').id=none):C8 Φ F (L.set i (.tl tl')) (L8 H tl):=by
 obtain⟨hs,F',H1,h0,h1,h2⟩:=h
 cases tl with
 |tok t=>
  have e:=(h0.has i _ t _ hi rfl).2;exact⟨hs,_,_,h0.drop i hi rfl ht,hs.chg t none h1 (by rw[e,hs.le h1 _ _ e]),h2.upd t none⟩
 |nil=>exact⟨hs,_,_,h0.setNone i hi rfl ht,h1,h2⟩
 |full=>exact⟨hs,_,_,h0.setNone i hi rfl ht,h1,h2⟩
 |ro=>exact⟨hs,_,_,h0.setNone i hi rfl ht,h1,h2⟩
section
variable {P:Program}{T:ID}{f:FuncId}{fn:Func}{c:Code}{n:Nat}{rs:List ResultVar}{args:List V}
end
section
variable {P:Program}{nt:Nat}{rd:Option Nat}{T:ID}{E:FN}
variable (hE:E=I0 P nt rd)
include hE
variable {α R:Type}{f:α→V}{Φ:A5→A5→Prop}{H0 H:A5}{L:List En}{r:R}{m:Option (List α)}{F:List α→Option R}{fid:FuncId}{args args':List V}{k:V→A5→Prop}
end
def Gh.lend (g:Gh)(w:World):Gh:={g with fz:=fun b o=>∃v,w.cell? ⟨b,o,none⟩=some v,base:=w.heap.size}
def VR.lend {g:Gh}{w:World}{B:Nat}{F:Nat→Nat→Prop}(hB:g.base≤B)(hF:∀b o,g.fz b o→F b o){v:Value}{x:V}(h:VR g w v x):VR {g with fz:=F,base:=B} w v x:=by
 induction h with
 |bad v=>exact .bad v
 |bool b=>exact .bool b
 |int k n=>exact .int k n
 |str s=>exact .str s
 |nilp=>exact .nilp
 |nilf=>exact .nilf
 |nili=>exact .nili
 |nilmap=>exact .nilmap
 |map h=>exact .map h
 |fmap hb hw hk hn hl hv ih=>exact VR.fmap (g:={g with fz:=F,base:=B}) (LW hb hB) hw hk hn hl ih
 |ref h=>exact .ref h
 |own h h0 h1 h2 hp=>exact VR.own (g:={g with fz:=F,base:=B}) h h0 h1 h2 hp
 |elem h hs=>exact VR.elem (g:={g with fz:=F,base:=B}) h hs
 |eref vs hf hw h1 hv ih=>exact .eref vs (fun j hj=>hF _ _ (hf j hj)) hw h1 ih
 |sl0 ht=>exact .sl0 ht
 |sle ht=>exact .sle ht
 |sl vs hn hc hz hf hw h1 hv ht ih=>exact .sl vs hn hc hz (fun i j hi hj=>hF _ _ (hf i j hi hj)) hw h1 ih (ht.mono fun _ _ e=>e)
 |func hl hv hl' hv' ih ih'=>exact .func hl ih hl' ih'
 |yield h=>exact .yield h
 |iface h ih=>exact .iface ih
 |agg hl h1 hv ih=>exact .agg hl h1 ih
 |tup hl hv ih=>exact .tup hl ih
def Rl.lend {g:Gh}{H:A5}{w:World}(h:Rl g H w):Rl (g.lend w) (fun _=>none) w:=by
 refine⟨fun id b hb=>(by cases hb),fun id id' b h1 _=>(by simp[Gh.at]at h1),fun b o hf=>hf,fun id hi=>⟨(h.nxt id hi).1,(h.nxt id hi).2.1,rfl⟩,B1 _,fun n=>(h.glb n).lend h.bnd fun b o hf=>h.frz b o hf⟩
def Rl.lendOwn {g:Gh} {H:A5} {w:World} (h:Rl g H w) {id sz:Nat} {xs:List V} (hk:H id=some (.arr sz xs)) {v:Value} {lo n:Int} (hv:VR g w v (.own id lo n)):VR (g.lend w) w v (.sl (Q3 xs lo n) .ro):=by
 obtain⟨g',⟨e1,e2,e3⟩,s,hR,hw⟩:=h.freezeArr' hk;have:=(hw v lo n (hv.mono s)).lend (F:=fun b o=>∃v,w.cell? ⟨b,o,none⟩=some v) (B:=w.heap.size) hR.bnd fun b o hf=>hR.frz b o hf
 have e:({g' with fz:=fun b o=>∃v,w.cell? ⟨b,o,none⟩=some v,base:=w.heap.size}:Gh)={(g.lend w)with nx:=g'.nx}:=by
  simp_all[Gh.lend]
 rw[e]at this
 exact VR.nxt this
where
 VR.nxt {g:Gh} {w:World} {n:Nat} {v:Value} {x:V} (h:VR {g with nx:=n} w v x):VR g w v x:=by
  generalize hg:({g with nx:=n}:Gh)=g1 at h
  have hmu:g1.mu=g.mu:=by rw[←hg]
  have htk:g1.tk=g.tk:=by rw[←hg]
  have hfz:g1.fz=g.fz:=by rw[←hg]
  have how:g1.ow=g.ow:=by rw[←hg]
  have hba:g1.base=g.base:=by rw[←hg]
  clear hg
  induction h with
  |bad v=>exact .bad v
  |bool b=>exact .bool b
  |int k n=>exact .int k n
  |str s=>exact .str s
  |nilp=>exact .nilp
  |nilf=>exact .nilf
  |nili=>exact .nili
  |nilmap=>exact .nilmap
  |map h=>exact .map (hmu▸h)
  |fmap hb hw hk hn hl hv ih=>exact .fmap (hba▸hb) hw hk hn hl ih
  |ref h=>exact .ref (hmu▸h)
  |own h h0 h1 h2 hp=>rw[how]at h2 hp ⊢;exact VR.own (hmu▸h) h0 h1 h2 hp
  |elem h hs=>rw[how]at hs ⊢;exact VR.elem (hmu▸h) hs
  |eref vs hf hw h1 hv ih=>exact .eref vs (fun j hj=>hfz▸hf j hj) hw h1 ih
  |sl0 ht=>exact .sl0 ht
  |sle ht=>exact .sle ht
  |sl vs hn hc hz hf hw h1 hv ht ih=>exact .sl vs hn hc hz (fun i j hi hj=>hfz▸hf i j hi hj) hw h1 ih (ht.mono fun _ _ e=>htk▸e)
  |func hl hv hl' hv' ih ih'=>exact .func hl ih hl' ih'
  |yield h=>exact .yield (hmu▸h)
  |iface h ih=>exact .iface ih
  |agg hl h1 hv ih=>exact .agg hl h1 ih
  |tup hl hv ih=>exact .tup hl ih
def AI6:V→Bool
 | .bool _=>true
 | .int _ _=>true
 | .str _=>true
 |_=>false
inductive Po :V→Prop
 |bool (b:Bool):Po (.bool b)
 |int (k:IntKind) (n:Int):Po (.int k n)
 |str (s:ByteArray):Po (.str s)
 |agg {cs:List V} (h:cs.all AI6=true):Po (.agg cs)
 |tup2 {x y:V} (h:Po x) (k:Po y):Po (.tup [x,y])
 |tup3 {x y z:V} (h:Po x) (k:Po y) (m:Po z):Po (.tup [x,y,z])
def Po.any {x:V} (h:Po x):∀{g g':Gh} {w w':World} {v:Value},VR g w v x→VR g' w' v x:=by
 induction h with
 |bool b=>intro g g' w w' v h;cases h;exact .bool b
 |int k n=>intro g g' w w' v h;cases h;exact .int k n
 |str s=>intro g g' w w' v h;cases h;exact .str s
 | @agg cs hp=>
  intro g g' w w' v h
  cases h with
  |agg hl h1 hv=>
   refine .agg hl h1 fun i hi=>?_;have hvi:=hv i hi;have hm:=List.all_eq_true.1 hp _ (E4 hi)
   rw[show cs.getD i .bad=cs[i] by rw[Z0,C0 hi];rfl]at hvi ⊢
   generalize cs[i]=c at hvi hm ⊢
   generalize Array.getD _ i undef=u at hvi ⊢
   cases c<;>simp only[AI6,J2]at hm<;>cases hvi<;>constructor
 | tup2 _ _ ih1 ih2=>
  intro g g' w w' v h
  cases h with
  |tup hl hv=>
   refine .tup hl fun i hi=>?_
   match i with
   |0=>grind
   |1=>grind
   |i+2=>grind
 | tup3 _ _ _ ih1 ih2 ih3=>
  intro g g' w w' v h
  cases h with
  |tup hl hv=>
   refine .tup hl fun i hi=>?_
   match i with
   |0=>grind
   |1=>grind
   |2=>grind
   |i+3=>grind
inductive NS (H:A5):List V→List V→Prop
 |nil:NS H [] []
 |le {x y:V} {xs ys:List V} (h:DF x y) (k:NS H xs ys):NS H (x::xs) (y::ys)
 |fm {id:Nat} {ks:List Int} {zs xs ys:List V} (h:H id=some (.fm ks zs)) (k:NS H xs ys):NS H (.map id::xs) (.fmap ks zs::ys)
 |agg {us ws xs ys:List V} (h:NS H us ws) (k:NS H xs ys):NS H (.agg us::xs) (.agg ws::ys)
 |own {id sz:Nat} {zs:List V} {lo n:Int} {xs ys:List V} (h:H id=some (.arr sz zs)) (k:NS H xs ys):NS H (.own id lo n::xs) (.sl (Q3 zs lo n) .ro::ys)
def NS.length {H:A5}{xs ys:List V}(h:NS H xs ys):xs.length=ys.length:=by
 induction h with
 |nil=>rfl
 |le _ _ ih=>simp[ih]
 |fm _ _ ih=>simp[ih]
 |agg _ _ _ ih=>simp[ih]
 |own _ _ ih=>simp[ih]
theorem NS.at {g:Gh} {H:A5} {w:World} (hR:Rl g H w) {xs ys:List V} (h:NS H xs ys):∀(vals:Nat→Value),(∀i,i<xs.length→VR g w (vals i) (xs.getD i .bad))→∀i,i<ys.length→VR (g.lend w) w (vals i) (ys.getD i .bad):=by
 induction h with
 |nil=>simp_all
 |le h k ih=>
  intro vals hv i hi
  cases i with
  |zero=>exact((hv 0 (by simp)).le h).lend hR.bnd fun b o hf=>hR.frz b o hf
  |succ i=>exact ih (fun i=>vals (i+1)) (fun i hi=>by grind) i (by grind)
 | fm h k ih=>
  intro vals hv i hi
  cases i with
  | zero=>
   have h0:=hv 0 (by simp)
   simp only[Ma]at h0 ⊢
   generalize vals 0=u at h0
   cases h0 with
   |map hm=>
    obtain⟨b,es,clock,k1,k2,k3,k4,k5,k6,k7⟩:=hR.blk _ _ h
    rw[hm]at k1;cases k1
    exact VR.fmap (g:=Gh.lend _ _) (Xm k3) k3 k4 k5 k6 fun i e hi=>(k7 i e hi).lend hR.bnd fun b o hf=>hR.frz b o hf
  |succ i=>exact ih (fun i=>vals (i+1)) (fun i hi=>by grind) i (by grind)
 | agg h k ih1 ih=>
  intro vals hv i hi
  cases i with
  | zero=>
   have h0:=hv 0 (by simp)
   simp only[Ma]at h0 ⊢
   generalize vals 0=u at h0
   cases h0 with
   |agg hl h1 hv1=>
    have e:=h.length;exact .agg (hl.trans e) (fun i hi=>h1 i (by omega)) fun i hi=>ih1 (fun i=>Array.getD _ i undef) hv1 i hi
  |succ i=>exact ih (fun i=>vals (i+1)) (fun i hi=>by grind) i (by grind)
 |own h k ih=>
  intro vals hv i hi
  cases i with
  |zero=>exact hR.lendOwn h (hv 0 (by simp))
  |succ i=>exact ih (fun i=>vals (i+1)) (fun i hi=>by grind) i (by grind)
def C2.lent {P:Program}{f:FuncId}{ys:List V}{r:V}(c:C2 P f ys r)(hr:Po r){H:A5}{xs:List V}(hl:NS H xs ys):M8 P f xs H fun x H'=>x=r∧H'=H:=by
 intro g w vals hR hA;have hA2:Args (g.lend w) w vals ys:=⟨hA.1.trans hl.length,hl.at hR (fun i=>vals.getD i undef) hA.2⟩;refine(c _ _ w vals hR.lend hA2).mono fun v w' ⟨g',x,H',s,hR',hv,e1,e2⟩=>?_;subst e1;have hb:Below w.heap.size w w':=s.low;have sg:Af g w g w':=⟨fun _ _ e=>e,fun _ _ e=>e,fun _ _ e=>e,rfl,fun b o hf=>hb.cell (hR.fz_lt hf),hb.mono hR.bnd,fun _ _ _=>rfl,s.dr⟩;refine⟨g,x,H,sg,⟨fun id b hk=>(hR.blk id b hk).mono hk sg fun y hy=>⟨hb.block _ (hR.lt hy),fun _ ho=>ho⟩,hR.inj,fun b o hf=>?_,hR.nxt,N0 hR.bnd hb.size,fun n=>(hR.glb n).mono sg⟩,hr.any hv,rfl,rfl⟩;obtain⟨u,hu⟩:=hR.frz b o hf;exact⟨u,(hb.cell (hR.fz_lt hf)).trans hu⟩
section
variable {P:Program}{nt:Nat}{rd:Option Nat}{T:ID}{E:FN}
variable (hE:E=I0 P nt rd)
include hE
theorem AW2 {R S:Type}{m:Option S}{F:S→Option R}{r:R}{f:FuncId}{args args':List V}{g:S→V}{H:A5}{k:V→A5→Prop}(h:m.bind F=some r)(hc:∀x,m=some x→C2 P f args' (g x))(hs:∀x,Po (g x))(hl:NS H args args')
 (hk:∀x,F x=some r→k (g x) H):E.call (.func (.func f) [] []) args H k:=by
 subst hE;obtain⟨x,h1,h2⟩:=bind_some h;refine M8.value (F:=[]) (C:=[]) ?_;simp only[I5,G4]
 exact((hc x h1).lent (hs x) hl).mono fun v H' ⟨e1,e2⟩=>by simp_all
end
end Go.Ab
namespace Go.Ab
open Go.RowKit Go.MapKept
variable [O6][Ar]
def Mok {K X:Type}(d:TypeDesc)(kf:K→V)(vf:X→V)(o:Obj)(m:List (K×X)):Prop:=∃m':List (K×X),CV d o (m'.map fun p=>(kf p.1,vf p.2))∧m'.Perm m
def Mok.perm {K X:Type}{d:TypeDesc}{kf:K→V}{vf:X→V}{o:Obj}{m l:List (K×X)}(h:Mok d kf vf o m)(hp:m.Perm l):Mok d kf vf o l:=
 let⟨m',h1,h2⟩:=h;⟨m',h1,h2.trans hp⟩
theorem SG {K X:Type}{m:List (K×X)}(hn:(m.map (·.1)).Nodup){p q:K×X}(hp:p∈m)(hq:q∈m)(e:p.1=q.1):p=q:=by
 obtain⟨i,hi,rfl⟩:=M4 hp;obtain⟨j,hj,rfl⟩:=M4 hq;have:i=j:=Nt hn (by grind) (by grind) (by grind)
 grind
def AA9 {K X:Type}[DecidableEq K]{m m':List (K×X)}(hp:m'.Perm m)(hn:(m'.map (·.1)).Nodup)(k:K)(z:X):QO m' k z=QO m k z:=by
 grind[QO,SG]
def Ax7 {K X:Type} [DecidableEq K] {m m' r:List (K×X)} (hp:m'.Perm m) {k:K} {v:X} (h:PF m k v=some r):∃r',PF m' k v=some r'∧r'.Perm r:=by
 unfold PF at h
 cases h;refine⟨_,rfl,?_⟩
 have e:m'.any (fun p=>decide (p.1=k))=m.any (fun p=>decide (p.1=k)):=by
  rw[Bool.eq_iff_iff,GF,GF]
  grind
 rw[e]
 split
 ·grind
 exact hp.append_right _
def Aj7 {K X:Type}{d:TypeDesc}{kf:K→V}{vf:X→V}{o:Obj}{m:List (K×X)}(h:CV d o (m.map fun p=>(kf p.1,vf p.2))):(m.map (·.1)).Nodup:=by
 have:=h.nodup
 rw[J0]at this
 have e:(m.map ((·.1)∘fun p=>(kf p.1,vf p.2)))=(m.map (·.1)).map kf:=by rw[J0];rfl
 rw[e]at this
 grind
def Av8 (P:Program)(kt:TypeId)(d:TypeDesc):Bool:=match d with| .struct _=> !P.stoodInHeld kt|_=>true
structure UQ {K:Type} (P:Program) (d:TypeDesc) (kf:K→V):Prop where
 raw:∀x,∃v,Cu (kf x)=some v∧FH d v
 inj:∀x y,kf x=kf y→x=y
 kg:∀kt,P.underlying kt=some d→Av8 P kt d=true→KG P kt (FH d)
theorem VI:∀l:List Int,KQ (l.map (V.int .i64))=some (l.map (Value.int .i64))
 |[]=>rfl
 |x::l=>by simp[KQ,My,VI l]
def Bd8 (P:Program)(fs:Array Field):Bool:=
 fs.toList.all (fun f=>f.name != "_" &&(match P.underlying f.type with|some (.int .i64)=>true|_=>false)&&decide (f.offset<fs.size))&&(List.range fs.size).all (fun i=>fs.toList.any fun f=>f.offset==i)
def VP {K:Type} {P:Program} {fs:Array Field} {g:K→List Int} {kf:K→V} (hk:∀x,kf x= .agg ((g x).map (V.int .i64))) (hn:∀x,(g x).length=fs.size) (hg:∀x y,g x=g y→x=y)
 (hf:Bd8 P fs=true):UQ P (.struct fs) kf where
 raw:=fun x=>⟨.agg ((g x).map (Value.int .i64)).toArray,by rw[hk];grind[Cu,VI],g x,hn x,rfl⟩
 inj:=fun x y h=>hg x y (by
  rw[hk,hk]at h
  have h2:=V.agg.inj h
  grind[List.map_inj_right])
 kg:=fun kt h hs=>by
  unfold Bd8 at hf
  simp only[K3,Ek,GF,G1,bne_iff_ne,Gy,Cj]at hf
  obtain⟨h1,h2⟩:=hf
  have e:P.fieldsOf kt=fs:=by simp[Program.fieldsOf,h]
  refine KG.flds (by rw[e];exact h) (by grind[Av8]) ⟨fun f hf=>?_,fun i hi=>?_⟩
  ·rw[e]at hf
   grind
  simp_all
def MvOk {X:Type}(vf:X→V):Prop:=∀x,∃v,Cu (vf x)=some v
def VN:MvOk V.bool:=fun _=>⟨_,rfl⟩
def C8.startO {H0:A5}{id:Nat}{b:IF}(hk:H0 id=some b):C8 Eq (upd H0 id none) [.blk id b] H0:=by
 have h:C8 Eq (upd H0 id none) [.blk id b] (upd (upd H0 id none) id (some b)):=(C8.start M2 rfl).push (F5 _ _ _) rfl
 rwa[BP,Yp H0 id (some b) hk]at h
def Ap7 {α:Type}{f:α→V}{q:OG}{l:List α}(h:Cd q ((lst f l).length:Nat)):Cd q (Ar.len l):=⟨h.1,by rw[h.2,len_eq,N3]⟩
section
variable {P:Program}{nt:Nat}{rd:Option Nat}{T:ID}{E:FN}
variable (hE:E=I0 P nt rd)
include hE
variable {α R:Type}{f:α→V}{Φ:A5→A5→Prop}{H0 H:A5}{L:List En}{sz:Nat}{q:OG}{l:List α}{r:R}
theorem Ai5 (hO:C8 Φ H0 L H){k:V→A5→Prop}(hk:∀(q:OG) H',Cd q (Ar.len ([]:List α))→C8 Φ H0 (.blk q.id (.arr sz (q.pre++lst f []++q.rest))::L) H'→k (.own q.id q.lo q.n) H'):E.onil sz H k:=by
 subst hE;intro t ht
 have e:([]:List V)++lst f []++[]=[]:=by rw[←F3 (f:=f)];rfl
 refine hk ⟨t,0,0,[],[]⟩ _ ⟨rfl,by rw[len_eq];rfl⟩ ?_
 show C8 Φ H0 (.blk t (.arr sz (([]:List V)++lst f []++[]))::L) _
 rw[e];exact hO.push ht rfl
theorem AK2 {xs:List V}(hx:M3 xs (lst f l))(hO:C8 Φ H0 L H){k:V→A5→Prop}(hk:∀(q:OG) H',Cd q (Ar.len l)→C8 Φ H0 (.blk q.id (.arr sz (q.pre++lst f l++q.rest))::L) H'→k (.own q.id q.lo q.n) H'):E.olit sz H xs k:=by
 subst hE
 have el:xs.length=l.length:=by rw[hx.length,N3]
 refine⟨_,hx,fun t ht=>?_⟩;refine hk ⟨t,0,(xs.length:Nat),[],[]⟩ _ ⟨rfl,by rw[len_eq,el]⟩ ?_
 show C8 Φ H0 (.blk t (.arr sz (([]:List V)++lst f l++[]))::L) _
 rw[I5,G4];exact hO.push ht rfl
section
variable {K X:Type}{kf:K→V}{vf:X→V}{t kt et:Nat}{d:TypeDesc}{m:List (K×X)}{o:Obj}{id:Nat}
theorem Bl4 (d:TypeDesc)(kf:K→V)(vf:X→V)(hO:C8 Φ H0 L H){k:V→A5→Prop}(hk:∀id o H',Mok d kf vf o []→C8 Φ H0 (.blk id (.obj o)::L) H'→k (.map id) H'):E.mmk H k:=by
 subst hE;exact .inl fun id hid=>hk id _ _ ⟨[],CV.empty d,.refl _⟩ (hO.push hid rfl)
theorem Bn4 [DecidableEq K] (hK:UQ P d kf) {z:V} {z0:X} (hz:Kc P et=some z) (hvz:z=vf z0) {key:K} {x:X×Bool} (hx:QO m key z0=some x) (ok:Bool):
 Be5 P et (m.map fun p=>(kf p.1,vf p.2)) (kf key) ok (if ok=true then .tup [vf x.1,.bool x.2]else vf x.1):=by
 unfold QO at hx
 cases hx
 cases hf:m.find? (fun p=>decide (p.1=key))with
 |none=>
  refine .inl ⟨fun p hp=>?_,z,hz,by grind⟩;obtain⟨q,hq,rfl⟩:=List.mem_map.1 hp;have:=List.find?_eq_none.1 hf q hq;exact fun e=>this (by simpa using hK.inj _ _ e)
 |some p=>
  have h1:=List.find?_some hf;have h2:=Rp hf;refine .inr ⟨vf p.2,List.mem_map.2 ⟨p,h2,?_⟩,rfl⟩;rw[show p.1=key by grind]
theorem AK5 [DecidableEq K](hm:P.underlying t=some (.map kt et))(hd:P.underlying kt=some d)(hK:UQ P d kf){z:V}(z0:X)(hz:Kc P et=some z)(hvz:z=vf z0)(hO:C8 Φ H0 L H)(hq:Mok d kf vf o m)(i:Nat)(hi:L[i]? =some (.blk id (.obj o)))
 {key:K} {k:V→Prop} {F:X×Bool→Option R} (h:(QO m key z0).bind F=some r) (hk:∀x,F x=some r→k (vf x.1)) (hst:Av8 P kt d=true:=by kernel_rfl):E.mget t H (.map id) (kf key) false k:=by
 obtain⟨x,h1,h2⟩:=bind_some h;obtain⟨m',hq,hp⟩:=hq
 rw[←AA9 hp (Aj7 hq)]at h1
 have ha:=Bn4 (P:=P) (vf:=vf) hE hK hz hvz h1 false;subst hE;obtain⟨v,hv1,hv2⟩:=hK.raw key;exact⟨_,.inl ⟨kt,et,d,v,id,o,_,hm,hK.kg _ hd hst,hv1,hv2,rfl,hO.get i hi,hq,ha⟩,hk x h2⟩
theorem AT3 [DecidableEq K] (hK:UQ P d kf) (hn:((m.map fun p=>(kf p.1,vf p.2)).map (·.1)).Nodup) {key:K} {v:X} {m':List (K×X)} (hx:PF m key v=some m'):Bi7 (m.map fun p=>(kf p.1,vf p.2)) (kf key) (vf v) (m'.map fun p=>(kf p.1,vf p.2)):=by
 unfold PF at hx
 cases hx
 split
 ·rename_i h;obtain⟨p,hp,he⟩:=List.any_eq_true.1 h
  have he:p.1=key:=by grind
  obtain⟨a,b,hab⟩:=List.append_of_mem hp;subst hab;refine .inr ⟨a.map fun p=>(kf p.1,vf p.2),vf p.2,b.map fun p=>(kf p.1,vf p.2),by simp[he],?_⟩
  have hna:∀l:List (K×X),(∀q∈l,q.1≠key)→(l.map (fun p=>if p.1=key then(key,v)else p))=l:=fun l hl=>by
   induction l with
   |nil=>rfl
   |cons y l ih=>rw[D9,A0 (hl y (by simp)),ih fun q hq=>hl q (by simp[hq])]
  rw[J0,N1,D9,IW]at hn
  obtain⟨_,n2,n3⟩:=hn
  rw[List.nodup_cons]at n2
  have ha:∀q∈a,q.1≠key:=fun q hq e=>n3 (kf q.1) (List.mem_map.2 ⟨q,hq,rfl⟩) (kf p.1) (by simp) (by rw[e,he]);have hb:∀q∈b,q.1≠key:=fun q hq e=>n2.1 (List.mem_map.2 ⟨q,hq,by simp[e,he]⟩);rw[N1,D9,hna a ha,hna b hb,A1 he];simp
 rename_i h;refine .inl ⟨fun p hp=>?_,by simp⟩;obtain⟨q,hq,rfl⟩:=List.mem_map.1 hp;exact fun e=>h (List.any_eq_true.2 ⟨q,hq,by simpa using hK.inj _ _ e⟩)
theorem AK4 [DecidableEq K](hm:P.underlying t=some (.map kt et))(hd:P.underlying kt=some d)(hK:UQ P d kf)(hV:MvOk vf)(hO:C8 Φ H0 L H)(hq:Mok d kf vf o m)(i:Nat)(hi:L[i]? =some (.blk id (.obj o)))
 {key:K} {v:X} {k:A5→Prop} {F:List (K×X)→Option R} (h:(PF m key v).bind F=some r) (hk:∀m' o' H',Mok d kf vf o' m'→F m'=some r→C8 Φ H0 (L.set i (.blk id (.obj o'))) H'→k H') (hst:Av8 P kt d=true:=by kernel_rfl):E.mset t H (.map id) (kf key) (vf v) k:=by
 obtain⟨m',h1,h2⟩:=bind_some h;obtain⟨m0,hq,hp⟩:=hq;obtain⟨r',h3,hp'⟩:=Ax7 hp h1;have hs:=AT3 (d:=d) hE hK hq.nodup h3;subst hE;obtain⟨kv,hv1,hv2⟩:=hK.raw key;obtain⟨vv,hv3⟩:=hV v;exact .inl ⟨kt,et,d,kv,vv,id,o,_,_,hm,hK.kg _ hd hst,hv1,hv2,hv3,rfl,hO.get i hi,hq,hs,fun o' ho=>hk m' o' _ ⟨r',ho,hp'⟩ h2 (hO.set i hi)⟩
end
end
end Go.Ab
namespace Go.Ab
open Go.RowKit
variable [O6][Ar]
def An3 (P:Program)(f:FuncId)(args:List V)(ks:List Int)(xs:List V):Prop:=∀H,M8 P f args H fun v H'=>∃id,H id=none∧v= .map id∧H'=upd H id (some (.fm ks xs))
def FG (E:FN)(n:Int)(K:V→Prop)(z:V):List Int→List V→Prop
 |k::ks,x::xs=>E.br (Ar.cmp .eql n k) (fun _=>K x) (fun _=>FG E n K z ks xs)
 |_,_=>K z
def AG (E:FN)(i:Int)(K:Nat→Prop):List Int→Prop
 |m::ms=>E.br (Ar.cmp .eql i m) (fun _=>K m.toNat) (fun _=>AG E i K ms)
 |[]=>False
section
variable {P:Program}{nt:Nat}{rd:Option Nat}{T:ID}{E:FN}
variable (hE:E=I0 P nt rd)
include hE
variable {Φ:A5→A5→Prop}{H0 H:A5}{L:List En}{t kt et id:Nat}{ks:List Int}{xs:List V}
theorem Bl6 (hO:C8 Φ H0 L H){k:V→A5→Prop}(hk:∀id H',C8 Φ H0 (.blk id (.fm [] [])::L) H'→k (.map id) H'):E.mmk H k:=by
 subst hE;exact .inr (.inl fun id hid=>hk id _ (hO.push hid rfl))
theorem Bg2 (hm:P.underlying t=some (.map kt et))(hd:P.underlying kt=some (.int .i64))(hO:C8 Φ H0 L H)(i:Nat)(hi:L[i]? =some (.blk id (.fm ks xs))){n:Int}{v:V}(hn:ks.all (fun k=> !(k==n))=true)
 {k:A5→Prop} (hk:∀H',C8 Φ H0 (L.set i (.blk id (.fm (ks++[n]) (xs++[v])))) H'→k H'):E.mset t H (.map id) (.int .i64 n) v k:=by
 subst hE;exact .inr (.inl ⟨kt,et,ks,xs,n,id,hm,hd,rfl,hO.get i hi,rfl,(fun x hx=>by have:=List.all_eq_true.1 hn x hx;simp_all),hk _ (hO.set i hi)⟩)
theorem At0 {n:Int} {K:V→Prop} {z:V}:∀(ks:List Int) (xs:List V),xs.length=ks.length→FG E n K z ks xs→∃v,((∃i:Nat,ks[i]? =some n∧v=xs.getD i .bad)∨((∀k∈ks,k≠n)∧z=v))∧K v
 |[],[],_,h=>⟨z,.inr ⟨(fun _ h=>by cases h),rfl⟩,h⟩
 |[],_::_,hl,_=>by simp at hl
 |_::_,[],hl,_=>by simp at hl
 | k::ks,x::xs,hl,h=>by
  have ih:=At0 (n:=n) (K:=K) (z:=z) ks xs (by grind)
  unfold FG at h
  subst hE;obtain⟨h1,h2⟩:=h
  rw[Ar.cmp_eq]at h1 h2
  cases hb:Pi .eql n k with
  |true=>
   have e:n=k:=by grind[Pi]
   exact⟨x,.inl ⟨0,by simp[e],by simp⟩,h1 hb⟩
  |false=>
   have e:n≠k:=by grind[Pi]
   obtain⟨v,hv,hk⟩:=ih (h2 hb);refine⟨v,?_,hk⟩
   rcases hv with⟨i,q1,q2⟩|⟨q1,q2⟩
   ·exact .inl ⟨i+1,by grind,by grind⟩
   grind
theorem Au7 {i:Int} {K:Nat→Prop}:∀ms:List Int,AG E i K ms→∃m∈ms,i=m∧K i.toNat
 |[],h=>h.elim
 |m::ms,h=>by
  have ih:=Au7 (i:=i) (K:=K) ms
  unfold AG at h
  subst hE;obtain⟨h1,h2⟩:=h
  rw[Ar.cmp_eq]at h1 h2
  grind[Pi]
theorem Bg3 (hm:P.underlying t=some (.map kt et))(hd:P.underlying kt=some (.int .i64)){z:V}(hz:Kc P et=some z)(hl:xs.length=ks.length){n:Int}{k:V→Prop}(h:FG E n k z ks xs):E.mget t H (.fmap ks xs) (.int .i64 n) false k:=by
 obtain⟨v,hv,hk⟩:=At0 hE ks xs hl h;subst hE;exact⟨v,.inr (.inl ⟨kt,et,ks,xs,n,hm,hd,rfl,rfl,rfl,hv.imp (fun h=>h) fun⟨h1,h2⟩=>⟨h1,h2▸hz⟩⟩),hk⟩
theorem Bd1 (hO:C8 Φ H0 L H)(i:Nat){cs ds:List V}{k:A5→Prop}(hi:L[i]? =some (.blk id (.cells cs)))(hl:M3 cs ds)(hk:∀H',C8 Φ H0 (L.set i (.blk id (.cells ds))) H'→k H'):E.wkB H id k:=by
 subst hE;exact⟨cs,ds,hO.get i hi,hl,hk _ (hO.set i hi)⟩
theorem AW3 {n:Nat}{i:Int}{K:Nat→Prop}(ms:List Int)(hm:(ms.map Int.toNat==List.range n&&ms.all (fun m=>decide (0≤m)))=true)(h:AG E i K ms):E.aidx i n K:=by
 obtain⟨m,h1,h2,h3⟩:=Au7 hE ms h;subst hE;subst h2
 simp only[K3,Gy,Ek,G1]at hm
 have hmem:i.toNat∈List.range n:=by rw[←hm.1];grind
 have h0:=hm.2 _ h1
 rw[Cj]at hmem
 grind[I0]
theorem AK9 {fid:FuncId}{args args':List V}(hc:An3 P fid args' ks xs)(hl:M3 args args')(hO:C8 Φ H0 L H){k:V→A5→Prop}(hk:∀id H',C8 Φ H0 (.blk id (.fm ks xs)::L) H'→k (.map id) H'):E.call (.func (.func fid) [] []) args H k:=by
 subst hE;refine M8.value (F:=[]) (C:=[]) ?_;simp only[I5,G4]
 exact((hc H).args hl).mono fun v H' ⟨id,e1,e2,e3⟩=>by subst e2;subst e3;exact hk id _ (hO.push e1 rfl)
end
def Am7 {P:Program}{T:ID}{f:FuncId}{fn:Func}{c:Code}{n:Nat}{rs:List ResultVar}{args:List V}{ks:List Int}{xs:List V}(cf:Cf)(hP:Vm P T)(hf:P.funcs[f]? =some fn)(hb:fn.body=some c)(hd:M6 cf c=true)
 (hcall:∀vals w,(callFunc f vals).run P w= .ok (.enter f vals) w) (hnt:fn.ntmps=n) (hrs:fn.results.toList=rs) (hn:Nat.ble args.length n=true)
 (h:∀(E:FN) (H:A5) (k:V→A5→Prop),E=I0 P n none→(∀id (L:List En) (i:Nat) H',L[i]? =some (.blk id (.fm ks xs))→C8 Eq H L H'→k (.map id) H')→run E T n cf c ⟨CN args 0,[]⟩ H (Qe E T rs k)):An3 P f args ks xs:=fun H=>by
 refine M8.le (X8 (K:=fun x H'=>∃y H2,DF x y∧HU H2 H'∧∃id,H id=none∧y= .map id∧H2=upd H id (some (.fm ks xs))) cf hP.1 hP.2 hf hb hd hcall hnt hrs hn fun E hE=>?_);refine h E H _ hE fun id L i H' hi hO=>?_;obtain⟨h1,h2⟩:=(hO.only i hi).last;exact⟨_,_,.refl _,h2,id,h1,rfl,rfl⟩
def Bj {α:Type}{m:Option α}{x:α}(h:m=some x):(m.bind fun y=>some y)=some x:=by rw[h];rfl
inductive An4 {α β:Type} (R:α→β→Prop):List α→List β→Prop
 |nil:An4 R [] []
 |cons {x:α} {y:β} {xs:List α} {ys:List β} (h:R x y) (k:An4 R xs ys):An4 R (x::xs) (y::ys)
def An4.get {α β:Type}{R:α→β→Prop}:∀{xs:List α} {ys:List β},An4 R xs ys→∀{i:Nat} {y:β},ys[i]? =some y→∃x,xs[i]? =some x∧R x y
 |_,_,.nil,i,y,h=>by simp at h
 |_,_,.cons h k,0,y,e=>by simp at e;subst e;exact⟨_,rfl,h⟩
 |_,_,.cons h k,i+1,y,e=>by simp at e ⊢;exact k.get e
def An4.len {α β:Type}{R:α→β→Prop}:∀{xs:List α} {ys:List β},An4 R xs ys→xs.length=ys.length
 |_,_,.nil=>rfl
 |_,_,.cons _ k=>by simp[k.len]
def Bj5 (P:Program)(fv:V)(args:List V)(Q:V→Prop):Prop:=∀H,CW P fv args H fun x H'=>Q x∧H'=H
def Nb.value {P:Program}{f:FuncId}{F C args:List V}{Q:V→Prop}(h:Nb P f (F++args++C) Q):Bj5 P (.func (.func f) F C) args Q:=fun H=>(h H).value
section
variable {P:Program}{nt:Nat}{rd:Option Nat}{E:FN}(hE:E=I0 P nt rd)
include hE
end
end Go.Ab
