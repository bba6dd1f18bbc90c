/- AbF2 AbF3 AbB13 AbB15 AbB19 AbB17 AbC6 AbB18 -/
import Derived.Test.YtildiiggamckaaaGreatDoorL08
set_option linter.all false
open Go.Ab.Ar (len_eq lst)
namespace Go.Ab
open Go.RowKit
variable [K9]
def Vb (H:A1)(v:V)(H':A1)(v':V):Prop:=∀g w,Rl g H w→∃g',U1 g w g' w∧Rl g' H' w∧∀u,VR g w u v→VR g' w u v'
theorem Vb.refl (H:A1)(v:V):Vb H v H v:=fun g w h=>⟨g,U1.refl _ _,h,fun _ h=>h⟩
theorem Vb.trans {H H1 H2:A1}{v v1 v2:V}(a:Vb H v H1 v1)(b:Vb H1 v1 H2 v2):Vb H v H2 v2:=fun g w h=>by
 obtain⟨g1,s1,R1,k1⟩:=a g w h;obtain⟨g2,s2,R2,k2⟩:=b g1 w R1;exact⟨g2,s1.trans s2,R2,fun u hu=>k2 u (k1 u hu)⟩
theorem Vb.tup2 {H H':A1} {v v' c:V} (a:Vb H v H' v'):Vb H (.tup [v,c]) H' (.tup [v',c]):=fun g w h=>by
 obtain⟨g1,s1,R1,k1⟩:=a g w h;refine⟨g1,s1,R1,fun u hu=>?_⟩
 cases hu with
 |tup hl hv=>
  refine .tup hl fun i hi=>?_;have:=hv i hi
  match i,hi with
  |0,_=>grind
  |1,_=>exact this.mono s1
theorem Vb.agg1 {H H':A1} {v v':V} (a:Vb H v H' v'):Vb H (.agg [v]) H' (.agg [v']):=fun g w h=>by
 obtain⟨g1,s1,R1,k1⟩:=a g w h;refine⟨g1,s1,R1,fun u hu=>?_⟩
 cases hu with
 |agg hl h1 hv=>
  refine .agg hl h1 fun i hi=>?_;have:=hv i hi
  match i,hi with
  |0,_=>grind
theorem J0.ghost {P:Program} {f:FuncId} {args:List V} {H:A1} {K K':V→A1→Prop} (h:J0 P f args H K) (hk:∀x H',K x H'→∃x' H2,Vb H' x H2 x'∧K' x' H2):J0 P f args H K':=
 fun g w vals hR hA=>(h g w vals hR hA).mono fun v w' ⟨g',x,H',s,hR',hv,hK⟩=>by
  obtain⟨x',H2,hg,hK'⟩:=hk x H' hK;obtain⟨g2,s2,R2,k2⟩:=hg g' w' hR';exact⟨g2,x',H2,s.trans s2,R2,k2 v hv,hK'⟩
section
variable [Ar]{α:Type}{f:α→V}
theorem B6.frzG {H0 H:A1}{L:List En}{q:OG}{l:List α}{sz:Nat}(hO:B6 Eq H0 L H)(i:Nat)(hi:L[i]? =some (.blk q.id (.arr sz (q.pre++lst f l++q.rest))))(hq:Al q (Ar.len l)):
 ∃H',Vb H (.own q.id q.lo q.n) H' (.sl (lst f l) .ro)∧FD H0 H':=by
 refine⟨_,fun g w hR=>?_,(hO.del i hi).ext⟩;obtain⟨g',s',R',hv⟩:=hR.freezeArr (hO.get i hi);refine⟨g',s',R',fun u hu=>?_⟩;have:=hv u q.lo q.n (hu.mono s')
 rwa[Ku hq.1 (by rw[hq.2,len_eq,L5])]at this
theorem Qd {P:Program}{T:FQ}{f:FuncId}{fn:Func}{c:Code}{n:Nat}{rs:List ResultVar}{args:List V}{r:V}(cf:Cf)(hP:OM P T)(hf:P.funcs[f]? =some fn)(hb:fn.body=some c)(hd:I8 cf c=true)
 (hcall:∀vals w,(callFunc f vals).run P w= .ok (.enter f vals) w) (hnt:fn.ntmps=n) (hrs:fn.results.toList=rs) (hn:Nat.ble args.length n=true)
 (h:∀(E:Eu) (H:A1) (K:V→A1→Prop),E=G7 P n none→(∀x L H',B6 Eq H L H'→BQ x r→K x H')→(∀x H' x' H2,Vb H' x H2 x'→FD H H2→BQ x' r→K x H')→run E T n cf c ⟨BN args 0,[]⟩ H (Mx E T rs K)):C5 P f args r:=fun H=>by
 refine J0.le (J0.ghost (U0 (K:=fun x H'=>(∃y H2,BQ x y∧FD H2 H'∧y=r∧H2=H)∨∃x' H2,Vb H' x H2 x'∧FD H H2∧BQ x' r) cf hP.1 hP.2 hf hb hd hcall hnt hrs hn fun E hE=>?_) ?_)
 ·exact h E H _ hE (fun x L H' hO hx=>.inl ⟨r,H,hx,hO.ext,rfl,rfl⟩) fun x H' x' H2 hg hle hx=>.inr ⟨x',H2,hg,hle,hx⟩
 grind [Vb.refl]
end
end Go.Ab
namespace Go.Ab
open Go.RowKit
variable [K9][Ar]
section
variable {P:Program}{nt:Nat}{rd:Option Nat}{E:Eu}(hE:E=G7 P nt rd)
include hE
variable {α:Type}{f:α→V}{Φ:A1→A1→Prop}{H0 H:A1}{L:List En}{sz:Nat}{q:OG}{l:List α}
theorem Au2 (hO:B6 Φ H0 L H)(hq:Al q (Ar.len l))(i:Nat){j:Int}{k:Int→Prop}(hi:L[i]? =some (.blk q.id (.arr sz (q.pre++lst f l++q.rest))))(hj:0≤j∧j<(l.length:Nat))(hk:k (Ar.ofs q.lo j)):E.oidx H q.id sz q.lo q.n j k:=
 Aq hE hO hq i hi (F:=fun _=>some ()) (r:=()) (by grind [DK,Eh]) fun _=>hk
theorem Ad4 {esz tz off:Nat}{y:V}{x':α}(hu:∀x,∃y',BQ y y'∧y'.one=true∧y'.cells.length=tz∧Si (f x) esz tz off y'=f x')(hle:off+tz≤esz)(hO:B6 Φ H0 L H)(hq:Al q (Ar.len l))(i:Nat){j:Int}{k:A1→Prop}
 (hi:L[i]? =some (.blk q.id (.arr esz (q.pre++lst f l++q.rest)))) (hj:0≤j∧j<(l.length:Nat))
 (hk:∀H',B6 Φ H0 (L.set i (.blk q.id (.arr esz (q.pre++lst f (l.set j.toNat x')++q.rest)))) H'→k H'):E.ostore H q.id (Ar.ofs q.lo j) esz tz off y k:=by
 obtain⟨x,hx⟩:∃x,l[j.toNat]? =some x:=⟨l[j.toNat],E2 (by omega)⟩
 exact Bc hE (u:=fun _=>x') hu hle hO hq i hi (F:=fun l=>some l) (r:=l.set j.toNat x') (by simp_all[CM,D0]) fun l' H' hq' e hO'=>by simp_all
end
end Go.Ab
namespace Go.Ab
open Go.RowKit
variable [K9][Ar]
section
variable {P:Program}{nt:Nat}{rd:Option Nat}{E:Eu}(hE:E=G7 P nt rd)
include hE
variable {α R:Type}{f:α→V}{Φ:A1→A1→Prop}{H0 H:A1}{L:List En}{sz:Nat}{q:OG}{l:List α}{r:R}
theorem Yh (hO:B6 Φ H0 L H) (hq:Al q (Ar.len l)) (i:Nat) (hi:L[i]? =some (.blk q.id (.arr sz (q.pre++lst f l++q.rest)))) {lo:Option Int} {k:V→Prop} {F:List α→Option R}
 (h:(Ao l lo none none).bind F=some r) (hk:∀x (q':OG),q'.id=q.id∧q'.lo=q.lo+lo.getD 0∧q'.n=q.n - lo.getD 0→F x=some r→k (.own q'.id q'.lo q'.n)):
 E.oslice sz H q.id q.lo q.n lo none none k:=by
 have hE':=hE;subst hE;obtain⟨x,h1,h2⟩:=bind_some h
 have hn:q.n=(l.length:Nat):=by rw[hq.2,len_eq]
 have el:=L5 (f:=f) l
 unfold Ao at h1
 split at h1
 ·rename_i hc;cases h1;obtain⟨c1,c2,c3,c4,c5⟩:=hc
  simp only[Dj]at c2 c3 c4
  refine⟨_,hO.get i hi,?_,?_⟩
  ·rw[hn,hq.1]
   grind
  exact hk _ ⟨q.id,q.lo+lo.getD 0,q.n - lo.getD 0,[],[]⟩ ⟨rfl,rfl,rfl⟩ h2
 cases h1
theorem Ue (hO:B6 Φ H0 L H) (hq:Al q (Ar.len l)) (i:Nat) (hi:L[i]? =some (.blk q.id (.arr sz (q.pre++lst f l++q.rest)))) {q':OG} {a:Int} (hd:q'.id=q.id∧q'.lo=q.lo+a∧q'.n=q.n - a) {y:V} {m:List α} {k:V→A1→Prop} {F:List α×Int→Option R}
 (hs:Oq sz H y (lst f m)) (h:(UL l a m).bind F=some r) (hk:∀p H',Al q (Ar.len p.1)→B6 Φ H0 (L.set i (.blk q.id (.arr sz (q.pre++lst f p.1++q.rest)))) H'→F p=some r→k (.int .i64 p.2) H'):E.ocopy sz H (.own q'.id q'.lo q'.n) y k:=by
 have hn:q.n=(l.length:Nat):=by rw[hq.2,len_eq]
 have el:=L5 (f:=f) l;have em:=L5 (f:=f) m;obtain⟨p,h1,h2⟩:=bind_some h
 unfold UL at h1
 split at h1
 ·rename_i hc;cases h1;rw[hd.1,hd.2.1,hd.2.2];refine Mf hE (hO.get i hi) hs (YL:=(m.length:Nat)) (by rw[em]) fun n row' hm hrow=>?_
  have e1:n=(if(l.length:Int) - a<(m.length:Nat)then(l.length:Int) - a else(m.length:Nat)):=by rw[hm,hn]
  have ea:(q.lo+a).toNat=q.pre.length+a.toNat:=by rw[hq.1];omega
  have en:(q.n - a).toNat=l.length - a.toNat:=by rw[hn];omega
  have e2:row'=q.pre++lst f (l.take a.toNat++m.take (l.length - a.toNat)++l.drop (a.toNat+m.length))++q.rest:=by
   rw[hrow,ea,en,Ar.lst_eq,Ar.lst_eq,Ar.lst_eq];rw[Ir (A:=q.pre++(l.take a.toNat).map f) (B:=((l.drop a.toNat).take m.length).map f) (C:=(l.drop (a.toNat+m.length)).map f++q.rest) ?_ ?_ ?_]
   ·simp_all
   ·have:l=l.take a.toNat++((l.drop a.toNat).take m.length++l.drop (a.toNat+m.length)):=by
     rw[←Fb,Dm,Dm]
    grind
   ·simp;omega
   grind
  rw[e1,e2];refine hk _ _ ⟨hq.1,?_⟩ (hO.set i hi) h2;rw[hn,len_eq]
  grind
 cases h1
theorem Al2 (hO:B6 Φ H0 L H)(hq:Al q (Ar.len l))(i:Nat)(hi:L[i]? =some (.blk q.id (.arr sz (q.pre++lst f l++q.rest)))){y:V}{m:List α}{k:V→A1→Prop}{F:List α×Int→Option R}
 (hs:Oq sz H y (lst f m)) (h:(UL l 0 m).bind F=some r) (hk:∀p H',Al q (Ar.len p.1)→B6 Φ H0 (L.set i (.blk q.id (.arr sz (q.pre++lst f p.1++q.rest)))) H'→F p=some r→k (.int .i64 p.2) H'):E.ocopy sz H (.own q.id q.lo q.n) y k:=
 Ue hE hO hq i hi (a:=0) ⟨rfl,by omega,by omega⟩ hs h hk
end
end Go.Ab
namespace Go.Ab
open Go.RowKit
variable [K9][Ar]
theorem B6.swp {Φ:A1→A1→Prop}{F H:A1}{L:List En}(h:B6 Φ F L H)(a b:Nat){x y:En}(ha:L[a]? =some x)(hb:L[b]? =some y):B6 Φ F ((L.set a y).set b x) H:=by
 obtain⟨h1,e1⟩:=List.getElem?_eq_some_iff.1 ha;obtain⟨h2,e2⟩:=List.getElem?_eq_some_iff.1 hb;subst e1;subst e2;exact h.perm (List.set_set_perm h1 h2).symm
end Go.Ab
namespace Go.Ab
open Go.RowKit
variable [K9][Ar]
theorem Qh {P:Program}{T:FQ}{f:FuncId}{fn:Func}{c:Code}{n:Nat}{rs:List ResultVar}{args:List V}{F H:A1}{sz:Nat}{xs:List V}{mk:V→V}(hmk:HJ mk)(cf:Cf)(hP:OM P T)(hf:P.funcs[f]? =some fn)(hb:fn.body=some c)(hd:I8 cf c=true)
 (hcall:∀vals w,(callFunc f vals).run P w= .ok (.enter f vals) w) (hnt:fn.ntmps=n) (hrs:fn.results.toList=rs) (hn:Nat.ble args.length n=true)
 (h:∀(E:Eu) (K:V→A1→Prop),E=G7 P n none→(∀(q:OG) (L:List En) (i:Nat) H' x,Al q (xs.length:Nat)→L[i]? =some (.blk q.id (.arr sz (q.pre++xs++q.rest)))→B6 Eq F L H'→BQ x (mk (.own q.id q.lo q.n))→K x H')→(xs=[]→∀L H' x,B6 Eq F L H'→BQ x (mk (.sl [] .nil))→K x H')→run E T n cf c ⟨BN args 0,[]⟩ H (Mx E T rs K)):
 J0 P f args H (Ao9 F sz xs mk):=by
 refine J0.adoptG (sz:=sz) hmk (J0.le (U0 (K:=fun x H'=>∃y H2,BQ x y∧FD H2 H'∧(Ao9 F sz xs mk y H2∨(y=mk (.sl [] .nil)∧∀t,H2 t=none→Ao9 F sz xs mk (mk (.own t 0 0)) (upd H2 t (some (.arr sz [])))))) cf hP.1 hP.2 hf hb hd hcall hnt hrs hn fun E hE=>?_));refine h E _ hE (fun q L i H' x hq hi hO hx=>?_) fun hx L H' x hO hl=>?_
 ·obtain⟨h1,h2⟩:=(hO.only i hi).last;exact⟨_,_,hx,h2,.inl ⟨q,rfl,hq,h1,rfl⟩⟩
 exact⟨_,F,hl,hO.ext,.inr ⟨rfl,fun t ht=>⟨⟨t,0,0,[],[]⟩,rfl,⟨rfl,by rw[hx];rfl⟩,ht,by rw[hx];rfl⟩⟩⟩
end Go.Ab
namespace Go.Ab
open Go.RowKit
variable [K9][Ar]
section
variable {P:Program}{nt:Nat}{rd:Option Nat}{T:FQ}{E:Eu}
variable (hE:E=G7 P nt rd)
include hE
end
end Go.Ab
namespace Go.Ab
open Go.RowKit
variable [K9][Ar]
def Af5 (P:Program)(f:FuncId)(A:OG→List V)(sz:Nat)(xs ys:List V):Prop:=
 ∀H (q:OG),Al q (xs.length:Nat)→H q.id=some (.arr sz (q.pre++xs++q.rest))→J0 P f (A q) H fun v H'=>v= .tup []∧Al q (ys.length:Nat)∧H'=upd H q.id (some (.arr sz (q.pre++ys++q.rest)))
structure OGq (q:OG) extends OG where
 eq:toOG=q
instance {q:OG}:CoeOut (OGq q) OG:=⟨OGq.toOG⟩
instance {q:OG}:CoeDep OG q (OGq q):=⟨⟨q,rfl⟩⟩
section
variable {P:Program}{nt:Nat}{rd:Option Nat}{T:FQ}{E:Eu}
variable (hE:E=G7 P nt rd)
include hE
theorem Al3 {α R:Type} {f:α→V} {Φ:A1→A1→Prop} {H0 H:A1} {L:List En} {sz:Nat} {q:OG} {l:List α} {r:R} {m:Option (List α)} {F:List α→Option R} {fid:FuncId} {args:List V} {A:OG→List V} {k:V→A1→Prop}
 (hO:B6 Φ H0 L H) (hq:Al q (Ar.len l)) (i:Nat) (hi:L[i]? =some (.blk q.id (.arr sz (q.pre++lst f l++q.rest)))) (h:m.bind F=some r) (hc:∀x,m=some x→Af5 P fid A sz (lst f l) (lst f x)) (hl:L8 args (A q))
 (hk:∀x H',Al q (Ar.len x)→B6 Φ H0 (L.set i (.blk q.id (.arr sz (q.pre++lst f x++q.rest)))) H'→F x=some r→k (.tup []) H'):E.call (.func (.func fid) [] []) args H k:=by
 subst hE;obtain⟨x,h1,h2⟩:=bind_some h;refine J0.value (F:=[]) (C:=[]) ?_;simp only[P4,H7]
 exact((hc x h1 H q (by rw[L5,←len_eq];exact hq) (hO.get i hi)).args hl).mono fun v H' ⟨e1,e0,e2⟩=>by
  subst e1;subst e2;exact hk x _ (Sm e0) (hO.set i hi) h2
end
theorem YD {P:Program} {T:FQ} {f:FuncId} {fn:Func} {c:Code} {n m:Nat} {rs:List ResultVar} {α:Type} {fe:α→V} {l r:List α} {sz:Nat} {A:OG→List V} (cf:Cf) (hP:OM P T) (hf:P.funcs[f]? =some fn) (hb:fn.body=some c) (hd:I8 cf c=true)
 (hcall:∀vals w,(callFunc f vals).run P w= .ok (.enter f vals) w) (hnt:fn.ntmps=n) (hrs:fn.results.toList=rs) (hm:∀q,(A q).length=m) (hn:Nat.ble m n=true)
 (h:∀(E:Eu) (H:A1) (q:OG) (k:V→A1→Prop),E=G7 P n none→Al q (Ar.len l)→B6 Eq (upd H q.id none) [.blk q.id (.arr sz (q.pre++lst fe l++q.rest))] H→
  (∀(L:List En) (i:Nat) H',Al q (Ar.len r)→L[i]? =some (.blk q.id (.arr sz (q.pre++lst fe r++q.rest)))→B6 Eq (upd H q.id none) L H'→k (.tup []) H')→run E T n cf c ⟨BN (A q) 0,[]⟩ H (Mx E T rs k)):Af5 P f A sz (lst fe l) (lst fe r):=by
 intro H q hq hk;refine J0.le (U0 (K:=fun v H'=>∃y H2,BQ v y∧FD H2 H'∧y= .tup []∧Al q ((lst fe r).length:Nat)∧H2=upd H q.id (some (.arr sz (q.pre++lst fe r++q.rest)))) cf hP.1 hP.2 hf hb hd hcall hnt hrs (by rw[hm];exact hn) fun E hE=>?_);refine h E H q _ hE (Sm hq) (B6.startO hk) fun L i H' hr hi hO=>?_;obtain⟨h1,h2⟩:=(hO.only i hi).last
 rw[X1]at h2
 exact⟨_,_,.refl _,h2,rfl,by rw[L5,←len_eq];exact hr,rfl⟩
end Go.Ab
namespace Go.Ab
open Go.RowKit
variable [K9][Ar]
section
variable {P:Program}{nt:Nat}{rd:Option Nat}{T:FQ}{E:Eu}
variable (hE:E=G7 P nt rd)
include hE
theorem KJ {cs ds:List V}{off sz n:Nat}{i:Int}{k:V→Prop}(h:decide (0≤i∧i<(n:Int)∧off+n*sz≤cs.length)=true)(hd:(cs.drop (off+i.toNat*sz)).take sz=ds)(hk:k (.eref ds 0)):E.elem cs off sz n i k:=by
 subst hE;subst hd;have:=Ca h;exact⟨⟨this.1,by exact_mod_cast this.2.1,this.2.2⟩,hk⟩
end
end Go.Ab
