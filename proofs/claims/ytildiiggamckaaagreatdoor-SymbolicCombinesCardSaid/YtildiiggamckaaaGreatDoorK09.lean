/- . -/
import Derived.Test.YtildiiggamckaaaGreatDoorK08
set_option linter.all false
open Go.Ab.Ar (len_eq lst)
namespace Go.Ab
open Go.RowKit
variable [L6]
def Vt (H:A4)(v:V)(H':A4)(v':V):Prop:=∀g w,Rl g H w→∃g',U3 g w g' w∧Rl g' H' w∧∀u,VR g w u v→VR g' w u v'
theorem Vt.refl (H:A4)(v:V):Vt H v H v:=fun g w h=>⟨g,U3.refl _ _,h,fun _ h=>h⟩
def Vt.trans {H H1 H2:A4}{v v1 v2:V}(a:Vt H v H1 v1)(b:Vt H1 v1 H2 v2):Vt H v H2 v2:=fun g w h=>by
 obtain⟨g1,s1,R1,k1⟩:=a g w h;obtain⟨g2,s2,R2,k2⟩:=b g1 w R1;exact⟨g2,s1.trans s2,R2,fun u hu=>k2 u (k1 u hu)⟩
def Vt.tup2 {H H':A4} {v v' c:V} (a:Vt H v H' v'):Vt H (.tup [v,c]) H' (.tup [v',c]):=fun g w h=>by
 obtain⟨g1,s1,R1,k1⟩:=a g w h;refine⟨g1,s1,R1,fun u hu=>?_⟩
 cases hu with
 |tup hl hv=>
  refine .tup hl fun i hi=>?_;have:=hv i hi
  match i,hi with
  |0,_=>grind
  |1,_=>exact this.mono s1
def Vt.agg1 {H H':A4} {v v':V} (a:Vt H v H' v'):Vt H (.agg [v]) H' (.agg [v']):=fun g w h=>by
 obtain⟨g1,s1,R1,k1⟩:=a g w h;refine⟨g1,s1,R1,fun u hu=>?_⟩
 cases hu with
 |agg hl h1 hv=>
  refine .agg hl h1 fun i hi=>?_;have:=hv i hi
  match i,hi with
  |0,_=>grind
def J1.ghost {P:Program} {f:FuncId} {args:List V} {H:A4} {K K':V→A4→Prop} (h:J1 P f args H K) (hk:∀x H',K x H'→∃x' H2,Vt H' x H2 x'∧K' x' H2):J1 P f args H K':=
 fun g w vals hR hA=>(h g w vals hR hA).mono fun v w' ⟨g',x,H',s,hR',hv,hK⟩=>by
  obtain⟨x',H2,hg,hK'⟩:=hk x H' hK;obtain⟨g2,s2,R2,k2⟩:=hg g' w' hR';exact⟨g2,x',H2,s.trans s2,R2,k2 v hv,hK'⟩
section
variable [Ar]{α:Type}{f:α→V}
def B6.frzG {H0 H:A4}{L:List En}{q:OG}{l:List α}{sz:Nat}(hO:B6 Eq H0 L H)(i:Nat)(hi:L[i]? =some (.blk q.id (.arr sz (q.pre++lst f l++q.rest))))(hq:Z0 q (Ar.len l)):
 ∃H',Vt H (.own q.id q.lo q.n) H' (.sl (lst f l) .ro)∧Ei H0 H':=by
 refine⟨_,fun g w hR=>?_,(hO.del i hi).ext⟩;obtain⟨g',s',R',hv⟩:=hR.freezeArr (hO.get i hi);refine⟨g',s',R',fun u hu=>?_⟩;have:=hv u q.lo q.n (hu.mono s')
 rwa[KM hq.1 (by rw[hq.2,len_eq,M2])]at this
def Qr {P:Program}{T:FY}{f:FuncId}{fn:Func}{c:Code}{n:Nat}{rs:List ResultVar}{args:List V}{r:V}(cf:Cf)(hP:OE P T)(hf:P.funcs[f]? =some fn)(hb:fn.body=some c)(hd:J5 cf c=true)
 (hcall:∀vals w,(callFunc f vals).run P w= .ok (.enter f vals) w) (hnt:fn.ntmps=n) (hrs:fn.results.toList=rs) (hn:Nat.ble args.length n=true)
 (h:∀(E:Eg) (H:A4) (K:V→A4→Prop),E=H5 P n none→(∀x L H',B6 Eq H L H'→BV x r→K x H')→(∀x H' x' H2,Vt H' x H2 x'→Ei H H2→BV x' r→K x H')→run E T n cf c ⟨BF args 0,[]⟩ H (LR E T rs K)):C7 P f args r:=fun H=>by
 refine J1.le (J1.ghost (R4 (K:=fun x H'=>(∃y H2,BV x y∧Ei H2 H'∧y=r∧H2=H)∨∃x' H2,Vt H' x H2 x'∧Ei H H2∧BV x' r) cf hP.1 hP.2 hf hb hd hcall hnt hrs hn fun E hE=>?_) ?_)
 ·exact h E H _ hE (fun x L H' hO hx=>.inl ⟨r,H,hx,hO.ext,rfl,rfl⟩) fun x H' x' H2 hg hle hx=>.inr ⟨x',H2,hg,hle,hx⟩
 grind[Vt.refl]
end
end Go.Ab
namespace Go.Ab
open Go.RowKit
variable [L6][Ar]
section
variable {P:Program}{nt:Nat}{rd:Option Nat}{E:Eg}(hE:E=H5 P nt rd)
include hE
variable {α:Type}{f:α→V}{Φ:A4→A4→Prop}{H0 H:A4}{L:List En}{sz:Nat}{q:OG}{l:List α}
theorem Ax7 (hO:B6 Φ H0 L H)(hq:Z0 q (Ar.len l))(i:Nat){j:Int}{k:Int→Prop}(hi:L[i]? =some (.blk q.id (.arr sz (q.pre++lst f l++q.rest))))(hj:0≤j∧j<(l.length:Nat))(hk:k (Ar.ofs q.lo j)):E.oidx H q.id sz q.lo q.n j k:=
 N9 hE hO hq i hi (F:=fun _=>some ()) (r:=()) (by grind[X1,Z9]) fun _=>hk
theorem Ag8 {esz tz off:Nat}{y:V}{x':α}(hu:∀x,∃y',BV y y'∧y'.one=true∧y'.cells.length=tz∧Sz (f x) esz tz off y'=f x')(hle:off+tz≤esz)(hO:B6 Φ H0 L H)(hq:Z0 q (Ar.len l))(i:Nat){j:Int}{k:A4→Prop}
 (hi:L[i]? =some (.blk q.id (.arr esz (q.pre++lst f l++q.rest)))) (hj:0≤j∧j<(l.length:Nat))
 (hk:∀H',B6 Φ H0 (L.set i (.blk q.id (.arr esz (q.pre++lst f (l.set j.toNat x')++q.rest)))) H'→k H'):E.ostore H q.id (Ar.ofs q.lo j) esz tz off y k:=by
 obtain⟨x,hx⟩:∃x,l[j.toNat]? =some x:=⟨l[j.toNat],D5 (by omega)⟩
 exact Q8 hE (u:=fun _=>x') hu hle hO hq i hi (F:=fun l=>some l) (r:=l.set j.toNat x') (by simp_all[Y6,C6]) fun l' H' hq' e hO'=>by simp_all
end
section
variable {P:Program}{nt:Nat}{rd:Option Nat}{E:Eg}(hE:E=H5 P nt rd)
include hE
variable {α R:Type}{f:α→V}{Φ:A4→A4→Prop}{H0 H:A4}{L:List En}{sz:Nat}{q:OG}{l:List α}{r:R}
theorem YH (hO:B6 Φ H0 L H) (hq:Z0 q (Ar.len l)) (i:Nat) (hi:L[i]? =some (.blk q.id (.arr sz (q.pre++lst f l++q.rest)))) {lo:Option Int} {k:V→Prop} {F:List α→Option R}
 (h:(S8 l lo none none).bind F=some r) (hk:∀x (q':OG),q'.id=q.id∧q'.lo=q.lo+lo.getD 0∧q'.n=q.n-lo.getD 0→F x=some r→k (.own q'.id q'.lo q'.n)):
 E.oslice sz H q.id q.lo q.n lo none none k:=by
 have hE':=hE;subst hE;obtain⟨x,h1,h2⟩:=bind_some h
 have hn:q.n=(l.length:Nat):=by rw[hq.2,len_eq]
 have el:=M2 (f:=f) l
 unfold S8 at h1
 split at h1
 ·rename_i hc;cases h1;obtain⟨c1,c2,c3,c4,c5⟩:=hc
  simp only[Cm]at c2 c3 c4
  refine⟨_,hO.get i hi,?_,?_⟩
  ·rw[hn,hq.1]
   grind
  exact hk _ ⟨q.id,q.lo+lo.getD 0,q.n-lo.getD 0,[],[]⟩ ⟨rfl,rfl,rfl⟩ h2
 cases h1
theorem Uw (hO:B6 Φ H0 L H) (hq:Z0 q (Ar.len l)) (i:Nat) (hi:L[i]? =some (.blk q.id (.arr sz (q.pre++lst f l++q.rest)))) {q':OG} {a:Int} (hd:q'.id=q.id∧q'.lo=q.lo+a∧q'.n=q.n-a) {y:V} {m:List α} {k:V→A4→Prop} {F:List α×Int→Option R}
 (hs:OC sz H y (lst f m)) (h:(Vd l a m).bind F=some r) (hk:∀p H',Z0 q (Ar.len p.1)→B6 Φ H0 (L.set i (.blk q.id (.arr sz (q.pre++lst f p.1++q.rest)))) H'→F p=some r→k (.int .i64 p.2) H'):E.ocopy sz H (.own q'.id q'.lo q'.n) y k:=by
 have hn:q.n=(l.length:Nat):=by rw[hq.2,len_eq]
 have el:=M2 (f:=f) l;have em:=M2 (f:=f) m;obtain⟨p,h1,h2⟩:=bind_some h
 unfold Vd at h1
 split at h1
 ·rename_i hc;cases h1;rw[hd.1,hd.2.1,hd.2.2];refine Mo hE (hO.get i hi) hs (YL:=(m.length:Nat)) (by rw[em]) fun n row' hm hrow=>?_
  have e1:n=(if(l.length:Int)-a<(m.length:Nat)then(l.length:Int)-a else(m.length:Nat)):=by rw[hm,hn]
  have ea:(q.lo+a).toNat=q.pre.length+a.toNat:=by rw[hq.1];omega
  have en:(q.n-a).toNat=l.length-a.toNat:=by rw[hn];omega
  have e2:row'=q.pre++lst f (l.take a.toNat++m.take (l.length-a.toNat)++l.drop (a.toNat+m.length))++q.rest:=by
   rw[hrow,ea,en,Ar.lst_eq,Ar.lst_eq,Ar.lst_eq];rw[IF (A:=q.pre++(l.take a.toNat).map f) (B:=((l.drop a.toNat).take m.length).map f) (C:=(l.drop (a.toNat+m.length)).map f++q.rest) ?_ ?_ ?_]
   ·simp_all
   ·have:l=l.take a.toNat++((l.drop a.toNat).take m.length++l.drop (a.toNat+m.length)):=by
     rw[←FE,Bz,Bz]
    grind
   ·simp;omega
   grind
  rw[e1,e2];refine hk _ _ ⟨hq.1,?_⟩ (hO.set i hi) h2;rw[hn,len_eq]
  grind
 cases h1
theorem Ao3 (hO:B6 Φ H0 L H)(hq:Z0 q (Ar.len l))(i:Nat)(hi:L[i]? =some (.blk q.id (.arr sz (q.pre++lst f l++q.rest)))){y:V}{m:List α}{k:V→A4→Prop}{F:List α×Int→Option R}
 (hs:OC sz H y (lst f m)) (h:(Vd l 0 m).bind F=some r) (hk:∀p H',Z0 q (Ar.len p.1)→B6 Φ H0 (L.set i (.blk q.id (.arr sz (q.pre++lst f p.1++q.rest)))) H'→F p=some r→k (.int .i64 p.2) H'):E.ocopy sz H (.own q.id q.lo q.n) y k:=
 Uw hE hO hq i hi (a:=0) ⟨rfl,by omega,by omega⟩ hs h hk
end
def B6.swp {Φ:A4→A4→Prop}{F H:A4}{L:List En}(h:B6 Φ F L H)(a b:Nat){x y:En}(ha:L[a]? =some x)(hb:L[b]? =some y):B6 Φ F ((L.set a y).set b x) H:=by
 obtain⟨h1,e1⟩:=List.getElem?_eq_some_iff.1 ha;obtain⟨h2,e2⟩:=List.getElem?_eq_some_iff.1 hb;subst e1;subst e2;exact h.perm (List.set_set_perm h1 h2).symm
def Qv {P:Program}{T:FY}{f:FuncId}{fn:Func}{c:Code}{n:Nat}{rs:List ResultVar}{args:List V}{F H:A4}{sz:Nat}{xs:List V}{mk:V→V}(hmk:Ib mk)(cf:Cf)(hP:OE P T)(hf:P.funcs[f]? =some fn)(hb:fn.body=some c)(hd:J5 cf c=true)
 (hcall:∀vals w,(callFunc f vals).run P w= .ok (.enter f vals) w) (hnt:fn.ntmps=n) (hrs:fn.results.toList=rs) (hn:Nat.ble args.length n=true)
 (h:∀(E:Eg) (K:V→A4→Prop),E=H5 P n none→(∀(q:OG) (L:List En) (i:Nat) H' x,Z0 q (xs.length:Nat)→L[i]? =some (.blk q.id (.arr sz (q.pre++xs++q.rest)))→B6 Eq F L H'→BV x (mk (.own q.id q.lo q.n))→K x H')→(xs=[]→∀L H' x,B6 Eq F L H'→BV x (mk (.sl [] .nil))→K x H')→run E T n cf c ⟨BF args 0,[]⟩ H (LR E T rs K)):
 J1 P f args H (As2 F sz xs mk):=by
 refine J1.adoptG (sz:=sz) hmk (J1.le (R4 (K:=fun x H'=>∃y H2,BV x y∧Ei H2 H'∧(As2 F sz xs mk y H2∨(y=mk (.sl [] .nil)∧∀t,H2 t=none→As2 F sz xs mk (mk (.own t 0 0)) (upd H2 t (some (.arr sz [])))))) cf hP.1 hP.2 hf hb hd hcall hnt hrs hn fun E hE=>?_));refine h E _ hE (fun q L i H' x hq hi hO hx=>?_) fun hx L H' x hO hl=>?_
 ·obtain⟨h1,h2⟩:=(hO.only i hi).last;exact⟨_,_,hx,h2,.inl ⟨q,rfl,hq,h1,rfl⟩⟩
 exact⟨_,F,hl,hO.ext,.inr ⟨rfl,fun t ht=>⟨⟨t,0,0,[],[]⟩,rfl,⟨rfl,by rw[hx];rfl⟩,ht,by rw[hx];rfl⟩⟩⟩
section
variable {P:Program}{nt:Nat}{rd:Option Nat}{T:FY}{E:Eg}
variable (hE:E=H5 P nt rd)
include hE
end
structure OGq (q:OG) extends OG where
 eq:toOG=q
instance {q:OG}:CoeOut (OGq q) OG:=⟨OGq.toOG⟩
instance {q:OG}:CoeDep OG q (OGq q):=⟨⟨q,rfl⟩⟩
section
variable {P:Program}{nt:Nat}{rd:Option Nat}{T:FY}{E:Eg}
variable (hE:E=H5 P nt rd)
include hE
end
section
variable {P:Program}{nt:Nat}{rd:Option Nat}{T:FY}{E:Eg}
variable (hE:E=H5 P nt rd)
include hE
theorem KY {cs ds:List V}{off sz n:Nat}{i:Int}{k:V→Prop}(h:decide (0≤i∧i<(n:Int)∧off+n*sz≤cs.length)=true)(hd:(cs.drop (off+i.toNat*sz)).take sz=ds)(hk:k (.eref ds 0)):E.elem cs off sz n i k:=by
 subst hE;subst hd;have:=Dw h;exact⟨⟨this.1,by exact_mod_cast this.2.1,this.2.2⟩,hk⟩
end
def XO (F:A4)(mk:D2→V)(v:V)(H':A4):Prop:=∃tl,v=mk tl∧G3 tl∧(((En.tl tl).id=none∧H'=F)∨∃t,tl= .tok t∧F t=none∧H'=upd F t (some .spare))
def Aj2 (P:Program)(f:FuncId)(args:List V)(xs:List V)(mk:D2→V):Prop:=∀H tl,G3 tl→EN H tl→J1 P f (.sl xs tl::args) H (XO (G0 H tl) mk)
def B6.outTM {F H:A4} {L:List En} (h:B6 Eq F L H) (i:Nat) {tl:D2} (hi:L[i]? =some (.tl tl)) (ha:G3 tl) (mk:D2→V):∃H2,Ei H2 H∧XO F mk (mk tl) H2:=by
 obtain⟨hs,F',H1,h0,h1,h2⟩:=h;subst h1
 cases tl with
 |tok t=>
  have h3:=h0.has i _ t _ hi rfl;refine⟨upd F t (some .spare),fun x b hx=>?_,_,rfl,ha,.inr ⟨t,rfl,h3.1,rfl⟩⟩
  by_cases e:x=t
  ·grind[Ei,upd]
  rw[C3 _ _ e]at hx;exact h2 _ _ (h0.ext x b hx)
 |nil=>exact⟨F,h0.ext.trans h2,_,rfl,ha,.inl ⟨rfl,rfl⟩⟩
 |full=>exact⟨F,h0.ext.trans h2,_,rfl,ha,.inl ⟨rfl,rfl⟩⟩
 |ro=>exact ha.elim
section
variable {P:Program}{T:FY}{f:FuncId}{fn:Func}{c:Code}{n:Nat}{rs:List ResultVar}{args:List V}
def WE {F H:A4}{mk:D2→V}(cf:Cf)(hP:OE P T)(hf:P.funcs[f]? =some fn)(hb:fn.body=some c)(hd:J5 cf c=true)
 (hcall:∀vals w,(callFunc f vals).run P w= .ok (.enter f vals) w) (hnt:fn.ntmps=n) (hrs:fn.results.toList=rs) (hn:Nat.ble args.length n=true)
 (h:∀(E:Eg) (K:V→A4→Prop),E=H5 P n none→(∀v (tl:D2) L (i:Nat) H',BV v (mk tl)→L[i]? =some (.tl tl)→G3 tl→B6 Eq F L H'→K v H')→run E T n cf c ⟨BF args 0,[]⟩ H (LR E T rs K)):
 J1 P f args H (XO F mk):=by
 refine J1.le (R4 (K:=fun x H'=>∃y H2,BV x y∧Ei H2 H'∧XO F mk y H2) cf hP.1 hP.2 hf hb hd hcall hnt hrs hn fun E hE=>?_);refine h E _ hE fun v tl L i H' hl hi ha hO=>?_;obtain⟨H2,h1,h2⟩:=hO.outTM i hi ha mk;exact⟨_,H2,hl,h1,h2⟩
end
section
variable {P:Program}{nt:Nat}{rd:Option Nat}{T:FY}{E:Eg}
variable (hE:E=H5 P nt rd)
include hE
variable {α β R:Type}{f:α→V}{Φ:A4→A4→Prop}{H0 H:A4}{L:List En}{r:R}{m:Option β}{F:β→Option R}{fid:FuncId}{args args':List V}{k:V→A4→Prop}
theorem Uy (mk:β→D2→V) {l:List α} {xs:List V} {tl:D2} (hO:B6 Φ H0 L H) (i:Nat) (hi:L[i]? =some (.tl tl)) (ha:G3 tl) (h:m.bind F=some r) (hc:∀x,m=some x→Aj2 P fid args' (lst f l) (mk x)) (hx:L5 xs (lst f l)) (hl:L5 args args')
 (hk:∀x tl' H',B6 Φ H0 (L.set i (.tl tl')) H'→G3 tl'→F x=some r→k (mk x tl') H'):
 E.call (.func (.func fid) [] []) (.sl xs tl::args) H k:=by
 subst hE;obtain⟨x,h1,h2⟩:=bind_some h;refine J1.value (F:=[]) (C:=[]) ?_;have:=((hc x h1) H tl ha (hO.appOk i hi ha)).args (.cons (.slt _ hx) hl);simp only[N1,G9]
 exact this.mono fun v H' ⟨tl',e1,ha',e2⟩=>by
  subst e1
  rcases e2 with⟨e2,rfl⟩|⟨t,rfl,e2,rfl⟩
  ·exact hk x tl' _ (hO.untok i hi e2) ha' h2
  exact hk x _ _ (hO.tok i hi e2) trivial h2
end
end Go.Ab
