/- . -/
import Derived.Test.YtjhobbohibnioaaGreatDoorF08
set_option linter.all false
open Go.Ab.Ar (lst)
namespace Go.Ab
open Go.RowKit
variable [O5][Ar]
section
variable {P:Program}{nt:Nat}{rd:Option Nat}{T:Ih}{E:Fo}
variable (hE:E=I5 P nt rd)
include hE
end
def ZL (P:Program)(f:FuncId)(A:OG→List V)(sz:Nat)(xs ys:List V):Prop:=
 ∀H (q:OG),BD q (xs.length:Nat)→H q.id=some (.arr sz (q.pre++xs++q.rest))→M8 P f (A q) H fun v H'=>v= .tup []∧BD q (ys.length:Nat)∧H'=upd H q.id (some (.arr sz (q.pre++ys++q.rest)))
structure OGq (q:OG) extends OG where
 eq:toOG=q
instance {q:OG}:CoeOut (OGq q) OG:=⟨OGq.toOG⟩
instance {q:OG}:CoeDep OG q (OGq q):=⟨⟨q,rfl⟩⟩
section
variable {P:Program}{nt:Nat}{rd:Option Nat}{T:Ih}{E:Fo}
variable (hE:E=I5 P nt rd)
include hE
theorem Wo {α R:Type} {f:α→V} {Φ:A5→A5→Prop} {H0 H:A5} {L:List En} {sz:Nat} {q:OG} {l:List α} {r:R} {m:Option (List α)} {F:List α→Option R} {fid:FuncId} {args:List V} {A:OG→List V} {k:V→A5→Prop}
 (hO:C5 Φ H0 L H) (hq:BD q (Ar.len l)) (i:Nat) (hi:L[i]? =some (.blk q.id (.arr sz (q.pre++lst f l++q.rest)))) (h:m.bind F=some r) (hc:∀x,m=some x→ZL P fid A sz (lst f l) (lst f x)) (hl:M1 args (A q))
 (hk:∀x H',BD q (Ar.len x)→C5 Φ H0 (L.set i (.blk q.id (.arr sz (q.pre++lst f x++q.rest)))) H'→F x=some r→k (.tup []) H'):E.call (.func (.func fid) [] []) args H k:=by
 subst hE;obtain⟨x,h1,h2⟩:=bind_some h;refine M8.value (F:=[]) (C:=[]) ?_;simp only[K2,H6]
 exact((hc x h1 H q (by rw[M9,←Ar.len_eq];exact hq) (hO.get i hi)).args hl).mono fun v H' ⟨e1,e0,e2⟩=>by
  subst e1;subst e2;exact hk x _ (Ak0 e0) (hO.set i hi) h2
end
theorem QC {P:Program} {T:Ih} {f:FuncId} {fn:Func} {c:Code} {n m:Nat} {rs:List ResultVar} {α:Type} {fe:α→V} {l r:List α} {sz:Nat} {A:OG→List V} (cf:Cf) (hP:VF P T) (hf:P.funcs[f]? =some fn) (hb:fn.body=some c) (hd:M6 cf c=true)
 (hcall:∀vals w,(callFunc f vals).run P w= .ok (.enter f vals) w) (hnt:fn.ntmps=n) (hrs:fn.results.toList=rs) (hm:∀q,(A q).length=m) (hn:Nat.ble m n=true)
 (h:∀(E:Fo) (H:A5) (q:OG) (k:V→A5→Prop),E=I5 P n none→BD q (Ar.len l)→C5 Eq (upd H q.id none) [.blk q.id (.arr sz (q.pre++lst fe l++q.rest))] H→
  (∀(L:List En) (i:Nat) H',BD q (Ar.len r)→L[i]? =some (.blk q.id (.arr sz (q.pre++lst fe r++q.rest)))→C5 Eq (upd H q.id none) L H'→k (.tup []) H')→run E T n cf c ⟨Dh (A q) 0,[]⟩ H (Qx E T rs k)):ZL P f A sz (lst fe l) (lst fe r):=by
 intro H q hq hk;refine M8.le (Y6 (K:=fun v H'=>∃y H2,Dx v y∧Ik H2 H'∧y= .tup []∧BD q ((lst fe r).length:Nat)∧H2=upd H q.id (some (.arr sz (q.pre++lst fe r++q.rest)))) cf hP.1 hP.2 hf hb hd hcall hnt hrs (by rw[hm];exact hn) fun E hE=>?_);refine h E H q _ hE (Ak0 hq) (C5.startO hk) fun L i H' hr hi hO=>?_;obtain⟨h1,h2⟩:=(hO.only i hi).last
 rw[Dm]at h2
 exact⟨_,_,.refl _,h2,rfl,by rw[M9,←Ar.len_eq];exact hr,rfl⟩
end Go.Ab
namespace Go.Ab
open Go.RowKit
variable [O5]
theorem M8.thawG {P:Program} {f:FuncId} {args:List V} {H:A5} {K K':V→A5→Prop} (h:M8 P f args H K)
 (hk:∀x H',K x H'→K' x H'∨∃(mk:V→V) (id sz:Nat) (row:List V) (lo n:Int),Ej mk∧x=mk (.own id lo n)∧H' id=some (.arr sz row)∧K' (mk (.sl (R3 row lo n) .ro)) (upd H' id none)):M8 P f args H K':=
 fun g w vals hR hA=>(h g w vals hR hA).mono fun v w' ⟨g',x,H',s,hR',hv,hK⟩=>by
  rcases hk x H' hK with hK|⟨mk,id,sz,row,lo,n,hm,rfl,h1,h2⟩
  ·grind[N3]
  obtain⟨g2,s2,R2,hv2⟩:=hR'.freezeArr h1;obtain⟨v1,hv1,hb⟩:=hm g' w' v _ hv;exact⟨g2,_,_,s.trans s2,R2,hb _ _ _ s2 (hv2 _ _ _ (hv1.mono s2)),h2⟩
section
variable [Ar]{P:Program}{T:Ih}
theorem TW {f:FuncId} {fn:Func} {c:Code} {n:Nat} {rs:List ResultVar} {args:List V} {r:V} (cf:Cf) (hP:VF P T) (hf:P.funcs[f]? =some fn) (hb:fn.body=some c) (hd:M6 cf c=true)
 (hcall:∀vals w,(callFunc f vals).run P w= .ok (.enter f vals) w) (hnt:fn.ntmps=n) (hrs:fn.results.toList=rs) (hn:Nat.ble args.length n=true)
 (h:∀(E:Fo) (H:A5) (K:V→A5→Prop),E=I5 P n none→(∀x L H',C5 Eq H L H'→Dx x r→K x H')→
  (∀(mk:V→V) (_:Ej mk) (q:OG) (sz:Nat) (xs:List V) (i:Nat) (L:List En) H',C5 Eq H L H'→L[i]? =some (.blk q.id (.arr sz (q.pre++xs++q.rest)))→BD q (xs.length:Nat)→Dx (mk (.sl xs .ro)) r→K (mk (.own q.id q.lo q.n)) H')→run E T n cf c ⟨Dh args 0,[]⟩ H (Qx E T rs K)):B9 P f args r:=fun H=>by
 refine M8.le ?_
 refine(Y6 (K:=fun x H'=>(∃y H2,Dx x y∧Ik H2 H'∧y=r∧H2=H)∨∃(mk:V→V) (q:OG) (sz:Nat) (xs:List V) (i:Nat) (L:List En),Ej mk∧x=mk (.own q.id q.lo q.n)∧C5 Eq H L H'∧L[i]? =some (.blk q.id (.arr sz (q.pre++xs++q.rest)))∧BD q (xs.length:Nat)∧Dx (mk (.sl xs .ro)) r)
  cf hP.1 hP.2 hf hb hd hcall hnt hrs hn fun E hE=>?_).thawG ?_
 ·exact h E H _ hE (fun x L H' hO hx=>.inl ⟨r,H,hx,hO.ext,rfl,rfl⟩) fun mk hm q sz xs i L H' hO hi hq hr=>.inr ⟨mk,q,sz,xs,i,L,hm,rfl,hO,hi,hq,hr⟩
 rintro x H' (h|⟨mk,q,sz,xs,i,L,hm,rfl,hO,hi,hq,hr⟩)
 ·exact .inl h
 refine .inr ⟨mk,q.id,sz,_,q.lo,q.n,hm,rfl,hO.get i hi,r,H,?_,(hO.del i hi).ext,rfl,rfl⟩;rw[Aa2 rfl hq.1 hq.2];exact hr
end
end Go.Ab
