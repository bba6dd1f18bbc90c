/- AbC5 -/
import Derived.Test.YtjhobbohibnioaaGreatDoorC09
set_option linter.all false
namespace Go.Ab
open Go.RowKit
variable [G7]
theorem G2.thawG {P:Program} {f:FuncId} {args:List V} {H:A0} {K K':V→A0→Prop} (h:G2 P f args H K)
 (hk:∀x H',K x H'→K' x H'∨∃(mk:V→V) (id sz:Nat) (row:List V) (lo n:Int),Bk mk∧x=mk (.own id lo n)∧H' id=some (.arr sz row)∧K' (mk (.sl (J3 row lo n) .ro)) (upd H' id none)):G2 P f args H K':=
 fun g w vals hR hA=>(h g w vals hR hA).mono fun v w' ⟨g',x,H',s,hR',hv,hK⟩=>by
  rcases hk x H' hK with hK|⟨mk,id,sz,row,lo,n,hm,rfl,h1,h2⟩
  ·exact⟨g',x,H',s,hR',hv,hK⟩
  obtain⟨g2,s2,R2,hv2⟩:=hR'.freezeArr h1;obtain⟨v1,hv1,hb⟩:=hm g' w' v _ hv;exact⟨g2,_,_,s.trans s2,R2,hb _ _ _ s2 (hv2 _ _ _ (hv1.mono s2)),h2⟩
section
variable [Ar]{P:Program}{T:Cr}
theorem KT {f:FuncId} {fn:Func} {c:Code} {n:Nat} {rs:List ResultVar} {args:List V} {r:V} (cf:Cf) (hP:Mp P T) (hf:P.funcs[f]? =some fn) (hb:fn.body=some c) (hd:F4 cf c=true)
 (hcall:∀vals w,(callFunc f vals).run P w= .ok (.enter f vals) w) (hnt:fn.ntmps=n) (hrs:fn.results.toList=rs) (hn:Nat.ble args.length n=true)
 (h:∀(E:Bm) (H:A0) (K:V→A0→Prop),E=E8 P n none→(∀x L H',B7 Eq H L H'→W6 x r→K x H')→
  (∀(mk:V→V) (_:Bk mk) (q:OG) (sz:Nat) (xs:List V) (i:Nat) (L:List En) H',B7 Eq H L H'→L[i]? =some (.blk q.id (.arr sz (q.pre++xs++q.rest)))→T7 q (xs.length:Nat)→W6 (mk (.sl xs .ro)) r→K (mk (.own q.id q.lo q.n)) H')→run E T n cf c ⟨X6 args 0,[]⟩ H (Iz E T rs K)):B8 P f args r:=fun H=>by
 refine G2.le ?_
 refine(O2 (K:=fun x H'=>(∃y H2,W6 x y∧Eb H2 H'∧y=r∧H2=H)∨∃(mk:V→V) (q:OG) (sz:Nat) (xs:List V) (i:Nat) (L:List En),Bk mk∧x=mk (.own q.id q.lo q.n)∧B7 Eq H L H'∧L[i]? =some (.blk q.id (.arr sz (q.pre++xs++q.rest)))∧T7 q (xs.length:Nat)∧W6 (mk (.sl xs .ro)) r)
  cf hP.1 hP.2 hf hb hd hcall hnt hrs hn fun E hE=>?_).thawG ?_
 ·exact h E H _ hE (fun x L H' hO hx=>.inl ⟨r,H,hx,hO.ext,rfl,rfl⟩) fun mk hm q sz xs i L H' hO hi hq hr=>.inr ⟨mk,q,sz,xs,i,L,hm,rfl,hO,hi,hq,hr⟩
 rintro x H' (h|⟨mk,q,sz,xs,i,L,hm,rfl,hO,hi,hq,hr⟩)
 ·exact .inl h
 refine .inr ⟨mk,q.id,sz,_,q.lo,q.n,hm,rfl,hO.get i hi,r,H,?_,(hO.del i hi).ext,rfl,rfl⟩;rw[PA rfl hq.1 hq.2];exact hr
end
end Go.Ab
