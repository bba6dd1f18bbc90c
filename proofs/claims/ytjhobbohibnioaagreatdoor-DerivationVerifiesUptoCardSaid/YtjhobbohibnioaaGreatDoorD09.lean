/- AbH5 AbB12 AbF1 AbF2 AbF3 AbB15 AbR1 AbB13 AbB17 AbC6 AbC5 -/
import Derived.Test.YtjhobbohibnioaaGreatDoorD08
set_option linter.all false
open List (append_assoc append_nil)
open Go.Ab.Ar (len_eq lst lst_eq ofs)
namespace Go.Ab
open Go.RowKit
variable [J9][Ar]
section
variable {K X:Type}{P:Program}{d:TypeDesc}{kf:K→V}{vf:X→V}{o:List Value×List V}{m:List (K×X)}
def Md (kf:K→V)(vf:X→V)(o:List Value×List V)(m:List (K×X)):Prop:=
 o.1.map some=m.map (fun p=>Al (kf p.1))∧o.2=m.map (fun p=>vf p.2)∧o.1.Nodup
theorem Md.at (h:Md kf vf o m) {i:Nat} {kv:Value}:o.1[i]? =some kv↔∃p,m[i]? =some p∧Al (kf p.1)=some kv:=by
 have:=congrArg (fun l=>l[i]?) h.1
 simp only[List.getElem?_map]at this
 constructor
 ·intro e
  rw[e]at this
  cases hm:m[i]? with
  |none=>rw[hm]at this;cases this
  |some p=>rw[hm]at this;simp at this;exact⟨p,rfl,this.symm⟩
 rintro⟨p,e1,e2⟩
 rw[e1]at this
 cases hm:o.1[i]? with
 |none=>rw[hm]at this;cases this
 |some q=>rw[hm]at this;simp at this;rw[e2]at this;cases this;rfl
theorem Md.keys (h:Md kf vf o m)(hK:Oj P d kf):∀k∈o.1,CR d k:=by
 intro k hk;obtain⟨i,hi,e⟩:=List.getElem_of_mem hk
 obtain⟨p,_,e2⟩:=h.at.1 (List.getElem?_eq_some_iff.2 ⟨hi,e⟩)
 obtain⟨v,e3,e4⟩:=hK.raw p.1
 rw[e2]at e3;cases e3;exact e4
theorem Md.find (h:Md kf vf o m) (hK:Oj P d kf) {key:K} {kv:Value} (hkv:Al (kf key)=some kv):
 ((∀k∈o.1,k≠kv)∧∀p∈m,p.1≠key)∨∃(i:Nat) (p:K×X),o.1[i]? =some kv∧m[i]? =some p∧p.1=key∧∀(j:Nat) q,m[j]? =some q→q.1=key→j=i:=by
 by_cases hx:∃p∈m,p.1=key
 ·obtain⟨p,hp,hpk⟩:=hx;obtain⟨i,hi,e⟩:=List.getElem_of_mem hp;have e':m[i]? =some p:=List.getElem?_eq_some_iff.2 ⟨hi,e⟩
  have e2:=h.at.2 ⟨p,e',by rw[hpk];exact hkv⟩
  refine .inr ⟨i,p,e2,e',hpk,fun j q hj hq=>?_⟩
  have e3:=h.at.2 ⟨q,hj,by rw[hq];exact hkv⟩
  exact TR h.2.2 e3 e2
 refine .inl ⟨fun k hk he=>?_,fun p hp he=>hx ⟨p,hp,he⟩⟩;obtain⟨i,hi,e⟩:=List.getElem_of_mem hk
 obtain⟨p,e1,e2⟩:=h.at.1 (List.getElem?_eq_some_iff.2 ⟨hi,e⟩)
 refine hx ⟨p,List.mem_of_getElem? e1,hK.inj _ _ (Nf e2 ?_)⟩
 rw[←he]at hkv;exact hkv
theorem Wb [DecidableEq K] {key:K}:∀{m:List (K×X)} {i:Nat} {p:K×X},m[i]? =some p→p.1=key→(∀(j:Nat) q,m[j]? =some q→q.1=key→j=i)→m.find? (fun p=>decide (p.1=key))=some p
 |[],_,_,h,_,_=>by simp at h
 |q::m,0,p,h,hk,_=>by simp at h;subst h;simp[hk]
 |q::m,i+1,p,h,hk,hu=>by
  have hq:q.1≠key:=fun e=>by have:=hu 0 q rfl e;omega
  simp only[List.find?_cons,hq,decide_false]
  exact Wb (by simpa using h) hk fun j r hj hr=>by have:=hu (j+1) r (by simpa using hj) hr;omega
theorem Ah0 [DecidableEq K]{key:K}{m:List (K×X)}(h:∀p∈m,p.1≠key):m.find? (fun p=>decide (p.1=key))=none:=
 List.find?_eq_none.2 fun p hp=>by simpa using h p hp
variable {E:CU}{nt:Nat}{rd:Option Nat}{Φ:A2→A2→Prop}{H0 H:A2}{L:List En}{t kt et mid:Nat}
theorem As0 (hE:E=G0 P nt rd)(kf:K→V)(vf:X→V)(hO:C3 Φ H0 L H){k:V→A2→Prop}(hk:∀id o H',Md kf vf o []→C3 Φ H0 (.blk id (.vm o.1 o.2)::L) H'→k (.map id) H'):E.mmk H k:=by
 subst hE;exact .inr (.inr fun id hid=>hk id ([],[]) _ ⟨rfl,rfl,List.nodup_nil⟩ (hO.push hid rfl))
theorem Ae5 [DecidableEq K] {R:Type} {r:R} {g:X→V} (hE:E=G0 P nt rd) (hg:∀x,vf x=g x) (hm:P.underlying t=some (.map kt et)) (hd:P.underlying kt=some d) (hK:Oj P d kf) {z:V} (z0:X) (hz:Gt P et=some z) (hvz:BG z (vf z0)) (hO:C3 Φ H0 L H) (hq:Md kf vf o m) (i:Nat) (hi:L[i]? =some (.blk mid (.vm o.1 o.2)))
 {key:K} {k:V→Prop} {F:X×Bool→Option R} (h:(Lr m key z0).bind F=some r) (hk:∀x,F x=some r→k (.tup [g x.1,.bool x.2])) (hst:WB P kt d=true:=by kernel_rfl):E.mget t H (.map mid) (kf key) true k:=by
 subst hE;obtain⟨x,h1,h2⟩:=bind_some h;obtain⟨v,hv1,hv2⟩:=hK.raw key;refine⟨_,.inr (.inr ⟨kt,et,_,v,mid,o.1,o.2,hm,hK.kg _ hd hst,hv1,hv2,rfl,hO.get i hi,hq.keys hK,?_⟩),hk x h2⟩
 unfold Lr at h1
 rw[←hg]
 rcases hq.find hK hv1 with⟨a,b⟩|⟨j,p,a,b,c,u⟩
 ·rw[Ah0 b]at h1
  cases h1;exact .inl ⟨a,z,vf z0,hz,hvz,by simp only[if_true]⟩
 rw[Wb b c u]at h1
 cases h1;refine .inr ⟨j,a,?_⟩;rw[hq.2.1];simp only[if_true,List.getD_eq_getElem?_getD,List.getElem?_map,b,Option.map_some,Option.getD_some]
theorem An1 [DecidableEq K] {R:Type} {r:R} {y:V} {v:X} (hE:E=G0 P nt rd) (hy:y=vf v) (hm:P.underlying t=some (.map kt et)) (hd:P.underlying kt=some d) (hK:Oj P d kf) (hO:C3 Φ H0 L H) (hq:Md kf vf o m) (i:Nat) (hi:L[i]? =some (.blk mid (.vm o.1 o.2)))
 {key:K} {k:A2→Prop} {F:List (K×X)→Option R} (h:(Kn m key v).bind F=some r) (hk:∀m' o' H',Md kf vf o' m'→F m'=some r→C3 Φ H0 (L.set i (.blk mid (.vm o'.1 o'.2))) H'→k H') (hst:WB P kt d=true:=by kernel_rfl):E.mset t H (.map mid) (kf key) y k:=by
 subst hE;subst hy;obtain⟨m',h1,h2⟩:=bind_some h;obtain⟨kv,hv1,hv2⟩:=hK.raw key;refine .inr (.inr ⟨kt,et,_,kv,mid,o.1,o.2,hm,hK.kg _ hd hst,hv1,hv2,rfl,hO.get i hi,hq.keys hK,?_⟩)
 unfold Kn at h1
 rcases hq.find hK hv1 with⟨a,b⟩|⟨j,p,a,b,c,u⟩
 ·have hn:m.any (fun p=>decide (p.1=key))=false:=by
   rw[List.any_eq_false];intro p hp;simpa using b p hp
  rw[hn]at h1
  cases h1;refine .inl ⟨a,hk _ (o.1++[kv],o.2++[vf v]) _ ⟨?_,?_,?_⟩ h2 (hO.set i hi)⟩
  ·simp[hq.1,hv1]
  ·simp[hq.2.1]
  rw[List.nodup_append];exact⟨hq.2.2,by simp,fun x hx y hy=>by simp at hy;subst hy;exact a x hx⟩
 have hy:m.any (fun p=>decide (p.1=key))=true:=List.any_eq_true.2 ⟨p,List.mem_of_getElem? b,by simpa using c⟩
 rw[hy]at h1
 cases h1;refine .inr ⟨j,a,hk _ (o.1,o.2.set j (vf v)) _ ⟨?_,?_,hq.2.2⟩ h2 (hO.set i hi)⟩
 ·show o.1.map some=_
  rw[hq.1,if_pos rfl,List.map_map];refine List.map_congr_left fun q _=>?_;simp only[Function.comp]
  split
  ·rename_i e;rw[e]
  rfl
 show o.2.set j (vf v)=_
 rw[hq.2.1,if_pos rfl];apply List.ext_getElem?;intro n;simp only[List.getElem?_set,List.getElem?_map,List.length_map]
 by_cases hn:j=n
 ·subst hn;obtain⟨hlt,e⟩:=List.getElem?_eq_some_iff.1 b;simp[hlt,e,c]
 rw[if_neg hn]
 cases hmn:m[n]? with
 |none=>rfl
 |some q=>
  have:q.1≠key:=fun e=>hn (u n q hmn e).symm;simp[this]
def Ii (P:Program)(f:FuncId)(args:Nat→List V)(kf:K→V)(vf:X→V)(m:List (K×X))(x:V)(m':List (K×X)):Prop:=
 ∀H id o,Md kf vf o m→H id=some (.vm o.1 o.2)→I0 P f (args id) H fun v H'=>v=x∧∃o',Md kf vf o' m'∧H'=upd H id (some (.vm o'.1 o'.2))
theorem CH {fid:FuncId}{args:List V}{args':Nat→List V}{S R:Type}{r:R}{k:V→A2→Prop}{m:Option (S×List (K×X))}{F:S×List (K×X)→Option R}{g:S→V}{l:List (K×X)}{id:Nat}(hE:E=G0 P nt rd)(hO:C3 Φ H0 L H)(hq:Md kf vf o l)(i:Nat)(hi:L[i]? =some (.blk id (.vm o.1 o.2)))(h:m.bind F=some r)
 (hc:∀x,m=some x→Ii P fid args' kf vf l (g x.1) x.2) (hl:H9 args (args' id))
 (hk:∀x o' H',Md kf vf o' x.2→C3 Φ H0 (L.set i (.blk id (.vm o'.1 o'.2))) H'→F x=some r→k (g x.1) H'):E.call (.func (.func fid) [] []) args H k:=by
 subst hE;obtain⟨x,h1,h2⟩:=bind_some h;refine I0.value (F:=[]) (C:=[]) ?_;simp only[List.nil_append,append_nil]
 exact((hc x h1 H id o hq (hO.get i hi)).args hl).mono fun v H' ⟨e3,o',e2,e4⟩=>by subst e3;subst e4;exact hk x o' _ e2 (hO.set i hi) h2
theorem EW {f:FuncId}{fn:Func}{c:Code}{n:Nat}{rs:List ResultVar}{T:EZ}{args:Nat→List V}{m':List (K×X)}{x:V}(cf:Cf)(hP:QV P T)(hf:P.funcs[f]? =some fn)(hb:fn.body=some c)(hd:I4 cf c=true)
 (hcall:∀vals w,(callFunc f vals).run P w= .ok (.enter f vals) w) (hnt:fn.ntmps=n) (hrs:fn.results.toList=rs) (hn:∀id,Nat.ble (args id).length n=true)
 (h:∀(E:CU) (H:A2) (id:Nat) (o:List Value×List V) (k:V→A2→Prop),E=G0 P n none→Md kf vf o m→C3 Eq (upd H id none) [.blk id (.vm o.1 o.2)] H→(∀v o' (L:List En) (i:Nat) H',Md kf vf o' m'→L[i]? =some (.blk id (.vm o'.1 o'.2))→C3 Eq (upd H id none) L H'→BG v x→k v H')→run E T n cf c ⟨Bp (args id) 0,[]⟩ H (Lu E T rs k)):Ii P f args kf vf m x m':=fun H id o hq hk=>by
 refine I0.le (S1 (K:=fun v H'=>∃y H2,BG v y∧Gr H2 H'∧y=x∧∃o',Md kf vf o' m'∧H2=upd H id (some (.vm o'.1 o'.2))) cf hP.1 hP.2 hf hb hd hcall hnt hrs (hn id) fun E hE=>?_);refine h E H id o _ hE hq (C3.startO hk) fun v o' L i H' hq' hi hO hv=>?_;obtain⟨h1,h2⟩:=(hO.only i hi).last
 rw[Bu]at h2
 exact⟨_,_,hv,h2,rfl,o',hq',rfl⟩
end
end Go.Ab
namespace Go.Ab
variable [J9][Ar]
section
variable {P:Program}{nt:Nat}{rd:Option Nat}{E:CU}(hE:E=G0 P nt rd){Φ:A2→A2→Prop}{H0 H:A2}{L:List En}
include hE
theorem Mw (hO:C3 Φ H0 L H)(i:Nat){tl:E4}(hi:L[i]? =some (.tl tl))(ha:T8 tl){k:E4→A2→Prop}
 (hk:∀H',C3 Φ H0 (L.set i (.tl .nil)) H'→k tl H'):E.takeT H k:=by
 subst hE;exact⟨tl,hO.appOk i hi ha,hk _ (hO.untok i hi rfl)⟩
theorem My (hO:C3 Φ H0 L H)(i:Nat)(hi:L[i]? =some (.tl .nil)){k:E4→A2→Prop}
 (hk:∀tl H',C3 Φ H0 (L.set i (.tl tl)) H'→T8 tl→k tl H'):E.nameT H k:=by
 subst hE;refine⟨fun tl htl=>?_,fun t ht=>hk _ _ (hO.tok i hi ht) trivial⟩
 rcases htl with rfl|rfl
 ·exact hk _ _ (hO.untok i hi rfl) trivial
 exact hk _ _ (hO.untok i hi rfl) trivial
end
end Go.Ab
namespace Go.Ab
open Go.RowKit
variable [J9][Ar]
def Aq4 (e e':En):Prop:=∀id b b',e.id=some (id,b)→e'.id=some (id,b')→False
theorem Z9.perm {H0 H:A2} {L L':List En} (h:Z9 H0 L H) (p:L.Perm L'):Z9 H0 L' H:=by
 have hp:L.Pairwise Aq4:=by
  rw[List.pairwise_iff_getElem];intro i j hi hj hlt id b b' e1 e2;have:=h.inj i j _ _ id b b' (List.getElem?_eq_getElem hi) (List.getElem?_eq_getElem hj) e1 e2;omega
 have hp':L'.Pairwise Aq4:=(p.pairwise_iff (fun{x y} (h:Aq4 x y) id b b' e1 e2=>h id b' b e2 e1)).1 hp
 rw[List.pairwise_iff_getElem]at hp'
 refine⟨h.ext,fun i e id b hi he=>?_,fun i j e e' id b b' hi hj he he'=>?_,fun x b hx=>(h.only x b hx).imp (fun h=>h) fun⟨i,e,h1,h2⟩=>?_⟩
 ·obtain⟨j,hj⟩:=List.getElem?_of_mem (p.mem_iff.2 (List.mem_of_getElem? hi));exact h.has j e id b hj he
 ·obtain⟨hi',ei⟩:=List.getElem?_eq_some_iff.1 hi;obtain⟨hj',ej⟩:=List.getElem?_eq_some_iff.1 hj
  rcases Nat.lt_trichotomy i j with hlt|heq|hlt
  ·exact(hp' i j hi' hj' hlt id b b' (by rw[ei];exact he) (by rw[ej];exact he')).elim
  ·exact heq
  exact(hp' j i hj' hi' hlt id b' b (by rw[ej];exact he') (by rw[ei];exact he)).elim
 obtain⟨j,hj⟩:=List.getElem?_of_mem (p.mem_iff.1 (List.mem_of_getElem? h1));exact⟨j,e,hj,h2⟩
theorem C3.perm {Φ:A2→A2→Prop}{F H:A2}{L L':List En}(h:C3 Φ F L H)(p:L.Perm L'):C3 Φ F L' H:=
 let⟨hs,F',H1,h0,h1,h2⟩:=h;⟨hs,F',H1,h0.perm p,h1,h2⟩
structure Rw (α:Type) where
 q:OG
 row:List (List α×E4)
variable {α:Type}(f:α→V)
def AC (c:List α×E4):V:=.sl (lst f c.1) c.2
def VA (w:Rw α):En:=.blk w.q.id (.arr 1 (w.q.pre++lst (AC f) w.row++w.q.rest))
def rwL (w:Rw α):List En:=VA f w::w.row.map fun c=>.tl c.2
def fo :List (Rw α)→List En
 |[]=>[]
 |w::F=>rwL f w++fo F
def RwA (w:Rw α):Prop:=∀c∈w.row,T8 c.2
variable {f}
theorem Zw :∀(F G:List (Rw α)),fo f (F++G)=fo f F++fo f G
 |[],_=>rfl
 |w::F,G=>by rw[List.cons_append,fo,fo,Zw F G,append_assoc]
theorem SV :∀{F:List (Rw α)} {c:Nat} {w:Rw α},F[c]? =some w→∃R,(fo f F).Perm (rwL f w++R)∧∀w',(fo f (F.set c w')).Perm (rwL f w'++R)
 |[],_,_,h=>by simp at h
 |v::F,0,w,h=>by
  simp at h;subst h
  exact⟨fo f F,.refl _,fun w'=>.refl _⟩
 | v::F,c+1,w,h=>by
  obtain⟨R,h1,h2⟩:=SV (F:=F) (c:=c) (w:=w) (by simpa using h)
  have key:∀(X Y:List En),X.Perm (Y++R)→(rwL f v++X).Perm (Y++(rwL f v++R)):=fun X Y hX=>
   (hX.append_left _).trans (by
    rw[←append_assoc,←append_assoc]
    exact List.perm_append_comm.append_right R)
  exact⟨rwL f v++R,key _ _ h1,fun w'=>key _ _ (h2 w')⟩
theorem Lj :∀{row:List (List α×E4)} {i:Nat} {c:List α×E4},row[i]? =some c→∃R,(row.map fun c=>En.tl c.2).Perm (.tl c.2::R)∧∀c',((row.set i c').map fun c=>En.tl c.2).Perm (.tl c'.2::R)
 |[],_,_,h=>by simp at h
 |v::F,0,w,h=>by
  simp at h;subst h
  exact⟨F.map fun c=>.tl c.2,.refl _,fun w'=>.refl _⟩
 |v::F,i+1,w,h=>by
  obtain⟨R,h1,h2⟩:=Lj (row:=F) (i:=i) (c:=w) (by simpa using h);exact⟨.tl v.2::R,(h1.cons _).trans (.swap ..),fun w'=>((h2 w').cons _).trans (.swap ..)⟩
theorem Vf {F:List (Rw α)} {c i:Nat} {w:Rw α} {x:List α×E4} (hc:F[c]? =some w) (hi:w.row[i]? =some x):
 ∃R,(fo f F).Perm (.tl x.2::VA f w::R)∧∀x',(fo f (F.set c ⟨w.q,w.row.set i x'⟩)).Perm (.tl x'.2::VA f ⟨w.q,w.row.set i x'⟩::R):=by
 obtain⟨R,h1,h2⟩:=SV (f:=f) hc;obtain⟨S,k1,k2⟩:=Lj hi
 have key:∀(b:En) (X:List En) (t:En),X.Perm (t::S)→(b::(X++R)).Perm (t::b::(S++R)):=fun b X t hX=>
  ((hX.append_right R).cons b).trans (.swap ..)
 exact⟨S++R,h1.trans (key _ _ _ k1),fun x'=>(h2 _).trans (key _ _ _ (k2 x'))⟩
theorem C3.cell {Φ:A2→A2→Prop} {H0 H:A2} {b:En} {L:List En} {F:List (Rw α)} {c i:Nat} {w:Rw α} {x:List α×E4} (hO:C3 Φ H0 (b::(fo f F++L)) H) (hc:F[c]? =some w) (hi:w.row[i]? =some x):
 ∃R,C3 Φ H0 (.tl x.2::VA f w::b::R) H∧∀x' H',C3 Φ H0 (.tl x'.2::VA f ⟨w.q,w.row.set i x'⟩::b::R) H'→C3 Φ H0 (b::(fo f (F.set c ⟨w.q,w.row.set i x'⟩)++L)) H':=by
 obtain⟨R,h1,h2⟩:=Vf (f:=f) hc hi
 have key:∀(X:List En) (t r:En),X.Perm (t::r::R)→(b::(X++L)).Perm (t::r::b::(R++L)):=fun X t r h=>
  ((h.append_right L).cons b).trans ((List.Perm.swap t b _).trans ((List.Perm.swap r b _).cons t))
 exact⟨R++L,hO.perm (key _ _ _ h1),fun x' H' h=>h.perm (key _ _ _ (h2 x')).symm⟩
theorem C3.row {Φ:A2→A2→Prop} {H0 H:A2} {b b':En} {L:List En} {F:List (Rw α)} {w:Rw α} (hO:C3 Φ H0 (VA f w::b::b'::(fo f F++L)) H) (hw:∀c∈w.row,(En.tl c.2).id=none):C3 Φ H0 (b'::(fo f (F++[w])++(b::L))) H:=by
 have h1:∀(row:List (List α×E4)) (M:List En),(∀c∈row,(En.tl c.2).id=none)→C3 Φ H0 M H→C3 Φ H0 ((row.map fun c=>.tl c.2)++M) H:=by
  intro row
  induction row with
  |nil=>exact fun _ _ h=>h
  |cons c row ih=>exact fun M hr h=>(ih M (fun c hc=>hr c (by simp[hc])) h).tl0 (hr c (by simp))
 have h2:=h1 w.row _ hw hO;refine h2.perm ?_;rw[Zw];simp only[fo,rwL,append_nil];generalize w.row.map (fun c=>En.tl c.2)=X;generalize fo f F=Y;have p1:(X++VA f w::b::b'::(Y++L)).Perm (VA f w::X++(b::b'::(Y++L))):=List.perm_middle
 have p2:(VA f w::X++(b::b'::(Y++L))).Perm (b'::(VA f w::X++(b::(Y++L)))):=
  ((List.Perm.swap b' b (Y++L)).append_left (VA f w::X)).trans List.perm_middle
 refine p1.trans (p2.trans (.cons b' ?_));have p3:(VA f w::X++(b::(Y++L))).Perm (VA f w::X++(Y++b::L)):=(List.perm_middle.symm).append_left _;refine p3.trans ?_;rw[←append_assoc];exact(List.perm_append_comm (l₁:=VA f w::X) (l₂:=Y)).append_right _
end Go.Ab
namespace Go.Ab
open Go.RowKit
variable [J9]
def Gst (H:A2)(v:V)(H':A2)(v':V):Prop:=∀g w,Rl g H w→∃g',T4 g w g' w∧Rl g' H' w∧∀u,VR g w u v→VR g' w u v'
theorem Gst.refl (H:A2)(v:V):Gst H v H v:=fun g w h=>⟨g,T4.refl _ _,h,fun _ h=>h⟩
theorem Gst.trans {H H1 H2:A2}{v v1 v2:V}(a:Gst H v H1 v1)(b:Gst H1 v1 H2 v2):Gst H v H2 v2:=fun g w h=>by
 obtain⟨g1,s1,R1,k1⟩:=a g w h;obtain⟨g2,s2,R2,k2⟩:=b g1 w R1;exact⟨g2,s1.trans s2,R2,fun u hu=>k2 u (k1 u hu)⟩
theorem Gst.tup2 {H H':A2} {v v' c:V} (a:Gst H v H' v'):Gst H (.tup [v,c]) H' (.tup [v',c]):=fun g w h=>by
 obtain⟨g1,s1,R1,k1⟩:=a g w h;refine⟨g1,s1,R1,fun u hu=>?_⟩
 cases hu with
 |tup hl hv=>
  refine .tup hl fun i hi=>?_;have:=hv i hi
  match i,hi with
  |0,_=>exact k1 _ this
  |1,_=>exact this.mono s1
section
variable [Ar]{α:Type}{f:α→V}
end
end Go.Ab
namespace Go.Ab
open Go.RowKit
variable [J9][Ar]
section
variable {P:Program}{nt:Nat}{rd:Option Nat}{E:CU}(hE:E=G0 P nt rd)
include hE
variable {α:Type}{f:α→V}{Φ:A2→A2→Prop}{H0 H:A2}{L:List En}{sz:Nat}{q:OG}{l:List α}
theorem QJ (hO:C3 Φ H0 L H)(hq:Aa q (Ar.len l))(i:Nat){j:Int}{k:Int→Prop}(hi:L[i]? =some (.blk q.id (.arr sz (q.pre++lst f l++q.rest))))(hj:0≤j∧j<(l.length:Nat))(hk:k (ofs q.lo j)):E.oidx H q.id sz q.lo q.n j k:=
 Ap hE hO hq i hi (F:=fun _=>some ()) (r:=()) (by unfold Jx Pn;rw[if_pos];rfl;exact decide_eq_true hj) fun _=>hk
theorem Wd {g:α→V} (hf:∀x,f x=g x) (hO:C3 Φ H0 L H) (hq:Aa q (Ar.len l)) (i:Nat) {j:Int} {x:α} {k:V→Prop} (hi:L[i]? =some (.blk q.id (.arr sz (q.pre++lst f l++q.rest)))) (hj:0≤j) (hx:l[j.toNat]? =some x) (hk:k (g x)):
 E.oload H q.id (ofs q.lo j) k:=by
 have hlt:j<(l.length:Nat):=by
  rcases Nat.lt_or_ge j.toNat l.length with h|h
  ·omega
  rw[List.getElem?_eq_none h]at hx;cases hx
 exact Bx hE hf hO hq i hi (F:=fun y=>some y) (r:=x) (by unfold B9;rw[if_pos hj,hx];rfl) fun y hy=>by cases hy;exact hk
theorem SX {esz tz off:Nat}{y:V}{x':α}(hu:∀x,∃y',BG y y'∧y'.one=true∧y'.cells.length=tz∧Qm (f x) esz tz off y'=f x')(hle:off+tz≤esz)(hO:C3 Φ H0 L H)(hq:Aa q (Ar.len l))(i:Nat){j:Int}{k:A2→Prop}
 (hi:L[i]? =some (.blk q.id (.arr esz (q.pre++lst f l++q.rest)))) (hj:0≤j∧j<(l.length:Nat))
 (hk:∀H',C3 Φ H0 (L.set i (.blk q.id (.arr esz (q.pre++lst f (l.set j.toNat x')++q.rest)))) H'→k H'):E.ostore H q.id (ofs q.lo j) esz tz off y k:=by
 obtain⟨x,hx⟩:∃x,l[j.toNat]? =some x:=⟨l[j.toNat],List.getElem?_eq_getElem (by omega)⟩
 exact EH hE (u:=fun _=>x') hu hle hO hq i hi (F:=fun l=>some l) (r:=l.set j.toNat x') (by unfold Fb B9;rw[if_pos hj.1,hx];rfl) fun l' H' hq' e hO'=>by cases e;exact hk H' hO'
theorem ZA {g:α→V}(hf:∀x,f x=g x){j:Int}{x:α}{k:V→Prop}(hx:B9 l j=some x)(hk:k (g x)):E.idx (lst f l) j k:=
 C1 hE hf (F:=fun y=>some y) (r:=x) (by rw[hx];rfl) fun y hy=>by cases hy;exact hk
end
theorem YZ {α:Type}{n m:Int}{z:α}{l:List α}(h:UB n m z=some l):l=List.replicate n.toNat z:=by
 unfold UB at h
 split at h
 ·cases h;rfl
 cases h
theorem Ag5 {α:Type} {l:List α} {i:Int} {x:α} (h:B9 l i=some x):(0≤i∧i<(l.length:Nat))∧l[i.toNat]? =some x:=by
 unfold B9 at h
 split at h
 ·rename_i h0;refine⟨⟨h0,?_⟩,h⟩
  rcases Nat.lt_or_ge i.toNat l.length with h'|h'
  ·omega
  rw[List.getElem?_eq_none h']at h;cases h
 cases h
end Go.Ab
namespace Go.Ab
open Go.RowKit
variable [J9][Ar]
end Go.Ab
namespace Go.Ab
open Go.RowKit
variable [J9][Ar]
def FU {α:Type}(w:Rw α):List En:=w.row.map fun c=>.tl c.2
structure BP {α:Type} (w:Rw α) (l:List (List α)):Prop where
 ok:Aa w.q (Ar.len w.row)
 ap:RwA w
 eq:w.row.map (·.1)=l
section
variable {α:Type}{f:α→V}{w:Rw α}{l:List (List α)}
theorem BP.len (h:BP w l):Ar.len l=Ar.len w.row:=by rw[len_eq,len_eq,←h.eq,List.length_map]
theorem BP.at (h:BP w l) {i:Int} {x:List α} (hx:B9 l i=some x):(0≤i∧i<(w.row.length:Nat))∧∃t,w.row[i.toNat]? =some (x,t)∧T8 t:=by
 obtain⟨h1,h2⟩:=Ag5 hx
 rw[←h.eq]at h1 h2
 rw[List.length_map]at h1
 rw[List.getElem?_map]at h2
 cases hr:w.row[i.toNat]? with
 |none=>rw[hr]at h2;cases h2
 |some c=>
  rw[hr]at h2
  simp only[Option.map_some,Option.some.injEq]at h2
  refine⟨h1,c.2,by rw[←h2],h.ap c (List.mem_of_getElem? hr)⟩
theorem BP.put (h:BP w l) (i:Nat) {y:List α} {t:E4} (ht:T8 t):BP ⟨w.q,w.row.set i (y,t)⟩ (l.set i y):=by
 refine⟨?_,fun c hc=>?_,?_⟩
 ·have:=h.ok
  rw[len_eq]at this ⊢
  rw[List.length_set];exact this
 ·rcases List.mem_or_eq_of_mem_set hc with hc|rfl
  ·exact h.ap c hc
  exact ht
 rw[List.map_set,h.eq]
theorem Ul {i:Nat}{c:List α×E4}(hi:w.row[i]? =some c):∃R,(FU w).Perm (.tl c.2::R)∧∀c',(FU ⟨w.q,w.row.set i c'⟩).Perm (.tl c'.2::R):=Lj hi
theorem C3.rtake {Φ:A2→A2→Prop} {H0 H:A2} {L T1 T2:List En} (hO:C3 Φ H0 L H) (n:Nat) (hL:L=L.take n++(T1++(FU w++T2))) {i:Nat} {c:List α×E4} (hi:w.row[i]? =some c):
 ∃R,C3 Φ H0 (.tl c.2::(L.take n++R)) H∧∀c' H' (L2:List En),C3 Φ H0 (.tl c'.2::(L2++R)) H'→C3 Φ H0 (L2++(T1++(FU ⟨w.q,w.row.set i c'⟩++T2))) H':=by
 obtain⟨R,h1,h2⟩:=Ul hi
 have key:∀(L2 X:List En) (t:En),X.Perm (t::R)→(L2++(T1++(X++T2))).Perm (t::(L2++(T1++(R++T2)))):=fun L2 X t h=>
  ((((h.append_right T2).append_left T1).append_left L2).trans ((List.perm_middle (l₁:=T1)).append_left L2)).trans List.perm_middle
 refine⟨T1++(R++T2),?_,fun c' H' L2 h=>h.perm (key _ _ _ (h2 c')).symm⟩
 rw[hL]at hO
 exact hO.perm (key _ _ _ h1)
theorem C3.radd {Φ:A2→A2→Prop} {H0 H:A2} {L:List En} (hO:C3 Φ H0 L H) (n:Nat) (w:Rw α) (hw:∀c∈w.row,(En.tl c.2).id=none):C3 Φ H0 (L.take n++(FU w++L.drop n)) H:=by
 have h1:∀(row:List (List α×E4)) (M:List En),(∀c∈row,(En.tl c.2).id=none)→C3 Φ H0 M H→C3 Φ H0 ((row.map fun c=>.tl c.2)++M) H:=by
  intro row
  induction row with
  |nil=>exact fun _ _ h=>h
  |cons c row ih=>exact fun M hr h=>(ih M (fun c hc=>hr c (by simp[hc])) h).tl0 (hr c (by simp))
 refine(h1 w.row L hw hO).perm ?_
 show(FU w++L).Perm _
 have e:FU w++L=FU w++(L.take n++L.drop n):=by rw[List.take_append_drop]
 rw[e,←append_assoc,←append_assoc];exact List.perm_append_comm.append_right _
theorem C3.drops {Φ:A2→A2→Prop}{H0 H:A2}:∀{X L:List En},C3 Φ H0 (X++L) H→C3 Φ H0 L H
 |[],_,h=>h
 |_::X,_,h=>C3.drops (X:=X) h.tail
theorem C3.rdrop {Φ:A2→A2→Prop}{H0 H:A2}{L T1 T2:List En}(hO:C3 Φ H0 L H)(n:Nat)(hL:L=L.take n++(T1++(FU w++T2))):C3 Φ H0 (L.take n++(T1++T2)) H:=by
 rw[hL]at hO
 refine(hO.perm (L':=FU w++(L.take n++(T1++T2))) ?_).drops;refine(((List.perm_append_comm_assoc T1 (FU w) T2).append_left _)).trans ?_;exact List.perm_append_comm_assoc _ _ _
theorem Rr {α:Type}{l r:List α}{i:Int}{y:α}(h:Fb l i (fun _=>y)=some r):r=l.set i.toNat y:=by
 unfold Fb at h
 cases hx:B9 l i with
 |none=>rw[hx]at h;cases h
 |some x=>rw[hx]at h;simp only[Option.map_some,Option.some.injEq]at h;exact h.symm
theorem Ac0 {e:List α→V} (he:∀x,e x= .sl (lst f x) .ro) (h:BP w l):H9 (lst (AC f) w.row) (lst e l):=by
 rw[lst_eq,lst_eq,←h.eq]
 have:∀row:List (List α×E4),H9 (row.map (AC f)) ((row.map (·.1)).map e):=by
  intro row
  induction row with
  |nil=>exact .nil
  |cons c row ih=>exact .cons (by rw[he];exact .ro _ _) ih
 exact this _
end
section
variable {P:Program}{nt:Nat}{rd:Option Nat}{T:EZ}{E:CU}
variable (hE:E=G0 P nt rd)
include hE
variable {α R:Type}{f:α→V}{Φ:A2→A2→Prop}{H0 H:A2}{L:List En}{w:Rw α}{l:List (List α)}{r:R}
theorem Ak8 {by_:Nat} (hby:by_≤131072) (hO:C3 Φ H0 L H) (c:Nat) {n m:Int} {k:V→A2→Prop} {F:List (List α)→Option R} (h:(UB n m ([]:List α)).bind F=some r)
 (hk:∀l (w:Rw α) H',BP w l→F l=some r→C3 Φ H0 (.blk w.q.id (.arr 1 (w.q.pre++lst (AC f) w.row++w.q.rest))::(L.take c++(FU w++L.drop c))) H'→k (.own w.q.id w.q.lo w.q.n) H'):E.omk 1 by_ (.sl [] .nil) n m H k:=by
 obtain⟨l,h1,h2⟩:=bind_some h;have hl:=YZ h1
 have h3:UB n m (([]:List α),E4.nil)=some (List.replicate n.toNat (([]:List α),E4.nil)):=by
  unfold UB at h1 ⊢
  split at h1
  ·rename_i hc;rw[if_pos hc]
  cases h1
 refine VJ hE (f:=AC f) hby (z0:=(([]:List α),E4.nil)) (.slt _ .lst0) hO (F:=fun l=>some l) (r:=List.replicate n.toNat (([]:List α),E4.nil)) (by rw[h3];rfl) fun row q H' hq hr hO'=>?_;cases hr;refine hk l ⟨q,List.replicate n.toNat (([]:List α),E4.nil)⟩ H' ⟨hq,fun c hc=>by rw[List.eq_of_mem_replicate hc];trivial,by rw[hl];simp⟩ h2 ?_
 exact hO'.radd (c+1) ⟨q,List.replicate n.toNat (([]:List α),E4.nil)⟩ fun c hc=>by rw[List.eq_of_mem_replicate hc];rfl
theorem Sx {e:List α→V}(he:∀x,e x= .sl (lst f x) .ro)(hO:C3 Φ H0 L H)(hw:BP w l)(i m:Nat){id j:Nat}{cs:List V}{k:A2→Prop}(hi:L[i]? =some (.blk id (.cells cs)))(hm:L[m]? =some (.blk w.q.id (.arr 1 (w.q.pre++lst (AC f) w.row++w.q.rest))))(hj:cs[j]? =some (.own w.q.id w.q.lo w.q.n))(him:i≠m)
 (hk:∀H',C3 Φ H0 ((L.set i (.blk id (.cells (cs.set j (.sl (lst e l) .ro))))).eraseIdx m) H'→k H'):E.frzIn H id j k:=by
 subst hE;have h1:=hO.get i hi;have h2:=hO.get m hm
 have hne:w.q.id≠id:=fun e=>by rw[e,h1]at h2;cases h2
 refine⟨cs,w.q.id,w.q.lo,w.q.n,1,_,lst e l,h1,hj,h2,?_,?_⟩
 ·rw[Mr hw.ok.1 (by rw[hw.ok.2,len_eq,I3])];exact Ac0 he hw
 have h3:=(hO.set i (b':=.cells (cs.set j (.sl (lst e l) .ro))) hi).del m (id:=w.q.id) (b:=.arr 1 (w.q.pre++lst (AC f) w.row++w.q.rest)) (by rw[List.getElem?_set,if_neg him];exact hm);rw[ML _ _ _ hne];exact hk _ h3
end
end Go.Ab
namespace Go.Ab
open Go.RowKit
variable [J9][Ar]
section
variable {P:Program}{nt:Nat}{rd:Option Nat}{E:CU}(hE:E=G0 P nt rd)
include hE
variable {α R:Type}{f:α→V}{Φ:A2→A2→Prop}{H0 H:A2}{L:List En}{sz:Nat}{q:OG}{l:List α}{r:R}
theorem Xi (hO:C3 Φ H0 L H) (hq:Aa q (Ar.len l)) (i:Nat) (hi:L[i]? =some (.blk q.id (.arr sz (q.pre++lst f l++q.rest)))) {lo:Option Int} {k:V→Prop} {F:List α→Option R}
 (h:(N6 l lo none none).bind F=some r) (hk:∀x (q':OG),q'.id=q.id∧q'.lo=q.lo+lo.getD 0∧q'.n=q.n - lo.getD 0→F x=some r→k (.own q'.id q'.lo q'.n)):
 E.oslice sz H q.id q.lo q.n lo none none k:=by
 have hE':=hE;subst hE;obtain⟨x,h1,h2⟩:=bind_some h
 have hn:q.n=(l.length:Nat):=by rw[hq.2,len_eq]
 have el:=I3 (f:=f) l
 unfold N6 at h1
 split at h1
 ·rename_i hc;cases h1;obtain⟨c1,c2,c3,c4,c5⟩:=hc
  simp only[Option.getD_none]at c2 c3 c4
  refine⟨_,hO.get i hi,?_,?_⟩
  ·rw[hn,hq.1];simp only[List.length_append,el,Option.getD_none];refine⟨c1,c2,by omega,by omega,fun h=>by cases h⟩
  exact hk _ ⟨q.id,q.lo+lo.getD 0,q.n - lo.getD 0,[],[]⟩ ⟨rfl,rfl,rfl⟩ h2
 cases h1
theorem Sy (hO:C3 Φ H0 L H) (hq:Aa q (Ar.len l)) (i:Nat) (hi:L[i]? =some (.blk q.id (.arr sz (q.pre++lst f l++q.rest)))) {q':OG} {a:Int} (hd:q'.id=q.id∧q'.lo=q.lo+a∧q'.n=q.n - a) {y:V} {m:List α} {k:V→A2→Prop} {F:List α×Int→Option R}
 (hs:Oh sz H y (lst f m)) (h:(NU l a m).bind F=some r) (hk:∀p H',Aa q (Ar.len p.1)→C3 Φ H0 (L.set i (.blk q.id (.arr sz (q.pre++lst f p.1++q.rest)))) H'→F p=some r→k (.int .i64 p.2) H'):E.ocopy sz H (.own q'.id q'.lo q'.n) y k:=by
 have hn:q.n=(l.length:Nat):=by rw[hq.2,len_eq]
 have el:=I3 (f:=f) l;have em:=I3 (f:=f) m;obtain⟨p,h1,h2⟩:=bind_some h
 unfold NU at h1
 split at h1
 ·rename_i hc;cases h1;rw[hd.1,hd.2.1,hd.2.2];refine Ac9 hE (hO.get i hi) hs (YL:=(m.length:Nat)) (by rw[em]) fun n row' hm hrow=>?_
  have e1:n=(if(l.length:Int) - a<(m.length:Nat)then(l.length:Int) - a else(m.length:Nat)):=by rw[hm,hn]
  have ea:(q.lo+a).toNat=q.pre.length+a.toNat:=by rw[hq.1];omega
  have en:(q.n - a).toNat=l.length - a.toNat:=by rw[hn];omega
  have e2:row'=q.pre++lst f (l.take a.toNat++m.take (l.length - a.toNat)++l.drop (a.toNat+m.length))++q.rest:=by
   rw[hrow,ea,en,lst_eq,lst_eq,lst_eq];rw[Ad5 (A:=q.pre++(l.take a.toNat).map f) (B:=((l.drop a.toNat).take m.length).map f) (C:=(l.drop (a.toNat+m.length)).map f++q.rest) ?_ ?_ ?_]
   ·simp only[List.map_append,List.map_take,append_assoc]
   ·have:l=l.take a.toNat++((l.drop a.toNat).take m.length++l.drop (a.toNat+m.length)):=by
     rw[←List.drop_drop,List.take_append_drop,List.take_append_drop]
    conv=>lhs;rw[this]
    simp only[List.map_append,append_assoc]
   ·simp;omega
   simp;omega
  rw[e1,e2];refine hk _ _ ⟨hq.1,?_⟩ (hO.set i hi) h2;rw[hn,len_eq];simp only[List.length_append,List.length_take,List.length_drop];omega
 cases h1
theorem Ae6 (hO:C3 Φ H0 L H)(hq:Aa q (Ar.len l))(i:Nat)(hi:L[i]? =some (.blk q.id (.arr sz (q.pre++lst f l++q.rest)))){y:V}{m:List α}{k:V→A2→Prop}{F:List α×Int→Option R}
 (hs:Oh sz H y (lst f m)) (h:(NU l 0 m).bind F=some r) (hk:∀p H',Aa q (Ar.len p.1)→C3 Φ H0 (L.set i (.blk q.id (.arr sz (q.pre++lst f p.1++q.rest)))) H'→F p=some r→k (.int .i64 p.2) H'):E.ocopy sz H (.own q.id q.lo q.n) y k:=
 Sy hE hO hq i hi (a:=0) ⟨rfl,by omega,by omega⟩ hs h hk
end
end Go.Ab
namespace Go.Ab
open Go.RowKit
variable [J9][Ar]
section
variable {P:Program}{nt:Nat}{rd:Option Nat}{T:EZ}{E:CU}
variable (hE:E=G0 P nt rd)
include hE
end
end Go.Ab
namespace Go.Ab
open Go.RowKit
variable [J9][Ar]
def TF (P:Program)(f:FuncId)(A:OG→List V)(sz:Nat)(xs ys:List V):Prop:=
 ∀H (q:OG),Aa q (xs.length:Nat)→H q.id=some (.arr sz (q.pre++xs++q.rest))→I0 P f (A q) H fun v H'=>v= .tup []∧Aa q (ys.length:Nat)∧H'=upd H q.id (some (.arr sz (q.pre++ys++q.rest)))
structure OGq (q:OG) extends OG where
 eq:toOG=q
instance {q:OG}:CoeOut (OGq q) OG:=⟨OGq.toOG⟩
instance {q:OG}:CoeDep OG q (OGq q):=⟨⟨q,rfl⟩⟩
section
variable {P:Program}{nt:Nat}{rd:Option Nat}{T:EZ}{E:CU}
variable (hE:E=G0 P nt rd)
include hE
theorem Qt {α R:Type} {f:α→V} {Φ:A2→A2→Prop} {H0 H:A2} {L:List En} {sz:Nat} {q:OG} {l:List α} {r:R} {m:Option (List α)} {F:List α→Option R} {fid:FuncId} {args:List V} {A:OG→List V} {k:V→A2→Prop}
 (hO:C3 Φ H0 L H) (hq:Aa q (Ar.len l)) (i:Nat) (hi:L[i]? =some (.blk q.id (.arr sz (q.pre++lst f l++q.rest)))) (h:m.bind F=some r) (hc:∀x,m=some x→TF P fid A sz (lst f l) (lst f x)) (hl:H9 args (A q))
 (hk:∀x H',Aa q (Ar.len x)→C3 Φ H0 (L.set i (.blk q.id (.arr sz (q.pre++lst f x++q.rest)))) H'→F x=some r→k (.tup []) H'):E.call (.func (.func fid) [] []) args H k:=by
 subst hE;obtain⟨x,h1,h2⟩:=bind_some h;refine I0.value (F:=[]) (C:=[]) ?_;simp only[List.nil_append,append_nil]
 exact((hc x h1 H q (by rw[I3,←len_eq];exact hq) (hO.get i hi)).args hl).mono fun v H' ⟨e1,e0,e2⟩=>by
  subst e1;subst e2;exact hk x _ (VG e0) (hO.set i hi) h2
end
theorem LA {P:Program} {T:EZ} {f:FuncId} {fn:Func} {c:Code} {n m:Nat} {rs:List ResultVar} {α:Type} {fe:α→V} {l r:List α} {sz:Nat} {A:OG→List V} (cf:Cf) (hP:QV P T) (hf:P.funcs[f]? =some fn) (hb:fn.body=some c) (hd:I4 cf c=true)
 (hcall:∀vals w,(callFunc f vals).run P w= .ok (.enter f vals) w) (hnt:fn.ntmps=n) (hrs:fn.results.toList=rs) (hm:∀q,(A q).length=m) (hn:Nat.ble m n=true)
 (h:∀(E:CU) (H:A2) (q:OG) (k:V→A2→Prop),E=G0 P n none→Aa q (Ar.len l)→C3 Eq (upd H q.id none) [.blk q.id (.arr sz (q.pre++lst fe l++q.rest))] H→
  (∀(L:List En) (i:Nat) H',Aa q (Ar.len r)→L[i]? =some (.blk q.id (.arr sz (q.pre++lst fe r++q.rest)))→C3 Eq (upd H q.id none) L H'→k (.tup []) H')→run E T n cf c ⟨Bp (A q) 0,[]⟩ H (Lu E T rs k)):TF P f A sz (lst fe l) (lst fe r):=by
 intro H q hq hk;refine I0.le (S1 (K:=fun v H'=>∃y H2,BG v y∧Gr H2 H'∧y= .tup []∧Aa q ((lst fe r).length:Nat)∧H2=upd H q.id (some (.arr sz (q.pre++lst fe r++q.rest)))) cf hP.1 hP.2 hf hb hd hcall hnt hrs (by rw[hm];exact hn) fun E hE=>?_);refine h E H q _ hE (VG hq) (C3.startO hk) fun L i H' hr hi hO=>?_;obtain⟨h1,h2⟩:=(hO.only i hi).last
 rw[Bu]at h2
 exact⟨_,_,.refl _,h2,rfl,by rw[I3,←len_eq];exact hr,rfl⟩
end Go.Ab
namespace Go.Ab
open Go.RowKit
variable [J9]
theorem I0.thawG {P:Program} {f:FuncId} {args:List V} {H:A2} {K K':V→A2→Prop} (h:I0 P f args H K)
 (hk:∀x H',K x H'→K' x H'∨∃(mk:V→V) (id sz:Nat) (row:List V) (lo n:Int),CS mk∧x=mk (.own id lo n)∧H' id=some (.arr sz row)∧K' (mk (.sl (L7 row lo n) .ro)) (upd H' id none)):I0 P f args H K':=
 fun g w vals hR hA=>(h g w vals hR hA).mono fun v w' ⟨g',x,H',s,hR',hv,hK⟩=>by
  rcases hk x H' hK with hK|⟨mk,id,sz,row,lo,n,hm,rfl,h1,h2⟩
  ·exact⟨g',x,H',s,hR',hv,hK⟩
  obtain⟨g2,s2,R2,hv2⟩:=hR'.freezeArr h1;obtain⟨v1,hv1,hb⟩:=hm g' w' v _ hv;exact⟨g2,_,_,s.trans s2,R2,hb _ _ _ s2 (hv2 _ _ _ (hv1.mono s2)),h2⟩
section
variable [Ar]{P:Program}{T:EZ}
theorem NZ {f:FuncId} {fn:Func} {c:Code} {n:Nat} {rs:List ResultVar} {args:List V} {r:V} (cf:Cf) (hP:QV P T) (hf:P.funcs[f]? =some fn) (hb:fn.body=some c) (hd:I4 cf c=true)
 (hcall:∀vals w,(callFunc f vals).run P w= .ok (.enter f vals) w) (hnt:fn.ntmps=n) (hrs:fn.results.toList=rs) (hn:Nat.ble args.length n=true)
 (h:∀(E:CU) (H:A2) (K:V→A2→Prop),E=G0 P n none→(∀x L H',C3 Eq H L H'→BG x r→K x H')→
  (∀(mk:V→V) (_:CS mk) (q:OG) (sz:Nat) (xs:List V) (i:Nat) (L:List En) H',C3 Eq H L H'→L[i]? =some (.blk q.id (.arr sz (q.pre++xs++q.rest)))→Aa q (xs.length:Nat)→BG (mk (.sl xs .ro)) r→K (mk (.own q.id q.lo q.n)) H')→run E T n cf c ⟨Bp args 0,[]⟩ H (Lu E T rs K)):B6 P f args r:=fun H=>by
 refine I0.le ?_
 refine(S1 (K:=fun x H'=>(∃y H2,BG x y∧Gr H2 H'∧y=r∧H2=H)∨∃(mk:V→V) (q:OG) (sz:Nat) (xs:List V) (i:Nat) (L:List En),CS mk∧x=mk (.own q.id q.lo q.n)∧C3 Eq H L H'∧L[i]? =some (.blk q.id (.arr sz (q.pre++xs++q.rest)))∧Aa q (xs.length:Nat)∧BG (mk (.sl xs .ro)) r)
  cf hP.1 hP.2 hf hb hd hcall hnt hrs hn fun E hE=>?_).thawG ?_
 ·exact h E H _ hE (fun x L H' hO hx=>.inl ⟨r,H,hx,hO.ext,rfl,rfl⟩) fun mk hm q sz xs i L H' hO hi hq hr=>.inr ⟨mk,q,sz,xs,i,L,hm,rfl,hO,hi,hq,hr⟩
 rintro x H' (h|⟨mk,q,sz,xs,i,L,hm,rfl,hO,hi,hq,hr⟩)
 ·exact .inl h
 refine .inr ⟨mk,q.id,sz,_,q.lo,q.n,hm,rfl,hO.get i hi,r,H,?_,(hO.del i hi).ext,rfl,rfl⟩;rw[TX rfl hq.1 hq.2];exact hr
end
end Go.Ab
