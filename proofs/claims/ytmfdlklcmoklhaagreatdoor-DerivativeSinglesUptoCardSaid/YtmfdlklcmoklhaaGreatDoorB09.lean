/- AbF1 AbF2 AbF3 AbB15 AbR1 AbB17 AbC6 -/
import Derived.Test.YtmfdlklcmoklhaaGreatDoorB08
set_option linter.all false
open Go.Ab.Ar (len_eq lst ofs)
namespace Go.Ab
open Go.RowKit
variable [M9][Ar]
def AQ1 (e e':En):Prop:=∀id b b',e.id=some (id,b)→e'.id=some (id,b')→False
theorem Cm.perm {H0 H:A5} {L L':List En} (h:Cm H0 L H) (p:L.Perm L'):Cm H0 L' H:=by
 have hp:L.Pairwise AQ1:=by
  rw[FZ];intro i j hi hj hlt id b b' e1 e2;have:=h.inj i j _ _ id b b' (E2 hi) (E2 hj) e1 e2;omega
 have hp':L'.Pairwise AQ1:=(p.pairwise_iff (fun{x y} (h:AQ1 x y) id b b' e1 e2=>h id b' b e2 e1)).1 hp
 rw[FZ]at hp'
 refine⟨h.ext,fun i e id b hi he=>?_,fun i j e e' id b b' hi hj he he'=>?_,fun x b hx=>(h.only x b hx).imp (fun h=>h) fun⟨i,e,h1,h2⟩=>?_⟩
 ·obtain⟨j,hj⟩:=List.getElem?_of_mem (p.mem_iff.2 (EC hi));exact h.has j e id b hj he
 ·grind [AQ1]
 obtain⟨j,hj⟩:=List.getElem?_of_mem (p.mem_iff.1 (EC h1))
 grind
theorem C3.perm {Φ:A5→A5→Prop}{F H:A5}{L L':List En}(h:C3 Φ F L H)(p:L.Perm L'):C3 Φ F L' H:=
 let⟨hs,F',H1,h0,h1,h2⟩:=h;⟨hs,F',H1,h0.perm p,h1,h2⟩
structure Rw (α:Type) where
 q:OG
 row:List (List α×G3)
variable {α:Type}(f:α→V)
def CS (c:List α×G3):V:=.sl (lst f c.1) c.2
def rwB (w:Rw α):En:=.blk w.q.id (.arr 1 (w.q.pre++lst (CS f) w.row++w.q.rest))
def rwL (w:Rw α):List En:=rwB f w::w.row.map fun c=>.tl c.2
def fo :List (Rw α)→List En
 |[]=>[]
 |w::F=>rwL f w++fo F
def RwA (w:Rw α):Prop:=∀c∈w.row,Au c.2
variable {f}
theorem AD8 :∀(F G:List (Rw α)),fo f (F++G)=fo f F++fo f G
 |[],_=>rfl
 |w::F,G=>by rw[Cx,fo,fo,AD8 F G,D4]
theorem Yc :∀{F:List (Rw α)} {c:Nat} {w:Rw α},F[c]? =some w→∃R,(fo f F).Perm (rwL f w++R)∧∀w',(fo f (F.set c w')).Perm (rwL f w'++R)
 |[],_,_,h=>by simp at h
 |v::F,0,w,h=>by
  simp at h;subst h
  exact⟨fo f F,.refl _,fun w'=>.refl _⟩
 | v::F,c+1,w,h=>by
  obtain⟨R,h1,h2⟩:=Yc (F:=F) (c:=c) (w:=w) (by grind)
  have key:∀(X Y:List En),X.Perm (Y++R)→(rwL f v++X).Perm (Y++(rwL f v++R)):=fun X Y hX=>
   (hX.append_left _).trans (by
    rw[←D4,←D4]
    exact List.perm_append_comm.append_right R)
  grind [fo]
theorem PF :∀{row:List (List α×G3)} {i:Nat} {c:List α×G3},row[i]? =some c→∃R,(row.map fun c=>En.tl c.2).Perm (.tl c.2::R)∧∀c',((row.set i c').map fun c=>En.tl c.2).Perm (.tl c'.2::R)
 |[],_,_,h=>by simp at h
 |v::F,0,w,h=>by
  simp at h;subst h
  exact⟨F.map fun c=>.tl c.2,.refl _,fun w'=>.refl _⟩
 |v::F,i+1,w,h=>by
  obtain⟨R,h1,h2⟩:=PF (row:=F) (i:=i) (c:=w) (by grind);exact⟨.tl v.2::R,(h1.cons _).trans (.swap ..),fun w'=>((h2 w').cons _).trans (.swap ..)⟩
theorem Ab7 {F:List (Rw α)} {c i:Nat} {w:Rw α} {x:List α×G3} (hc:F[c]? =some w) (hi:w.row[i]? =some x):
 ∃R,(fo f F).Perm (.tl x.2::rwB f w::R)∧∀x',(fo f (F.set c ⟨w.q,w.row.set i x'⟩)).Perm (.tl x'.2::rwB f ⟨w.q,w.row.set i x'⟩::R):=by
 obtain⟨R,h1,h2⟩:=Yc (f:=f) hc;obtain⟨S,k1,k2⟩:=PF hi
 have key:∀(b:En) (X:List En) (t:En),X.Perm (t::S)→(b::(X++R)).Perm (t::b::(S++R)):=fun b X t hX=>
  ((hX.append_right R).cons b).trans (.swap ..)
 exact⟨S++R,h1.trans (key _ _ _ k1),fun x'=>(h2 _).trans (key _ _ _ (k2 x'))⟩
theorem C3.cell {Φ:A5→A5→Prop} {H0 H:A5} {b:En} {L:List En} {F:List (Rw α)} {c i:Nat} {w:Rw α} {x:List α×G3} (hO:C3 Φ H0 (b::(fo f F++L)) H) (hc:F[c]? =some w) (hi:w.row[i]? =some x):
 ∃R,C3 Φ H0 (.tl x.2::rwB f w::b::R) H∧∀x' H',C3 Φ H0 (.tl x'.2::rwB f ⟨w.q,w.row.set i x'⟩::b::R) H'→C3 Φ H0 (b::(fo f (F.set c ⟨w.q,w.row.set i x'⟩)++L)) H':=by
 obtain⟨R,h1,h2⟩:=Ab7 (f:=f) hc hi
 have key:∀(X:List En) (t r:En),X.Perm (t::r::R)→(b::(X++L)).Perm (t::r::b::(R++L)):=fun X t r h=>
  ((h.append_right L).cons b).trans ((List.Perm.swap t b _).trans ((List.Perm.swap r b _).cons t))
 exact⟨R++L,hO.perm (key _ _ _ h1),fun x' H' h=>h.perm (key _ _ _ (h2 x')).symm⟩
theorem C3.row {Φ:A5→A5→Prop} {H0 H:A5} {b b':En} {L:List En} {F:List (Rw α)} {w:Rw α} (hO:C3 Φ H0 (rwB f w::b::b'::(fo f F++L)) H) (hw:∀c∈w.row,(En.tl c.2).id=none):C3 Φ H0 (b'::(fo f (F++[w])++(b::L))) H:=by
 have h1:∀(row:List (List α×G3)) (M:List En),(∀c∈row,(En.tl c.2).id=none)→C3 Φ H0 M H→C3 Φ H0 ((row.map fun c=>.tl c.2)++M) H:=by
  intro row
  induction row with
  |nil=>simp_all
  |cons c row ih=>grind [tl0]
 have h2:=h1 w.row _ hw hO;refine h2.perm ?_;rw[AD8];simp only[fo,rwL,F2];generalize w.row.map (fun c=>En.tl c.2)=X;generalize fo f F=Y;have p1:(X++rwB f w::b::b'::(Y++L)).Perm (rwB f w::X++(b::b'::(Y++L))):=II
 have p2:(rwB f w::X++(b::b'::(Y++L))).Perm (b'::(rwB f w::X++(b::(Y++L)))):=
  ((List.Perm.swap b' b (Y++L)).append_left (rwB f w::X)).trans II
 refine p1.trans (p2.trans (.cons b' ?_));have p3:(rwB f w::X++(b::(Y++L))).Perm (rwB f w::X++(Y++b::L)):=(List.perm_middle.symm).append_left _;refine p3.trans ?_;rw[←D4];exact(List.perm_append_comm (l₁:=rwB f w::X) (l₂:=Y)).append_right _
end Go.Ab
namespace Go.Ab
open Go.RowKit
variable [M9]
def Gst (H:A5)(v:V)(H':A5)(v':V):Prop:=∀g w,Rl g H w→∃g',Y2 g w g' w∧Rl g' H' w∧∀u,VR g w u v→VR g' w u v'
theorem Gst.refl (H:A5)(v:V):Gst H v H v:=fun g w h=>⟨g,Y2.refl _ _,h,fun _ h=>h⟩
theorem Gst.trans {H H1 H2:A5}{v v1 v2:V}(a:Gst H v H1 v1)(b:Gst H1 v1 H2 v2):Gst H v H2 v2:=fun g w h=>by
 obtain⟨g1,s1,R1,k1⟩:=a g w h;obtain⟨g2,s2,R2,k2⟩:=b g1 w R1;exact⟨g2,s1.trans s2,R2,fun u hu=>k2 u (k1 u hu)⟩
theorem Gst.tup2 {H H':A5} {v v' c:V} (a:Gst H v H' v'):Gst H (.tup [v,c]) H' (.tup [v',c]):=fun g w h=>by
 obtain⟨g1,s1,R1,k1⟩:=a g w h;refine⟨g1,s1,R1,fun u hu=>?_⟩
 cases hu with
 |tup hl hv=>
  refine .tup hl fun i hi=>?_;have:=hv i hi
  match i,hi with
  |0,_=>grind
  |1,_=>exact this.mono s1
section
variable [Ar]{α:Type}{f:α→V}
end
end Go.Ab
namespace Go.Ab
open Go.RowKit
variable [M9][Ar]
section
variable {P:Program}{nt:Nat}{rd:Option Nat}{E:GF}(hE:E=I8 P nt rd)
include hE
variable {α:Type}{f:α→V}{Φ:A5→A5→Prop}{H0 H:A5}{L:List En}{sz:Nat}{q:OG}{l:List α}
theorem VY (hO:C3 Φ H0 L H)(hq:Hs q (Ar.len l))(i:Nat){j:Int}{k:Int→Prop}(hi:L[i]? =some (.blk q.id (.arr sz (q.pre++lst f l++q.rest))))(hj:0≤j∧j<(l.length:Nat))(hk:k (ofs q.lo j)):E.oidx H q.id sz q.lo q.n j k:=
 AA0 hE hO hq i hi (F:=fun _=>some ()) (r:=()) (by grind [req,inR]) fun _=>hk
theorem Ai5 {g:α→V} (hf:∀x,f x=g x) (hO:C3 Φ H0 L H) (hq:Hs q (Ar.len l)) (i:Nat) {j:Int} {x:α} {k:V→Prop} (hi:L[i]? =some (.blk q.id (.arr sz (q.pre++lst f l++q.rest)))) (hj:0≤j) (hx:l[j.toNat]? =some x) (hk:k (g x)):
 E.oload H q.id (ofs q.lo j) k:=by
 have hlt:j<(l.length:Nat):=by
  grind
 exact AL8 hE hf hO hq i hi (F:=fun y=>some y) (r:=x) (by simp_all[C5]) fun y hy=>by simp_all
theorem Ye {esz tz off:Nat}{y:V}{x':α}(hu:∀x,∃y',Ew y y'∧y'.one=true∧y'.cells.length=tz∧VE (f x) esz tz off y'=f x')(hle:off+tz≤esz)(hO:C3 Φ H0 L H)(hq:Hs q (Ar.len l))(i:Nat){j:Int}{k:A5→Prop}
 (hi:L[i]? =some (.blk q.id (.arr esz (q.pre++lst f l++q.rest)))) (hj:0≤j∧j<(l.length:Nat))
 (hk:∀H',C3 Φ H0 (L.set i (.blk q.id (.arr esz (q.pre++lst f (l.set j.toNat x')++q.rest)))) H'→k H'):E.ostore H q.id (ofs q.lo j) esz tz off y k:=by
 obtain⟨x,hx⟩:∃x,l[j.toNat]? =some x:=⟨l[j.toNat],E2 (by omega)⟩
 exact XC hE (u:=fun _=>x') hu hle hO hq i hi (F:=fun l=>some l) (r:=l.set j.toNat x') (by simp_all[Kg,C5]) fun l' H' hq' e hO'=>by simp_all
end
theorem AA8 {α:Type}{n m:Int}{z:α}{l:List α}(h:mkL n m z=some l):l=List.replicate n.toNat z:=by
 simp_all[mkL]
theorem AO0 {α:Type}{l:List α}{i:Int}{x:α}(h:C5 l i=some x):(0≤i∧i<(l.length:Nat))∧l[i.toNat]? =some x:=by
 grind [C5]
end Go.Ab
namespace Go.Ab
open Go.RowKit
variable [M9][Ar]
end Go.Ab
namespace Go.Ab
open Go.RowKit
variable [M9][Ar]
def JO {α:Type}(w:Rw α):List En:=w.row.map fun c=>.tl c.2
structure Ef {α:Type} (w:Rw α) (l:List (List α)):Prop where
 ok:Hs w.q (Ar.len w.row)
 ap:RwA w
 eq:w.row.map (·.1)=l
section
variable {α:Type}{f:α→V}{w:Rw α}{l:List (List α)}
theorem Ef.len (h:Ef w l):Ar.len l=Ar.len w.row:=by rw[len_eq,len_eq,←h.eq,List.length_map]
theorem Ef.at (h:Ef w l) {i:Int} {x:List α} (hx:C5 l i=some x):(0≤i∧i<(w.row.length:Nat))∧∃t,w.row[i.toNat]? =some (x,t)∧Au t:=by
 obtain⟨h1,h2⟩:=AO0 hx
 rw[←h.eq]at h1 h2
 rw[G5]at h1
 rw[W6]at h2
 cases hr:w.row[i.toNat]? with
 |none=>rw[hr]at h2;cases h2
 |some c=>
  rw[hr]at h2
  simp only[I7,E6]at h2
  refine⟨h1,c.2,by rw[←h2],h.ap c (EC hr)⟩
theorem Ef.put (h:Ef w l) (i:Nat) {y:List α} {t:G3} (ht:Au t):Ef ⟨w.q,w.row.set i (y,t)⟩ (l.set i y):=by
 refine⟨?_,fun c hc=>?_,?_⟩
 ·have:=h.ok
  rw[len_eq]at this ⊢
  rw[List.length_set];exact this
 ·rcases List.mem_or_eq_of_mem_set hc with hc|rfl
  ·exact h.ap c hc
  exact ht
 rw[List.map_set,h.eq]
theorem Zp {i:Nat}{c:List α×G3}(hi:w.row[i]? =some c):∃R,(JO w).Perm (.tl c.2::R)∧∀c',(JO ⟨w.q,w.row.set i c'⟩).Perm (.tl c'.2::R):=PF hi
theorem C3.rtake {Φ:A5→A5→Prop} {H0 H:A5} {L T1 T2:List En} (hO:C3 Φ H0 L H) (n:Nat) (hL:L=L.take n++(T1++(JO w++T2))) {i:Nat} {c:List α×G3} (hi:w.row[i]? =some c):
 ∃R,C3 Φ H0 (.tl c.2::(L.take n++R)) H∧∀c' H' (L2:List En),C3 Φ H0 (.tl c'.2::(L2++R)) H'→C3 Φ H0 (L2++(T1++(JO ⟨w.q,w.row.set i c'⟩++T2))) H':=by
 obtain⟨R,h1,h2⟩:=Zp hi
 have key:∀(L2 X:List En) (t:En),X.Perm (t::R)→(L2++(T1++(X++T2))).Perm (t::(L2++(T1++(R++T2)))):=fun L2 X t h=>
  ((((h.append_right T2).append_left T1).append_left L2).trans ((II (l₁:=T1)).append_left L2)).trans II
 refine⟨T1++(R++T2),?_,fun c' H' L2 h=>h.perm (key _ _ _ (h2 c')).symm⟩
 rw[hL]at hO
 exact hO.perm (key _ _ _ h1)
theorem C3.radd {Φ:A5→A5→Prop} {H0 H:A5} {L:List En} (hO:C3 Φ H0 L H) (n:Nat) (w:Rw α) (hw:∀c∈w.row,(En.tl c.2).id=none):C3 Φ H0 (L.take n++(JO w++L.drop n)) H:=by
 have h1:∀(row:List (List α×G3)) (M:List En),(∀c∈row,(En.tl c.2).id=none)→C3 Φ H0 M H→C3 Φ H0 ((row.map fun c=>.tl c.2)++M) H:=by
  intro row
  induction row with
  |nil=>simp
  |cons c row ih=>exact fun M hr h=>(ih M (fun c hc=>hr c (by simp[hc])) h).tl0 (hr c (by simp))
 refine(h1 w.row L hw hO).perm ?_
 show(JO w++L).Perm _
 have e:JO w++L=JO w++(L.take n++L.drop n):=by rw[Gb]
 rw[e,←D4,←D4];exact List.perm_append_comm.append_right _
theorem C3.drops {Φ:A5→A5→Prop}{H0 H:A5}:∀{X L:List En},C3 Φ H0 (X++L) H→C3 Φ H0 L H
 |[],_,h=>h
 |_::X,_,h=>C3.drops (X:=X) h.tail
theorem C3.rdrop {Φ:A5→A5→Prop}{H0 H:A5}{L T1 T2:List En}(hO:C3 Φ H0 L H)(n:Nat)(hL:L=L.take n++(T1++(JO w++T2))):C3 Φ H0 (L.take n++(T1++T2)) H:=by
 rw[hL]at hO
 refine(hO.perm (L':=JO w++(L.take n++(T1++T2))) ?_).drops;refine(((Qw T1 (JO w) T2).append_left _)).trans ?_;exact Qw _ _ _
theorem WA {α:Type}{l r:List α}{i:Int}{y:α}(h:Kg l i (fun _=>y)=some r):r=l.set i.toNat y:=by
 simp_all[Kg]
theorem AJ5 {e:List α→V} (he:∀x,e x= .sl (lst f x) .ro) (h:Ef w l):M1 (lst (CS f) w.row) (lst e l):=by
 rw[Ar.lst_eq,Ar.lst_eq,←h.eq]
 have:∀row:List (List α×G3),M1 (row.map (CS f)) ((row.map (·.1)).map e):=by
  intro row
  induction row with
  |nil=>exact .nil
  |cons c row ih=>exact .cons (by rw[he];exact .ro _ _) ih
 exact this _
end
section
variable {P:Program}{nt:Nat}{rd:Option Nat}{T:Ix}{E:GF}
variable (hE:E=I8 P nt rd)
include hE
variable {α R:Type}{f:α→V}{Φ:A5→A5→Prop}{H0 H:A5}{L:List En}{w:Rw α}{l:List (List α)}{r:R}
theorem AR4 {by_:Nat} (hby:by_≤131072) (hO:C3 Φ H0 L H) (c:Nat) {n m:Int} {k:V→A5→Prop} {F:List (List α)→Option R} (h:(mkL n m ([]:List α)).bind F=some r)
 (hk:∀l (w:Rw α) H',Ef w l→F l=some r→C3 Φ H0 (.blk w.q.id (.arr 1 (w.q.pre++lst (CS f) w.row++w.q.rest))::(L.take c++(JO w++L.drop c))) H'→k (.own w.q.id w.q.lo w.q.n) H'):E.omk 1 by_ (.sl [] .nil) n m H k:=by
 obtain⟨l,h1,h2⟩:=bind_some h;have hl:=AA8 h1
 have h3:mkL n m (([]:List α),G3.nil)=some (List.replicate n.toNat (([]:List α),G3.nil)):=by
  simp_all[mkL]
 refine AR5 hE (f:=CS f) hby (z0:=(([]:List α),G3.nil)) (.slt _ .lst0) hO (F:=fun l=>some l) (r:=List.replicate n.toNat (([]:List α),G3.nil)) (by rw[h3];rfl) fun row q H' hq hr hO'=>?_;cases hr;refine hk l ⟨q,List.replicate n.toNat (([]:List α),G3.nil)⟩ H' ⟨hq,fun c hc=>by rw[Qp hc];trivial,by rw[hl];simp⟩ h2 ?_
 exact hO'.radd (c+1) ⟨q,List.replicate n.toNat (([]:List α),G3.nil)⟩ fun c hc=>by rw[Qp hc];rfl
theorem XB {e:List α→V}(he:∀x,e x= .sl (lst f x) .ro)(hO:C3 Φ H0 L H)(hw:Ef w l)(i m:Nat){id j:Nat}{cs:List V}{k:A5→Prop}(hi:L[i]? =some (.blk id (.cells cs)))(hm:L[m]? =some (.blk w.q.id (.arr 1 (w.q.pre++lst (CS f) w.row++w.q.rest))))(hj:cs[j]? =some (.own w.q.id w.q.lo w.q.n))(him:i≠m)
 (hk:∀H',C3 Φ H0 ((L.set i (.blk id (.cells (cs.set j (.sl (lst e l) .ro))))).eraseIdx m) H'→k H'):E.frzIn H id j k:=by
 subst hE;have h1:=hO.get i hi;have h2:=hO.get m hm
 have hne:w.q.id≠id:=fun e=>by rw[e,h1]at h2;cases h2
 refine⟨cs,w.q.id,w.q.lo,w.q.n,1,_,lst e l,h1,hj,h2,?_,?_⟩
 ·rw[Rh hw.ok.1 (by rw[hw.ok.2,len_eq,P5])];exact AJ5 he hw
 have h3:=(hO.set i (b':=.cells (cs.set j (.sl (lst e l) .ro))) hi).del m (id:=w.q.id) (b:=.arr 1 (w.q.pre++lst (CS f) w.row++w.q.rest)) (by rw[Bc,A1 him];exact hm);rw[RI _ _ _ hne];exact hk _ h3
end
end Go.Ab
namespace Go.Ab
open Go.RowKit
variable [M9][Ar]
section
variable {P:Program}{nt:Nat}{rd:Option Nat}{T:Ix}{E:GF}
variable (hE:E=I8 P nt rd)
include hE
end
end Go.Ab
namespace Go.Ab
open Go.RowKit
variable [M9][Ar]
structure OGq (q:OG) extends OG where
 eq:toOG=q
instance {q:OG}:CoeOut (OGq q) OG:=⟨OGq.toOG⟩
instance {q:OG}:CoeDep OG q (OGq q):=⟨⟨q,rfl⟩⟩
section
variable {P:Program}{nt:Nat}{rd:Option Nat}{T:Ix}{E:GF}
variable (hE:E=I8 P nt rd)
include hE
end
end Go.Ab
