/- AbF1 AbF2 AbF3 AbB15 AbR1 AbR2 AbB17 AbC6 -/
import Derived.Test.YtanbgjgaafeplaaGreatDoorI08
set_option linter.all false
open List (append_assoc)
open Go.Ab.Ar (len_eq lst ofs)
namespace Go.Ab
open Go.RowKit
variable [I5][Ar]
def Am9 (e e':En):Prop:=∀id b b',e.id=some (id,b)→e'.id=some (id,b')→False
theorem Z7.perm {H0 H:A2} {L L':List En} (h:Z7 H0 L H) (p:L.Perm L'):Z7 H0 L' H:=by
 have hp:L.Pairwise Am9:=by
  rw[List.pairwise_iff_getElem];intro i j hi hj hlt id b b' e1 e2;have:=h.inj i j _ _ id b b' (List.getElem?_eq_getElem hi) (List.getElem?_eq_getElem hj) e1 e2;omega
 have hp':L'.Pairwise Am9:=(p.pairwise_iff (fun{x y} (h:Am9 x y) id b b' e1 e2=>h id b' b e2 e1)).1 hp
 rw[List.pairwise_iff_getElem]at hp'
 refine⟨h.ext,fun i e id b hi he=>?_,fun i j e e' id b b' hi hj he he'=>?_,fun x b hx=>(h.only x b hx).imp (fun h=>h) fun⟨i,e,h1,h2⟩=>?_⟩
 ·obtain⟨j,hj⟩:=List.getElem?_of_mem (p.mem_iff.2 (List.mem_of_getElem? hi));exact h.has j e id b hj he
 ·obtain⟨hi',ei⟩:=List.getElem?_eq_some_iff.1 hi;obtain⟨hj',ej⟩:=List.getElem?_eq_some_iff.1 hj
  rcases Nat.lt_trichotomy i j with hlt|heq|hlt
  ·exact(hp' i j hi' hj' hlt id b b' (by rw[ei];exact he) (by rw[ej];exact he')).elim
  ·exact heq
  exact(hp' j i hj' hi' hlt id b' b (by rw[ej];exact he') (by rw[ei];exact he)).elim
 obtain⟨j,hj⟩:=List.getElem?_of_mem (p.mem_iff.1 (List.mem_of_getElem? h1));exact⟨j,e,hj,h2⟩
theorem B8.perm {Φ:A2→A2→Prop}{F H:A2}{L L':List En}(h:B8 Φ F L H)(p:L.Perm L'):B8 Φ F L' H:=
 let⟨hs,F',H1,h0,h1,h2⟩:=h;⟨hs,F',H1,h0.perm p,h1,h2⟩
structure Rw (α:Type) where
 q:OG
 row:List (List α×D7)
variable {α:Type}(f:α→V)
def Dw (c:List α×D7):V:=.sl (lst f c.1) c.2
def Ue (w:Rw α):En:=.blk w.q.id (.arr 1 (w.q.pre++lst (Dw f) w.row++w.q.rest))
def rwL (w:Rw α):List En:=Ue f w::w.row.map fun c=>.tl c.2
def fo :List (Rw α)→List En
 |[]=>[]
 |w::F=>rwL f w++fo F
def RwA (w:Rw α):Prop:=∀c∈w.row,W6 c.2
variable {f}
theorem Yu :∀(F G:List (Rw α)),fo f (F++G)=fo f F++fo f G
 |[],_=>rfl
 |w::F,G=>by rw[List.cons_append,fo,fo,Yu F G,append_assoc]
theorem RA :∀{F:List (Rw α)} {c:Nat} {w:Rw α},F[c]? =some w→∃R,(fo f F).Perm (rwL f w++R)∧∀w',(fo f (F.set c w')).Perm (rwL f w'++R)
 |[],_,_,h=>by simp at h
 |v::F,0,w,h=>by
  simp at h;subst h
  exact⟨fo f F,.refl _,fun w'=>.refl _⟩
 | v::F,c+1,w,h=>by
  obtain⟨R,h1,h2⟩:=RA (F:=F) (c:=c) (w:=w) (by simpa using h)
  have key:∀(X Y:List En),X.Perm (Y++R)→(rwL f v++X).Perm (Y++(rwL f v++R)):=fun X Y hX=>
   (hX.append_left _).trans (by
    rw[←append_assoc,←append_assoc]
    exact List.perm_append_comm.append_right R)
  exact⟨rwL f v++R,key _ _ h1,fun w'=>key _ _ (h2 w')⟩
theorem JU :∀{row:List (List α×D7)} {i:Nat} {c:List α×D7},row[i]? =some c→∃R,(row.map fun c=>En.tl c.2).Perm (.tl c.2::R)∧∀c',((row.set i c').map fun c=>En.tl c.2).Perm (.tl c'.2::R)
 |[],_,_,h=>by simp at h
 |v::F,0,w,h=>by
  simp at h;subst h
  exact⟨F.map fun c=>.tl c.2,.refl _,fun w'=>.refl _⟩
 |v::F,i+1,w,h=>by
  obtain⟨R,h1,h2⟩:=JU (row:=F) (i:=i) (c:=w) (by simpa using h);exact⟨.tl v.2::R,(h1.cons _).trans (.swap ..),fun w'=>((h2 w').cons _).trans (.swap ..)⟩
theorem TJ {F:List (Rw α)} {c i:Nat} {w:Rw α} {x:List α×D7} (hc:F[c]? =some w) (hi:w.row[i]? =some x):
 ∃R,(fo f F).Perm (.tl x.2::Ue f w::R)∧∀x',(fo f (F.set c ⟨w.q,w.row.set i x'⟩)).Perm (.tl x'.2::Ue f ⟨w.q,w.row.set i x'⟩::R):=by
 obtain⟨R,h1,h2⟩:=RA (f:=f) hc;obtain⟨S,k1,k2⟩:=JU hi
 have key:∀(b:En) (X:List En) (t:En),X.Perm (t::S)→(b::(X++R)).Perm (t::b::(S++R)):=fun b X t hX=>
  ((hX.append_right R).cons b).trans (.swap ..)
 exact⟨S++R,h1.trans (key _ _ _ k1),fun x'=>(h2 _).trans (key _ _ _ (k2 x'))⟩
theorem B8.cell {Φ:A2→A2→Prop} {H0 H:A2} {b:En} {L:List En} {F:List (Rw α)} {c i:Nat} {w:Rw α} {x:List α×D7} (hO:B8 Φ H0 (b::(fo f F++L)) H) (hc:F[c]? =some w) (hi:w.row[i]? =some x):
 ∃R,B8 Φ H0 (.tl x.2::Ue f w::b::R) H∧∀x' H',B8 Φ H0 (.tl x'.2::Ue f ⟨w.q,w.row.set i x'⟩::b::R) H'→B8 Φ H0 (b::(fo f (F.set c ⟨w.q,w.row.set i x'⟩)++L)) H':=by
 obtain⟨R,h1,h2⟩:=TJ (f:=f) hc hi
 have key:∀(X:List En) (t r:En),X.Perm (t::r::R)→(b::(X++L)).Perm (t::r::b::(R++L)):=fun X t r h=>
  ((h.append_right L).cons b).trans ((List.Perm.swap t b _).trans ((List.Perm.swap r b _).cons t))
 exact⟨R++L,hO.perm (key _ _ _ h1),fun x' H' h=>h.perm (key _ _ _ (h2 x')).symm⟩
theorem B8.row {Φ:A2→A2→Prop} {H0 H:A2} {b b':En} {L:List En} {F:List (Rw α)} {w:Rw α} (hO:B8 Φ H0 (Ue f w::b::b'::(fo f F++L)) H) (hw:∀c∈w.row,(En.tl c.2).id=none):B8 Φ H0 (b'::(fo f (F++[w])++(b::L))) H:=by
 have h1:∀(row:List (List α×D7)) (M:List En),(∀c∈row,(En.tl c.2).id=none)→B8 Φ H0 M H→B8 Φ H0 ((row.map fun c=>.tl c.2)++M) H:=by
  intro row
  induction row with
  |nil=>exact fun _ _ h=>h
  |cons c row ih=>exact fun M hr h=>(ih M (fun c hc=>hr c (by simp[hc])) h).tl0 (hr c (by simp))
 have h2:=h1 w.row _ hw hO;refine h2.perm ?_;rw[Yu];simp only[fo,rwL,List.append_nil];generalize w.row.map (fun c=>En.tl c.2)=X;generalize fo f F=Y;have p1:(X++Ue f w::b::b'::(Y++L)).Perm (Ue f w::X++(b::b'::(Y++L))):=List.perm_middle
 have p2:(Ue f w::X++(b::b'::(Y++L))).Perm (b'::(Ue f w::X++(b::(Y++L)))):=
  ((List.Perm.swap b' b (Y++L)).append_left (Ue f w::X)).trans List.perm_middle
 refine p1.trans (p2.trans (.cons b' ?_));have p3:(Ue f w::X++(b::(Y++L))).Perm (Ue f w::X++(Y++b::L)):=(List.perm_middle.symm).append_left _;refine p3.trans ?_;rw[←append_assoc];exact(List.perm_append_comm (l₁:=Ue f w::X) (l₂:=Y)).append_right _
end Go.Ab
namespace Go.Ab
open Go.RowKit
variable [I5]
def Gst (H:A2)(v:V)(H':A2)(v':V):Prop:=∀g w,Rl g H w→∃g',T8 g w g' w∧Rl g' H' w∧∀u,VR g w u v→VR g' w u v'
theorem Gst.refl (H:A2)(v:V):Gst H v H v:=fun g w h=>⟨g,T8.refl _ _,h,fun _ h=>h⟩
theorem Gst.trans {H H1 H2:A2}{v v1 v2:V}(a:Gst H v H1 v1)(b:Gst H1 v1 H2 v2):Gst H v H2 v2:=fun g w h=>by
 obtain⟨g1,s1,R1,k1⟩:=a g w h;obtain⟨g2,s2,R2,k2⟩:=b g1 w R1;exact⟨g2,s1.trans s2,R2,fun u hu=>k2 u (k1 u hu)⟩
theorem Gst.tup2 {H H':A2} {v v' c:V} (a:Gst H v H' v'):Gst H (.tup [v,c]) H' (.tup [v',c]):=fun g w h=>by
 obtain⟨g1,s1,R1,k1⟩:=a g w h;refine⟨g1,s1,R1,fun u hu=>?_⟩
 cases hu with
 |tup hl hv=>
  refine .tup hl fun i hi=>?_;have:=hv i hi
  match i,hi with
  |0,_=>exact k1 _ this
  |1,_=>exact this.mono s1
section
variable [Ar]{α:Type}{f:α→V}
end
end Go.Ab
namespace Go.Ab
open Go.RowKit
variable [I5][Ar]
section
variable {P:Program}{nt:Nat}{rd:Option Nat}{E:Dj}(hE:E=F5 P nt rd)
include hE
variable {α:Type}{f:α→V}{Φ:A2→A2→Prop}{H0 H:A2}{L:List En}{sz:Nat}{q:OG}{l:List α}
theorem YE (hO:B8 Φ H0 L H)(hq:Cr q (Ar.len l))(i:Nat){j:Int}{k:Int→Prop}(hi:L[i]? =some (.blk q.id (.arr sz (q.pre++lst f l++q.rest))))(hj:0≤j∧j<(l.length:Nat))(hk:k (ofs q.lo j)):E.oidx H q.id sz q.lo q.n j k:=
 Iw hE hO hq i hi (F:=fun _=>some ()) (r:=()) (by unfold QI Yl;rw[if_pos];rfl;exact decide_eq_true hj) fun _=>hk
theorem Ab4 {g:α→V} (hf:∀x,f x=g x) (hO:B8 Φ H0 L H) (hq:Cr q (Ar.len l)) (i:Nat) {j:Int} {x:α} {k:V→Prop} (hi:L[i]? =some (.blk q.id (.arr sz (q.pre++lst f l++q.rest)))) (hj:0≤j) (hx:l[j.toNat]? =some x) (hk:k (g x)):
 E.oload H q.id (ofs q.lo j) k:=by
 have hlt:j<(l.length:Nat):=by
  rcases Nat.lt_or_ge j.toNat l.length with h|h
  ·omega
  rw[List.getElem?_eq_none h]at hx;cases hx
 exact Pc hE hf hO hq i hi (F:=fun y=>some y) (r:=x) (by unfold B7;rw[if_pos hj,hx];rfl) fun y hy=>by cases hy;exact hk
theorem YD {esz tz off:Nat}{y:V}{x':α}(hu:∀x,∃y',Cq y y'∧y'.one=true∧y'.cells.length=tz∧OZ (f x) esz tz off y'=f x')(hle:off+tz≤esz)(hO:B8 Φ H0 L H)(hq:Cr q (Ar.len l))(i:Nat){j:Int}{k:A2→Prop}
 (hi:L[i]? =some (.blk q.id (.arr esz (q.pre++lst f l++q.rest)))) (hj:0≤j∧j<(l.length:Nat))
 (hk:∀H',B8 Φ H0 (L.set i (.blk q.id (.arr esz (q.pre++lst f (l.set j.toNat x')++q.rest)))) H'→k H'):E.ostore H q.id (ofs q.lo j) esz tz off y k:=by
 obtain⟨x,hx⟩:∃x,l[j.toNat]? =some x:=⟨l[j.toNat],List.getElem?_eq_getElem (by omega)⟩
 exact GV hE (u:=fun _=>x') hu hle hO hq i hi (F:=fun l=>some l) (r:=l.set j.toNat x') (by unfold FC B7;rw[if_pos hj.1,hx];rfl) fun l' H' hq' e hO'=>by cases e;exact hk H' hO'
end
theorem XU {α:Type}{n m:Int}{z:α}{l:List α}(h:Sh n m z=some l):l=List.replicate n.toNat z:=by
 unfold Sh at h
 split at h
 ·cases h;rfl
 cases h
theorem Ab0 {α:Type} {l:List α} {i:Int} {x:α} (h:B7 l i=some x):(0≤i∧i<(l.length:Nat))∧l[i.toNat]? =some x:=by
 unfold B7 at h
 split at h
 ·rename_i h0;refine⟨⟨h0,?_⟩,h⟩
  rcases Nat.lt_or_ge i.toNat l.length with h'|h'
  ·omega
  rw[List.getElem?_eq_none h']at h;cases h
 cases h
end Go.Ab
namespace Go.Ab
open Go.RowKit
variable [I5][Ar]
end Go.Ab
namespace Go.Ab
open Go.RowKit
variable [I5][Ar]
def HM {α:Type}(w:Rw α):List En:=w.row.map fun c=>.tl c.2
structure CM {α:Type} (w:Rw α) (l:List (List α)):Prop where
 ok:Cr w.q (Ar.len w.row)
 ap:RwA w
 eq:w.row.map (·.1)=l
section
variable {α:Type}{f:α→V}{w:Rw α}{l:List (List α)}
theorem CM.len (h:CM w l):Ar.len l=Ar.len w.row:=by rw[len_eq,len_eq,←h.eq,List.length_map]
theorem CM.at (h:CM w l) {i:Int} {x:List α} (hx:B7 l i=some x):(0≤i∧i<(w.row.length:Nat))∧∃t,w.row[i.toNat]? =some (x,t)∧W6 t:=by
 obtain⟨h1,h2⟩:=Ab0 hx
 rw[←h.eq]at h1 h2
 rw[List.length_map]at h1
 rw[List.getElem?_map]at h2
 cases hr:w.row[i.toNat]? with
 |none=>rw[hr]at h2;cases h2
 |some c=>
  rw[hr]at h2
  simp only[Option.map_some,Option.some.injEq]at h2
  refine⟨h1,c.2,by rw[←h2],h.ap c (List.mem_of_getElem? hr)⟩
theorem CM.put (h:CM w l) (i:Nat) {y:List α} {t:D7} (ht:W6 t):CM ⟨w.q,w.row.set i (y,t)⟩ (l.set i y):=by
 refine⟨?_,fun c hc=>?_,?_⟩
 ·have:=h.ok
  rw[len_eq]at this ⊢
  rw[List.length_set];exact this
 ·rcases List.mem_or_eq_of_mem_set hc with hc|rfl
  ·exact h.ap c hc
  exact ht
 rw[List.map_set,h.eq]
theorem SN {i:Nat}{c:List α×D7}(hi:w.row[i]? =some c):∃R,(HM w).Perm (.tl c.2::R)∧∀c',(HM ⟨w.q,w.row.set i c'⟩).Perm (.tl c'.2::R):=JU hi
theorem B8.rtake {Φ:A2→A2→Prop} {H0 H:A2} {L T1 T2:List En} (hO:B8 Φ H0 L H) (n:Nat) (hL:L=L.take n++(T1++(HM w++T2))) {i:Nat} {c:List α×D7} (hi:w.row[i]? =some c):
 ∃R,B8 Φ H0 (.tl c.2::(L.take n++R)) H∧∀c' H' (L2:List En),B8 Φ H0 (.tl c'.2::(L2++R)) H'→B8 Φ H0 (L2++(T1++(HM ⟨w.q,w.row.set i c'⟩++T2))) H':=by
 obtain⟨R,h1,h2⟩:=SN hi
 have key:∀(L2 X:List En) (t:En),X.Perm (t::R)→(L2++(T1++(X++T2))).Perm (t::(L2++(T1++(R++T2)))):=fun L2 X t h=>
  ((((h.append_right T2).append_left T1).append_left L2).trans ((List.perm_middle (l₁:=T1)).append_left L2)).trans List.perm_middle
 refine⟨T1++(R++T2),?_,fun c' H' L2 h=>h.perm (key _ _ _ (h2 c')).symm⟩
 rw[hL]at hO
 exact hO.perm (key _ _ _ h1)
theorem B8.radd {Φ:A2→A2→Prop} {H0 H:A2} {L:List En} (hO:B8 Φ H0 L H) (n:Nat) (w:Rw α) (hw:∀c∈w.row,(En.tl c.2).id=none):B8 Φ H0 (L.take n++(HM w++L.drop n)) H:=by
 have h1:∀(row:List (List α×D7)) (M:List En),(∀c∈row,(En.tl c.2).id=none)→B8 Φ H0 M H→B8 Φ H0 ((row.map fun c=>.tl c.2)++M) H:=by
  intro row
  induction row with
  |nil=>exact fun _ _ h=>h
  |cons c row ih=>exact fun M hr h=>(ih M (fun c hc=>hr c (by simp[hc])) h).tl0 (hr c (by simp))
 refine(h1 w.row L hw hO).perm ?_
 show(HM w++L).Perm _
 have e:HM w++L=HM w++(L.take n++L.drop n):=by rw[List.take_append_drop]
 rw[e,←append_assoc,←append_assoc];exact List.perm_append_comm.append_right _
theorem B8.drops {Φ:A2→A2→Prop}{H0 H:A2}:∀{X L:List En},B8 Φ H0 (X++L) H→B8 Φ H0 L H
 |[],_,h=>h
 |_::X,_,h=>B8.drops (X:=X) h.tail
theorem B8.rdrop {Φ:A2→A2→Prop}{H0 H:A2}{L T1 T2:List En}(hO:B8 Φ H0 L H)(n:Nat)(hL:L=L.take n++(T1++(HM w++T2))):B8 Φ H0 (L.take n++(T1++T2)) H:=by
 rw[hL]at hO
 refine(hO.perm (L':=HM w++(L.take n++(T1++T2))) ?_).drops;refine(((List.perm_append_comm_assoc T1 (HM w) T2).append_left _)).trans ?_;exact List.perm_append_comm_assoc _ _ _
theorem WY {α:Type}{l r:List α}{i:Int}{y:α}(h:FC l i (fun _=>y)=some r):r=l.set i.toNat y:=by
 unfold FC at h
 cases hx:B7 l i with
 |none=>rw[hx]at h;cases h
 |some x=>rw[hx]at h;simp only[Option.map_some,Option.some.injEq]at h;exact h.symm
theorem Zx {e:List α→V} (he:∀x,e x= .sl (lst f x) .ro) (h:CM w l):G5 (lst (Dw f) w.row) (lst e l):=by
 rw[Ar.lst_eq,Ar.lst_eq,←h.eq]
 have:∀row:List (List α×D7),G5 (row.map (Dw f)) ((row.map (·.1)).map e):=by
  intro row
  induction row with
  |nil=>exact .nil
  |cons c row ih=>exact .cons (by rw[he];exact .ro _ _) ih
 exact this _
end
section
variable {P:Program}{nt:Nat}{rd:Option Nat}{T:Et}{E:Dj}
variable (hE:E=F5 P nt rd)
include hE
variable {α R:Type}{f:α→V}{Φ:A2→A2→Prop}{H0 H:A2}{L:List En}{w:Rw α}{l:List (List α)}{r:R}
theorem Ao4 {by_:Nat} (hby:by_≤131072) (hO:B8 Φ H0 L H) (c:Nat) {n m:Int} {k:V→A2→Prop} {F:List (List α)→Option R} (h:(Sh n m ([]:List α)).bind F=some r)
 (hk:∀l (w:Rw α) H',CM w l→F l=some r→B8 Φ H0 (.blk w.q.id (.arr 1 (w.q.pre++lst (Dw f) w.row++w.q.rest))::(L.take c++(HM w++L.drop c))) H'→k (.own w.q.id w.q.lo w.q.n) H'):E.omk 1 by_ (.sl [] .nil) n m H k:=by
 obtain⟨l,h1,h2⟩:=bind_some h;have hl:=XU h1
 have h3:Sh n m (([]:List α),D7.nil)=some (List.replicate n.toNat (([]:List α),D7.nil)):=by
  unfold Sh at h1 ⊢
  split at h1
  ·rename_i hc;rw[if_pos hc]
  cases h1
 refine Ri hE (f:=Dw f) hby (z0:=(([]:List α),D7.nil)) (.slt _ .lst0) hO (F:=fun l=>some l) (r:=List.replicate n.toNat (([]:List α),D7.nil)) (by rw[h3];rfl) fun row q H' hq hr hO'=>?_;cases hr;refine hk l ⟨q,List.replicate n.toNat (([]:List α),D7.nil)⟩ H' ⟨hq,fun c hc=>by rw[List.eq_of_mem_replicate hc];trivial,by rw[hl];simp⟩ h2 ?_
 exact hO'.radd (c+1) ⟨q,List.replicate n.toNat (([]:List α),D7.nil)⟩ fun c hc=>by rw[List.eq_of_mem_replicate hc];rfl
theorem XK {e:List α→V}(he:∀x,e x= .sl (lst f x) .ro)(hO:B8 Φ H0 L H)(hw:CM w l)(i m:Nat){id j:Nat}{cs:List V}{k:A2→Prop}(hi:L[i]? =some (.blk id (.cells cs)))(hm:L[m]? =some (.blk w.q.id (.arr 1 (w.q.pre++lst (Dw f) w.row++w.q.rest))))(hj:cs[j]? =some (.own w.q.id w.q.lo w.q.n))(him:i≠m)
 (hk:∀H',B8 Φ H0 ((L.set i (.blk id (.cells (cs.set j (.sl (lst e l) .ro))))).eraseIdx m) H'→k H'):E.frzIn H id j k:=by
 subst hE;have h1:=hO.get i hi;have h2:=hO.get m hm
 have hne:w.q.id≠id:=fun e=>by rw[e,h1]at h2;cases h2
 refine⟨cs,w.q.id,w.q.lo,w.q.n,1,_,lst e l,h1,hj,h2,?_,?_⟩
 ·rw[Ld hw.ok.1 (by rw[hw.ok.2,len_eq,K9])];exact Zx he hw
 have h3:=(hO.set i (b':=.cells (cs.set j (.sl (lst e l) .ro))) hi).del m (id:=w.q.id) (b:=.arr 1 (w.q.pre++lst (Dw f) w.row++w.q.rest)) (by rw[List.getElem?_set,if_neg him];exact hm);rw[LB _ _ _ hne];exact hk _ h3
end
end Go.Ab
namespace Go.Ab
variable [I5][Ar]
variable {P:Program}{nt:Nat}{rd:Option Nat}{T:Et}{E:Dj}
theorem XJ (cf:Cf)(hE:E=F5 P nt rd)(hP:Sc P T){c:Code}{st:St}{H:A2}{K:Exit→St→A2→Prop}(hd:G7 cf c=true)
 (h:VF E T nt cf c st H K):E.sim c st H K:=by
 subst hE;exact LR hP.1 hP.2 c _ _ _ hd h
end Go.Ab
namespace Go.Ab
open Go.RowKit
variable [I5][Ar]
section
variable {P:Program}{nt:Nat}{rd:Option Nat}{T:Et}{E:Dj}
variable (hE:E=F5 P nt rd)
include hE
end
end Go.Ab
namespace Go.Ab
open Go.RowKit
variable [I5][Ar]
def Za (P:Program)(f:FuncId)(A:OG→List V)(sz:Nat)(xs ys:List V):Prop:=
 ∀H (q:OG),Cr q (xs.length:Nat)→H q.id=some (.arr sz (q.pre++xs++q.rest))→K1 P f (A q) H fun v H'=>v= .tup []∧Cr q (ys.length:Nat)∧H'=upd H q.id (some (.arr sz (q.pre++ys++q.rest)))
section
variable {P:Program}{nt:Nat}{rd:Option Nat}{T:Et}{E:Dj}
variable (hE:E=F5 P nt rd)
include hE
theorem Pf {α R:Type} {f:α→V} {Φ:A2→A2→Prop} {H0 H:A2} {L:List En} {sz:Nat} {q:OG} {l:List α} {r:R} {m:Option (List α)} {F:List α→Option R} {fid:FuncId} {args:List V} {A:OG→List V} {k:V→A2→Prop}
 (hO:B8 Φ H0 L H) (hq:Cr q (Ar.len l)) (i:Nat) (hi:L[i]? =some (.blk q.id (.arr sz (q.pre++lst f l++q.rest)))) (h:m.bind F=some r) (hc:∀x,m=some x→Za P fid A sz (lst f l) (lst f x)) (hl:G5 args (A q))
 (hk:∀x H',Cr q (Ar.len x)→B8 Φ H0 (L.set i (.blk q.id (.arr sz (q.pre++lst f x++q.rest)))) H'→F x=some r→k (.tup []) H'):E.call (.func (.func fid) [] []) args H k:=by
 subst hE;obtain⟨x,h1,h2⟩:=bind_some h;refine K1.value (F:=[]) (C:=[]) ?_;simp only[List.nil_append,List.append_nil]
 exact((hc x h1 H q (by rw[K9,←len_eq];exact hq) (hO.get i hi)).args hl).mono fun v H' ⟨e1,e0,e2⟩=>by
  subst e1;subst e2;exact hk x _ (Jh e0) (hO.set i hi) h2
end
theorem Ww {P:Program} {T:Et} {f:FuncId} {fn:Func} {c:Code} {n m:Nat} {rs:List ResultVar} {α:Type} {fe:α→V} {l r:List α} {sz:Nat} {A:OG→List V} (cf:Cf) (hP:Sc P T) (hf:P.funcs[f]? =some fn) (hb:fn.body=some c) (hd:G7 cf c=true)
 (hcall:∀vals w,(callFunc f vals).run P w= .ok (.enter f vals) w) (hnt:fn.ntmps=n) (hrs:fn.results.toList=rs) (hm:∀q,(A q).length=m) (hn:Nat.ble m n=true)
 (h:∀(E:Dj) (H:A2) (q:OG) (k:V→A2→Prop),E=F5 P n none→Cr q (Ar.len l)→B8 Eq (upd H q.id none) [.blk q.id (.arr sz (q.pre++lst fe l++q.rest))] H→
  (∀(L:List En) (i:Nat) H',Cr q (Ar.len r)→L[i]? =some (.blk q.id (.arr sz (q.pre++lst fe r++q.rest)))→B8 Eq (upd H q.id none) L H'→k (.tup []) H')→run E T n cf c ⟨Ck (A q) 0,[]⟩ H (Nn E T rs k)):Za P f A sz (lst fe l) (lst fe r):=by
 intro H q hq hk;refine K1.le (Aj (K:=fun v H'=>∃y H2,Cq v y∧Gu H2 H'∧y= .tup []∧Cr q ((lst fe r).length:Nat)∧H2=upd H q.id (some (.arr sz (q.pre++lst fe r++q.rest)))) cf hP.1 hP.2 hf hb hd hcall hnt hrs (by rw[hm];exact hn) fun E hE=>?_);refine h E H q _ hE (Jh hq) (B8.startO hk) fun L i H' hr hi hO=>?_;obtain⟨h1,h2⟩:=(hO.only i hi).last
 rw[BV]at h2
 exact⟨_,_,.refl _,h2,rfl,by rw[K9,←len_eq];exact hr,rfl⟩
end Go.Ab
