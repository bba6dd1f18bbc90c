/- AbF1 AbF2 AbF3 AbB15 AbR1 AbR2 AbC5 AbS5 AbB13 AbB21 AbB19 -/
import Derived.Test.YtanbgjgaafeplaaGreatDoorC08
set_option linter.all false
open List (append_assoc)
open Go.Ab.Ar (len_eq lst lst_eq ofs)
namespace Go.Ab
open Go.RowKit
variable [I9][Ar]
def Ap7 (e e':En):Prop:=∀id b b',e.id=some (id,b)→e'.id=some (id,b')→False
theorem Z2.perm {H0 H:A3} {L L':List En} (h:Z2 H0 L H) (p:L.Perm L'):Z2 H0 L' H:=by
 have hp:L.Pairwise Ap7:=by
  rw[List.pairwise_iff_getElem];intro i j hi hj hlt id b b' e1 e2;have:=h.inj i j _ _ id b b' (List.getElem?_eq_getElem hi) (List.getElem?_eq_getElem hj) e1 e2;omega
 have hp':L'.Pairwise Ap7:=(p.pairwise_iff (fun{x y} (h:Ap7 x y) id b b' e1 e2=>h id b' b e2 e1)).1 hp
 rw[List.pairwise_iff_getElem]at hp'
 refine⟨h.ext,fun i e id b hi he=>?_,fun i j e e' id b b' hi hj he he'=>?_,fun x b hx=>(h.only x b hx).imp (fun h=>h) fun⟨i,e,h1,h2⟩=>?_⟩
 ·obtain⟨j,hj⟩:=List.getElem?_of_mem (p.mem_iff.2 (List.mem_of_getElem? hi));exact h.has j e id b hj he
 ·obtain⟨hi',ei⟩:=List.getElem?_eq_some_iff.1 hi;obtain⟨hj',ej⟩:=List.getElem?_eq_some_iff.1 hj
  rcases Nat.lt_trichotomy i j with hlt|heq|hlt
  ·exact(hp' i j hi' hj' hlt id b b' (by rw[ei];exact he) (by rw[ej];exact he')).elim
  ·exact heq
  exact(hp' j i hj' hi' hlt id b' b (by rw[ej];exact he') (by rw[ei];exact he)).elim
 obtain⟨j,hj⟩:=List.getElem?_of_mem (p.mem_iff.1 (List.mem_of_getElem? h1));exact⟨j,e,hj,h2⟩
theorem C0.perm {Φ:A3→A3→Prop}{F H:A3}{L L':List En}(h:C0 Φ F L H)(p:L.Perm L'):C0 Φ F L' H:=
 let⟨hs,F',H1,h0,h1,h2⟩:=h;⟨hs,F',H1,h0.perm p,h1,h2⟩
structure Rw (α:Type) where
 q:OG
 row:List (List α×D1)
variable {α:Type}(f:α→V)
def AC (c:List α×D1):V:=.sl (lst f c.1) c.2
def UJ (w:Rw α):En:=.blk w.q.id (.arr 1 (w.q.pre++lst (AC f) w.row++w.q.rest))
def rwL (w:Rw α):List En:=UJ f w::w.row.map fun c=>.tl c.2
def fo :List (Rw α)→List En
 |[]=>[]
 |w::F=>rwL f w++fo F
def RwA (w:Rw α):Prop:=∀c∈w.row,K4 c.2
variable {f}
theorem YZ :∀(F G:List (Rw α)),fo f (F++G)=fo f F++fo f G
 |[],_=>rfl
 |w::F,G=>by rw[List.cons_append,fo,fo,YZ F G,append_assoc]
theorem Si :∀{F:List (Rw α)} {c:Nat} {w:Rw α},F[c]? =some w→∃R,(fo f F).Perm (rwL f w++R)∧∀w',(fo f (F.set c w')).Perm (rwL f w'++R)
 |[],_,_,h=>by simp at h
 |v::F,0,w,h=>by
  simp at h;subst h
  exact⟨fo f F,.refl _,fun w'=>.refl _⟩
 | v::F,c+1,w,h=>by
  obtain⟨R,h1,h2⟩:=Si (F:=F) (c:=c) (w:=w) (by simpa using h)
  have key:∀(X Y:List En),X.Perm (Y++R)→(rwL f v++X).Perm (Y++(rwL f v++R)):=fun X Y hX=>
   (hX.append_left _).trans (by
    rw[←append_assoc,←append_assoc]
    exact List.perm_append_comm.append_right R)
  exact⟨rwL f v++R,key _ _ h1,fun w'=>key _ _ (h2 w')⟩
theorem KL :∀{row:List (List α×D1)} {i:Nat} {c:List α×D1},row[i]? =some c→∃R,(row.map fun c=>En.tl c.2).Perm (.tl c.2::R)∧∀c',((row.set i c').map fun c=>En.tl c.2).Perm (.tl c'.2::R)
 |[],_,_,h=>by simp at h
 |v::F,0,w,h=>by
  simp at h;subst h
  exact⟨F.map fun c=>.tl c.2,.refl _,fun w'=>.refl _⟩
 |v::F,i+1,w,h=>by
  obtain⟨R,h1,h2⟩:=KL (row:=F) (i:=i) (c:=w) (by simpa using h);exact⟨.tl v.2::R,(h1.cons _).trans (.swap ..),fun w'=>((h2 w').cons _).trans (.swap ..)⟩
theorem Um {F:List (Rw α)} {c i:Nat} {w:Rw α} {x:List α×D1} (hc:F[c]? =some w) (hi:w.row[i]? =some x):
 ∃R,(fo f F).Perm (.tl x.2::UJ f w::R)∧∀x',(fo f (F.set c ⟨w.q,w.row.set i x'⟩)).Perm (.tl x'.2::UJ f ⟨w.q,w.row.set i x'⟩::R):=by
 obtain⟨R,h1,h2⟩:=Si (f:=f) hc;obtain⟨S,k1,k2⟩:=KL hi
 have key:∀(b:En) (X:List En) (t:En),X.Perm (t::S)→(b::(X++R)).Perm (t::b::(S++R)):=fun b X t hX=>
  ((hX.append_right R).cons b).trans (.swap ..)
 exact⟨S++R,h1.trans (key _ _ _ k1),fun x'=>(h2 _).trans (key _ _ _ (k2 x'))⟩
theorem C0.cell {Φ:A3→A3→Prop} {H0 H:A3} {b:En} {L:List En} {F:List (Rw α)} {c i:Nat} {w:Rw α} {x:List α×D1} (hO:C0 Φ H0 (b::(fo f F++L)) H) (hc:F[c]? =some w) (hi:w.row[i]? =some x):
 ∃R,C0 Φ H0 (.tl x.2::UJ f w::b::R) H∧∀x' H',C0 Φ H0 (.tl x'.2::UJ f ⟨w.q,w.row.set i x'⟩::b::R) H'→C0 Φ H0 (b::(fo f (F.set c ⟨w.q,w.row.set i x'⟩)++L)) H':=by
 obtain⟨R,h1,h2⟩:=Um (f:=f) hc hi
 have key:∀(X:List En) (t r:En),X.Perm (t::r::R)→(b::(X++L)).Perm (t::r::b::(R++L)):=fun X t r h=>
  ((h.append_right L).cons b).trans ((List.Perm.swap t b _).trans ((List.Perm.swap r b _).cons t))
 exact⟨R++L,hO.perm (key _ _ _ h1),fun x' H' h=>h.perm (key _ _ _ (h2 x')).symm⟩
theorem C0.row {Φ:A3→A3→Prop} {H0 H:A3} {b b':En} {L:List En} {F:List (Rw α)} {w:Rw α} (hO:C0 Φ H0 (UJ f w::b::b'::(fo f F++L)) H) (hw:∀c∈w.row,(En.tl c.2).id=none):C0 Φ H0 (b'::(fo f (F++[w])++(b::L))) H:=by
 have h1:∀(row:List (List α×D1)) (M:List En),(∀c∈row,(En.tl c.2).id=none)→C0 Φ H0 M H→C0 Φ H0 ((row.map fun c=>.tl c.2)++M) H:=by
  intro row
  induction row with
  |nil=>exact fun _ _ h=>h
  |cons c row ih=>exact fun M hr h=>(ih M (fun c hc=>hr c (by simp[hc])) h).tl0 (hr c (by simp))
 have h2:=h1 w.row _ hw hO;refine h2.perm ?_;rw[YZ];simp only[fo,rwL,List.append_nil];generalize w.row.map (fun c=>En.tl c.2)=X;generalize fo f F=Y;have p1:(X++UJ f w::b::b'::(Y++L)).Perm (UJ f w::X++(b::b'::(Y++L))):=List.perm_middle
 have p2:(UJ f w::X++(b::b'::(Y++L))).Perm (b'::(UJ f w::X++(b::(Y++L)))):=
  ((List.Perm.swap b' b (Y++L)).append_left (UJ f w::X)).trans List.perm_middle
 refine p1.trans (p2.trans (.cons b' ?_));have p3:(UJ f w::X++(b::(Y++L))).Perm (UJ f w::X++(Y++b::L)):=(List.perm_middle.symm).append_left _;refine p3.trans ?_;rw[←append_assoc];exact(List.perm_append_comm (l₁:=UJ f w::X) (l₂:=Y)).append_right _
end Go.Ab
namespace Go.Ab
open Go.RowKit
variable [I9]
def Gst (H:A3)(v:V)(H':A3)(v':V):Prop:=∀g w,Rl g H w→∃g',T8 g w g' w∧Rl g' H' w∧∀u,VR g w u v→VR g' w u v'
theorem Gst.refl (H:A3)(v:V):Gst H v H v:=fun g w h=>⟨g,T8.refl _ _,h,fun _ h=>h⟩
theorem Gst.trans {H H1 H2:A3}{v v1 v2:V}(a:Gst H v H1 v1)(b:Gst H1 v1 H2 v2):Gst H v H2 v2:=fun g w h=>by
 obtain⟨g1,s1,R1,k1⟩:=a g w h;obtain⟨g2,s2,R2,k2⟩:=b g1 w R1;exact⟨g2,s1.trans s2,R2,fun u hu=>k2 u (k1 u hu)⟩
theorem Gst.tup2 {H H':A3} {v v' c:V} (a:Gst H v H' v'):Gst H (.tup [v,c]) H' (.tup [v',c]):=fun g w h=>by
 obtain⟨g1,s1,R1,k1⟩:=a g w h;refine⟨g1,s1,R1,fun u hu=>?_⟩
 cases hu with
 |tup hl hv=>
  refine .tup hl fun i hi=>?_;have:=hv i hi
  match i,hi with
  |0,_=>exact k1 _ this
  |1,_=>exact this.mono s1
section
variable [Ar]{α:Type}{f:α→V}
end
end Go.Ab
namespace Go.Ab
open Go.RowKit
variable [I9][Ar]
section
variable {P:Program}{nt:Nat}{rd:Option Nat}{E:Dp}(hE:E=F3 P nt rd)
include hE
variable {α:Type}{f:α→V}{Φ:A3→A3→Prop}{H0 H:A3}{L:List En}{sz:Nat}{q:OG}{l:List α}
theorem Qb (hO:C0 Φ H0 L H)(hq:Cu q (Ar.len l))(i:Nat){j:Int}{k:Int→Prop}(hi:L[i]? =some (.blk q.id (.arr sz (q.pre++lst f l++q.rest))))(hj:0≤j∧j<(l.length:Nat))(hk:k (ofs q.lo j)):E.oidx H q.id sz q.lo q.n j k:=
 PF hE hO hq i hi (F:=fun _=>some ()) (r:=()) (by unfold Rk SO;rw[if_pos];rfl;exact decide_eq_true hj) fun _=>hk
theorem Vn {g:α→V} (hf:∀x,f x=g x) (hO:C0 Φ H0 L H) (hq:Cu q (Ar.len l)) (i:Nat) {j:Int} {x:α} {k:V→Prop} (hi:L[i]? =some (.blk q.id (.arr sz (q.pre++lst f l++q.rest)))) (hj:0≤j) (hx:l[j.toNat]? =some x) (hk:k (g x)):
 E.oload H q.id (ofs q.lo j) k:=by
 have hlt:j<(l.length:Nat):=by
  rcases Nat.lt_or_ge j.toNat l.length with h|h
  ·omega
  rw[List.getElem?_eq_none h]at hx;cases hx
 exact PE hE hf hO hq i hi (F:=fun y=>some y) (r:=x) (by unfold B6;rw[if_pos hj,hx];rfl) fun y hy=>by cases hy;exact hk
theorem Sn {esz tz off:Nat}{y:V}{x':α}(hu:∀x,∃y',BP y y'∧y'.one=true∧y'.cells.length=tz∧PA (f x) esz tz off y'=f x')(hle:off+tz≤esz)(hO:C0 Φ H0 L H)(hq:Cu q (Ar.len l))(i:Nat){j:Int}{k:A3→Prop}
 (hi:L[i]? =some (.blk q.id (.arr esz (q.pre++lst f l++q.rest)))) (hj:0≤j∧j<(l.length:Nat))
 (hk:∀H',C0 Φ H0 (L.set i (.blk q.id (.arr esz (q.pre++lst f (l.set j.toNat x')++q.rest)))) H'→k H'):E.ostore H q.id (ofs q.lo j) esz tz off y k:=by
 obtain⟨x,hx⟩:∃x,l[j.toNat]? =some x:=⟨l[j.toNat],List.getElem?_eq_getElem (by omega)⟩
 exact RM hE (u:=fun _=>x') hu hle hO hq i hi (F:=fun l=>some l) (r:=l.set j.toNat x') (by unfold Gm B6;rw[if_pos hj.1,hx];rfl) fun l' H' hq' e hO'=>by cases e;exact hk H' hO'
theorem Zi {g:α→V}(hf:∀x,f x=g x){j:Int}{x:α}{k:V→Prop}(hx:B6 l j=some x)(hk:k (g x)):E.idx (lst f l) j k:=
 B8 hE hf (F:=fun y=>some y) (r:=x) (by rw[hx];rfl) fun y hy=>by cases hy;exact hk
end
theorem YA {α:Type}{n m:Int}{z:α}{l:List α}(h:Va n m z=some l):l=List.replicate n.toNat z:=by
 unfold Va at h
 split at h
 ·cases h;rfl
 cases h
theorem Ae1 {α:Type} {l:List α} {i:Int} {x:α} (h:B6 l i=some x):(0≤i∧i<(l.length:Nat))∧l[i.toNat]? =some x:=by
 unfold B6 at h
 split at h
 ·rename_i h0;refine⟨⟨h0,?_⟩,h⟩
  rcases Nat.lt_or_ge i.toNat l.length with h'|h'
  ·omega
  rw[List.getElem?_eq_none h']at h;cases h
 cases h
end Go.Ab
namespace Go.Ab
open Go.RowKit
variable [I9][Ar]
end Go.Ab
namespace Go.Ab
open Go.RowKit
variable [I9][Ar]
def FN {α:Type}(w:Rw α):List En:=w.row.map fun c=>.tl c.2
structure BN {α:Type} (w:Rw α) (l:List (List α)):Prop where
 ok:Cu w.q (Ar.len w.row)
 ap:RwA w
 eq:w.row.map (·.1)=l
section
variable {α:Type}{f:α→V}{w:Rw α}{l:List (List α)}
theorem BN.len (h:BN w l):Ar.len l=Ar.len w.row:=by rw[len_eq,len_eq,←h.eq,List.length_map]
theorem BN.at (h:BN w l) {i:Int} {x:List α} (hx:B6 l i=some x):(0≤i∧i<(w.row.length:Nat))∧∃t,w.row[i.toNat]? =some (x,t)∧K4 t:=by
 obtain⟨h1,h2⟩:=Ae1 hx
 rw[←h.eq]at h1 h2
 rw[List.length_map]at h1
 rw[List.getElem?_map]at h2
 cases hr:w.row[i.toNat]? with
 |none=>rw[hr]at h2;cases h2
 |some c=>
  rw[hr]at h2
  simp only[Option.map_some,Option.some.injEq]at h2
  refine⟨h1,c.2,by rw[←h2],h.ap c (List.mem_of_getElem? hr)⟩
theorem BN.put (h:BN w l) (i:Nat) {y:List α} {t:D1} (ht:K4 t):BN ⟨w.q,w.row.set i (y,t)⟩ (l.set i y):=by
 refine⟨?_,fun c hc=>?_,?_⟩
 ·have:=h.ok
  rw[len_eq]at this ⊢
  rw[List.length_set];exact this
 ·rcases List.mem_or_eq_of_mem_set hc with hc|rfl
  ·exact h.ap c hc
  exact ht
 rw[List.map_set,h.eq]
theorem Tv {i:Nat}{c:List α×D1}(hi:w.row[i]? =some c):∃R,(FN w).Perm (.tl c.2::R)∧∀c',(FN ⟨w.q,w.row.set i c'⟩).Perm (.tl c'.2::R):=KL hi
theorem C0.rtake {Φ:A3→A3→Prop} {H0 H:A3} {L T1 T2:List En} (hO:C0 Φ H0 L H) (n:Nat) (hL:L=L.take n++(T1++(FN w++T2))) {i:Nat} {c:List α×D1} (hi:w.row[i]? =some c):
 ∃R,C0 Φ H0 (.tl c.2::(L.take n++R)) H∧∀c' H' (L2:List En),C0 Φ H0 (.tl c'.2::(L2++R)) H'→C0 Φ H0 (L2++(T1++(FN ⟨w.q,w.row.set i c'⟩++T2))) H':=by
 obtain⟨R,h1,h2⟩:=Tv hi
 have key:∀(L2 X:List En) (t:En),X.Perm (t::R)→(L2++(T1++(X++T2))).Perm (t::(L2++(T1++(R++T2)))):=fun L2 X t h=>
  ((((h.append_right T2).append_left T1).append_left L2).trans ((List.perm_middle (l₁:=T1)).append_left L2)).trans List.perm_middle
 refine⟨T1++(R++T2),?_,fun c' H' L2 h=>h.perm (key _ _ _ (h2 c')).symm⟩
 rw[hL]at hO
 exact hO.perm (key _ _ _ h1)
theorem C0.radd {Φ:A3→A3→Prop} {H0 H:A3} {L:List En} (hO:C0 Φ H0 L H) (n:Nat) (w:Rw α) (hw:∀c∈w.row,(En.tl c.2).id=none):C0 Φ H0 (L.take n++(FN w++L.drop n)) H:=by
 have h1:∀(row:List (List α×D1)) (M:List En),(∀c∈row,(En.tl c.2).id=none)→C0 Φ H0 M H→C0 Φ H0 ((row.map fun c=>.tl c.2)++M) H:=by
  intro row
  induction row with
  |nil=>exact fun _ _ h=>h
  |cons c row ih=>exact fun M hr h=>(ih M (fun c hc=>hr c (by simp[hc])) h).tl0 (hr c (by simp))
 refine(h1 w.row L hw hO).perm ?_
 show(FN w++L).Perm _
 have e:FN w++L=FN w++(L.take n++L.drop n):=by rw[List.take_append_drop]
 rw[e,←append_assoc,←append_assoc];exact List.perm_append_comm.append_right _
theorem C0.drops {Φ:A3→A3→Prop}{H0 H:A3}:∀{X L:List En},C0 Φ H0 (X++L) H→C0 Φ H0 L H
 |[],_,h=>h
 |_::X,_,h=>C0.drops (X:=X) h.tail
theorem C0.rdrop {Φ:A3→A3→Prop}{H0 H:A3}{L T1 T2:List En}(hO:C0 Φ H0 L H)(n:Nat)(hL:L=L.take n++(T1++(FN w++T2))):C0 Φ H0 (L.take n++(T1++T2)) H:=by
 rw[hL]at hO
 refine(hO.perm (L':=FN w++(L.take n++(T1++T2))) ?_).drops;refine(((List.perm_append_comm_assoc T1 (FN w) T2).append_left _)).trans ?_;exact List.perm_append_comm_assoc _ _ _
theorem QI {α:Type}{l r:List α}{i:Int}{y:α}(h:Gm l i (fun _=>y)=some r):r=l.set i.toNat y:=by
 unfold Gm at h
 cases hx:B6 l i with
 |none=>rw[hx]at h;cases h
 |some x=>rw[hx]at h;simp only[Option.map_some,Option.some.injEq]at h;exact h.symm
theorem ZZ {e:List α→V} (he:∀x,e x= .sl (lst f x) .ro) (h:BN w l):G1 (lst (AC f) w.row) (lst e l):=by
 rw[lst_eq,lst_eq,←h.eq]
 have:∀row:List (List α×D1),G1 (row.map (AC f)) ((row.map (·.1)).map e):=by
  intro row
  induction row with
  |nil=>exact .nil
  |cons c row ih=>exact .cons (by rw[he];exact .ro _ _) ih
 exact this _
end
section
variable {P:Program}{nt:Nat}{rd:Option Nat}{T:Fv}{E:Dp}
variable (hE:E=F3 P nt rd)
include hE
variable {α R:Type}{f:α→V}{Φ:A3→A3→Prop}{H0 H:A3}{L:List En}{w:Rw α}{l:List (List α)}{r:R}
theorem Ah7 {by_:Nat} (hby:by_≤131072) (hO:C0 Φ H0 L H) (c:Nat) {n m:Int} {k:V→A3→Prop} {F:List (List α)→Option R} (h:(Va n m ([]:List α)).bind F=some r)
 (hk:∀l (w:Rw α) H',BN w l→F l=some r→C0 Φ H0 (.blk w.q.id (.arr 1 (w.q.pre++lst (AC f) w.row++w.q.rest))::(L.take c++(FN w++L.drop c))) H'→k (.own w.q.id w.q.lo w.q.n) H'):E.omk 1 by_ (.sl [] .nil) n m H k:=by
 obtain⟨l,h1,h2⟩:=bind_some h;have hl:=YA h1
 have h3:Va n m (([]:List α),D1.nil)=some (List.replicate n.toNat (([]:List α),D1.nil)):=by
  unfold Va at h1 ⊢
  split at h1
  ·rename_i hc;rw[if_pos hc]
  cases h1
 refine Ah8 hE (f:=AC f) hby (z0:=(([]:List α),D1.nil)) (.slt _ .lst0) hO (F:=fun l=>some l) (r:=List.replicate n.toNat (([]:List α),D1.nil)) (by rw[h3];rfl) fun row q H' hq hr hO'=>?_;cases hr;refine hk l ⟨q,List.replicate n.toNat (([]:List α),D1.nil)⟩ H' ⟨hq,fun c hc=>by rw[List.eq_of_mem_replicate hc];trivial,by rw[hl];simp⟩ h2 ?_
 exact hO'.radd (c+1) ⟨q,List.replicate n.toNat (([]:List α),D1.nil)⟩ fun c hc=>by rw[List.eq_of_mem_replicate hc];rfl
theorem RK {e:List α→V}(he:∀x,e x= .sl (lst f x) .ro)(hO:C0 Φ H0 L H)(hw:BN w l)(i m:Nat){id j:Nat}{cs:List V}{k:A3→Prop}(hi:L[i]? =some (.blk id (.cells cs)))(hm:L[m]? =some (.blk w.q.id (.arr 1 (w.q.pre++lst (AC f) w.row++w.q.rest))))(hj:cs[j]? =some (.own w.q.id w.q.lo w.q.n))(him:i≠m)
 (hk:∀H',C0 Φ H0 ((L.set i (.blk id (.cells (cs.set j (.sl (lst e l) .ro))))).eraseIdx m) H'→k H'):E.frzIn H id j k:=by
 subst hE;have h1:=hO.get i hi;have h2:=hO.get m hm
 have hne:w.q.id≠id:=fun e=>by rw[e,h1]at h2;cases h2
 refine⟨cs,w.q.id,w.q.lo,w.q.n,1,_,lst e l,h1,hj,h2,?_,?_⟩
 ·rw[JP hw.ok.1 (by rw[hw.ok.2,len_eq,I7])];exact ZZ he hw
 have h3:=(hO.set i (b':=.cells (cs.set j (.sl (lst e l) .ro))) hi).del m (id:=w.q.id) (b:=.arr 1 (w.q.pre++lst (AC f) w.row++w.q.rest)) (by rw[List.getElem?_set,if_neg him];exact hm);rw[Mm _ _ _ hne];exact hk _ h3
end
end Go.Ab
namespace Go.Ab
variable [I9][Ar]
variable {P:Program}{nt:Nat}{rd:Option Nat}{T:Fv}{E:Dp}
end Go.Ab
namespace Go.Ab
open Go.RowKit
variable [I9]
theorem G9.thawG {P:Program} {f:FuncId} {args:List V} {H:A3} {K K':V→A3→Prop} (h:G9 P f args H K)
 (hk:∀x H',K x H'→K' x H'∨∃(mk:V→V) (id sz:Nat) (row:List V) (lo n:Int),Dj mk∧x=mk (.own id lo n)∧H' id=some (.arr sz row)∧K' (mk (.sl (R4 row lo n) .ro)) (upd H' id none)):G9 P f args H K':=
 fun g w vals hR hA=>(h g w vals hR hA).mono fun v w' ⟨g',x,H',s,hR',hv,hK⟩=>by
  rcases hk x H' hK with hK|⟨mk,id,sz,row,lo,n,hm,rfl,h1,h2⟩
  ·exact⟨g',x,H',s,hR',hv,hK⟩
  obtain⟨g2,s2,R2,hv2⟩:=hR'.freezeArr h1;obtain⟨v1,hv1,hb⟩:=hm g' w' v _ hv;exact⟨g2,_,_,s.trans s2,R2,hb _ _ _ s2 (hv2 _ _ _ (hv1.mono s2)),h2⟩
section
variable [Ar]{P:Program}{T:Fv}
theorem NB {f:FuncId} {fn:Func} {c:Code} {n:Nat} {rs:List ResultVar} {args:List V} {r:V} (cf:Cf) (hP:Qy P T) (hf:P.funcs[f]? =some fn) (hb:fn.body=some c) (hd:H5 cf c=true)
 (hcall:∀vals w,(callFunc f vals).run P w= .ok (.enter f vals) w) (hnt:fn.ntmps=n) (hrs:fn.results.toList=rs) (hn:Nat.ble args.length n=true)
 (h:∀(E:Dp) (H:A3) (K:V→A3→Prop),E=F3 P n none→(∀x L H',C0 Eq H L H'→BP x r→K x H')→
  (∀(mk:V→V) (_:Dj mk) (q:OG) (sz:Nat) (xs:List V) (i:Nat) (L:List En) H',C0 Eq H L H'→L[i]? =some (.blk q.id (.arr sz (q.pre++xs++q.rest)))→Cu q (xs.length:Nat)→BP (mk (.sl xs .ro)) r→K (mk (.own q.id q.lo q.n)) H')→run E T n cf c ⟨BG args 0,[]⟩ H (LI E T rs K)):B4 P f args r:=fun H=>by
 refine G9.le ?_
 refine(U9 (K:=fun x H'=>(∃y H2,BP x y∧FI H2 H'∧y=r∧H2=H)∨∃(mk:V→V) (q:OG) (sz:Nat) (xs:List V) (i:Nat) (L:List En),Dj mk∧x=mk (.own q.id q.lo q.n)∧C0 Eq H L H'∧L[i]? =some (.blk q.id (.arr sz (q.pre++xs++q.rest)))∧Cu q (xs.length:Nat)∧BP (mk (.sl xs .ro)) r)
  cf hP.1 hP.2 hf hb hd hcall hnt hrs hn fun E hE=>?_).thawG ?_
 ·exact h E H _ hE (fun x L H' hO hx=>.inl ⟨r,H,hx,hO.ext,rfl,rfl⟩) fun mk hm q sz xs i L H' hO hi hq hr=>.inr ⟨mk,q,sz,xs,i,L,hm,rfl,hO,hi,hq,hr⟩
 rintro x H' (h|⟨mk,q,sz,xs,i,L,hm,rfl,hO,hi,hq,hr⟩)
 ·exact .inl h
 refine .inr ⟨mk,q.id,sz,_,q.lo,q.n,hm,rfl,hO.get i hi,r,H,?_,(hO.del i hi).ext,rfl,rfl⟩;rw[XK rfl hq.1 hq.2];exact hr
end
end Go.Ab
namespace Go.Ab
end Go.Ab
namespace Go.Ab
open Go.RowKit
variable [I9][Ar]
section
variable {P:Program}{nt:Nat}{rd:Option Nat}{E:Dp}(hE:E=F3 P nt rd)
include hE
variable {α R:Type}{f:α→V}{Φ:A3→A3→Prop}{H0 H:A3}{L:List En}{sz:Nat}{q:OG}{l:List α}{r:R}
theorem WA (hO:C0 Φ H0 L H) (hq:Cu q (Ar.len l)) (i:Nat) (hi:L[i]? =some (.blk q.id (.arr sz (q.pre++lst f l++q.rest)))) {lo:Option Int} {k:V→Prop} {F:List α→Option R}
 (h:(J5 l lo none none).bind F=some r) (hk:∀x (q':OG),q'.id=q.id∧q'.lo=q.lo+lo.getD 0∧q'.n=q.n - lo.getD 0→F x=some r→k (.own q'.id q'.lo q'.n)):
 E.oslice sz H q.id q.lo q.n lo none none k:=by
 have hE':=hE;subst hE;obtain⟨x,h1,h2⟩:=bind_some h
 have hn:q.n=(l.length:Nat):=by rw[hq.2,len_eq]
 have el:=I7 (f:=f) l
 unfold J5 at h1
 split at h1
 ·rename_i hc;cases h1;obtain⟨c1,c2,c3,c4,c5⟩:=hc
  simp only[Option.getD_none]at c2 c3 c4
  refine⟨_,hO.get i hi,?_,?_⟩
  ·rw[hn,hq.1];simp only[List.length_append,el,Option.getD_none];refine⟨c1,c2,by omega,by omega,fun h=>by cases h⟩
  exact hk _ ⟨q.id,q.lo+lo.getD 0,q.n - lo.getD 0,[],[]⟩ ⟨rfl,rfl,rfl⟩ h2
 cases h1
end
end Go.Ab
namespace Go.Ab
open Go.RowKit
variable [I9][Ar]
section
variable {P:Program}{nt:Nat}{rd:Option Nat}{E:Dp}(hE:E=F3 P nt rd)
include hE
variable {α R:Type}{f:α→V}{Φ:A3→A3→Prop}{H0 H:A3}{L:List En}{sz:Nat}{q:OG}{l:List α}{r:R}
theorem WB (hO:C0 Φ H0 L H) (hq:Cu q (Ar.len l)) (i:Nat) (hi:L[i]? =some (.blk q.id (.arr sz (q.pre++lst f l++q.rest)))) {q':OG} {a:Int} (hd:q'.id=q.id∧q'.lo=q.lo+a∧q'.n=q.n - a) {z:V} {k:A3→Prop} {F:List α→Option R}
 (h:(J5 l none (some a) none).bind F=some r)
 (hk:∀x (q2:OG) H',(q2.id=q.id∧q2.lo=q.lo∧0≤a∧q2.n=a∧a≤q.n)→Cu q2 (Ar.len x)→C0 Φ H0 (L.set i (.blk q2.id (.arr sz (q2.pre++lst f x++q2.rest)))) H'→F x=some r→k H'):E.oclear sz z H (.own q'.id q'.lo q'.n) k:=by
 have hn:q.n=(l.length:Nat):=by rw[hq.2,len_eq]
 have el:=I7 (f:=f) l;obtain⟨x,h1,h2⟩:=bind_some h
 unfold J5 at h1
 split at h1
 ·rename_i hc;cases h1;obtain⟨c1,c2,c3,c4,c5⟩:=hc
  simp only[Option.getD_none,Option.getD_some]at c1 c2 c3 c4
  rw[hd.1,hd.2.1,hd.2.2];refine Yh hE (hO.get i hi) fun row' hrow=>?_
  have ea:(q.lo+a).toNat=q.pre.length+a.toNat:=by rw[hq.1];omega
  have e2:row'=q.pre++lst f (l.take a.toNat)++(List.replicate (q.n - a).toNat z++q.rest):=by
   rw[hrow,ea,lst_eq,lst_eq];rw[Ab4 (A:=q.pre++(l.take a.toNat).map f) (B:=(l.drop a.toNat).map f) (C:=q.rest) ?_ ?_ ?_]
   ·simp only[append_assoc]
   ·have:l=l.take a.toNat++l.drop a.toNat:=(List.take_append_drop _ _).symm
    conv=>lhs;rw[this]
    simp only[List.map_append,append_assoc]
   ·simp;omega
   simp;omega
  have et:((l.drop (0:Int).toNat).take (a.toNat - (0:Int).toNat))=l.take a.toNat:=by simp
  refine hk (l.take a.toNat) ⟨q.id,q.lo,a,q.pre,List.replicate (q.n - a).toNat z++q.rest⟩ _ ⟨rfl,rfl,c2,rfl,by omega⟩ ⟨hq.1,?_⟩ ?_ ?_
  ·rw[len_eq,List.length_take]
   show a=_
   omega
  ·rw[e2];exact hO.set i hi
  have:=h2
  simp only[Option.getD_none,Option.getD_some]at this
  rw[et]at this
  exact this
 cases h1
theorem Wy {x:List α}{q2:OG}(hO:C0 Φ H0 L H)(hq:Cu q2 (Ar.len x))(i:Nat)(hi:L[i]? =some (.blk q2.id (.arr sz (q2.pre++lst f x++q2.rest)))){id:Nat}{lo n a:Int}(hx:q2.id=id∧q2.lo=lo∧0≤a∧q2.n=a∧a≤n){k:V→Prop}
 (hk:k (.own q2.id q2.lo q2.n)):E.oslice sz H id lo n none (some a) none k:=by
 subst hE;obtain⟨e1,e2,e3,e4,e5⟩:=hx;have el:=I7 (f:=f) x
 have hn:q2.n=(x.length:Nat):=by rw[hq.2,len_eq]
 refine⟨_,by rw[←e1];exact hO.get i hi,?_,?_⟩
 ·simp only[List.length_append,el,Option.getD_none,Option.getD_some];have:=hq.1;exact⟨Int.le_refl _,e3,by omega,Int.le_refl _,fun h=>by cases h⟩
 show k (.own id (lo+0) (a - 0))
 rw[Int.add_zero,Int.sub_zero,←e1,←e2,←e4];exact hk
end
end Go.Ab
namespace Go.Ab
open Go.RowKit
variable [I9][Ar]
theorem Un {P:Program}{T:Fv}{f:FuncId}{fn:Func}{c:Code}{n:Nat}{rs:List ResultVar}{args:List V}{F H:A3}{sz:Nat}{xs:List V}{mk:V→V}(hmk:Dj mk)(cf:Cf)(hP:Qy P T)(hf:P.funcs[f]? =some fn)(hb:fn.body=some c)(hd:H5 cf c=true)
 (hcall:∀vals w,(callFunc f vals).run P w= .ok (.enter f vals) w) (hnt:fn.ntmps=n) (hrs:fn.results.toList=rs) (hn:Nat.ble args.length n=true)
 (h:∀(E:Dp) (K:V→A3→Prop),E=F3 P n none→(∀(q:OG) (L:List En) (i:Nat) H' x,Cu q (xs.length:Nat)→L[i]? =some (.blk q.id (.arr sz (q.pre++xs++q.rest)))→C0 Eq F L H'→BP x (mk (.own q.id q.lo q.n))→K x H')→(xs=[]→∀L H' x,C0 Eq F L H'→BP x (mk (.sl [] .nil))→K x H')→run E T n cf c ⟨BG args 0,[]⟩ H (LI E T rs K)):
 G9 P f args H (Af8 F sz xs mk):=by
 refine G9.adoptG (sz:=sz) hmk (G9.le (U9 (K:=fun x H'=>∃y H2,BP x y∧FI H2 H'∧(Af8 F sz xs mk y H2∨(y=mk (.sl [] .nil)∧∀t,H2 t=none→Af8 F sz xs mk (mk (.own t 0 0)) (upd H2 t (some (.arr sz [])))))) cf hP.1 hP.2 hf hb hd hcall hnt hrs hn fun E hE=>?_));refine h E _ hE (fun q L i H' x hq hi hO hx=>?_) fun hx L H' x hO hl=>?_
 ·obtain⟨h1,h2⟩:=(hO.only i hi).last;exact⟨_,_,hx,h2,.inl ⟨q,rfl,hq,h1,rfl⟩⟩
 exact⟨_,F,hl,hO.ext,.inr ⟨rfl,fun t ht=>⟨⟨t,0,0,[],[]⟩,rfl,⟨rfl,by rw[hx];rfl⟩,ht,by rw[hx];rfl⟩⟩⟩
end Go.Ab
