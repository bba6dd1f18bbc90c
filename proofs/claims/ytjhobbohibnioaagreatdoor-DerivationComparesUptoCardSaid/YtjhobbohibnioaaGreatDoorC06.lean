/- AbP1 AbD1 AbP2 AbD2 AbP3 AbP4 AbP5 AbP6 -/
import Derived.Test.YtjhobbohibnioaaGreatDoorC05
set_option linter.all false
open Nat (beq_refl)
open Bool (and_eq_true)
namespace Go.Ab
open Go.RowKit
variable [G7]
def IV (c:Array Value)(A sz:Nat)(f:Nat→Value):Array Value:=(c.toList.take A++(List.range sz).map f++c.toList.drop (A+sz)).toArray
theorem Kz {c:Array Value}{A sz:Nat}{f:Nat→Value}(h:A+sz≤c.size):(IV c A sz f).size=c.size:=by simp[IV];omega
theorem Wm {c:Array Value} {A sz:Nat} {f f':Nat→Value} (h:A+sz≤c.size):IV (IV c A sz f) A sz f'=IV c A sz f':=by
 have e1:(IV c A sz f).toList.take A=c.toList.take A:=by
  simp only[IV,List.append_assoc];rw[List.take_append_of_le_length (by simp;omega),List.take_take];simp
 have e2:(IV c A sz f).toList.drop (A+sz)=c.toList.drop (A+sz):=by
  simp only[IV];rw[List.drop_append_of_le_length (by simp;omega)];rw[List.drop_of_length_le (by simp;omega)];simp
 unfold IV at e1 e2 ⊢
 rw[e1,e2]
theorem Rr {c:Array Value}{A sz:Nat}{f:Nat→Value}(h:A+sz≤c.size){k:Nat}(hk:k<c.size):(IV c A sz f)[k]? =if A≤k∧k<A+sz then some (f (k - A))else c[k]? :=by
 have:=(Rp (vs:=(List.range sz).map f) (m:=sz) (A:=A) (c:=c) (by simp) h rfl).2 k hk;rw[show IV c A sz f=(c.toList.take A++(List.range sz).map f++c.toList.drop (A+sz)).toArray from rfl,this]
 split
 ·rename_i hc;rw[List.getElem?_map,List.getElem?_range (by omega)];rfl
 rfl
theorem Lo (w:World)(b:Nat)(c c':Array Value):(w.setRow b c).setRow b c'=w.setRow b c':=by
 simp only[World.setRow,World.mk.injEq,and_true];apply Array.ext
 ·simp
 intro i h1 h2;simp only[Array.getElem_modify]
 split
 ·cases w.heap[i]'(by simpa using h1)<;>rfl
 rfl
theorem NT (w:World){b b':Nat}(c c':Array Value)(h:b≠b'):(w.setRow b c).setRow b' c'=(w.setRow b' c').setRow b c:=by
 simp only[World.setRow,World.mk.injEq,and_true];apply Array.ext
 ·simp
 intro i h1 h2;simp only[Array.getElem_modify]
 by_cases e1:b=i<;>by_cases e2:b'=i
 ·omega
 ·simp[e1,e2]
 ·simp[e1,e2]
 simp[e1,e2]
theorem Nk (w:World)(C C':Array Value)(e:TypeId):(w.alloc (.cells C e)).setRow w.heap.size C'=w.alloc (.cells C' e):=by
 simp only[World.alloc,World.setRow,World.mk.injEq,and_true];apply Array.ext
 ·simp
 intro i h1 h2;simp only[Array.getElem_modify,Array.getElem_push]
 have:i<w.heap.size+1:=by simpa using h2
 by_cases e:w.heap.size=i
 ·subst e;simp
 rw[if_neg e]
 have:i<w.heap.size:=by omega
 simp[this]
section
variable {P:Program}{H:A0}
theorem EX {w:World} {b A sz:Nat} {c:Array Value} {T:TypeId} {f:Nat→Value} (hw:w.heap[b]? =some (.cells c T (0,0))) (h:A+sz≤c.size) (hf:∀j,j<sz→(f j).oneCell'=true):
 (storeCells ⟨b,A,none⟩ ((List.range sz).map f)).run P w= .ok () (w.setRow b (IV c A sz f)):=by
 have:=run_storeCells_at P b A T ((List.range sz).map f) 0 c w hw (by simp;omega) (by
  intro v hv;obtain⟨k,hk,rfl⟩:=List.mem_map.1 hv
  exact hf k (List.mem_range.1 hk))
 simpa[IV]using this
theorem QI {g:Gh} {w:World} (hR:Rl g H w) {sT yT e ty:TypeId} {sz by_:Nat} {z:V} {xs:List V} {tl:E5} {vs:Value} (hvs:VR g w vs (.sl xs tl)) (he:Bp P sT=some e) (hyT:(Bp P yT).isSome=true) (hsz:AH P e=some sz) (hpos:0<sz) (hby:IE P e=some by_) (hbp:0<by_)
 (hz:CX P e=some z) (hz1:z.one=true) (hzl:z.cells.length=sz) (hA:Ds H tl) (hax:xs.all (fun x=>x.cells.length==sz)=true) (hbound:(xs.length+1)*by_≤140737488355328):
 ∃ (b off G:Nat) (W:(Nat→Value)→World) (C:(Nat→Value)→Array Value) (T:TypeId),
  (∀(y0:V) (tl':E5) (vy:Value),VR g w vy (.sl [y0] tl')→y0.cells.length=sz→∃f0,(∀j,j<sz→(f0 j).oneCell'=true)∧(Builtin.append_ #[sT,yT] ty #[vs,vy]).run P w= .ok (.slice (some ⟨b,off,none⟩) (xs.length+1) G) (W f0))∧
  xs.length+1≤G∧
  (∀f,(W f).heap[b]? =some (.cells (C f) T (0,0))∧off+xs.length*sz+sz≤(C f).size)∧
  (∀f f',(W f).setRow b (IV (C f) (off+xs.length*sz) sz f')=W f')∧
  (∀x,x≠b→x<w.heap.size→∀f,(W f).heap[x]? =w.heap[x]?)∧
  (∀id x,g.at (D0 H tl) id=some x→x≠b)∧
  (∀(vV:V) (f:Nat→Value),vV.cells.length=sz→(∀j,j<sz→(f j).oneCell'=true∧VR g w (f j) (vV.cells.getD j .bad))→
   ∃g' t,N0 g w g' (W f)∧D0 H tl t=none∧Rl g' (upd (D0 H tl) t (some .spare)) (W f)∧VR g' (W f) (.slice (some ⟨b,off,none⟩) (xs.length+1) G) (.sl (xs++[vV]) (.tok t))):=by
 obtain⟨base,cap,fs,es,hcap,hfs,hrs,hbs⟩:=BS (P:=P) hvs hax;have hu:=J8 he;obtain⟨e',hyT'⟩:=Option.isSome_iff_exists.1 hyT;have huy:=J8 hyT';obtain⟨zv,ez,hzv⟩:=X8 hz
 have hzr:VR g w zv z:=by rw[ez];exact Au g w zv
 have hzs:zv.cells.size=sz:=by rw[(hzr.cells hz1).1,hzl]
 have hbytes:∀w,(typeInfo e).run P w= .ok ((P.info? e).getD default) w∧((P.info? e).getD default).bytes=by_:=by
  intro w
  unfold IE at hby
  cases hi:P.info? e with
  |none=>simp[hi]at hby
  |some i=>simp[hi]at hby;simp[typeInfo,hi,hby]
 have hbi:∀w,(typeInfo e).run P w= .ok ((P.info? e).getD default) w:=fun w=>(hbytes w).1;have hbb:=(hbytes w).2;have hR1:Rl g (D0 H tl) w:=hR.less fun id b hb=>Bb hb;have hlenx:=BU hax
 have hlenxy:∀(vV:V),vV.cells.length=sz→∀i,i<xs.length+1→((xs++[vV]).getD i .bad).cells.length=sz:=fun vV hv i hi=>by
  rw[X3];split
  ·exact hlenx i (by assumption)
  rw[show i - xs.length=0 by omega];exact hv
 have hsrc:∀(y0:V) (tl':E5) (vy:Value),VR g w vy (.sl [y0] tl')→y0.cells.length=sz→∃ybase ycap f0,vy= .slice ybase 1 ycap∧(∀j,j<sz→(f0 j).oneCell'=true)∧
  ∀w':World,(∀b o,w'.cell? ⟨b,o,none⟩=w.cell? ⟨b,o,none⟩)→(Builtin.firstCells sz 1 vy).run P w'= .ok ((List.range sz).map f0).toArray w':=fun y0 tl' vy hvy hy0=>by
  obtain⟨ybase,ycap,fy,ey,_,hfy,hry,_⟩:=BS (P:=P) (sz:=sz) hvy (by simp[hy0]);refine⟨ybase,ycap,fun j=>fy 0 j,ey,fun j hj=>(hfy 0 j (by simp) hj).1,fun w' hw'=>?_⟩;have:=hry w' hw'
  simp only[List.length_singleton,Nat.one_mul]at this
  rw[this];refine congrArg (fun l:List Value=>Result.ok l.toArray w') (List.map_congr_left fun k hk=>?_);have hk':=List.mem_range.1 hk;rw[Nat.div_eq_of_lt hk',Nat.mod_eq_of_lt hk']
 have hvals:∀(vV:V) (f:Nat→Value),(∀j,j<sz→(f j).oneCell'=true∧VR g w (f j) (vV.cells.getD j .bad))→∀(g':Gh) (w':World),N0 g w g' w'→∀i j,i<xs.length+1→j<sz→(if i<xs.length then fs i j else f j).oneCell'=true∧
  VR g' w' (if i<xs.length then fs i j else f j) (((xs++[vV]).getD i .bad).cells.getD j .bad):=by
  intro vV f hf g' w' st i j hi hj;rw[X3]
  split
  ·rename_i hlt;exact⟨(hfs i j hlt hj).1,(hfs i j hlt hj).2.mono st⟩
  rw[show i - xs.length=0 by omega];exact⟨(hf j hj).1,(hf j hj).2.mono st⟩
 have hn63:¬(IntKind.i64.max<((xs.length+1:Nat):Int)∧(False∨by_=0)):=by
  rintro⟨_,hF|hF⟩
  ·exact hF
  omega
 by_cases hc:xs.length+1≤cap
 ·
  rcases hbs with⟨hx0,hc0|hc0,_⟩|⟨b,q,hbase,hcell,_,sz',hsz',htl⟩
  ·subst hx0;simp at hc;omega
  ·subst hc0;exact hA.elim
  cases tl with
  |nil=>exact htl.elim
  |ro=>exact hA.elim
  |full=>simp only[DH]at htl;omega
  | tok t=>
   obtain⟨hn0,lim,ht1,ht2⟩:=htl;have:=hsz' hn0;subst this;have hA':H t=some .spare:=hA;obtain⟨b2,e2,lim2,c,T,k1,k2,k3,k4,k5,k6⟩:=hR.blk t _ hA'
   rw[ht1]at k1
   simp only[Option.some.injEq,Prod.mk.injEq]at k1
   obtain⟨rfl,rfl,rfl⟩:=k1;have hcapsz:(xs.length+1)*sz'≤cap*sz':=Nat.mul_le_mul_right _ hc
   have hadd:(xs.length+1)*sz'=xs.length*sz'+sz':=by rw[Nat.add_mul,Nat.one_mul]
   have hfit:q+xs.length*sz'+sz'≤c.size:=by omega
   have hnown:∀id x,g.at (D0 H (.tok t)) id=some x→x≠b:=by
    rintro id x hid rfl
    have hat:g.at H t=some x:=by simp[Gh.at,hA',ht1]
    by_cases hid':id=t
    ·subst hid';simp[Gh.at,D0,B1]at hid
    have:g.at H id=some x:=by simpa only[Gh.at,D0,A6 _ _ hid']using hid
    exact hid' (hR.inj _ _ _ this hat)
   refine⟨b,q,cap,fun f=>w.setRow b (IV c (q+xs.length*sz') sz' f),fun f=>IV c (q+xs.length*sz') sz' f,T,fun y0 tl' vy hvy hy0=>?_,hc,fun f=>?_,fun f f'=>?_,fun x hx _ f=>H9 w b _ x hx,hnown,fun vV f hv hf=>?_⟩
   ·obtain⟨ybase,ycap,f0,ey,hf0,hry⟩:=hsrc y0 tl' vy hvy hy0;refine⟨f0,hf0,?_⟩;have hst:=EX (P:=P) (f:=f0) k3 hfit hf0;have hry':=hry w fun _ _=>rfl
    rw[ey]at hry' ⊢
    rw[es,hbase]
    simp only[Builtin.append_,Sem.run_bind,run_underlying hu,Result.andThen_ok,J0 hsz,run_underlying huy,Sem.run_pure,Builtin.lenOf,Sem.run_ite,List.getElem?_toArray,
     List.getElem?_cons_zero,List.getElem?_cons_succ,Bool.false_eq_true,if_false,Bool.not_false,if_true,if_pos hc,hry',O7,hst]
   ·exact⟨setRow_heap w b c _ T (0,0) k3,by rw[Kz hfit];exact hfit⟩
   ·rw[Lo,Wm hfit]
   dsimp only
   have hCg:∀k,k<c.size→(IV c (q+xs.length*sz') sz' f)[k]? =if q+xs.length*sz'≤k∧k<q+xs.length*sz'+sz' then some (f (k - (q+xs.length*sz')))else c[k]? :=fun k hk=>Rr hfit hk
   generalize hC:IV c (q+xs.length*sz') sz' f=C at hCg
   have hCs:C.size=c.size:=by rw[←hC];exact Kz hfit
   have hcellp:∀x o,g.fz x o→(w.setRow b C).cell? ⟨x,o,none⟩=w.cell? ⟨x,o,none⟩:=by
    intro x o hf
    by_cases hx:x=b
    ·subst hx
     have ho:o<q+xs.length*sz':=by
      rcases Nat.lt_or_ge o (q+xs.length*sz')with h|h
      ·exact h
      exact absurd hf (k6 o h)
     have hw':(w.setRow x C).heap[x]? =some (.cells C T (0,0)):=setRow_heap w x c C T (0,0) k3;simp only[World.cell?,hw',k3,Option.isSome_none,Bool.false_eq_true,if_false];rw[hCg o (by omega),if_neg (by omega)]
    exact W3 w b C x o hx
   have hbel:Below g.base w (w.setRow b C):=Cp w b C k2
   have hRn:=Rl.tok (e0:=q+xs.length*sz') (e:=q+(xs.length+1)*sz') (lim:=c.size) hR1 k2 (setRow_heap w b c C T (0,0) k3) hCs (by omega) k6 (by omega) hcellp hbel
    (fun x hx _=>H9 w b C x hx) (fun id hid=>hnown id _ hid rfl)
   have hStp:=N0.tok hR1 b (q+xs.length*sz') (q+(xs.length+1)*sz') c.size hcellp hbel;refine⟨_,g.nx,hStp,(hR1.nxt _ (Nat.le_refl _)).2.2,hRn,?_⟩
   refine .sl (sz:=sz') (fun i j=>if i<xs.length then fs i j else f j) (by simp) hc (fun i hi=>hlenxy vV hv i hi) (fun i j hi hj=>?_) (fun i j hi hj=>?_)
    (fun i j hi hj=>(hvals vV f hf _ _ hStp i j hi hj).1) (fun i j hi hj=>(hvals vV f hf _ _ hStp i j hi hj).2) ?_
   ·by_cases hix:i<xs.length
    ·exact .inl (hcell i j hix hj).1
    have h2:=Aj hi hj;have h1:xs.length*sz'≤i*sz':=Nat.mul_le_mul_right _ (by omega);exact .inr ⟨rfl,by omega,by omega⟩
   ·have h2:=Aj hi hj;have hw':(w.setRow b C).heap[b]? =some (.cells C T (0,0)):=setRow_heap w b c C T (0,0) k3
    by_cases hix:i<xs.length
    ·rw[if_pos hix];exact(hcellp b _ (hcell i j hix hj).1).trans (hcell i j hix hj).2
    rw[if_neg hix]
    have h1:i=xs.length:=by omega
    subst h1;simp only[World.cell?,hw',Option.isSome_none,Bool.false_eq_true,if_false];rw[hCg _ (by omega),if_pos (by omega),show q+xs.length*sz'+j - (q+xs.length*sz')=j by omega]
   refine⟨by omega,c.size,?_,by omega⟩;simp[Gh.tok]
 have hnf:¬(2 ^ 48<Builtin.nextslicecap (xs.length+1) cap*by_):=by
  have:=growslice_fits (Nat.lt_of_not_le hc) hbound;omega
 have hdr:∀b o,w.drew.cell? ⟨b,o,none⟩=w.cell? ⟨b,o,none⟩:=fun _ _=>rfl;generalize hG:grownCap w (xs.length+1) cap e=G
 have hGe:xs.length+1≤G:=by rw[←hG];exact grownCap_ge w _ _ _
 have hGs:(xs.length+1)*sz≤G*sz:=Nat.mul_le_mul_right _ hGe
 have hadd:(xs.length+1)*sz=xs.length*sz+sz:=by rw[Nat.add_mul,Nat.one_mul]
 generalize hO:((List.range (xs.length*sz)).map fun k=>fs (k / sz) (k % sz))=O at *
 have hOl:O.length=xs.length*sz:=by rw[←hO];simp
 generalize hZ:Builtin.zeroCells zv.cells (G - (xs.length+1))=Z at *
 have hZs:Z.size=G*sz - (xs.length+1)*sz:=by rw[←hZ,size_zeroCells,hzs,Nat.sub_mul]
 have hCs:∀f:Nat→Value,(O.toArray++((List.range sz).map f).toArray++Z).size=G*sz:=fun f=>by
  simp only[Array.size_append,List.size_toArray,List.length_map,List.length_range,hOl,hZs];omega
 have hCg:∀(f:Nat→Value) k,k<(xs.length+1)*sz→(O.toArray++((List.range sz).map f).toArray++Z)[k]? =some (if k<xs.length*sz then fs (k / sz) (k % sz)else f (k - xs.length*sz)):=by
  intro f k hk;rw[Array.getElem?_append,if_pos (by simp[hOl];omega),Array.getElem?_append];simp only[List.size_toArray,hOl,List.getElem?_toArray,List.getElem?_map]
  split
  ·rw[←hO,List.getElem?_map,List.getElem?_range (by assumption)];rfl
  rw[List.getElem?_range (by omega)];rfl
 refine⟨w.heap.size,0,G,fun f=>w.drew.alloc (.cells (O.toArray++((List.range sz).map f).toArray++Z) e),fun f=>O.toArray++((List.range sz).map f).toArray++Z,e,fun y0 tl' vy hvy hy0=>?_,hGe,fun f=>⟨T3 (w:=w.drew),by rw[hCs];omega⟩,fun f f'=>?_,
  fun x hx hlt f=>heap_alloc (w:=w.drew) hlt,fun id x hid e=>absurd (e▸hR1.lt hid) (Nat.lt_irrefl _),fun vV f hv hf=>?_⟩
 ·obtain⟨ybase,ycap,f0,ey,hf0,hry⟩:=hsrc y0 tl' vy hvy hy0;refine⟨f0,hf0,?_⟩;have hGd:(Question.appendCap (xs.length+1) cap e).cut (w.tape w.drawn (.appendCap (xs.length+1) cap e))=G:=hG;have hf:(Question.appendCap (xs.length+1) cap e).forced=false:=rfl;have hrs':=hrs w.drew hdr;have hry':=hry w.drew hdr
  rw[es]at hrs' ⊢;rw[ey]at hry' ⊢
  simp only[Builtin.append_,Sem.run_bind,run_underlying hu,Result.andThen_ok,J0 hsz,run_underlying huy,Sem.run_pure,Builtin.lenOf,Sem.run_ite,hbi,hbb,List.getElem?_toArray,
   List.getElem?_cons_zero,List.getElem?_cons_succ,Bool.false_eq_true,if_false,Bool.not_false,if_true,gt_iff_lt,false_or,if_neg hc,if_neg hnf,run_choose,hf,hGd,World.drew_eq,run_askRoom,hrs',hry',hzv,newRow,run_newObj,
   World.alloc_eq,World.size_drew,hO,hZ]
  rw[if_neg (by simpa using hn63)]
 ·rw[show w.heap.size=w.drew.heap.size from rfl,Nk]
  congr 2
  apply Array.ext';simp only[IV,Nat.zero_add,Array.toList_append,List.toList_toArray,List.append_assoc];rw[List.take_append_of_le_length (by omega),List.take_of_length_le (by omega),show xs.length*sz+sz=O.length+sz by omega,←List.drop_drop,List.drop_left]
  congr 1
  congr 1
  exact List.drop_left' (by simp)
 have hcellp:∀x o,g.fz x o→(w.drew.alloc (.cells (O.toArray++((List.range sz).map f).toArray++Z) e)).cell? ⟨x,o,none⟩=w.cell? ⟨x,o,none⟩:=fun x o hf=>X7 (w:=w.drew) (hR.fz_lt hf);have hbel:Below g.base w (w.drew.alloc (.cells (O.toArray++((List.range sz).map f).toArray++Z) e)):=(Below.refl _ _).drew.alloc hR.bnd _
 have hnown:∀id,g.at (D0 H tl) id≠some w.heap.size:=fun id hid=>absurd (hR1.lt hid) (Nat.lt_irrefl _)
 have hRn:=Rl.tok (e0:=0) (e:=(xs.length+1)*sz) (lim:=G*sz) hR1 hR.bnd (T3 (w:=w.drew) (o:=.cells (O.toArray++((List.range sz).map f).toArray++Z) e)) (hCs f) hGs (fun o _ hf=>absurd (hR.fz_lt hf) (Nat.lt_irrefl _)) (Nat.zero_le _) hcellp hbel
  (fun x hx hlt=>heap_alloc (w:=w.drew) hlt) hnown
 have hStp:=N0.tok hR1 w.heap.size 0 ((xs.length+1)*sz) (G*sz) hcellp hbel;refine⟨_,g.nx,hStp,(hR1.nxt _ (Nat.le_refl _)).2.2,hRn,?_⟩
 refine .sl (sz:=sz) (fun i j=>if i<xs.length then fs i j else f j) (by simp) hGe (fun i hi=>hlenxy vV hv i hi) (fun i j hi hj=>.inr ⟨rfl,Nat.zero_le _,by have:=Aj hi hj;omega⟩) (fun i j hi hj=>?_)
  (fun i j hi hj=>(hvals vV f hf _ _ hStp i j hi hj).1) (fun i j hi hj=>(hvals vV f hf _ _ hStp i j hi hj).2) ?_
 ·have h2:=Aj hi hj;rw[show(⟨w.heap.size,0+i*sz+j,none⟩:Addr)=⟨w.drew.heap.size,i*sz+j,none⟩ by simp];rw[FL (w:=w.drew),hCg f _ h2]
  congr 1
  by_cases hix:i<xs.length
  ·have h3:=Aj hix hj;rw[if_pos h3,if_pos hix,(K2 hj).1,(K2 hj).2]
  have h1:i=xs.length:=by omega
  subst h1;rw[if_neg (by omega),if_neg hix,show xs.length*sz+j - xs.length*sz=j by omega]
 refine⟨by omega,G*sz,?_,by simp⟩;simp[Gh.tok]
end
end Go.Ab
namespace Go.Ab
open Go.RowKit
variable [G7][Ar]
section
variable {P:Program}{nt:Nat}{ops:Array Oper}{H0:A0}
def DQ (A:Nat→Bool):List Nat→Pv→Fr→A0→(Fr→A0→Prop)→Prop
 |[],_,fr,H,K=>K fr H
 |d::ds,pv,fr,H,K=>
  match pv (.inl d)with
  |some cs=>if A d then∀id,H id=none→DQ A ds pv (fr.put (some d) (.ref id 0)) (upd H id (some (.cells cs))) K else DQ A ds pv (fr.put (some d) (.eref cs 0)) H K
  |none=>False
theorem Kn {A:Nat→Bool} {w:World} {a:Act} {ids:Pk→Nat} {pv:Pv} {K:Fr→A0→Prop} (hinj:∀d d' cs cs',pv d=some cs→pv d'=some cs'→d.var=true→d'.var=true→ids d=ids d'→d=d'):
 ∀(ds:List Nat) (fr:Fr) (g:Gh) (H H1:A0),Rl g H w→ds.Nodup→(∀d∈ds,∀cs,pv (.inl d)=some cs→H (ids (.inl d))=some (.cells cs)∧∃b,g.mu (ids (.inl d))=some b∧a.tmps.getD d undef= .pointer (some ⟨b,0,none⟩))→
  (∀id b,H1 id=some b→H id=some b)→(∀d∈ds,∀cs,pv (.inl d)=some cs→H1 (ids (.inl d))=none)→FR nt g w a fr→DQ A ds pv fr H1 K→∃g' fr' H',N0 g w g' w∧Rl g' H' w∧FR nt g' w a fr'∧K fr' H'
 |[],fr,g,H,H1,hR,_,_,hl,_,hF,h=>⟨g,fr,H1,N0.refl _ _,hR.less hl,hF,h⟩
 | d ::ds,fr,g,H,H1,hR,hnd,hpv,hl,hfr,hF,h=>by
  simp only[DQ]at h
  have hnd':=List.nodup_cons.1 hnd
  split at h
  ·rename_i cs hcs;obtain⟨k1,b,k2,k3⟩:=hpv d (by simp) cs hcs
   split at h
   ·refine Kn hinj ds _ g H _ hR hnd'.2 (fun d' hd'=>hpv d' (by simp[hd'])) (fun id bk hb=>?_) (fun d' hd' cs' hp=>?_) ?_ (h (ids (.inl d)) (hfr d (by simp) cs hcs))
    ·by_cases e:id=ids (.inl d)
     ·subst e;rw[B1]at hb;cases hb;exact k1
     rw[A6 _ _ e]at hb;exact hl _ _ hb
    ·by_cases e:ids (.inl d')=ids (.inl d)
     ·exact absurd (hinj _ _ _ _ hp hcs rfl rfl e) fun x=>hnd'.1 (by cases x;exact hd')
     rw[A6 _ _ e];exact hfr d' (by simp[hd']) cs' hp
    refine⟨hF.size,fun t=>?_,hF.df⟩;simp only[Fr.put]
    split
    ·rename_i e;subst e;rw[k3];exact .ref k2
    exact hF.s t
   obtain⟨g',s,hR',hv⟩:=hR.freeze k1;have hF':=hF.mono s
   have e1:∀d'∈ds,∀cs',pv (.inl d')=some cs'→(upd H (ids (.inl d)) none) (ids (.inl d'))=some (.cells cs')∧∃b,g'.mu (ids (.inl d'))=some b∧a.tmps.getD d' undef= .pointer (some ⟨b,0,none⟩):=fun d' hd' cs' hp=>by
    obtain⟨q1,b',q2,q3⟩:=hpv d' (by simp[hd']) cs' hp;have hne:ids (.inl d')≠ids (.inl d):=fun e=>absurd (hinj _ _ _ _ hp hcs rfl rfl e) fun x=>hnd'.1 (by cases x;exact hd');exact⟨by rw[A6 _ _ hne];exact q1,b',s.mu _ _ q2,q3⟩
   have e2:∀id bk,H1 id=some bk→(upd H (ids (.inl d)) none) id=some bk:=fun id bk hb=>by
    have hne:id≠ids (.inl d):=fun e=>by subst e;rw[hfr d (by simp) cs hcs]at hb;cases hb
    rw[A6 _ _ hne];exact hl _ _ hb
   have e3:FR nt g' w a (fr.put (some d) (.eref cs 0)):=by
    refine⟨hF'.size,fun t=>?_,hF'.df⟩;simp only[Fr.put]
    split
    ·rename_i e;subst e;rw[k3];exact hv _ _ (.ref k2)
    exact hF'.s t
   obtain⟨g2,fr2,H2,s2,r⟩:=Kn hinj ds _ g' _ H1 hR' hnd'.2 e1 e2 (fun d' hd'=>hfr d' (by simp[hd'])) e3 h;exact⟨g2,fr2,H2,s.trans s2,r⟩
  exact h.elim
abbrev Tk :=List (Nat×List V)
def XB (W:Tk)(ex:Option E5):Pv
 | .inl _=>none
 | .inr id=>(W.find? fun p=>p.1==id).map (·.2)
 | .tk _=>none
 | .ex=>ex.map fun τ=>[.sl [] τ]
def EC (H:A0):Option E5→A0
 |some τ=>D0 H τ
 |none=>H
def Es (dx:Option Nat)(pv:Pv)(fr:Fr)(H:A0)(K:Fr→A0→Prop):Prop:=
 match dx with
 |none=>K fr H
 |some d=>∃xs,(pv (.tk d)).isSome=true∧fr.s d= .sl xs .ro∧(∀tl,tl= .nil∨tl= .full→K (fr.put (some d) (.sl xs tl)) H)∧∀t,H t=none→K (fr.put (some d) (.sl xs (.tok t))) (upd H t (some .spare))
theorem Hk {H:A0} {ex:Option E5} {id:Nat} {b:CW} (h:EC H ex id=some b):H id=some b∧∀t,ex=some (.tok t)→id≠t:=by
 cases ex with
 |none=>exact⟨h,fun t ht=>by cases ht⟩
 | some τ=>
  cases τ with
  |tok t=>
   simp only[EC,D0]at h
   by_cases e:id=t
   ·subst e;rw[B1]at h;cases h
   rw[A6 _ _ e]at h;exact⟨h,fun t' ht=>by cases ht;exact e⟩
  |_=>exact⟨h,fun t ht=>by cases ht⟩
def BI (H:A0):Tk→A0
 |[]=>H
 |(id,_)::W=>upd (BI H W) id none
def Mb :Tk→Pv→A0→(A0→Prop)→Prop
 |[],_,H,K=>K H
 |(id,_)::W,pv,H,K=>Mb W pv H fun H'=>match pv (.inr id)with|some cs=>K (upd H' id (some (.cells cs)))|none=>False
theorem EW {H:A0}:∀{W:Tk} {id:Nat} {b:CW},BI H W id=some b→H id=some b∧∀p∈W,p.1≠id
 |[],id,b,h=>⟨h,fun p hp=>by simp at hp⟩
 |(i,c)::W,id,b,h=>by
  simp only[BI]at h
  by_cases e:id=i
  ·subst e;rw[B1]at h;cases h
  rw[A6 _ _ e]at h
  obtain⟨h1,h2⟩:=EW h;refine⟨h1,fun p hp=>?_⟩
  rcases List.mem_cons.1 hp with rfl|hp
  ·exact fun x=>e x.symm
  exact h2 p hp
theorem Hv {H:A0}:∀{W:Tk} {p:Nat×List V},p∈W→BI H W p.1=none
 |(i,c)::W,p,h=>by
  simp only[BI]
  by_cases e:p.1=i
  ·rw[e,B1]
  rw[A6 _ _ e]
  rcases List.mem_cons.1 h with rfl|h
  ·exact absurd rfl e
  exact Hv h
theorem OJ {Hw:A0} {pv:Pv} (hpv:∀id cs,pv (.inr id)=some cs→Hw id=some (.cells cs)):∀(W:Tk) (H:A0) (K:A0→Prop),(∀id b,H id=some b→Hw id=some b)→Mb W pv H K→∃H',(∀id b,H' id=some b→Hw id=some b)∧(∀id,H' id≠none→H id≠none∨∃cs,pv (.inr id)=some cs)∧K H'
 |[],H,K,hl,h=>⟨H,hl,fun id hn=>.inl hn,h⟩
 | (i,c)::W,H,K,hl,h=>by
  simp only[Mb]at h
  obtain⟨H',h1,h2,h3⟩:=OJ hpv W H _ hl h
  split at h3
  ·rename_i cs hcs;refine⟨_,fun id b hb=>?_,fun id hn=>?_,h3⟩
   ·by_cases e:id=i
    ·subst e;rw[B1]at hb;cases hb;exact hpv _ _ hcs
    rw[A6 _ _ e]at hb;exact h1 _ _ hb
   by_cases e:id=i
   ·exact .inr ⟨cs,e▸hcs⟩
   rw[A6 _ _ e]at hn
   exact h2 id hn
  exact h3.elim
end
def V4 (P:Program)(nt:Nat)(rd:Option Nat)(ops:Array Oper)(fr:Fr)(H:A0)(Q:Exit→Fr→A0→Prop):Prop:=
 ∀r g w a,SV g rd r→Rl g H w→FR nt g w a fr→wpAnyIn (Fw r) 0 P .any ops (Nt nt g w Q) ops.size (Array.replicate ops.size false) a w.drew
theorem O3.of_any {P:Program}{nt id:Nat}{rd:Option Nat}{ops:Array Oper}{fr:Fr}{H:A0}{Q:Exit→Fr→A0→Prop}(hm:P.follows .mixedOrders=true)(h:V4 P nt rd ops fr H Q):O3 P nt rd (.region id ops true) fr H Q:=
 fun r g w a hr hR hF=>wpIn_region_any hm (h r g w a hr hR hF)
section
variable {P:Program}{nt:Nat}{ops:Array Oper}{H0:A0}
theorem V4.drawF {A:Lf} {rd:Option Nat} {k:Nat} {al:List Nat} {W:Tk} {ex:Option E5} {dx:Option Nat} {fr:Fr} {Q:Exit→Fr→A0→Prop} (hok:KN ops k=true) (hnd:al.Nodup)
 (hX:∀τ,ex=some τ→Ds H0 τ) (hW:∀p∈W,EC H0 ex p.1=some (.cells p.2))
 (h:DY P nt ops (BI (EC H0 ex) W) (ops.toList.take k) fr (XB W ex) fun fr' pv=>Mb W pv (BI (EC H0 ex) W) fun H1=>Es dx pv fr' H1 fun fr1 H2=>DQ A al pv fr1 H2 fun fr'' H=>DC P A nt ops (ops.toList.drop k) fr'' H (Q .normal)):V4 P nt rd ops fr H0 Q:=by
 intro r g w a _ hR hF;obtain⟨hk,hat⟩:=SK hok;have sd:N0 g w g w.drew:=⟨fun _ _ e=>e,fun _ _ e=>e,fun _ _ e=>e,rfl,fun _ _ _=>rfl,(Below.refl _ _).drew,fun _ _ _=>rfl,Nat.le_succ _⟩
 have hRd:Rl g H0 w.drew:=by
  refine⟨fun id b hb=>(hR.blk id b hb).mono hb sd fun _ _=>⟨rfl,fun _ ho=>ho⟩,hR.inj,hR.frz,hR.nxt,hR.bnd,fun n=>(hR.glb n).mono sd⟩
 have hI:QJ nt (BI (EC H0 ex) W) g w.drew fr (XB W ex) g w.drew a:=by
  refine⟨H0,fun k=>match k with| .inl _=>0| .inr n=>n| .tk _=>0| .ex=>0,N0.refl _ _,hRd,hF.mono sd,fun id b hb=>(Hk (EW hb).1).1,fun d cs h hv=>?_,fun d d' cs cs' h h' hv hv' e=>?_,fun _=>none,fun d cs h=>(by cases h),fun d d' cs cs' t h=>(by cases h),fun cs h=>?_⟩
  ·cases d with
   |inl d=>cases h
   | inr n=>
    simp only[XB]at h
    cases hf:W.find? fun p=>p.1==n with
    |none=>rw[hf]at h;cases h
    |some p=>
     rw[hf]at h
     simp only[Option.map_some,Option.some.injEq]at h
     have hp:=List.mem_of_find?_eq_some hf
     have hn:p.1=n:=by have:=List.find?_some hf;simpa using this
     subst h;subst hn;exact⟨(Hk (hW p hp)).1,Hv hp,rfl⟩
   |tk d=>cases h
   |ex=>cases hv
  ·cases d with
   |inl d=>cases h
   |tk d=>cases h
   |ex=>cases hv
   |inr n=>
    cases d' with
    |inl d'=>cases h'
    |tk d'=>cases h'
    |ex=>cases hv'
    |inr n'=>simp only at e;rw[e]
  cases hx:ex with
  |none=>rw[hx]at h;cases h
  | some τ=>
   rw[hx]at h
   cases h;refine⟨τ,rfl,?_⟩;have hA:=hX τ hx
   cases τ with
   |nil=>exact .inl (.inl rfl)
   |full=>exact .inl (.inr rfl)
   |ro=>exact hA.elim
   |tok t=>
    refine .inr ⟨t,rfl,hA,?_,fun d cs' h=>by cases h⟩
    cases hn:BI (EC H0 (some (.tok t))) W t with
    |none=>rfl
    |some b=>exact absurd rfl ((Hk (EW hn).1).2 t rfl)
 have hmap:(List.range k).map (fun i=>ops.getD i default)=ops.toList.take k:=by
  apply List.ext_getElem
  ·simp;omega
  intro i h1 h2
  simp at h1
  simp[Array.getD,show i<ops.size by omega]
 have hb:=KW (r:=r) (Q:=Nt nt g w Q) hk (fun i hi=>⟨(hat i hi).1,fun j hj=>((hat i hi).2 j hj).imp (fun h=>h) .inl⟩) (K:=fun fr' pv=>Mb W pv (BI (EC H0 ex) W) fun H1=>Es dx pv fr' H1 fun fr1 H2=>DQ A al pv fr1 H2 fun fr'' H=>DC P A nt ops (ops.toList.drop k) fr'' H (Q .normal)) (g0:=g) (w0:=w.drew)
  (fun g' w' a' fr' pv listed hsz hl hI' hK=>?_) k (List.range k) (Array.replicate ops.size false) fr (XB W ex) (by simp) (List.pairwise_lt_range) (fun i hi=>by simpa using hi) (by simp) (fun i b hi=>by simp[Array.getD,hi]) (fun m j hm _=>by simp[Array.getD]at hm) (by rw[hmap];exact h) g w.drew a hI
 ·rw[show k+(ops.size - k)=ops.size by omega]at hb
  exact hb
 obtain⟨H,ids,s,hR',hF',hext,hpv,hinj,tks,htk,_⟩:=hI'
 have hex:∀n cs,pv (.inr n)=some cs→H n=some (.cells cs):=fun n cs hn=>by
  obtain⟨k1,_,k3⟩:=hpv _ cs hn rfl;have k3:ids (.inr n)=n:=k3
  rwa[k3]at k1
 obtain⟨H1,g1,g2,hK⟩:=OJ hex W _ _ hext hK
 have hfree:∀d cs,pv (.inl d)=some cs→H1 (ids (.inl d))=none:=fun d cs hd=>by
  obtain⟨k1,k2,_⟩:=hpv _ cs hd rfl
  cases hn:H1 (ids (.inl d))with
  |none=>rfl
  |some b=>
   exfalso
   rcases g2 _ (by rw[hn];simp)with h|⟨cs',hp⟩
   ·exact h k2
   have k3:ids (.inr (ids (.inl d)))=ids (.inl d):=(hpv _ cs' hp rfl).2.2;cases hinj _ _ _ _ hp hd rfl rfl k3
 have hmid:∃fr1 H1',FR nt g' w' a' fr1∧(∀id b,H1' id=some b→H id=some b)∧(∀d cs,pv (.inl d)=some cs→H1' (ids (.inl d))=none)∧DQ A al pv fr1 H1' fun fr'' H=>DC P A nt ops (ops.toList.drop k) fr'' H (Q .normal):=by
  rcases dx with _|d
  ·exact⟨fr',H1,hF',g1,hfree,hK⟩
  simp only[Es]at hK
  obtain⟨xs,e1,e2,e3,e4⟩:=hK;obtain⟨c,hc⟩:=Option.isSome_iff_exists.1 e1;obtain⟨xs',tl,q1,q2,q3⟩:=htk d c hc
  rw[e2]at q1
  cases q1
  have hFR:FR nt g' w' a' (fr'.put (some d) (.sl xs tl)):=by
   refine⟨hF'.size,fun t=>?_,hF'.df⟩;simp only[Fr.put]
   split
   ·rename_i e;subst e;exact q2
   exact hF'.s t
  rcases q3 with⟨_,q⟩|⟨t,_,q,q4,q5⟩
  ·exact⟨_,H1,hFR,g1,hfree,e3 tl q⟩
  subst q
  have ht:H1 t=none:=by
   cases hn:H1 t with
   |none=>rfl
   |some b=>
    exfalso
    rcases g2 _ (by rw[hn];simp)with h|⟨cs',hp⟩
    ·exact h q5
    have:=hex _ _ hp;rw[q4]at this;cases this
  refine⟨_,_,hFR,fun id b hb=>?_,fun d' cs hd'=>?_,e4 t ht⟩
  ·by_cases e:id=t
   ·subst e;rw[B1]at hb;cases hb;exact q4
   rw[A6 _ _ e]at hb;exact g1 _ _ hb
  have hne:ids (.inl d')≠t:=fun e=>by
   have:=(hpv _ cs hd' rfl).1
   rw[e,q4]at this;cases this
  rw[A6 _ _ hne];exact hfree d' cs hd'
 obtain⟨fr1,H1',hF1,g1',hfree',hK⟩:=hmid
 obtain⟨g3,fr2,H2,s2,hR2,hF2,hK2⟩:=Kn hinj al fr1 g' H H1' hR' hnd (fun d _ cs hd=>by
  obtain⟨k1,_,_,b,k4,k5⟩:=hpv _ cs hd rfl
  exact⟨k1,b,k4,k5⟩) g1' (fun d _ cs hd=>hfree' d cs hd) hF1 hK
 exact JN (A:=A) (r:=r) (K:=Q .normal) (k:=k) (fun i hi=>⟨(hat i hi).1,fun j hj hkj=>((hat i hi).2 j hj).elim (fun h=>h) fun h=>absurd h.1 (by omega)⟩) (g0:=g) (w0:=w) (fun g3 w3 a3 fr3 H3 s3 hR3 hF3 hK3=>⟨g3,fr3,H3,s3,hR3,hF3,hK3⟩) (ops.size - k) k listed fr2 H2 (by omega) (by omega) hsz hl hK2 g3 w' a' ((sd.trans s).trans s2) hR2 hF2
end
end Go.Ab
namespace Go.Ab
open Go.RowKit
variable [G7]
structure Le where
 sx:Operand
 sy:Operand
 nn:Operand
 zz:Operand
 sT:TypeId
 yT:TypeId
 t2:TypeId
 eT:TypeId
 t3:TypeId
 tA:Nat
 tI:Nat
 tp:Nat
structure Yo (ops:Array Oper) (nt k:Nat) (p:Le):Prop where
 lt:k+3<ops.size
 a1:(ops.getD k default).op= .call {callee:=.builtin .append,args:= #[p.sx,p.sy],argTypes:= #[p.sT,p.yT]}
 a2:(ops.getD k default).dst=some p.tA
 a3:(ops.getD k default).guard=none
 i1:(ops.getD (k+1) default).op= .indexAddr p.t2 (.tmp p.tA) p.nn
 i2:(ops.getD (k+1) default).dst=some p.tI
 i3:(ops.getD (k+1) default).guard=none
 s1:(ops.getD (k+2) default).op= .store p.eT (.tmp p.tI) p.zz
 s2:(ops.getD (k+2) default).dst=none
 s3:(ops.getD (k+2) default).guard=none
 u1:(ops.getD (k+3) default).op= .store p.t3 (.tmp p.tp) (.tmp p.tA)
 u2:(ops.getD (k+3) default).dst=none
 u3:(ops.getD (k+3) default).guard=none
 n1:p.tA≠p.tI
 n2:p.tp≠p.tA
 n3:p.tp≠p.tI
 n4:p.nn≠ .tmp p.tA
 n5:p.zz≠ .tmp p.tA
 n6:p.zz≠ .tmp p.tI
 n7:p.tA<nt
 n8:p.tI<nt
section
variable {P:Program}{nt:Nat}{ops:Array Oper}
structure LC (ops:Array Oper) (listed:Array Bool) (S:Nat→Bool):Prop where
 size:listed.size=ops.size
 get:∀i b,i<ops.size→listed.getD i b=S i
 cl:∀m j,listed.getD m false=true→Z7 (ops.getD m default) j=true→listed.getD j false=true
theorem LC.step {listed:Array Bool} {S:Nat→Bool} {i:Nat} (h:LC ops listed S) (hi:i∈Region.ready .any ops listed):LC ops (listed.setIfInBounds i true) fun j=>j==i||S j:=by
 obtain⟨h1,h2,h3⟩:=mem_ready hi;refine⟨by simpa using h.size,fun j b hj=>?_,fun m j hm hj=>?_⟩
 ·rw[FA (by rw[h.size];exact h1),h.get j b hj]
  by_cases e:j=i
  ·subst e;simp
  rw[if_neg e];simp[e]
 rw[FA (by rw[h.size];exact h1)]at hm ⊢
 by_cases ej:j=i
 ·rw[if_pos ej]
 rw[if_neg ej]
 by_cases em:m=i
 ·subst em;exact h3 j hj
 rw[if_neg em]at hm;exact h.cl m j hm hj
theorem LC.not {listed:Array Bool}{S:Nat→Bool}{i:Nat}(h:LC ops listed S)(hi:i∈Region.ready .any ops listed):i<ops.size∧S i=false∧∀j,j<ops.size→EK ops Ir i j=true→S j=true:=by
 obtain⟨h1,h2,h3⟩:=mem_ready hi;refine⟨h1,by rw[←h.get i true h1];exact h2,fun j hj hr=>?_⟩;rw[←h.get j false hj];exact AK h.cl Ir i j h3 hr
theorem LC.ready {listed:Array Bool}{S:Nat→Bool}{i:Nat}(h:LC ops listed S)(h1:i<ops.size)(h2:S i=false)(hb:T6 (ops.getD i default) i=true)(h3:∀j,j<i→S j=true):i∈Region.ready .any ops listed:=
 Kb h1 (by rw[h.get i true h1];exact h2) hb fun j hj=>by rw[h.get j false (by omega)];exact h3 j hj
theorem LC.eq {listed:Array Bool}{S S':Nat→Bool}(h:LC ops listed S)(e:∀i,S i=S' i):LC ops listed S':=⟨h.size,fun i b hi=>(h.get i b hi).trans (e i),h.cl⟩
theorem Nz {o:Oper}{a:Act}{w:World}{r:Option Nat}{next:Act→World→Prop}{Q:Exit→Act→World→Prop}{Kx:Value→World→Prop}(hnd:∀c,o.op≠ .defer c)(h:D6 P Kx ((execOp a.eval o).run P w))(hk:∀v w',Kx v w'→next (a.put o.dst v) w'):o.wpIn (Fw r) 0 P a w next Q:=by
 refine⟨fun _ _=>trivial,?_⟩;rw[Oper.semAt_eq _ _ _ hnd];exact CH h hk
theorem Dp {r:Option Nat}{Q:Exit→Act→World→Prop}{fuel i:Nat}{listed:Array Bool}{a:Act}{w:World}{Kx:Value→World→Prop}(h1:i<ops.size)(hg:(ops.getD i default).guard=none)(hnd:∀c,(ops.getD i default).op≠ .defer c)
 (h:D6 P Kx ((execOp a.eval (ops.getD i default)).run P w)) (hk:∀v w',Kx v w'→wpAnyIn (Fw r) 0 P .any ops Q fuel (listed.setIfInBounds i true) (a.put (ops.getD i default).dst v) w'):
 wpOpIn (Fw r) 0 P ops Q i (wpAnyIn (Fw r) 0 P .any ops Q fuel (listed.setIfInBounds i true)) a w:=by
 rw[JE h1]at *
 simp only[wpOpIn,Array.getElem?_eq_getElem h1];rw[if_pos (by simp[Region.wanted,hg])];exact Nz hnd h hk
theorem AC {a:Act} {d:Nat} {v:Value} {x:Operand} (h:x≠ .tmp d):(a.put (some d) v).eval x=a.eval x:=by
 cases x with
 |tmp t=>
  have:d≠t:=fun e=>h (by rw[e]);simp[Act.eval,Act.put,Array.getElem?_setIfInBounds,this]
 |_=>rfl
theorem Ja {a:Act}{d:Nat}{v:Value}(h:d<a.tmps.size):(a.put (some d) v).eval (.tmp d)=v:=by
 simp[Act.eval,Act.put,h]
theorem OZ {v:Value}{n:Nat}(h:v.cells.size=n):(List.range n).map (fun j=>v.cells.getD j undef)=v.cells.toList:=by
 subst h;apply List.ext_getElem
 ·simp
 intro i h1 h2
 have:i<v.cells.size:=by simpa using h2
 simp[Array.getD,this]
theorem IP {W:World}{B q n:Nat}{c:Array Value}{T t:TypeId}{x y:Operand}{a:Act}{o:Oper}(ho:o.op= .store t x y)(hs:AH P t=some n)(hx:a.eval x= .pointer (some ⟨B,q,none⟩))(hc:W.heap[B]? =some (.cells c T (0,0)))(hsz:(a.eval y).cells.size=n)(hfit:q+n≤c.size)
 (h1:∀j,j<n→((a.eval y).cells.getD j undef).oneCell'=true):D6 P (fun _ w'=>w'=W.setRow B (IV c q n fun j=>(a.eval y).cells.getD j undef)) ((execOp a.eval o).run P W):=by
 have hst:=EX (P:=P) (f:=fun j=>(a.eval y).cells.getD j undef) hc hfit h1
 rw[OZ hsz]at hst
 unfold execOp;rw[ho];simp only[hx,Instr.storeAt,Instr.sureAddr,storeVar,Sem.run_bind,Sem.run_pure,Result.andThen_ok,J0 hs W,hsz,ne_eq,not_true_eq_false,if_false,hst,D6]
theorem Vd {A:Lf} {r:Option Nat} {k:Nat} {p:Le} {K:Fr→A0→Prop} {Q:Exit→Act→World→Prop} {g0:Gh} {w0:World} (hp:Yo ops nt k p)
 (hat:∀i,i<ops.size→T6 (ops.getD i default) i=true∧∀j,j<i→EK ops Ir i j=true∨i<k∨(i=k+3∧k<j))
 (hQ:∀g w a fr H,N0 g0 w0 g w→Rl g H w→FR nt g w a fr→K fr H→Q .normal a w)
 {listed:Array Bool} (hL:LC ops listed fun i=>decide (i<k)) {fr:Fr} {H:A0} {xs cs:List V} {tl tl':E5} {y0 vV z:V} {kk:IntKind} {e:TypeId} {sz by_ idp offp:Nat}
 (hx:W6 (ev fr p.sx) (.sl xs tl)) (hy:ev fr p.sy= .sl [y0] tl') (hy0:y0.cells.length=sz) (hn:ev fr p.nn= .int kk (xs.length:Nat)) (hzz:W6 (ev fr p.zz) vV) (hv1:vV.one=true) (hvl:vV.cells.length=sz)
 (he:Bp P p.sT=some e) (hyT:(Bp P p.yT).isSome=true) (he2:Bp P p.t2=some e) (hsz:AH P e=some sz) (hse:AH P p.eT=some sz) (hpos:0<sz) (hby:IE P e=some by_) (hbp:0<by_)
 (hz:CX P e=some z) (hz1:z.one=true) (hzl:z.cells.length=sz) (hA:Ds H tl) (hax:xs.all (fun x=>x.cells.length==sz)=true) (hbound:(xs.length+1)*by_≤140737488355328)
 (hU:fr.s p.tp= .ref idp offp) (hUc:H idp=some (.cells cs)) (hUs:AH P p.t3=some 1) (hUf:offp+1≤cs.length)
 (hK:∀t,D0 H tl t=none→DC P A nt ops (ops.toList.drop (k+4)) ((fr.put (some p.tA) (.sl (xs++[vV]) (.tok t))).put (some p.tI) .bad)
  (upd (upd (D0 H tl) t (some .spare)) idp (some (.cells (L8 cs offp [.sl (xs++[vV]) (.tok t)])))) K):
 ∀g w a,N0 g0 w0 g w→Rl g H w→FR nt g w a fr→wpAnyIn (Fw r) 0 P .any ops Q (ops.size - k) listed a w:=by
 intro g w a st hR hF;have hvs:=(C3 hR hF.s p.sx).le hx;have hvy:=C3 hR hF.s p.sy
 rw[hy]at hvy
 have hvn:=C3 hR hF.s p.nn
 rw[hn]at hvn
 have hvn:=hvn.int_inv;have hvz:=(C3 hR hF.s p.zz).le hzz;obtain⟨hzc1,hzc2⟩:=hvz.cells hv1
 have hzsz:(a.eval p.zz).cells.size=sz:=by rw[hzc1,hvl]
 have hpp:VR g w (a.eval (.tmp p.tp)) (.ref idp offp):=by have:=C3 hR hF.s (.tmp p.tp);rwa[show ev fr (.tmp p.tp)= .ref idp offp from hU]at this
 obtain⟨bp,hmp,hep⟩:∃bp,g.mu idp=some bp∧a.eval (.tmp p.tp)= .pointer (some ⟨bp,offp,none⟩):=by
  generalize a.eval (.tmp p.tp)=v at hpp
  cases hpp with
  |ref hm=>exact⟨_,hm,rfl⟩
 obtain⟨b,off,G,W,C,T,r1,r2,r3,r4,r5,r6,r7⟩:=QI (P:=P) (ty:=(ops.getD k default).type) hR hvs he hyT hsz hpos hby hbp hz hz1 hzl hA hax hbound;obtain⟨f0,hf0,hrA⟩:=r1 y0 tl' _ hvy hy0;obtain⟨bp',cp,Tp,q1,q2,q3,q4,q5,q6⟩:=hR.blk idp _ hUc
 rw[hmp]at q1;cases q1
 have hdt:D0 H tl idp=some (.cells cs):=by
  cases tl with
  |tok t=>
   have hA':H t=some .spare:=hA
   have:idp≠t:=fun e=>by subst e;rw[hUc]at hA';cases hA'
   simp only[D0,A6 _ _ this];exact hUc
  |_=>exact hUc
 have hatp:g.at (D0 H tl) idp=some bp:=by simp only[Gh.at,hdt,hmp]
 have hne:bp≠b:=r6 _ _ hatp;have hplt:bp<w.heap.size:=(Array.getElem?_eq_some_iff.1 q3).1
 have hpfit:offp+1≤cp.size:=by omega
 generalize hs':(Value.slice (some ⟨b,off,none⟩) (xs.length+1) G)=s' at *
 generalize hfv:(fun j=>(a.eval p.zz).cells.getD j undef)=fv
 have hfv1:∀j,j<sz→(fv j).oneCell'=true∧VR g w (fv j) (vV.cells.getD j .bad):=fun j hj=>by rw[←hfv];exact hzc2 j (by omega)
 have hs1:s'.cells= #[s']:=by rw[←hs'];rfl
 have hs2:∀j,j<1→(s'.cells.getD j undef).oneCell'=true:=fun j hj=>by
  rw[show j=0 by omega,hs1,←hs'];rfl
 have hsf:(fun j=>s'.cells.getD j undef)=fun j=>(#[s']:Array Value).getD j undef:=by rw[hs1]
 generalize ha1:a.put (some p.tA) s'=a1;generalize hA0:(Value.pointer (some ⟨b,off+xs.length*sz,none⟩))=pA;generalize ha2:a1.put (some p.tI) pA=a2
 have hsize1:a1.tmps.size=nt:=by rw[←ha1];simp[Act.put,hF.size]
 have e1A:a1.eval (.tmp p.tA)=s':=by rw[←ha1];exact Ja (by rw[hF.size];exact hp.n7)
 have e1n:a1.eval p.nn= .int kk (xs.length:Nat):=by rw[←ha1,AC hp.n4];exact hvn
 have e1p:a1.eval (.tmp p.tp)= .pointer (some ⟨bp,offp,none⟩):=by rw[←ha1,AC (fun h=>hp.n2 (Operand.tmp.inj h))];exact hep
 have e2A:a2.eval (.tmp p.tA)=s':=by rw[←ha2,AC (fun h=>hp.n1 (Operand.tmp.inj h))];exact e1A
 have e2p:a2.eval (.tmp p.tp)= .pointer (some ⟨bp,offp,none⟩):=by rw[←ha2,AC (fun h=>hp.n3 (Operand.tmp.inj h))];exact e1p
 have e2I:a2.eval (.tmp p.tI)=pA:=by rw[←ha2];exact Ja (by rw[hsize1];exact hp.n8)
 have e2z:a2.eval p.zz=a.eval p.zz:=by rw[←ha2,AC hp.n6,←ha1,AC hp.n5]
 have hndA:∀c,(ops.getD k default).op≠ .defer c:=fun c h=>by rw[hp.a1]at h;cases h
 have hndI:∀c,(ops.getD (k+1) default).op≠ .defer c:=fun c h=>by rw[hp.i1]at h;cases h
 have hndS:∀c,(ops.getD (k+2) default).op≠ .defer c:=fun c h=>by rw[hp.s1]at h;cases h
 have hndU:∀c,(ops.getD (k+3) default).op≠ .defer c:=fun c h=>by rw[hp.u1]at h;cases h
 have runA:D6 P (fun v w'=>v=s'∧w'=W f0) ((execOp a.eval (ops.getD k default)).run P w):=by
  rw[I7 hp.a1];simp only[builtin,List.map_toArray,List.map_cons,List.map_nil,Sem.run_bind,hrA,Result.andThen_ok,Sem.run_pure,D6]
  trivial
 have runI:∀W':World,D6 P (fun v w'=>v=pA∧w'=W') ((execOp a1.eval (ops.getD (k+1) default)).run P W'):=fun W'=>by
  have hu:=J8 he2;unfold execOp;rw[hp.i1]
  have c1:(0:Int)≤(xs.length:Nat):=by omega
  have c2:((xs.length:Nat):Int)<((xs.length+1:Nat):Int):=by omega
  simp only[e1A,←hs',e1n,Instr.indexAt,asIntOf,Sem.run_bind,Sem.run_pure,Result.andThen_ok,run_underlying hu,c1,c2,and_self,if_true,J0 hsz,D6,Option.map_some,O7,Int.toNat_natCast,hA0]
 have runS:∀(W':World) (c':Array Value),W'.heap[b]? =some (.cells c' T (0,0))→off+xs.length*sz+sz≤c'.size→D6 P (fun _ w'=>w'=W'.setRow b (IV c' (off+xs.length*sz) sz fv)) ((execOp a2.eval (ops.getD (k+2) default)).run P W'):=fun W' c' h1 h2=>by
  have:=IP (P:=P) (a:=a2) hp.s1 hse (by rw[e2I,←hA0]) h1 (by rw[e2z];exact hzsz) h2 (fun j hj=>by rw[e2z];exact(hzc2 j (by omega)).1)
  rw[e2z,hfv]at this
  exact this
 have runU:∀(a':Act) (W':World),a'.eval (.tmp p.tA)=s'→a'.eval (.tmp p.tp)= .pointer (some ⟨bp,offp,none⟩)→W'.heap[bp]? =some (.cells cp Tp (0,0))→D6 P (fun _ w'=>w'=W'.setRow bp (IV cp offp 1 fun j=>s'.cells.getD j undef)) ((execOp a'.eval (ops.getD (k+3) default)).run P W'):=fun a' W' h1 h2 h3=>by
  have:=IP (P:=P) (a:=a') hp.u1 hUs h2 h3 (by rw[h1,hs1];rfl) hpfit (fun j hj=>by rw[h1];exact hs2 j hj)
  rw[h1]at this
  exact this
 generalize hU':(IV cp offp 1 fun j=>s'.cells.getD j undef)=U at runU
 have hWp:∀f,(W f).heap[bp]? =some (.cells cp Tp (0,0)):=fun f=>(r5 bp hne hplt f).trans q3
 have fin:∀{l:Array Bool},LC ops l (fun i=>decide (i<k+4))→wpAnyIn (Fw r) 0 P .any ops Q (ops.size - (k+4)) l a2 ((W fv).setRow bp U):=by
  intro l hl;obtain⟨g',t,s1,hnone,hR1,hvr⟩:=r7 vV fv hvl hfv1
  have hne2:idp≠t:=fun e=>by subst e;rw[hdt]at hnone;cases hnone
  have hk3:upd (D0 H tl) t (some .spare) idp=some (.cells cs):=by rw[A6 _ _ hne2];exact hdt
  have hmp':g'.mu idp=some bp:=s1.mu _ _ hmp;obtain⟨b2,c2,T2,z1,z2,z3,z4,z5,z6⟩:=hR1.blk idp _ hk3
  rw[hmp']at z1;cases z1
  rw[hWp fv]at z3
  have ec:c2=cp:=by cases z3;rfl
  subst ec
  have hset:=hR1.setNamed (cs':=L8 cs offp [.sl (xs++[vV]) (.tok t)]) (c':=U) hk3 hmp' (hWp fv) (by rw[←hU'];exact Kz hpfit) (S5 (by simpa using hUf)) (fun j hj=>by
   rw[S5 (by simpa using hUf)]at hj
   have hj':j<c2.size:=by omega
   have hg:=Rr (c:=c2) (A:=offp) (sz:=1) (f:=fun j=>s'.cells.getD j undef) hpfit hj'
   rw[hU']at hg
   rw[Dj (by simpa using hUf)];simp only[Array.getD_eq_getD_getElem?,hg,List.length_singleton]
   by_cases q:offp≤j∧j<offp+1
   ·rw[if_pos q,if_pos q];rw[show j - offp=0 by omega,hs1,←hs'];refine⟨rfl,?_⟩;rw[hs']
    simpa using hvr
   rw[if_neg q,if_neg q];have:=z5 j hj
   simpa only[Array.getD_eq_getD_getElem?]using this)
  have hF1:=(hF.mono s1).put (d:=some p.tA) (fun t ht=>by cases ht;exact hp.n7) hvr
  rw[ha1]at hF1
  have hF2:=hF1.put (d:=some p.tI) (v:=pA) (V:=.bad) (fun t ht=>by cases ht;exact hp.n8) (.bad _)
  rw[ha2]at hF2
  have hm:k+4≤ops.size:=hp.lt
  exact JN (A:=A) (r:=r) (K:=K) (k:=k+4) (fun i hi=>⟨(hat i hi).1,fun j hj hkj=>((hat i hi).2 j hj).elim (fun h=>h) fun h=>absurd h (by omega)⟩) hQ (ops.size - (k+4)) (k+4) l _ _ (by omega) (Nat.le_refl _) hl.size
   hl.get (hK t hnone) g' _ a2 (st.trans (s1.trans hset.1)) hset.2 (hF2.mono hset.1)
 have hlt:=hp.lt;rw[show ops.size - k=(ops.size - (k+4))+1+1+1+1 by omega];have bw:∀i,i<ops.size→T6 (ops.getD i default) i=true:=fun i hi=>(hat i hi).1;have rch:∀i j,i<ops.size→k≤i→j<i→¬(i=k+3∧k<j)→EK ops Ir i j=true:=fun i j hi hki hj hn=>((hat i hi).2 j hj).elim (fun h=>h) fun h=>absurd h (by omega)
 have rdyA:k∈Region.ready .any ops listed:=hL.ready (by omega) (by simp) (bw _ (by omega)) fun j hj=>by simpa using hj
 refine⟨fun e=>(by rw[e]at rdyA;cases rdyA),fun i hi=>?_⟩;obtain⟨h1,h2,h3⟩:=hL.not hi
 have ik:i=k:=by
  have:k≤i:=by simpa using h2
  rcases Nat.lt_or_ge k i with h|h
  ·have:=h3 k (by omega) (rch i k h1 (by omega) h (by omega));exact absurd this (by simp)
  omega
 subst ik;refine Dp h1 hp.a3 hndA runA fun v w1 ⟨ev1,ew1⟩=>?_;subst ev1;subst ew1;rw[hp.a2,ha1];have hL1:=hL.step hi
 have rdyI:i+1∈Region.ready .any ops (listed.setIfInBounds i true):=hL1.ready (by omega) (by simp) (bw _ (by omega)) fun j hj=>by simp;omega
 refine⟨fun e=>(by rw[e]at rdyI;cases rdyI),fun i2 hi2=>?_⟩;obtain⟨h1,h2,h3⟩:=hL1.not hi2
 have ik:i2=i+1∨i2=i+3:=by
  simp at h2
  rcases Nat.lt_or_ge (i+1) i2 with h|h
  ·rcases Nat.lt_or_ge i2 (i+3)with h'|h'
   ·have:=h3 (i+1) (by omega) (rch i2 (i+1) h1 (by omega) h (by omega));exact absurd this (by simp<;>omega)
   rcases Nat.lt_or_ge (i+3) i2 with h''|h''
   ·have:=h3 (i+1) (by omega) (rch i2 (i+1) h1 (by omega) h (by omega));exact absurd this (by simp<;>omega)
   omega
  omega
 have hWf0:((W f0).setRow b (IV (C f0) (off+xs.length*sz) sz fv)).setRow bp U=(W fv).setRow bp U:=by rw[r4]
 have hcm:((W f0).setRow bp U).setRow b (IV (C f0) (off+xs.length*sz) sz fv)=(W fv).setRow bp U:=by rw[NT _ _ _ hne,r4]
 have hbU:((W f0).setRow bp U).heap[b]? =some (.cells (C f0) T (0,0)):=(H9 _ _ _ _ hne.symm).trans (r3 f0).1
 have lastS:∀{l:Array Bool},LC ops l (fun j=>decide (j<i+2)||j==i+3)→wpAnyIn (Fw r) 0 P .any ops Q (ops.size - (i+4)+1) l a2 ((W f0).setRow bp U):=fun{l} hl=>by
  have rdy:i+2∈Region.ready .any ops l:=hl.ready (by omega) (by simp) (bw _ (by omega)) fun j hj=>by simp;omega
  refine⟨fun e=>(by rw[e]at rdy;cases rdy),fun i3 hi3=>?_⟩;obtain⟨h1,h2,h3⟩:=hl.not hi3
  have ik:i3=i+2:=by
   simp at h2
   rcases Nat.lt_or_ge (i+2) i3 with h|h
   ·have:=h3 (i+2) (by omega) (rch i3 (i+2) h1 (by omega) h (by omega));exact absurd this (by simp<;>omega)
   omega
  subst ik;refine Dp h1 hp.s3 hndS (runS _ _ hbU (r3 f0).2) fun v w1 ew=>?_;rw[ew,hcm,hp.s2];exact fin ((hl.step hi3).eq fun j=>by rw[Bool.eq_iff_iff];simp;omega)
 rcases ik with rfl|rfl
 ·refine Dp h1 hp.i3 hndI (runI _) fun v w1 ⟨ev1,ew1⟩=>?_;subst ev1;subst ew1;rw[hp.i2,ha2]
  have hL2:=(hL1.step hi2).eq (S':=fun j=>decide (j<i+2)) fun j=>by rw[Bool.eq_iff_iff];simp;omega
  have rdyS:i+2∈Region.ready .any ops ((listed.setIfInBounds i true).setIfInBounds (i+1) true):=hL2.ready (by omega) (by simp) (bw _ (by omega)) fun j hj=>by simp;omega
  refine⟨fun e=>(by rw[e]at rdyS;cases rdyS),fun i3 hi3=>?_⟩;obtain⟨h1,h2,h3⟩:=hL2.not hi3
  have ik:i3=i+2∨i3=i+3:=by
   simp at h2
   rcases Nat.lt_or_ge (i+3) i3 with h|h
   ·have:=h3 (i+2) (by omega) (rch i3 (i+2) h1 (by omega) (by omega) (by omega));exact absurd this (by simp<;>omega)
   omega
  rcases ik with rfl|rfl
  ·refine Dp h1 hp.s3 hndS (runS _ _ (r3 f0).1 (r3 f0).2) fun v w1 ew=>?_;rw[ew,r4,hp.s2]
   have hL3:=(hL2.step hi3).eq (S':=fun j=>decide (j<i+3)) fun j=>by rw[Bool.eq_iff_iff];simp;omega
   have rdyU:i+3∈Region.ready .any ops (((listed.setIfInBounds i true).setIfInBounds (i+1) true).setIfInBounds (i+2) true):=hL3.ready (by omega) (by simp) (bw _ (by omega)) fun j hj=>by simp;omega
   refine⟨fun e=>(by rw[e]at rdyU;cases rdyU),fun i4 hi4=>?_⟩;obtain⟨h1,h2,h3⟩:=hL3.not hi4
   have ik:i4=i+3:=by
    simp at h2
    rcases Nat.lt_or_ge (i+3) i4 with h|h
    ·have:=h3 (i+3) (by omega) (rch i4 (i+3) h1 (by omega) h (by omega));exact absurd this (by simp<;>omega)
    omega
   subst ik;refine Dp h1 hp.u3 hndU (runU a2 _ e2A e2p (hWp fv)) fun v w1 ew=>?_;rw[ew,hp.u2];exact fin ((hL3.step hi4).eq fun j=>by rw[Bool.eq_iff_iff];simp;omega)
  refine Dp h1 hp.u3 hndU (runU a2 _ e2A e2p (hWp f0)) fun v w1 ew=>?_;rw[ew,hp.u2];exact lastS ((hL2.step hi3).eq fun j=>by rw[Bool.eq_iff_iff];simp;omega)
 refine Dp h1 hp.u3 hndU (runU a1 _ e1A e1p (hWp f0)) fun v w1 ew=>?_;rw[ew,hp.u2]
 have hL2:=(hL1.step hi2).eq (S':=fun j=>decide (j<i+1)||j==i+3) fun j=>by rw[Bool.eq_iff_iff];simp;omega
 have rdy:i+1∈Region.ready .any ops ((listed.setIfInBounds i true).setIfInBounds (i+3) true):=hL2.ready (by omega) (by simp) (bw _ (by omega)) fun j hj=>by simp;omega
 refine⟨fun e=>(by rw[e]at rdy;cases rdy),fun i3 hi3=>?_⟩;obtain⟨h1,h2,h3⟩:=hL2.not hi3
 have ik:i3=i+1:=by
  simp at h2
  rcases Nat.lt_or_ge (i+1) i3 with h|h
  ·have:=h3 (i+1) (by omega) (rch i3 (i+1) h1 (by omega) h (by omega));exact absurd this (by simp<;>omega)
  omega
 subst ik;refine Dp h1 hp.i3 hndI (runI _) fun v w1 ⟨ev1,ew1⟩=>?_;subst ev1;subst ew1;rw[hp.i2];have:=lastS ((hL2.step hi3).eq fun j=>by rw[Bool.eq_iff_iff];simp;omega)
 rw[←ha2]at this
 exact this
end
end Go.Ab
namespace Go.Ab
open Go.RowKit
variable [G7][Ar]
def DU :List Nat→Nat→Bool
 |[],_=>false
 |x::l,n=>match Nat.beq n x with|true=>true|false=>DU l n
abbrev Mo :=List (Nat×List V)
def Xl :Mo→Nat→Option (List V)
 |[],_=>none
 |(k,x)::l,t=>match Nat.beq t k with|true=>some x|false=>Xl l t
section
variable (E:Bm)(T:Cr)(nt:Nat)(A:Nat→Bool)
def Ys (G:List (Nat×Bool)) (o:Oper) (l:Fl) (H:A0) (k:Sl→Prop):Prop:=
 match o.op with
 | .call c=>
  (match c.callee with
   | .value x=>E.pcall H (K8 G l x).V (c.args.toList.map fun x=>(K8 G l x).V) fun v=>k (.v v)
   |_=>xq E T G o l H k)
 |_=>xq E T G o l H k
def PW (pv:Mo)(d:Option Tmp):Bool:=
 match d with
 |some d=>(match Xl pv d with|none=>true|some _=>false)
 |none=>true
abbrev Pe :=Option (Nat×Nat×List V)
def Py (tk:List Nat)(d:Option Tmp):Bool:=
 match d with
 |some d=> !DU tk d
 |none=>true
def Mg :List Nat→Nat→List Nat
 |[],_=>[]
 |x::l,n=>match Nat.beq n x with|true=>Mg l n|false=>x::Mg l n
def Jd (s:Option Nat)(tk:List Nat):List Nat:=
 match s with
 |some d=>Mg tk d
 |none=>tk
def Xv (tk:List Nat)(sx:Operand)(tl:E5):Option (Option Nat):=
 match tl with
 | .nil=>some none
 | .full=>some none
 | .ro=>(match sx with| .tmp d=>(match DU tk d with|true=>some (some d)|false=>none)|_=>none)
 |_=>none
def Tc (x:Bool)(ex:Option E5)(tk:List Nat)(sx:Operand)(tl:E5)(k:Option Nat→Option E5→Prop):Prop:=
 match x with
 |true=>(match ex with|some τ=>E.need (tl=τ) fun _=>k none none|none=>False)
 |false=>(match Xv tk sx tl with|some s=>k s ex|none=>False)
def Ex (A:Nat→Bool)(n:Nat):List Oper→Option Nat
 |[]=>none
 |o::l=>match o.dst with|some d=>(match A (d+n)with|true=>some d|false=>Ex A n l)|none=>Ex A n l
def Te (x : Bool) (ex:Option E5) (o:Oper) (l:Fl) (tk:List Nat) (k:Nat→Option Nat→Option E5→V→Prop):Prop:=
 match o.op,o.dst,o.guard with
 | .call { callee:=.builtin .append,args:=⟨[sx,sy]⟩,argTypes:=⟨[sT,yT]⟩},some dd,none=>
  (match (K8 [] l sx).V,(K8 [] l sy).V with
   | .sl xs tlx,.sl ys _=>
    Tc E x ex tk sx tlx fun src ex'=>
     (match tg T sT,tg T yT with
      | some I,some I2=>
       (match I.sl,I2.sl with
        | some e,some _=>
         (match tg T e with
          | some J=>
           (match J.ze with
            |some z=>if 0<J.sz∧0<J.by_∧z.one=true∧z.cells.length=J.sz then E.appq J.sz J.by_ xs ys fun v=>k dd src ex' v else False
            |none=>False)
          |none=>False)
        |_,_=>False)
      |_,_=>False)
   |_,_=>False)
 |_,_,_=>False
def Ti (ads :List Nat) (ops:Array Oper):List Oper→Fl→Mo→Pe→List Nat→Option E5→A0→(Fl→Mo→Pe→List Nat→Prop)→Prop
 |[],l,pv,pe,tk,_,_,K=>K l pv pe tk
 | o :: rest,l,pv,pe,tk,ex,H,K=>
  match Cj nt o.dst,PW pv o.dst,Py tk o.dst with
  | true, true,true=>
   (match A (o.dst.getD 0+3000000)with
    |true=>Te E T (A (o.dst.getD 0+8000000)) ex o l tk fun dd src ex' v=>Ti ads ops rest ((dd,.v v)::l) pv pe (dd::Jd src tk) ex' H K
    | false =>
     (match o.op with
      | .alloc t=>
       (match o.guard,o.dst,tg T t with
        | none,some d,some I=>
         (match I.ze with
          |some z=>(match z.one with|true=>Ti ads ops rest ((d,.v .bad)::l) ((d,z.cells)::pv) pe tk ex H K|false=>False)
          |none=>False)
        |_,_,_=>False)
      | .store t (.tmp d) y=>
       (match o.guard,tg T t with
        | none,some I=>
         (match Xl pv d with
          |some cs=>if(K8 [] l y).V.one=true∧(K8 [] l y).V.cells.length=I.sz∧I.sz≤cs.length then Ti ads ops rest (Af o.dst (.v .bad) l) ((d,L8 cs 0 (K8 [] l y).V.cells)::pv) pe tk ex H K else False
          | none=>
           (match DU ads d,Ok [] l d,pe with
            |true,some (.v (.ref id off)),some (ds,id',cs)=>
             if(K8 [] l y).V.one=true∧(K8 [] l y).V.cells.length=I.sz∧off+I.sz≤cs.length then E.need (id=id') fun _=>Ti ads ops rest (Af o.dst (.v .bad) l) pv (some (ds,id',L8 cs off (K8 [] l y).V.cells)) tk ex H K else False
            |_,_,_=>False))
        |_,_=>False)
      | .store _ _ _=>False
      |_=>Cz E ops o 4 l (fun G l' wr=>Ys E T G o l' H fun s=>Ti ads ops rest (Af o.dst (wr s) l') pv pe tk ex H K) fun l'=>Ti ads ops rest (Af o.dst (.v (.tup [])) l') pv pe tk ex H K))
  |_,_,_=>False
def GJ :List Nat→Mo→Fl→A0→(Fl→A0→Prop)→Prop
 |[],_,l,H,K=>K l H
 |d::ds,pv,l,H,K=>
  match Xl pv d with
  |some cs=>(match A d with|true=>E.alloc H cs fun id H'=>GJ ds pv ((d,.v (.ref id 0))::l) H' K|false=>GJ ds pv ((d,.v (.eref cs 0))::l) H K)
  |none=>False
def JJ (dx:Option Nat)(tk:List Nat)(l:Fl)(H:A0)(K:Fl→A0→Prop):Prop:=
 match dx with
 |none=>K l H
 |some d=>(match DU tk d,lk l d with|true,.v (.sl xs .ro)=>E.nameT H fun tl H'=>K ((d,.v (.sl xs tl))::l) H'|_,_=>False)
def IJ (ops:Array Oper):List Oper→Fl→A0→(Fl→A0→Prop)→Prop
 |[],l,H,K=>K l H
 |o::rest,l,H,K=>
  match Cj nt o.dst with
  |true=>Cz E ops o 4 l (fun G l' wr=>Tf E T A G o l' H fun s H'=>IJ ops rest (Af o.dst (wr s) l') H' K) fun l'=>IJ ops rest (Af o.dst (.v (.tup [])) l') H K
  |false=>False
def BW :List Oper→List Nat
 |[]=>[]
 |o::l=>match o.op,o.dst with| .alloc _,some d=>d::BW l|_,_=>BW l
def WU (pe:Pe)(H:A0)(K:A0→Prop):Prop:=
 match pe with
 |some (_,id,cs)=>E.give H id cs K
 |none=>K H
def Ta (w:Option (Nat×List Nat))(l:Fl)(H:A0)(K:List Nat→Pe→A0→Prop):Prop:=
 match w with
 |none=>K [] none H
 |some (d,ads)=>(match lk l d with| .v (.ref id 0)=>E.frz H id fun cs H'=>K ads (some (d,id,cs)) H'|_=>False)
def SZ (x:Option Nat)(H:A0)(K:Option E5→A0→Prop):Prop:=
 match x with
 |none=>K none H
 |some _=>E.takeT H fun τ H'=>K (some τ) H'
def Th (w:Option (Nat×List Nat))(k:Nat)(ops:Array Oper)(l:Fl)(H:A0)(K:Fl→A0→Prop):Prop:=
 SZ E (Ex A 8000000 (ops.toList.take k)) H fun ex H0=>Ta E w l H0 fun ads pe H1=>Ti E T nt A ads ops (ops.toList.take k) l [] pe [] ex H1 fun l' pv pe' tk=>WU E pe' H1 fun H2=>JJ E (Ex A 9000000 (ops.toList.take k)) tk l' H2 fun l1 H3=>GJ E A (BW (ops.toList.take k)) pv l1 H3 fun l'' H'=>IJ E T nt A ops (ops.toList.drop k) l'' H' K
end
section
variable {P:Program}{nt:Nat}{rd:Option Nat}{T:Cr}{A:Nat→Bool}{df:List Nat}
theorem RM (hT:ET P T) {G:List (Nat×Bool)} {o:Oper} {l:Fl} (hG:EU G l) {H:A0} {k:Sl→Prop} (h:Ys (E8 P nt rd) T G o l H k):∃s:Sl,GY P o (ev (E0 ⟨l,df⟩)) H s.V∧k s:=by
 unfold Ys at h
 split at h
 ·rename_i c ho
  split at h
  ·rename_i x hc;obtain⟨v,h1,h2⟩:=h
   rw[AZ (df:=df) hG,show(c.args.toList.map fun x=>(K8 G l x).V)=c.args.toList.map (ev (E0 ⟨l,df⟩))from List.map_congr_left fun p _=>AZ hG p]at h1
   exact⟨.v v,by simp only[GY,ho,hc];exact h1,h2⟩
  exact Hq hT hG h
 exact Hq hT hG h
theorem Vx (hT:ET P T) {G:List (Nat×Bool)} {o:Oper} {l:Fl} {H:A0} {k:Sl→Prop} (ht:Fv G o l=true) (h:Ys (E8 P nt rd) T G o l H k):∃s,k s:=by
 unfold Ys at h
 split at h
 ·rename_i c ho
  split at h
  ·obtain⟨v,h1,h2⟩:=h;exact⟨_,h2⟩
  exact Pl hT ht h
 exact Pl hT ht h
theorem BM (hT:ET P T) {ops:Array Oper} {K:Fl→A0→Prop}:∀(rest:List Oper) (l:Fl) (H:A0),IJ (E8 P nt rd) T nt A ops rest l H K→DC P A nt ops rest (E0 ⟨l,df⟩) H fun fr H'=>∃l',fr=E0 ⟨l',df⟩∧K l' H'
 |[],l,H,h=>⟨l,rfl,h⟩
 | o::rest,l,H,h=>by
  unfold IJ at h
  split at h
  ·rename_i hd;simp only[DC];refine⟨hd,?_⟩;obtain⟨l',e,h⟩:=AE (df:=df) 4 l h
   have e:E0 ⟨l',df⟩=E0 ⟨l,df⟩:=by simp only[E0,Fr.mk.injEq,and_true];funext t;exact e t
   rcases h with⟨hg,G,wr,hG,hwr,h⟩|⟨hg,h⟩
   ·rw[hg];rw[←e];refine Fp (Ih (df:=df) hT hG h) fun v H' ⟨s,hv,hk⟩=>?_;subst hv;rw[←hwr s,←H7];exact BM hT rest _ _ hk
   rw[hg];rw[←e]
   rcases h with h|⟨G,d,want,ht,hb,h⟩
   ·have:=BM hT rest _ _ h
    rw[H7]at this
    exact this
   obtain⟨s,h⟩:=Mt hT ht h;have:=BM hT rest _ _ h
   rw[H7]at this
   simp only[SX,hb,cond_false]at this
   exact this
  exact h.elim
def P9 (pv:Mo)(pe:Pe)(tk:List Nat)(ex:Option E5):Pv
 | .inl d=>Xl pv d
 | .inr x=>(match pe with|some (_,id,cs)=>if x=id then some cs else none|none=>none)
 | .tk d=>(match DU tk d with|true=>some []|false=>none)
 | .ex=>ex.map fun τ=>[.sl [] τ]
theorem UY {a b:Nat}:Nat.beq a b=true↔a=b:=⟨Nat.eq_of_beq_eq_true,fun h=>by subst h;exact beq_refl _⟩
theorem Un {pv:Mo} {d t:Nat} {cs:List V}:Xl ((d,cs)::pv) t=if t=d then some cs else Xl pv t:=by
 simp only[Xl]
 by_cases h:t=d
 ·subst h;simp[beq_refl]
 have:Nat.beq t d=false:=by
  cases hb:Nat.beq t d with
  |false=>rfl
  |true=>exact absurd (Nat.eq_of_beq_eq_true hb) h
 simp[this,h]
theorem Bv {tk:List Nat} {d t:Nat}:DU (d::tk) t=(decide (t=d)||DU tk t):=by
 simp only[DU]
 by_cases h:t=d
 ·subst h;simp[beq_refl]
 have:Nat.beq t d=false:=by
  cases hb:Nat.beq t d with
  |false=>rfl
  |true=>exact absurd (Nat.eq_of_beq_eq_true hb) h
 simp[this,h]
theorem Ix {d t:Nat}:∀{tk:List Nat},DU (Mg tk d) t=(!decide (t=d)&&DU tk t)
 |[]=>by simp[Mg,DU]
 | x::l=>by
  simp only[Mg]
  split
  ·rename_i h;have:=UY.1 h;subst this;rw[Ix (tk:=l),Bv]
   by_cases e:t=d<;>simp[e]
  rename_i h
  have hne:d≠x:=fun e=>by rw[UY.2 e]at h;cases h
  rw[Bv,Bv,Ix (tk:=l)]
  by_cases e:t=x
  ·subst e;simp[Ne.symm hne]
  simp[e]
theorem LQ {pv:Mo} {pe:Pe} {tk:List Nat} {ex:Option E5} {d:Nat} {cs:List V}:P9 ((d,cs)::pv) pe tk ex=J1 (P9 pv pe tk ex) (.inl d) cs:=by
 funext t
 cases t with
 |inl t=>
  simp only[P9,J1,Un,Pk.inl.injEq]
 |inr x=>simp[P9,J1]
 |tk x=>simp[P9,J1]
 |ex=>simp[P9,J1]
theorem VL {pv:Mo} {tk:List Nat} {ex:Option E5} {ds id:Nat} {cs cs':List V}:P9 pv (some (ds,id,cs')) tk ex=J1 (P9 pv (some (ds,id,cs)) tk ex) (.inr id) cs':=by
 funext t
 cases t with
 |inl t=>simp[P9,J1]
 |inr x=>
  simp only[P9,J1,Pk.inr.injEq]
  by_cases h:x=id<;>simp[h]
 |tk x=>simp[P9,J1]
 |ex=>simp[P9,J1]
theorem VM {pv:Mo} {pe:Pe} {tk:List Nat} {ex:Option E5} {d:Nat}:P9 pv pe (d::tk) none=J1 (P5 (P9 pv pe tk ex) (some .ex)) (.tk d) []:=by
 funext t
 cases t with
 |inl t=>rw[E1 (by simp),K4 (by simp)];rfl
 |inr x=>rw[E1 (by simp),K4 (by simp)];rfl
 |ex=>rw[E1 (by simp)];simp[P9,P5]
 | tk x=>
  by_cases h:x=d
  ·subst h
   have:DU (x::tk) x=true:=by rw[Bv];simp
   simp[P9,J1,this]
  rw[E1 (fun e=>by cases e;exact h rfl),K4 (by simp)]
  have e1:DU (d::tk) x=DU tk x:=by rw[Bv];simp[h]
  simp only[P9,e1]
theorem VK {pv:Mo} {pe:Pe} {tk:List Nat} {ex:Option E5} {d:Nat} {src:Option Nat}:P9 pv pe (d::Jd src tk) ex=J1 (P5 (P9 pv pe tk ex) (src.map .tk)) (.tk d) []:=by
 funext t
 cases t with
 |inl t=>rw[E1 (by simp),K4 (by cases src<;>simp)];rfl
 |inr x=>rw[E1 (by simp),K4 (by cases src<;>simp)];rfl
 |ex=>rw[E1 (by simp),K4 (by cases src<;>simp)];rfl
 | tk x=>
  by_cases h:x=d
  ·subst h
   have:DU (x::Jd src tk) x=true:=by rw[Bv];simp
   simp[P9,J1,this]
  rw[E1 (fun e=>by cases e;exact h rfl)]
  have e1:DU (d::Jd src tk) x=DU (Jd src tk) x:=by rw[Bv];simp[h]
  cases src with
  |none=>simp only[P9,e1];rfl
  |some c=>
   have e2:DU (Jd (some c) tk) x=(!decide (x=c)&&DU tk x):=Ix;simp only[P9,P5,e1,e2,Option.map_some,Pk.tk.injEq]
   by_cases hc:x=c<;>simp[hc]
theorem Sn {pv:Mo} {pe:Pe} {tk:List Nat} {ex:Option E5} {d:Option Tmp} (h:PW pv d=true) (h2:Py tk d=true):M3 (P9 pv pe tk ex) d:=by
 cases d with
 |none=>trivial
 |some d=>
  simp only[PW]at h
  simp only[Py,Bool.not_eq_true']at h2
  simp only[M3,P9,h2,and_true]
  split at h
  ·assumption
  cases h
theorem Vw {l:Fl} {pv:Mo} {pe:Pe} {tk:List Nat} {ex:Option E5} {sx:Operand} {tl:E5} {src:Option Nat} (h:Xv tk sx tl=some src):Js (P9 pv pe tk ex) sx tl (src.map .tk):=by
 unfold Xv at h
 split at h
 ·cases h;exact .inl rfl
 ·cases h;exact .inr rfl
 ·split at h
  ·rename_i d
   split at h
   ·rename_i hd;cases h;exact⟨rfl,rfl,by simp[P9,hd]⟩
   cases h
  cases h
 cases h
theorem Tb {l:Fl} {pv:Mo} {pe:Pe} {tk:List Nat} {x:Bool} {ex:Option E5} {sx:Operand} {tl:E5} {k:Option Nat→Option E5→Prop} (h:Tc (E8 P nt rd) x ex tk sx tl k):
 ∃key,Js (P9 pv pe tk ex) sx tl key∧∃src ex',k src ex'∧(ex=none→ex'=none)∧∀d,P9 pv pe (d::Jd src tk) ex'=J1 (P5 (P9 pv pe tk ex) key) (.tk d) []:=by
 unfold Tc at h
 split at h
 ·split at h
  ·obtain⟨e,h⟩:=h;subst e;exact⟨some .ex,rfl,none,none,h,fun _=>rfl,fun d=>VM⟩
  exact h.elim
 split at h
 ·rename_i s hs;exact⟨_,Vw (l:=l) hs,s,ex,h,id,fun d=>VK⟩
 exact h.elim
theorem Nv (hT:ET P T) {x:Bool} {ex:Option E5} {o:Oper} {l:Fl} {pv:Mo} {pe:Pe} {tk:List Nat} {k:Nat→Option Nat→Option E5→V→Prop} (h:Te (E8 P nt rd) T x ex o l tk k):∃dd key v,o.dst=some dd∧Zc P o (E0 ⟨l,df⟩) (P9 pv pe tk ex) key v∧∃src ex',k dd src ex' v∧(ex=none→ex'=none)∧P9 pv pe (dd::Jd src tk) ex'=J1 (P5 (P9 pv pe tk ex) key) (.tk dd) []:=by
 unfold Te at h
 split at h
 ·rename_i sx sy sT yT dd ho hdst hg
  split at h
  ·rename_i xs tlx ys tly e1 e2
   rw[AZ (l:=l) (df:=df) EU.nil]at e1 e2
   obtain⟨key,hs,src,ex',h,hen,hpe⟩:=Tb (l:=l) (pv:=pv) (pe:=pe) h
   split at h
   ·rename_i I I2 hI hI2
    split at h
    ·rename_i e e2' he he2
     split at h
     ·rename_i J hJ
      split at h
      ·rename_i z hz
       have ez:=(D5 hT hJ).ze;rw[hz]at ez;simp only[V6]at ez
       split at h
       ·rename_i hc;obtain⟨c1,c2,c3,c4⟩:=hc;obtain⟨xs',ys',l1,l2,k1,k2,k3,k4⟩:=h;exact⟨dd,key,_,hdst,⟨hg,sx,sy,sT,yT,xs,tlx,ys,tly,xs',ys',ho,e1,e2,hs,⟨e,J.sz,J.by_,z,(D5 hT hI).sl.trans he,by rw[(D5 hT hI2).sl,he2];rfl,(D5 hT hJ).sz,c1,(D5 hT hJ).by_,c2,ez,c3,c4,l1,l2,k1,k2,k3⟩,rfl⟩,src,ex',k4,hen,hpe dd⟩
       exact h.elim
      exact h.elim
     exact h.elim
    exact h.elim
   exact h.elim
  exact h.elim
 exact h.elim
theorem CR {ops:Array Oper}{H:A0}{K K':Fr→Pv→Prop}(hk:∀fr pv,K fr pv→K' fr pv):∀(l:List Oper) (fr:Fr) (pv:Pv),DY P nt ops H l fr pv K→DY P nt ops H l fr pv K'
 |[],_,_,h=>hk _ _ h
 |_::l,_,_,h=>KL h fun fr pv h=>CR hk l fr pv h
theorem V8 (hT:ET P T) {ads:List Nat} {ops:Array Oper} {H:A0} {K:Fl→Mo→Pe→List Nat→Prop}:∀(rest:List Oper) (l:Fl) (pv:Mo) (pe:Pe) (tk:List Nat) (ex:Option E5),Ti (E8 P nt rd) T nt A ads ops rest l pv pe tk ex H K→
 DY P nt ops H rest (E0 ⟨l,df⟩) (P9 pv pe tk ex) fun fr pv'=>∃l' pl pe' tk' ex',fr=E0 ⟨l',df⟩∧pv'=P9 pl pe' tk' ex'∧(ex=none→ex'=none)∧pe'.map (fun p=>p.2.1)=pe.map (fun p=>p.2.1)∧K l' pl pe' tk'
 |[],l,pv,pe,tk,ex,h=>⟨l,pv,pe,tk,ex,rfl,rfl,id,rfl,h⟩
 | o ::rest,l,pv,pe,tk,ex,h=>by
  unfold Ti at h
  split at h
  ·rename_i hd hf hft;simp only[DY];unfold FI;refine⟨⟨hd,Sn hf hft⟩,?_⟩
   split at h
   ·obtain⟨dd,key,v,hdst,hP,src,ex2,h,hen,hpe⟩:=Nv (df:=df) (pv:=pv) (pe:=pe) hT h;refine⟨v,_,.inr (.inr (.inr ⟨dd,key,hdst,hP,rfl⟩)),?_⟩;have:=V8 hT rest _ _ _ _ _ h
    rw[hpe,show(dd,Sl.v v)::l=Af (some dd) (.v v) l from rfl,H7]at this
    rw[hdst];exact CR (fun fr pv ⟨l',pl,pe',tk',ex',e1,e2,e3,h⟩=>⟨l',pl,pe',tk',ex',e1,e2,fun he=>e3 (hen he),h⟩) _ _ _ this
   split at h
   ·rename_i t ho
    split at h
    ·rename_i d I hg hdst hI
     split at h
     ·rename_i z hz
      have ez:=(D5 hT hI).ze;rw[hz]at ez;simp only[V6]at ez
      split at h
      ·rename_i h1;refine⟨.bad,_,.inr (.inl ⟨t,z,d,ho,hg,hdst,ez,h1,rfl,rfl⟩),?_⟩;have:=V8 hT rest _ _ _ _ _ h
       rw[LQ,show(d,Sl.v V.bad)::l=Af (some d) (.v .bad) l from rfl,H7]at this
       rw[hdst];exact this
      exact h.elim
     exact h.elim
    exact h.elim
   ·rename_i t d y ho
    split at h
    ·rename_i I hg hI;have hev:=AZ (l:=l) (df:=df) EU.nil y
     split at h
     ·rename_i cs hcs
      split at h
      ·rename_i hc;obtain⟨c1,c2,c3⟩:=hc
       rw[hev]at c1 c2 h
       refine⟨.bad,_,.inr (.inr (.inl ⟨t,d,y,.inl d,0,cs,ho,hg,.inl ⟨rfl,rfl,hcs⟩,c1,by rw[c2];exact(D5 hT hI).sz,by rw[c2];omega,rfl,rfl⟩)),?_⟩;have:=V8 hT rest _ _ _ _ _ h
       rw[LQ,H7]at this
       exact this
      exact h.elim
     rename_i hcs
     split at h
     ·rename_i id off ds id' cs _ hop
      split at h
      ·rename_i hc;obtain⟨c1,c2,c3⟩:=hc;obtain⟨he,h⟩:=h;subst he
       rw[hev]at c1 c2 h
       have hd:(E0 ⟨l,df⟩).s d= .ref id off:=(Fo EU.nil hop).1.symm;refine⟨.bad,_,.inr (.inr (.inl ⟨t,d,y,.inr id,off,cs,ho,hg,.inr ⟨id,rfl,hd,hcs,by simp[P9]⟩,c1,by rw[c2];exact(D5 hT hI).sz,by rw[c2];exact c3,rfl,rfl⟩)),?_⟩;have:=V8 hT rest _ _ _ _ _ h
       rw[VL (cs:=cs),H7]at this
       exact this
      exact h.elim
     exact h.elim
    exact h.elim
   ·exact h.elim
   rename_i n1 n2 n3
   have key:∃v,Jl P ops H o (E0 ⟨l,df⟩) v∧DY P nt ops H rest ((E0 ⟨l,df⟩).put o.dst v) (P9 pv pe tk ex) fun fr pv'=>∃l' pl pe' tk' ex',fr=E0 ⟨l',df⟩∧pv'=P9 pl pe' tk' ex'∧(ex=none→ex'=none)∧pe'.map (fun p=>p.2.1)=pe.map (fun p=>p.2.1)∧K l' pl pe' tk':=by
    obtain⟨l',e,h⟩:=AE (df:=df) 4 l h
    have e:E0 ⟨l',df⟩=E0 ⟨l,df⟩:=by simp only[E0,Fr.mk.injEq,and_true];funext t;exact e t
    rcases h with⟨hg,G,wr,hG,hwr,h⟩|⟨hg,h⟩
    ·obtain⟨s,h1,h2⟩:=RM (df:=df) hT hG h;refine⟨s.V,by simp only[Jl,hg];rw[←e];exact h1,?_⟩;have:=V8 hT rest _ _ _ _ _ h2
     rw[H7,hwr s,e]at this
     exact this
    refine⟨.tup [],by simp only[Jl,hg],?_⟩
    rcases h with h|⟨G,d,want,ht,hb,h⟩
    ·have:=V8 hT rest _ _ _ _ _ h
     rw[H7,e]at this
     exact this
    obtain⟨s,h⟩:=Vx hT ht h;have:=V8 hT rest _ _ _ _ _ h
    rw[H7,e]at this
    simp only[SX,hb,cond_false]at this
    exact this
   obtain⟨v,h1,h2⟩:=key;refine⟨v,_,.inl ⟨?_,?_,h1,rfl⟩,h2⟩
   ·cases hx:o.op<;>first|rfl|exact absurd hx (n1 _)
   cases hx:o.op<;>first|rfl|exact absurd hx (n3 _ _ _)
  exact h.elim
theorem Ed {pe:Pe} {tk:List Nat} {ex:Option E5} {K:Fl→A0→Prop}:∀(ds:List Nat) (pv:Mo) (l:Fl) (H:A0),GJ (E8 P nt rd) A ds pv l H K→DQ A ds (P9 pv pe tk ex) (E0 ⟨l,df⟩) H fun fr H'=>∃l',fr=E0 ⟨l',df⟩∧K l' H'
 |[],pv,l,H,h=>⟨l,rfl,h⟩
 | d::ds,pv,l,H,h=>by
  unfold GJ at h
  simp only[DQ]
  split at h
  ·rename_i cs hcs;have hcs':P9 pv pe tk ex (.inl d)=some cs:=hcs;rw[hcs']
   simp only
   split at h
   ·rename_i hA;rw[if_pos hA];intro id hid;have:=Ed (pe:=pe) (tk:=tk) (ex:=ex) ds pv _ _ (h id hid)
    rw[show(d,Sl.v (V.ref id 0))::l=Af (some d) (.v (.ref id 0)) l from rfl,H7]at this
    exact this
   rename_i hA;rw[if_neg (by rw[hA];simp)];have:=Ed (pe:=pe) (tk:=tk) (ex:=ex) ds pv _ _ h
   rw[show(d,Sl.v (V.eref cs 0))::l=Af (some d) (.v (.eref cs 0)) l from rfl,H7]at this
   exact this
  exact h.elim
theorem GZ {A:Nat→Bool} {K K':Fr→A0→Prop} (hk:∀fr H,K fr H→K' fr H):∀(ds:List Nat) (pv:Pv) (fr:Fr) (H:A0),DQ A ds pv fr H K→DQ A ds pv fr H K'
 |[],_,_,_,h=>hk _ _ h
 | d::ds,pv,fr,H,h=>by
  simp only[DQ]at h ⊢
  split at h
  ·split at h
   ·rename_i hA;rw[if_pos hA];exact fun id hid=>GZ hk ds _ _ _ (h id hid)
   rename_i hA;rw[if_neg hA];exact GZ hk ds _ _ _ h
  exact h.elim
theorem FX {ops:Array Oper} {K K':Fr→A0→Prop} (hk:∀fr H,K fr H→K' fr H):∀(l:List Oper) (fr:Fr) (H:A0),DC P A nt ops l fr H K→DC P A nt ops l fr H K'
 |[],_,_,h=>hk _ _ h
 |o::l,fr,H,h=>by
  simp only[DC]at h ⊢
  refine⟨h.1,?_⟩;obtain⟨_,h⟩:=h
  split at h
  ·rename_i hg;exact Fp h fun v H' h=>FX hk l _ _ h
  ·rename_i hg;exact FX hk l _ _ h
  exact h.elim
theorem Oq {dx:Option Nat}{pv:Pv}{fr:Fr}{H:A0}{K K':Fr→A0→Prop}(hk:∀fr H,K fr H→K' fr H)(h:Es dx pv fr H K):Es dx pv fr H K':=by
 unfold Es at h ⊢
 split at h
 ·exact hk _ _ h
 obtain⟨xs,h1,h2,h3,h4⟩:=h;exact⟨xs,h1,h2,fun tl htl=>hk _ _ (h3 tl htl),fun t ht=>hk _ _ (h4 t ht)⟩
theorem Uo {d:Nat} {x:V}:∀{l:Fl},lk l d= .v x→W5 l d=x
 |[],h=>by cases h;rfl
 |(k,s)::l,h=>by
  simp only[lk]at h
  simp only[W5]
  cases hb:Nat.beq d k with
  |true=>rw[hb]at h;subst h;rfl
  |false=>rw[hb]at h;exact Uo h
theorem Mu {dx:Option Nat} {pl:Mo} {pe:Pe} {tk:List Nat} {ex:Option E5} {l:Fl} {H:A0} {K:Fl→A0→Prop} (h:JJ (E8 P nt rd) dx tk l H K):Es dx (P9 pl pe tk ex) (E0 ⟨l,df⟩) H fun fr H'=>∃l',fr=E0 ⟨l',df⟩∧K l' H':=by
 unfold JJ at h
 unfold Es
 split at h
 ·exact⟨l,rfl,h⟩
 rename_i d
 split at h
 ·rename_i xs h1 h2;obtain⟨h3,h4⟩:=h;refine⟨xs,by simp[P9,h1],Uo h2,fun tl htl=>⟨_,?_,h3 tl htl⟩,fun t ht=>⟨_,?_,h4 t ht⟩⟩
  ·exact(H7 l (some d) (.v (.sl xs tl))).symm
  exact(H7 l (some d) (.v (.sl xs (.tok t)))).symm
 exact h.elim
theorem RN (hT:ET P T) {w:Option (Nat×List Nat)} {k:Nat} {ops:Array Oper} {l:Fl} {H:A0} {K:Fl→A0→Prop} (hok:KN ops k=true) (hnd:(BW (ops.toList.take k)).Nodup)
 (h:Th (E8 P nt rd) T nt A w k ops l H K):V4 P nt rd ops (E0 ⟨l,df⟩) H fun e fr H'=>e= .normal∧∃l',fr=E0 ⟨l',df⟩∧K l' H':=by
 have rest:∀(l':Fl) (pl:Mo) (pe:Pe) (tk:List Nat) (ex:Option E5) (H2:A0),JJ (E8 P nt rd) (Ex A 9000000 (ops.toList.take k)) tk l' H2 (fun l1 H3=>GJ (E8 P nt rd) A (BW (ops.toList.take k)) pl l1 H3 fun l'' H'=>IJ (E8 P nt rd) T nt A ops (ops.toList.drop k) l'' H' K)→
  Es (Ex A 9000000 (ops.toList.take k)) (P9 pl pe tk ex) (E0 ⟨l',df⟩) H2 fun fr1 H3=>DQ A (BW (ops.toList.take k)) (P9 pl pe tk ex) fr1 H3 fun fr H'=>DC P A nt ops (ops.toList.drop k) fr H' fun fr H'=>.normal=Exit.normal∧∃l',fr=E0 ⟨l',df⟩∧K l' H':=fun l' pl pe tk ex H2 h=>by
  refine Oq (fun fr1 H3 ⟨l1,e1,h⟩=>?_) (Mu (df:=df) (pl:=pl) (pe:=pe) (ex:=ex) h);subst e1;refine GZ (fun fr H' ⟨l'',e1,h⟩=>?_) _ _ _ _ (Ed (df:=df) (pe:=pe) (tk:=tk) (ex:=ex) _ _ _ _ h);subst e1;exact FX (fun fr H' ⟨l',e,hk⟩=>⟨rfl,l',e,hk⟩) _ _ _ (BM (df:=df) hT _ _ _ h)
 unfold Th at h
 obtain⟨ex,hX,h⟩:∃ex,(∀τ,ex=some τ→Ds H τ)∧Ta (E8 P nt rd) w l (EC H ex) fun ads pe H1=>Ti (E8 P nt rd) T nt A ads ops (ops.toList.take k) l [] pe [] ex H1 fun l' pv pe' tk=>WU (E8 P nt rd) pe' H1 fun H2=>JJ (E8 P nt rd) (Ex A 9000000 (ops.toList.take k)) tk l' H2 fun l1 H3=>GJ (E8 P nt rd) A (BW (ops.toList.take k)) pv l1 H3 fun l'' H'=>IJ (E8 P nt rd) T nt A ops (ops.toList.drop k) l'' H' K:=by
  unfold SZ at h
  split at h
  ·exact⟨none,fun _ h=>(by cases h),h⟩
  obtain⟨τ,h1,h2⟩:=h;exact⟨some τ,fun _ h=>(by cases h;exact h1),h2⟩
 unfold Ta at h
 cases w with
 |none=>
  refine V4.drawF (A:=A) (W:=[]) (dx:=Ex A 9000000 (ops.toList.take k)) hok hnd hX (fun p hp=>by simp at hp) ?_
  have e0:XB [] ex=P9 [] none [] ex:=by funext x;cases x<;>rfl
  rw[e0];refine CR (fun fr pv ⟨l',pl,pe',tk',ex',e1,e2,_,e3,h⟩=>?_) _ _ _ (V8 (df:=df) hT _ _ _ _ _ _ h);subst e1;subst e2
  cases pe' with
  |some p=>cases e3
  |none=>exact rest _ _ _ _ _ _ h
 | some p=>
  obtain⟨d,ads⟩:=p
  simp only at h
  split at h
  ·rename_i bid hl;obtain⟨cs,hk,h⟩:=h;refine V4.drawF (A:=A) (W:=[(bid,cs)]) (dx:=Ex A 9000000 (ops.toList.take k)) hok hnd hX (fun p hp=>by simp at hp;subst hp;exact hk) ?_
   have e0:XB [(bid,cs)] ex=P9 [] (some (d,bid,cs)) [] ex:=by
    funext x
    cases x with
    |inl x=>rfl
    |inr x=>
     simp only[XB,P9,List.find?]
     by_cases hx:x=bid
     ·subst hx;simp
     have:(bid==x)=false:=by simpa using fun e=>hx e.symm
     simp[this,hx]
    |tk x=>rfl
    |ex=>rfl
   rw[e0];refine CR (fun fr pv ⟨l',pl,pe',tk',ex',e1,e2,_,e3,h⟩=>?_) _ _ _ (V8 (df:=df) hT _ _ _ _ _ _ h);subst e1;subst e2
   cases pe' with
   |none=>cases e3
   |some q=>
    obtain⟨d',id',cs'⟩:=q
    simp only[Option.map_some,Option.some.injEq]at e3
    subst e3
    have hp:P9 pl (some (d',id',cs')) tk' ex' (.inr id')=some cs':=by simp[P9]
    unfold Mb;rw[hp];exact rest _ _ (some (d',id',cs')) _ _ _ h
  exact h.elim
end
end Go.Ab
namespace Go.Ab
open Go.RowKit
variable [G7][Ar]
noncomputable def Wi (xs:List V):Int:=List.rec (motive:=fun _=>Int) 0 (fun _ _ n=>n+1) xs
theorem Wh (xs:List V):Wi xs=(xs.length:Nat):=by
 induction xs with
 |nil=>rfl
 |cons x xs ih=>
  have e:Wi (x::xs)=Wi xs+1:=rfl;rw[e,ih];simp
def HV (ops:Array Oper) (k:Nat):Bool:=
 k +3<ops.size&&(List.range ops.size).all fun i=>
  T6 (ops.getD i default) i&&
   (List.range i).all fun j=>(i<k&&Fz ops (ops.getD j default) (ops.getD i default))||EK ops Ir i j||(i==k+3&&decide (k<j))
theorem KM {ops:Array Oper}{k:Nat}(h:HV ops k=true):k+3<ops.size∧∀i,i<ops.size→T6 (ops.getD i default) i=true∧
 ∀j,j<i→(EK ops Ir i j=true∨(i<k∧Fz ops (ops.getD j default) (ops.getD i default)=true))∨(i=k+3∧k<j):=by
 simp only[HV,and_eq_true,decide_eq_true_eq,List.all_eq_true,List.mem_range,Bool.or_eq_true,beq_iff_eq]at h
 exact⟨h.1,fun i hi=>⟨(h.2 i hi).1,fun j hj=>((h.2 i hi).2 j hj).imp Or.symm id⟩⟩
def YE (x:Operand)(t:Nat):Bool:=
 match x with
 | .tmp u=> !Nat.beq u t
 |_=>true
theorem Qd {x:Operand}{t:Nat}(h:YE x t=true):x≠ .tmp t:=by
 intro e;subst e;simp[YE]at h
def isNone {α:Type}:Option α→Bool
 |none=>true
 |some _=>false
theorem Cw {α:Type}{o:Option α}(h:isNone o=true):o=none:=by
 cases o<;>simp[isNone]at h;rfl
def Vh (nt k:Nat) (ops:Array Oper):Option Le:=
 match(ops.getD k default).op,(ops.getD k default).dst,(ops.getD (k+1) default).op,(ops.getD (k+1) default).dst,(ops.getD (k+2) default).op,(ops.getD (k+3) default).op with
 | .call {callee:=.builtin .append,args:=⟨[sx,sy]⟩,argTypes:=⟨[sT,yT]⟩},some tA,.indexAddr t2 (.tmp tA2) nn,some tI,.store eT (.tmp tI2) zz,.store t3 (.tmp tp) (.tmp tA3)=>
  if(Nat.beq tA2 tA&&Nat.beq tA3 tA&&Nat.beq tI2 tI&&isNone (ops.getD k default).guard&&isNone (ops.getD (k+1) default).guard&&isNone (ops.getD (k+2) default).guard&&isNone (ops.getD (k+3) default).guard&&
   isNone (ops.getD (k+2) default).dst&&isNone (ops.getD (k+3) default).dst&& !Nat.beq tA tI&& !Nat.beq tp tA&& !Nat.beq tp tI&&YE nn tA&&YE zz tA&&YE zz tI&&Nat.ble (tA+1) nt&&Nat.ble (tI+1) nt)=true then
   some ⟨sx,sy,nn,zz,sT,yT,t2,eT,t3,tA,tI,tp⟩else none
 |_,_,_,_,_,_=>none
theorem Vg {nt k:Nat} {ops:Array Oper} {p:Le} (hl:k+3<ops.size) (h:Vh nt k ops=some p):Yo ops nt k p:=by
 unfold Vh at h
 split at h
 ·rename_i sx sy sT yT tA t2 tA2 nn tI eT tI2 zz t3 tp tA3 e1 e2 e3 e4 e5 e6
  rw[Option.ite_none_right_eq_some]at h
  obtain⟨hc,h⟩:=h;cases h
  simp only[and_eq_true,Bool.not_eq_true']at hc
  obtain⟨⟨⟨⟨⟨⟨⟨⟨⟨⟨⟨⟨⟨⟨⟨⟨c1,c2⟩,c3⟩,c4⟩,c5⟩,c6⟩,c7⟩,c8⟩,c9⟩,c10⟩,c11⟩,c12⟩,c13⟩,c14⟩,c15⟩,c16⟩,c17⟩:=hc;have f1:=Nat.eq_of_beq_eq_true c1;have f2:=Nat.eq_of_beq_eq_true c2;have f3:=Nat.eq_of_beq_eq_true c3;subst f1;subst f2;subst f3
  have ne:∀{a b:Nat},Nat.beq a b=false→a≠b:=fun h e=>by subst e;rw[beq_refl]at h;cases h
  exact⟨hl,e1,e2,Cw c4,e3,e4,Cw c5,e5,Cw c8,Cw c6,e6,Cw c9,Cw c7,ne c10,ne c11,ne c12,Qd c13,Qd c14,Qd c15,Nat.le_of_ble_eq_true c16,Nat.le_of_ble_eq_true c17⟩
 cases h
section
variable {P:Program}{nt:Nat}{ops:Array Oper}{H0:A0}
def Zg (P:Program) (nt:Nat) (A:Lf) (ops:Array Oper) (k:Nat) (p:Le) (fr:Fr) (H:A0) (K:Fr→A0→Prop):Prop:=
 ∃ (xs:List V) (tl tl':E5) (y0 vV z:V) (kk:IntKind) (e:TypeId) (sz by_ idp offp:Nat),
  W6 (ev fr p.sx) (.sl xs tl)∧ev fr p.sy= .sl [y0] tl'∧y0.cells.length=sz∧ev fr p.nn= .int kk (xs.length:Nat)∧W6 (ev fr p.zz) vV∧vV.one=true∧vV.cells.length=sz∧
  Bp P p.sT=some e∧(Bp P p.yT).isSome=true∧Bp P p.t2=some e∧AH P e=some sz∧AH P p.eT=some sz∧0<sz∧IE P e=some by_∧0<by_∧CX P e=some z∧z.one=true∧z.cells.length=sz∧Ds H tl∧
  xs.all (fun x=>x.cells.length==sz)=true∧(xs.length+1)*by_≤140737488355328∧fr.s p.tp= .ref idp offp∧AH P p.t3=some 1∧
  ∀t,D0 H tl t=none→∃cs,upd (D0 H tl) t (some .spare) idp=some (.cells cs)∧offp+1≤cs.length∧
   DC P A nt ops (ops.toList.drop (k+4)) ((fr.put (some p.tA) (.sl (xs++[vV]) (.tok t))).put (some p.tI) .bad) (upd (upd (D0 H tl) t (some .spare)) idp (some (.cells (L8 cs offp [.sl (xs++[vV]) (.tok t)])))) K
theorem O3.appF {A:Lf} {rd:Option Nat} {id k:Nat} {p:Le} {fr:Fr} {Q:Exit→Fr→A0→Prop} (hm:P.follows .mixedOrders=true) (hok:HV ops k=true) (hp:Yo ops nt k p)
 (h:DY P nt ops H0 (ops.toList.take k) fr (fun _=>none) fun fr' pv=>(∀x,pv x=none)∧Zg P nt A ops k p fr' H0 (Q .normal)):O3 P nt rd (.region id ops true) fr H0 Q:=by
 intro r g w a _ hR hF;refine wpIn_region_any hm ?_;obtain⟨hk3,hat⟩:=KM hok
 have hk:k≤ops.size:=by omega
 have sd:N0 g w g w.drew:=⟨fun _ _ e=>e,fun _ _ e=>e,fun _ _ e=>e,rfl,fun _ _ _=>rfl,(Below.refl _ _).drew,fun _ _ _=>rfl,Nat.le_succ _⟩
 have hRd:Rl g H0 w.drew:=by
  refine⟨fun id b hb=>(hR.blk id b hb).mono hb sd fun _ _=>⟨rfl,fun _ ho=>ho⟩,hR.inj,hR.frz,hR.nxt,hR.bnd,fun n=>(hR.glb n).mono sd⟩
 have hI:QJ nt H0 g w.drew fr (fun _=>none) g w.drew a:=
  ⟨H0,fun _=>0,N0.refl _ _,hRd,hF.mono sd,fun _ _ h=>h,fun d cs h=>(by cases h),fun d d' cs cs' h=>(by cases h),fun _=>none,fun d cs h=>(by cases h),fun d d' cs cs' t h=>(by cases h),fun cs h=>(by cases h)⟩
 have hmap:(List.range k).map (fun i=>ops.getD i default)=ops.toList.take k:=by
  apply List.ext_getElem
  ·simp;omega
  intro i h1 h2
  simp at h1
  simp[Array.getD,show i<ops.size by omega]
 have hb:=KW (r:=r) (Q:=Nt nt g w Q) hk (fun i hi=>⟨(hat i hi).1,fun j hj=>by
  rcases(hat i hi).2 j hj with h|h
  ·exact h.imp (fun h=>h) .inl
  exact .inr (.inr (by omega))⟩) (K:=fun fr' pv=>(∀x,pv x=none)∧Zg P nt A ops k p fr' H0 (Q .normal)) (g0:=g) (w0:=w.drew)
  (fun g' w' a' fr' pv listed hsz hl hI' hK=>?_) k (List.range k) (Array.replicate ops.size false) fr (fun _=>none) (by simp) (List.pairwise_lt_range) (fun i hi=>by simpa using hi) (by simp) (fun i b hi=>by simp[Array.getD,hi]) (fun m j hm _=>by simp[Array.getD]at hm) (by rw[hmap];exact h) g w.drew a hI
 ·rw[show k+(ops.size - k)=ops.size by omega]at hb
  exact hb
 obtain⟨H,ids,s,hR',hF',hext,hpv,hinj,_⟩:=hI';obtain⟨_,xs,tl,tl',y0,vV,z,kk,e,sz,by_,idp,offp,b1,b2,b3,b4,b5,b6,b7,b8,b9,b10,b11,b12,b13,b14,b15,b16,b17,b18,b19,b20,b21,b22,b23,b24⟩:=hK;have hR0:=hR'.less hext
 have hfresh:D0 H0 tl g'.nx=none:=by
  have:=(hR0.nxt _ (Nat.le_refl _)).2.2
  cases hd:D0 H0 tl g'.nx with
  |none=>rfl
  |some b=>rw[Bb hd]at this;cases this
 obtain⟨cs,c1,c2,_⟩:=b24 _ hfresh
 have hlc:LC ops listed fun i=>decide (i<k):=⟨hsz,hl,fun m j hm hj=>by
  have hms:m<ops.size:=by
   rcases Nat.lt_or_ge m ops.size with h|h
   ·exact h
   simp[Array.getD,show¬m<listed.size by omega]at hm
  rw[hl m false hms]at hm
  simp only[decide_eq_true_eq]at hm
  have hbw:=(hat m hms).1
  simp only[T6,Array.all_eq_true]at hbw
  simp only[Z7,Array.any_eq_true,and_eq_true,beq_iff_eq]at hj
  obtain⟨x,hx,rfl,hbx⟩:=hj;have:=hbw x hx
  simp only[hbx,Bool.not_true,Bool.false_or,decide_eq_true_eq]at this
  rw[hl _ false (by omega)]
  simp only[decide_eq_true_eq];omega⟩
 have hidp:∀t cs,D0 H0 tl t=none→upd (D0 H0 tl) t (some .spare) idp=some (.cells cs)→H0 idp=some (.cells cs):=fun t cs ht h=>by
  by_cases e:idp=t
  ·subst e;rw[B1]at h;cases h
  rw[A6 _ _ e]at h;exact Bb h
 have hUc:=hidp _ _ hfresh c1
 exact Vd (A:=A) (r:=r) (K:=Q .normal) (g0:=g) (w0:=w) hp (fun i hi=>⟨(hat i hi).1,fun j hj=>by
  rcases(hat i hi).2 j hj with(h|h)|h
  ·exact .inl h
  ·exact .inr (.inl h.1)
  exact .inr (.inr h)⟩)
  (fun g3 w3 a3 fr3 H3 s3 hR3 hF3 hK3=>⟨g3,fr3,H3,s3,hR3,hF3,hK3⟩) hlc b1 b2 b3 b4 b5 b6 b7 b8 b9 b10 b11 b12 b13 b14 b15 b16 b17 b18 b19 b20 b21 b22 hUc b23 c2
  (fun t ht=>by
   obtain⟨cs',d1,d2,d3⟩:=b24 t ht;have:=hidp _ _ ht d1
   rw[hUc]at this
   cases this
   exact d3) g' w' a' (sd.trans s) hR0 hF'
end
section
variable (E:Bm)(T:Cr)(nt:Nat)(A:Nat→Bool)
def WW (k :Nat) (p:Le) (ops:Array Oper) (l:Fl) (H:A0) (K:Fl→A0→Prop):Prop:=
 match(K8 [] l p.sx).V,(K8 [] l p.sy).V,(K8 [] l p.nn).V,lk l p.tp with
 | .sl xs tl,.sl [y0] _,.int _ m,.v (.ref idp offp)=>
  (match tg T p.sT,tg T p.yT,tg T p.t2,tg T p.eT,tg T p.t3 with
   | some I,some I2,some I3,some I4,some I5=>
    (match I.sl,I2.sl,I3.sl with
     | some e,some _,some e3=>
      (match tg T e with
       | some J=>
        (match J.ze with
         | some z=>
          if 0<J.sz∧0<J.by_∧z.one=true∧z.cells.length=J.sz∧e3=e∧I4.sz=J.sz∧I5.sz=1∧y0.cells.length=J.sz∧(K8 [] l p.zz).V.one=true∧(K8 [] l p.zz).V.cells.length=J.sz then
           E.need (m=Wi xs) fun _=>
           E.appn J.sz J.by_ H tl xs [(K8 [] l p.zz).V] fun r H'=>E.storeP H' idp offp 1 [r] fun H''=>IJ E T nt A ops (ops.toList.drop (k+4)) ((p.tI,.v .bad)::(p.tA,.v r)::l) H'' K
          else False
         |none=>False)
       |none=>False)
     |_,_,_=>False)
   |_,_,_,_,_=>False)
 |_,_,_,_=>False
def Xx (k:Nat)(ops:Array Oper)(l:Fl)(H:A0)(K:Fl→A0→Prop):Prop:=
 match Vh nt k ops with
 |some p=>Ti E T nt A [] ops (ops.toList.take k) l [] none [] none H fun l' pv pe tk=>(match pv,pe,tk with|[],none,[]=>WW E T nt A k p ops l' H K|_,_,_=>False)
 |none=>False
end
section
variable {P:Program}{nt:Nat}{rd:Option Nat}{T:Cr}{A:Nat→Bool}{df:List Nat}
theorem Ps (hT:ET P T) {k:Nat} {ops:Array Oper} {l:Fl} {H:A0} {K:Fl→A0→Prop} {id:Nat} (hm:P.follows .mixedOrders=true) (hok:HV ops k=true)
 (h:Xx (E8 P nt rd) T nt A k ops l H K):O3 P nt rd (.region id ops true) (E0 ⟨l,df⟩) H fun e fr H'=>e= .normal∧∃l',fr=E0 ⟨l',df⟩∧K l' H':=by
 unfold Xx at h
 split at h
 ·rename_i p hpat;have hp:=Vg (KM hok).1 hpat;refine O3.appF (A:=A) hm hok hp ?_
  have e0:(fun _=>none:Pv)=P9 [] none [] none:=by funext x;cases x<;>rfl
  rw[e0];refine CR (fun fr pv ⟨l',pl,pe',tk',ex',e1,e2,e4,e3,h⟩=>?_) _ _ _ (V8 (df:=df) hT _ _ _ _ _ _ h);cases e4 rfl;subst e1;subst e2
  split at h
  ·refine ⟨fun x=>by cases x<;>rfl,?_⟩
   unfold WW at h
   split at h
   ·rename_i xs tl y0 tl' kk m idp offp hx hy hn htp
    split at h
    ·rename_i I I2 I3 I4 I5 h1 h2 h3 h4 h5
     split at h
     ·rename_i e e2 e3' q1 q2 q3
      split at h
      ·rename_i J hJ
       split at h
       ·rename_i z hz
        have ez:=(D5 hT hJ).ze;rw[hz]at ez;simp only[V6]at ez
        split at h
        ·rename_i hc;obtain⟨c1,c2,c3,c4,c5,c6,c7,c8,c9,c10⟩:=hc;obtain⟨hm',xs',ys',a1,a2,a3,a4,a5,a6,a7,a8⟩:=h;have E':∀x,(K8 [] l' x).V=ev (E0 ⟨l',df⟩) x:=fun x=>AZ EU.nil x
         rw[E']at hx hy hn c9 c10
         rw[E']at a2
         obtain⟨vV,rfl,hle⟩:∃vV,ys'=[vV]∧W6 (ev (E0 ⟨l',df⟩) p.zz) vV:=by
          cases a2 with
          |cons q r=>cases r;exact⟨_,rfl,q⟩
         have hl:=a1.length
         refine⟨xs',tl,tl',y0,vV,z,kk,e,J.sz,J.by_,idp,offp,by rw[hx];exact .slt _ a1,hy,c8,by rw[hn,hm',Wh,hl],hle,hle.one c9,by rw[←hle.cells.length];exact c10,
          (D5 hT h1).sl.trans q1,by rw[(D5 hT h2).sl,q2];rfl,by rw[(D5 hT h3).sl,q3,c5],(D5 hT hJ).sz,by rw[(D5 hT h4).sz,c6],c1,(D5 hT hJ).by_,c2,ez,c3,c4,a3,a4,by simpa using a6,
          Fu l' p.tp _ htp (fun _ _ _ h=>by cases h),by rw[(D5 hT h5).sz,c7],fun t ht=>?_⟩
         obtain⟨cs,g1,g2,g3⟩:=a8 t (by simp) ht;refine⟨cs,g1,Nat.le_of_ble_eq_true g2,?_⟩;have:=BM (df:=df) hT _ _ _ g3
         have ef:E0 ⟨(p.tI,.v .bad)::(p.tA,.v (.sl (xs'++[vV]) (.tok t)))::l',df⟩=((E0 ⟨l',df⟩).put (some p.tA) (.sl (xs'++[vV]) (.tok t))).put (some p.tI) .bad:=by
          have e1:=H7 (df:=df) ((p.tA,.v (.sl (xs'++[vV]) (.tok t)))::l') (some p.tI) (.v .bad);have e2:=H7 (df:=df) l' (some p.tA) (.v (.sl (xs'++[vV]) (.tok t)))
          simp only[Af]at e1 e2
          rw[e1,e2];rfl
         rw[ef]at this
         exact FX (fun fr H' ⟨l'',e,hk⟩=>⟨rfl,l'',e,hk⟩) _ _ _ this
        exact h.elim
       exact h.elim
      exact h.elim
     exact h.elim
    exact h.elim
   exact h.elim
  exact h.elim
 exact h.elim
end
end Go.Ab
namespace Go.Ab
open Go.RowKit
variable [G7]
def Uv :Op→Option Operand
 | .move x=>some x
 | .assign x=>some x
 |_=>none
def odd :Op→Bool
 | .defer _=>true
 | .select _ _=>true
 |_=>false
def hi (m i:Nat):Nat:=if i=m then 0 else if i<m then i+1 else i
def Gf (m:Nat)(o:Oper):Oper:={o with after:= #[⟨0,.data⟩]++o.after.map fun e=>{e with on:=hi m e.on},guard:=o.guard.map fun p=>(hi m p.1,p.2)}
def M2 (m:Nat)(ops:Array Oper):Array Oper:=({ops.getD m default with after:= #[]}::((ops.toList.eraseIdx m).map (Gf m))).toArray
def Jx (m:Nat) (ops:Array Oper):Bool:=
 Nat.blt m ops.size&&(Uv (ops.getD m default).op).isSome&&(ops.getD m default).dst.isSome&&(ops.getD m default).guard.isNone&&(ops.getD m default).after.all (fun e=> !Region.binds .any e)&&
  (List.range ops.size).all fun j=>j==m||(!odd (ops.getD j default).op&&(Z7 (ops.getD j default) m||(ops.getD m default).apart ops (ops.getD j default)))
def XD (ops:Array Oper):Bool:=(List.range ops.size).all fun i=>(ops.getD i default).after.all fun e=>Nat.blt e.on ops.size
def BZ :List (Nat×Nat)→Nat→List Nat
 |[],_=>[]
 |(x,y)::l,n=>match n==x with|true=>y::BZ l n|false=>BZ l n
def hoistAll :List Nat→Array Oper→Array Oper
 |[],ops=>ops
 |m::ms,ops=>hoistAll ms (M2 m ops)
def Kl :List Nat→Array Oper→Bool
 |[],_=>true
 |m::ms,ops=>Jx m ops&&XD ops&&Kl ms (M2 m ops)
section
variable {P:Program}{ops:Array Oper}{Q:Exit→Act→World→Prop}{F:Fence}{n:Nat}
theorem Gy {oi:Oper} {x:Operand} (hx:x∈oi.op.operands) {a:Act} {e:Option Tmp} {u:Value} (h:∀d,e=some d→d∉oi.looksAt ops):(a.put e u).eval x=a.eval x:=
 Act.eval_put fun d hd hxd=>h d hd (by
  subst hxd
  exact List.mem_append_left _ (List.mem_filterMap.2 ⟨.tmp d,by simpa using hx,rfl⟩))
theorem So {j:Nat} {oi oj:Oper} {x:Operand} (hj:ops[j]? =some oj) (hx:x∈oi.op.operands) (hap:oi.apart ops oj=true) (hd:∀c,oj.op≠ .defer c) (hs:∀cs b,oj.op≠ .select cs b) (hQ:∀c a w,¬Q (.panic c) a w)
 {K:Act→World→Prop} {a:Act} {w:World} (h:wpOpIn F n P ops Q j K (a.put oi.dst (a.eval x)) w):wpOpIn F n P ops Q j (fun a' w'=>K (a'.put oi.dst (a'.eval x)) w') a w:=by
 obtain⟨h1,h2,h3⟩:=Oper.apart_spec hap
 have fin:∀u w',K ((a.put oi.dst (a.eval x)).put oj.dst u) w'→K ((a.put oj.dst u).put oi.dst ((a.put oj.dst u).eval x)) w':=fun u w' hk=>by
  rw[Gy hx h3,←Act.put_comm a _ u h2];exact hk
 unfold wpOpIn at h ⊢
 simp only[hj]at h ⊢
 rw[wanted_put oj a oi.dst _ h1,about_put oj w a oi.dst _ h1]at h
 by_cases hw:Region.wanted oj (yielded ops a.tmps)=true
 ·rw[if_pos hw]at h ⊢
  unfold Oper.wpIn at h ⊢
  rw[about_put oj w a oi.dst _ h1]at h
  refine⟨h.1,?_⟩;replace h:=h.2
  rw[Oper.semAt_eq _ _ _ hd,execOp_put oj hs a oi.dst _ h1]at h
  rw[Oper.semAt_eq _ _ _ hd]
  cases hr:(execOp a.eval oj).run P w with
  | ok y w'=>
   rw[hr]at h
   cases y with
   |value u=>exact fin u w' h
   |skip=>exact fin undef w' h
   |defer d=>
    simp only[Oper.uponIn]at h ⊢
    have e1:({a with defers:=d::a.defers}:Act).eval x=a.eval x:=rfl;have e2:(({a with defers:=d::a.defers}:Act).put oj.dst undef).eval x=a.eval x:=(Gy (a:={a with defers:=d::a.defers}) hx h3).trans e1;rw[e2,←Act.put_comm _ _ undef h2,←Act.put_defers];exact h
   |enter f args=>
    simp only[Oper.uponIn]at h ⊢
    refine⟨h.1,CallsIn.mono h.2 fun e w2 he=>?_⟩
    cases e with
    |returned u=>exact fin u w2 he
    |panicked c=>exact absurd he (hQ _ _ _)
    |outgrown=>exact he
   |row row args=>
    simp only[Oper.uponIn]at h ⊢
    exact⟨h.1,RowsIn.mono h.2 fun u w2 he=>fin u w2 he⟩
   |round l f tmps assign body=>
    simp only[Oper.uponIn]at h ⊢
    refine⟨h.1,RoundIn.mono h.2 fun e w2 he=>?_⟩
    cases e with
    |returned u=>exact fin u w2 he
    |panicked c=>exact absurd he (hQ _ _ _)
    |outgrown=>exact he
   |_=>exact h
  |halt y w'=>
   rw[hr]at h
   cases y with
   |panic c=>exact absurd h (hQ _ _ _)
   |_=>exact h
 rw[if_neg hw]at h ⊢
 exact⟨h.1,fin undef w h.2⟩
theorem SQ {m:Nat} {oi:Oper} {x:Operand} (hm:ops[m]? =some oi) (ho:oi.op= .move x∨oi.op= .assign x) (hg:oi.guard=none) (hb:∀e∈oi.after,Region.binds .any e=false)
 (hfree:∀j oj,ops[j]? =some oj→j≠m→((∀c,oj.op≠ .defer c)∧∀cs b,oj.op≠ .select cs b)∧((∃e∈oj.after,Region.binds .any e=true∧e.on=m)∨oi.apart ops oj=true)) (hQ:∀c a w,¬Q (.panic c) a w):
 ∀(fuel:Nat) (listed:Array Bool) (a:Act) (w:World),listed.getD m true=false→
  wpAnyIn F n P .any ops Q fuel (listed.setIfInBounds m true) (a.put oi.dst (a.eval x)) w→wpAnyIn F n P .any ops Q (fuel+1) listed a w:=by
 have hx:x∈oi.op.operands:=by rcases ho with ho|ho<;>simp[ho,Op.operands]
 have hready:∀listed:Array Bool,listed.getD m true=false→m∈Region.ready .any ops listed:=fun listed hl=>
  Go.mem_ready.2 ⟨hl,oi,hm,fun e he hbe=>by rw[hb e he]at hbe;cases hbe⟩
 have first:∀(listed:Array Bool) (a:Act) (w:World) (K:Act→World→Prop),K (a.put oi.dst (a.eval x)) w→wpOpIn F n P ops Q m K a w:=fun listed a w K hk=>by
  unfold wpOpIn;simp only[hm];rw[if_pos (by simp[Region.wanted,hg])];refine⟨fun f hf=>?_,?_⟩
  ·unfold Oper.about at hf
   rcases ho with ho|ho<;>(rw[ho]at hf;cases hf)
  rw[Oper.semAt_eq _ _ _ fun c=>by rcases ho with ho|ho<;>simp[ho]]
  have:(execOp a.eval oi).run P w= .ok (.value (a.eval x)) w:=by
   unfold execOp
   rcases ho with ho|ho<;>(rw[ho];rfl)
  rw[this];exact hk
 intro fuel
 induction fuel with
 |zero=>
  intro listed a w hl H;refine⟨fun h=>(by have:=hready listed hl;rw[h]at this;cases this),fun j hj=>?_⟩
  by_cases hji:j=m
  ·subst hji;exact first listed a w _ H
  have:=ready_mono hj hji
  rw[H.1]at this
  cases this
 | succ fuel ih=>
  intro listed a w hl H;refine⟨fun h=>(by have:=hready listed hl;rw[h]at this;cases this),fun j hj=>?_⟩
  by_cases hji:j=m
  ·subst hji;exact first listed a w _ H
  have h1:=H.2 j (ready_mono hj hji);obtain⟨_,oj,hoj,hall⟩:=Go.mem_ready.1 hj;obtain⟨⟨hd,hs⟩,hor⟩:=hfree j oj hoj hji
  have hap:oi.apart ops oj=true:=by
   rcases hor with⟨e,he,hbe,heq⟩|h
   ·exfalso;have h3:=hall e he hbe
    rw[heq]at h3
    rcases Nat.lt_or_ge m listed.size with h'|h'
    ·simp[Array.getD,h']at hl h3;rw[hl]at h3;cases h3
    simp[Array.getD,show¬m<listed.size by omega]at h3
   exact h
  have h2:=So hoj hx hap hd hs hQ h1;refine wpOpIn_mono (fun a' w' h3=>ih (listed.setIfInBounds j true) a' w' ?_ ?_) h2
  ·rw[getD_set_ne true (fun e=>hji e)];exact hl
  rw[Array.setIfInBounds_comm _ _ hji];exact h3
end
section
variable {m:Nat}{ops:Array Oper}
theorem Ev (h:m<ops.size):(M2 m ops).size=ops.size:=by
 simp[M2,List.length_eraseIdx,h];omega
theorem Hg :(M2 m ops)[0]? =some {ops.getD m default with after:= #[]}:=by simp[M2]
theorem HN {i:Nat}{o:Oper}(h:ops[i]? =some o)(hne:i≠m):(M2 m ops)[hi m i]? =some (Gf m o):=by
 unfold M2 hi;rw[if_neg hne]
 have hl:ops.toList[i]? =some o:=by rw[Array.getElem?_toList];exact h
 split
 ·rename_i hlt;simp only[List.getElem?_toArray,List.getElem?_cons_succ,List.getElem?_map,List.getElem?_eraseIdx,if_pos hlt,hl,Option.map_some]
 rename_i hge;obtain⟨k,rfl⟩:∃k,i=k+1:=⟨i - 1,by omega⟩;simp only[List.getElem?_toArray,List.getElem?_cons_succ,List.getElem?_map,List.getElem?_eraseIdx,if_neg (show¬k<m by omega),hl,Option.map_some]
theorem Uz {i j:Nat}(h:hi m i=hi m j):i=j:=by
 unfold hi at h
 split at h<;>split at h<;>(try split at h)<;>(try split at h)<;>omega
theorem Uy {i:Nat}(h:i<ops.size)(hm:m<ops.size):hi m i<ops.size:=by
 unfold hi;split<;>(try split)<;>omega
theorem Wu {k:Nat}(h:k<ops.size)(hm:m<ops.size):∃i,i<ops.size∧hi m i=k:=by
 by_cases h0:k=0
 ·exact⟨m,hm,by unfold hi;rw[if_pos rfl,h0]⟩
 by_cases hk:k≤m
 ·exact⟨k - 1,by omega,by unfold hi;rw[if_neg (by omega),if_pos (by omega)];omega⟩
 exact⟨k,h,by unfold hi;rw[if_neg (by omega),if_neg (by omega)]⟩
end
section
variable {P:Program}{ops:Array Oper}{Q:Exit→Act→World→Prop}{F:Fence}{n m:Nat}
theorem Lg (hm:m<ops.size) (t:Array Value) (j:Nat):yielded (M2 m ops) t (hi m j)=yielded ops t j:=by
 unfold yielded
 have:((M2 m ops)[hi m j]?).bind (·.dst)=(ops[j]?).bind (·.dst):=by
  by_cases hjm:j=m
  ·subst hjm
   have:hi j j=0:=by unfold hi;rw[if_pos rfl]
   rw[this,Hg];simp[Array.getElem?_eq_getElem hm,Array.getD,hm]
  cases hj:ops[j]? with
  |some o=>rw[HN hj hjm];rfl
  | none=>
   have hs:ops.size≤j:=by rw[Array.getElem?_eq_none_iff]at hj;exact hj
   have:(M2 m ops)[hi m j]? =none:=by
    rw[Array.getElem?_eq_none_iff,Ev hm];unfold hi;rw[if_neg hjm,if_neg (by omega)];exact hs
   rw[this]
 rw[this]
theorem TP (hm:m<ops.size) {i:Nat} {o:Oper} (hi':ops[i]? =some o) (hne:i≠m) {K:Act→World→Prop} {a:Act} {w:World} (h:wpOpIn F n P (M2 m ops) Q (hi m i) K a w):wpOpIn F n P ops Q i K a w:=by
 unfold wpOpIn at h ⊢
 rw[HN hi' hne]at h
 rw[hi']
 have hw:Region.wanted (Gf m o) (yielded (M2 m ops) a.tmps)=Region.wanted o (yielded ops a.tmps):=by
  unfold Region.wanted Gf
  cases hg:o.guard with
  |none=>rfl
  |some p=>
   obtain⟨j,want⟩:=p;simp only[Option.map_some,Lg hm]
 simp only[hw]at h
 exact h
theorem WJ (hm:m<ops.size):∀(fuel:Nat) (listed listed':Array Bool) (a:Act) (w:World),listed.size=ops.size→listed'.size=ops.size→listed.getD m false=true→(∀i,i<ops.size→listed'.getD (hi m i) false=listed.getD i false)→
 (∀(i:Nat) (o:Oper),ops[i]? =some o→∀e∈o.after,e.on<ops.size)→
 wpAnyIn F n P .any (M2 m ops) Q fuel listed' a w→wpAnyIn F n P .any ops Q fuel listed a w:=by
 intro fuel
 have e0:∀(l:Array Bool) (i:Nat),l.size=ops.size→i<ops.size→l.getD i true=l.getD i false:=fun l i hl h=>by simp[Array.getD,show i<l.size by omega]
 have fwd:∀(listed listed':Array Bool),listed.size=ops.size→listed'.size=ops.size→listed.getD m false=true→(∀i,i<ops.size→listed'.getD (hi m i) false=listed.getD i false)→(∀(i:Nat) (o:Oper),ops[i]? =some o→∀e∈o.after,e.on<ops.size)→
  ∀i,i∈Region.ready .any ops listed→i≠m∧i<ops.size∧hi m i∈Region.ready .any (M2 m ops) listed':=fun listed listed' s1 s2 hlm hrel hon i hi'=>by
  obtain⟨h1,o,ho,h2⟩:=Go.mem_ready.1 hi';have hil:=(Array.getElem?_eq_some_iff.1 ho).1
  have hne:i≠m:=fun e=>by subst e;rw[e0 _ _ s1 hil,hlm]at h1;cases h1
  refine⟨hne,hil,Go.mem_ready.2 ⟨?_,_,HN ho hne,fun e he hb=>?_⟩⟩
  ·rw[e0 _ _ s2 (Uy hil hm),hrel i hil,←e0 _ _ s1 hil];exact h1
  simp only[Gf,Array.mem_append,Array.mem_map]at he
  rcases he with he|⟨e',he',rfl⟩
  ·simp at he;subst he
   have:=hrel m hm
   rw[show hi m m=0 by unfold hi;rw[if_pos rfl],hlm]at this
   exact this
  have hb':Region.binds .any e'=true:=by simpa[Region.binds]using hb
  simp only
  rw[hrel _ (hon i o ho e' he')];exact h2 e' he' hb'
 have bwd:∀(listed listed':Array Bool),listed.size=ops.size→listed'.size=ops.size→listed.getD m false=true→(∀i,i<ops.size→listed'.getD (hi m i) false=listed.getD i false)→(∀(i:Nat) (o:Oper),ops[i]? =some o→∀e∈o.after,e.on<ops.size)→
  Region.ready .any ops listed=[]→Region.ready .any (M2 m ops) listed'=[]:=fun listed listed' s1 s2 hlm hrel hon h=>by
  rw[List.eq_nil_iff_forall_not_mem];intro k hk;obtain⟨h1,o',ho',h2⟩:=Go.mem_ready.1 hk
  have hkl:k<ops.size:=by rw[←Ev hm];exact(Array.getElem?_eq_some_iff.1 ho').1
  obtain⟨i,hil,rfl⟩:=Wu (ops:=ops) hkl hm
  have h3:listed.getD i true=false:=by rw[e0 _ _ s1 hil,←hrel i hil,←e0 _ _ s2 hkl];exact h1
  have hne:i≠m:=fun e=>by subst e;rw[e0 _ _ s1 hil,hlm]at h3;cases h3
  have hoi:=Array.getElem?_eq_getElem hil
  rw[HN hoi hne]at ho'
  cases ho'
  have:i∈Region.ready .any ops listed:=Go.mem_ready.2 ⟨h3,_,hoi,fun e he hb=>by
   have:=h2 {e with on:=hi m e.on} (by simp only[Gf,Array.mem_append,Array.mem_map];exact .inr ⟨e,he,rfl⟩) (by simpa[Region.binds]using hb)
   rw[hrel _ (hon i _ hoi e he)]at this
   exact this⟩
  rw[h]at this;cases this
 induction fuel with
 |zero=>
  intro listed listed' a w s1 s2 hlm hrel hon H;refine⟨?_,H.2⟩;rw[List.eq_nil_iff_forall_not_mem];intro i hi';obtain⟨_,_,h3⟩:=fwd listed listed' s1 s2 hlm hrel hon i hi'
  rw[H.1]at h3;cases h3
 | succ fuel ih=>
  intro listed listed' a w s1 s2 hlm hrel hon H;refine⟨fun h=>H.1 (bwd listed listed' s1 s2 hlm hrel hon h),fun i hi'=>?_⟩;obtain⟨hne,hil,h3⟩:=fwd listed listed' s1 s2 hlm hrel hon i hi';have h4:=H.2 _ h3;refine wpOpIn_mono (fun a' w' h5=>ih (listed.setIfInBounds i true) (listed'.setIfInBounds (hi m i) true) a' w' (by simpa using s1) (by simpa using s2) ?_ (fun j hj=>?_) hon h5) (TP hm (Array.getElem?_eq_getElem hil) hne h4)
  ·rw[getD_set_ne false hne];exact hlm
  by_cases e:j=i
  ·subst e
   have h6:hi m j<listed'.size:=by rw[s2];exact Uy hil hm
   simp[Array.getD,h6,show j<listed.size by omega]
  rw[getD_set_ne false (fun x=>e x.symm),getD_set_ne false (fun x=>e (Uz x).symm)];exact hrel j hj
end
theorem V4.hoist {P:Program} {nt m:Nat} {rd:Option Nat} {ops:Array Oper} {fr:Fr} {H:A0} {Q:Exit→Fr→A0→Prop} (hok:Jx m ops=true) (hon:XD ops=true) (hQ:∀c fr H,¬Q (.panic c) fr H) (h:V4 P nt rd (M2 m ops) fr H Q):V4 P nt rd ops fr H Q:=by
 unfold XD at hon
 intro r g w a hr hR hF;have h:=h r g w a hr hR hF
 simp only[Jx,and_eq_true,List.all_eq_true,List.mem_range,Bool.or_eq_true,beq_iff_eq,Bool.not_eq_true']at hok
 obtain⟨⟨⟨⟨⟨h1,h2⟩,h3⟩,h4⟩,h5⟩,h6⟩:=hok
 have hm:m<ops.size:=by simpa[Nat.blt_eq]using h1
 have hget:∀i,i<ops.size→ops[i]? =some (ops.getD i default):=fun i hi=>by simp[Array.getD,hi]
 have hom:=hget m hm
 generalize hoi:ops.getD m default=oi at *
 obtain⟨x,hx⟩:=Option.isSome_iff_exists.1 h2
 have ho:oi.op= .move x∨oi.op= .assign x:=by
  cases hop:oi.op<;>rw[hop]at hx<;>simp[Uv]at hx<;>simp[hx]
 have hg:oi.guard=none:=by simpa using h4
 obtain⟨s,hs⟩:∃s,ops.size=s+1:=⟨ops.size - 1,by omega⟩;rw[hs]
 refine SQ hom ho hg (fun e he=>by
  have:=Array.all_eq_true_iff_forall_mem.1 h5 e he
  simpa using this) (fun j oj hj hne=>?_) (fun c a' w' ⟨_,fr',H',_,_,_,hq⟩=>hQ _ _ _ hq) s _ a _ (by simp[Array.getD,show m<s+1 by omega]) ?_
 ·have hjl:=(Array.getElem?_eq_some_iff.1 hj).1
  have ej:ops.getD j default=oj:=by have:=hget j hjl;rw[hj]at this;exact(Option.some.inj this).symm
  rcases h6 j hjl with h7|⟨h7,h8⟩
  ·exact absurd h7 hne
  rw[ej]at h7 h8
  refine⟨⟨fun c hc=>(by rw[hc]at h7;cases h7),fun cs b hc=>(by rw[hc]at h7;cases h7)⟩,?_⟩
  rcases h8 with h8|h8
  ·left
   simp only[Z7,Array.any_eq_true,and_eq_true,beq_iff_eq]at h8
   obtain⟨k,hk,e1,e2⟩:=h8;exact⟨oj.after[k],Array.getElem_mem hk,e2,e1⟩
  exact .inr h8
 have hs':(M2 m ops).size=s+1:=by rw[Ev hm,hs]
 rw[hs']at h
 have hz:(0:Nat)∈Region.ready .any (M2 m ops) (Array.replicate (s+1) false):=
  Go.mem_ready.2 ⟨by simp[Array.getD],_,Hg,fun e he=>by simp at he⟩
 have h7:=h.2 0 hz
 unfold wpOpIn at h7
 rw[Hg,hoi]at h7
 simp only at h7
 rw[if_pos (by simp[Region.wanted,hg])]at h7
 have h8:=h7.2
 have hsem:({oi with after:= #[]}:Oper).semAt (Fw r).round a.eval=execOp a.eval {oi with after:= #[]}:=Oper.semAt_eq _ _ _ fun c=>by rcases ho with ho|ho<;>simp[ho]
 rw[hsem]at h8
 have hrun:(execOp a.eval ({oi with after:= #[]}:Oper)).run P w.drew= .ok (.value (a.eval x)) w.drew:=by
  unfold execOp
  rcases ho with ho|ho<;>(simp only[ho];rfl)
 rw[hrun]at h8
 refine WJ hm s _ ((Array.replicate (s+1) false).setIfInBounds 0 true) _ _ (by simp[hs]) (by simp[hs]) ?_ (fun i hil=>?_) (fun i o hoo e he=>?_) h8
 ·simp[Array.getD,show m<s+1 by omega]
 ·by_cases e:i=m
  ·subst e
   have:hi i i=0:=by unfold hi;rw[if_pos rfl]
   rw[this];simp[Array.getD,show i<s+1 by omega]
  have hne:hi m i≠0:=fun h=>by
   have:hi m i=hi m m:=by rw[h];unfold hi;rw[if_pos rfl]
   exact e (Uz this)
  rw[getD_set_ne false (fun x=>hne x.symm),getD_set_ne false (fun x=>e x.symm)];have:=Uy (ops:=ops) hil hm;simp[Array.getD,show i<s+1 by omega,show hi m i<s+1 by omega]
 have hil:=(Array.getElem?_eq_some_iff.1 hoo).1;have:=List.all_eq_true.1 hon i (List.mem_range.2 hil)
 have e2:ops.getD i default=o:=by have:=hget i hil;rw[hoo]at this;exact(Option.some.inj this).symm
 rw[e2]at this
 have:=Array.all_eq_true_iff_forall_mem.1 this e he
 simpa[Nat.blt_eq]using this
theorem V4.hoistAll {P:Program} {nt:Nat} {rd:Option Nat} {fr:Fr} {H:A0} {Q:Exit→Fr→A0→Prop} (hQ:∀c fr H,¬Q (.panic c) fr H):∀(ms:List Nat) (ops:Array Oper),Kl ms ops=true→V4 P nt rd (hoistAll ms ops) fr H Q→V4 P nt rd ops fr H Q
 |[],ops,_,h=>h
 |m::ms,ops,hok,h=>by
  simp only[Kl,and_eq_true]at hok
  exact V4.hoist hok.1.1 hok.1.2 hQ (V4.hoistAll hQ ms _ hok.2 h)
end Go.Ab
namespace Go.Ab
open Go.RowKit
variable [G7]
section
variable (P:Program)(A:Lf)(nt:Nat)(ops:Array Oper)
def Xd (o:Oper) (fr:Fr) (H:A0) (K:Fr→A0→Prop):Prop:=
 Cj nt o.dst=true∧
  match T4 ops fr o with
  |some true=>CV P A o (ev fr) H fun v H'=>K (fr.put o.dst v) H'
  |some false=>K (fr.put o.dst (.tup [])) H
  |none=>False
def Pf :Nat→Array Bool→Fr→A0→(Fr→A0→Prop)→Prop
 |0,listed,fr,H,K=>Region.ready .any ops listed=[]∧K fr H
 | n +1,listed,fr,H,K=>(Region.ready .any ops listed=[]→K fr H)∧
     ∀i∈Region.ready .any ops listed,Xd P A nt ops (ops.getD i default) fr H fun fr' H'=>Pf n (listed.setIfInBounds i true) fr' H' K
end
section
variable {P:Program}{nt:Nat}{ops:Array Oper}{A:Lf}{r:Option Nat}{K:Fr→A0→Prop}{Q:Exit→Act→World→Prop}{g0:Gh}{w0:World}
theorem RH (hQ:∀g w a fr H,N0 g0 w0 g w→Rl g H w→FR nt g w a fr→K fr H→Q .normal a w):
 ∀(n:Nat) (listed:Array Bool) (fr:Fr) (H:A0),Pf P A nt ops n listed fr H K→
  ∀g w a,N0 g0 w0 g w→Rl g H w→FR nt g w a fr→wpAnyIn (Fw r) 0 P .any ops Q n listed a w
 |0,listed,fr,H,h,g,w,a,s,hR,hF=>⟨h.1,hQ g w a fr H s hR hF h.2⟩
 |n+1,listed,fr,H,h,g,w,a,s,hR,hF=>by
  refine⟨fun e=>hQ g w a fr H s hR hF (h.1 e),fun i hi=>?_⟩;obtain⟨h1,_,_⟩:=mem_ready hi;have hs:=h.2 i hi
  have eo:ops.getD i default=ops[i]:=by simp[Array.getD,h1]
  rw[eo]at hs
  obtain⟨hd,hs⟩:=hs;have ih:=RH hQ n (listed.setIfInBounds i true);simp only[wpOpIn,Array.getElem?_eq_getElem h1]
  split at hs
  ·rename_i hg;rw[if_pos (N9 hF.s hg)];exact LD hR hF hd hs fun g' w' a' v H' s' hR' hF' hK=>ih _ _ hK g' w' a' (s.trans s') hR' hF'
  ·rename_i hg;rw[if_neg (by rw[N9 hF.s hg];simp)];exact⟨fun _ _=>trivial,ih _ _ hs g w _ s hR (hF.put (Ba hd) (VR.und _ _))⟩
  exact hs.elim
theorem V4.all {rd:Option Nat} {fr:Fr} {H0:A0} {Q:Exit→Fr→A0→Prop} (h:Pf P A nt ops ops.size (Array.replicate ops.size false) fr H0 (Q .normal)):V4 P nt rd ops fr H0 Q:=by
 intro r g w a _ hR hF;have sd:N0 g w g w.drew:=⟨fun _ _ e=>e,fun _ _ e=>e,fun _ _ e=>e,rfl,fun _ _ _=>rfl,(Below.refl _ _).drew,fun _ _ _=>rfl,Nat.le_succ _⟩
 have hRd:Rl g H0 w.drew:=by
  refine⟨fun id b hb=>(hR.blk id b hb).mono hb sd fun _ _=>⟨rfl,fun _ ho=>ho⟩,hR.inj,hR.frz,hR.nxt,hR.bnd,fun n=>(hR.glb n).mono sd⟩
 exact RH (r:=r) (g0:=g) (w0:=w) (fun g' w' a' fr' H' s' hR' hF' hK=>⟨g',fr',H',s',hR',hF',hK⟩) _ _ fr H0 h g w.drew a sd hRd (hF.mono sd)
end
end Go.Ab
namespace Go.Ab
open Go.RowKit
variable [G7][Ar]
def Yb :List Nat→(Nat→Prop)→Prop
 |[],_=>True
 |[i],f=>f i
 |i::l,f=>f i∧Yb l f
theorem Pd :∀{l:List Nat} {f:Nat→Prop},Yb l f→∀i∈l,f i
 |[],_,_,i,h=>by cases h
 |[a],f,h,i,hi=>by rw[List.mem_singleton.1 hi];exact h
 |a::b::l,f,h,i,hi=>by
  rcases List.mem_cons.1 hi with rfl|hi
  ·exact h.1
  exact Pd h.2 i hi
section
variable (E:Bm)(T:Cr)(nt:Nat)(A:Nat→Bool)(ops:Array Oper)
def WR (o:Oper)(l:Fl)(H:A0)(K:Fl→A0→Prop):Prop:=
 match Cj nt o.dst with
 |true=>Cz E ops o 4 l (fun G l' wr=>Tf E T A G o l' H fun s H'=>K (Af o.dst (wr s) l') H') fun l'=>K (Af o.dst (.v (.tup [])) l') H
 |false=>False
end
section
variable {P:Program}{nt:Nat}{rd:Option Nat}{T:Cr}{A:Nat→Bool}{df:List Nat}
end
end Go.Ab
