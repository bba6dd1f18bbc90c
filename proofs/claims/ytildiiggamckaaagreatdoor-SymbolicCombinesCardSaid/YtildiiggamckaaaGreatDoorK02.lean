/- . -/
import Derived.Test.YtildiiggamckaaaGreatDoorK01
import Derived.Laws.Runes
import Derived.Lib.SliceRun
import Derived.WalkSpells
import Derived.MapKept
import Derived.DeepKeys4
set_option linter.all false
namespace Go.Ab
open Go.RowKit
variable [L6]
section
variable {P:Program}{o:Oper}{fr:Fr}{H:A4}{K:V→A4→Prop}
def EI {H:A4} {tl:D2} {id:Nat} {b:Dh} (h:G0 H tl id=some b):H id=some b:=by
 cases tl with
 |tok t=>
  simp_all[G0,upd]
 |_=>exact h
theorem Rl.tok {g:Gh} {H:A4} {w w':World} (h:Rl g H w) {b e0 e lim:Nat} {c:Array Value} {T:TypeId} (hb:g.base≤b) (hrow:w'.heap[b]? =some (.cells c T (0,0))) (hlim:c.size=lim) (he:e≤lim)
 (hfree:∀o,e0≤o→¬g.fz b o) (he0:e0≤e) (hcell:∀b o,g.fz b o→w'.cell? ⟨b,o,none⟩=w.cell? ⟨b,o,none⟩) (hl:Below g.base w w') (hother:∀x,x≠b→x<w.heap.size→w'.heap[x]? =w.heap[x]?)
 (hown:∀id,g.at H id≠some b) (hdr:w.drawn≤w'.drawn:=by first|exact D3 _|exact DK _|exact Jz _ _):Rl (g.tok b e0 e lim) (upd H g.nx (some .spare)) w':=by
 have s:=U3.tok h b e0 e lim hcell hl hdr;have hnx:=h.nxt g.nx (D3 _)
 have hne:∀id,id≠g.nx→(g.tok b e0 e lim).at (upd H g.nx (some .spare)) id=g.at H id:=fun id hi=>
  MQ (C3 _ _ hi) rfl (by grind[Gh.tok])
 have hat:(g.tok b e0 e lim).at (upd H g.nx (some .spare)) g.nx=some b:=by simp_all[Gh.at,Gh.tok,upd]
 refine⟨fun id k hk=>?_,fun id id' x h1 h2=>?_,fun x o hf=>?_,fun id hi=>?_,?_,fun n=>(h.glb n).mono s⟩
 ·by_cases hi:id=g.nx
  ·subst hi;rw[D6]at hk;cases hk
   refine⟨b,e,lim,c,T,by simp[Gh.tok],hb,hrow,he,hlim,fun o ho hf=>?_⟩
   grind[Gh.tok]
  rw[C3 _ _ hi]at hk
  refine(h.blk id k hk).mono hk s fun x hx=>⟨hother x (fun e=>hown id (by rw[hx,e])) (h.lt hx),fun o ho=>?_⟩
  grind[Gh.tok]
 ·by_cases hi:id=g.nx<;>by_cases hi':id'=g.nx
  ·rw[hi,hi']
  ·simp_all
  ·simp_all
  rw[hne _ hi]at h1;rw[hne _ hi']at h2;exact h.inj _ _ _ h1 h2
 ·rcases hf with hf|⟨e',h1,h2⟩
  ·obtain⟨v,hv⟩:=h.frz x o hf
   simp_all
  subst e'
  have:o<c.size:=by omega
  exact⟨c[o],by simp[World.cell?,hrow,this]⟩
 ·have hi':g.nx≤id:=Hv hi
  have hne':id≠g.nx:=fun e=>by grind[Gh.tok]
  obtain⟨a1,a2,a3⟩:=h.nxt id hi'
  grind[Gh.tok,upd]
 grind[Gh.tok]
def FW {xs ys:List V}{i:Nat}:(xs++ys).getD i .bad=if i<xs.length then xs.getD i .bad else ys.getD (i-xs.length) .bad:=by
 grind
def Q3 {i j sz:Nat}(hj:j<sz):(i*sz+j) / sz=i∧(i*sz+j) % sz=j:=by
 have hp:0<sz:=by omega
 simp_all[Jh,Nat.add_mul_div_right,Nat.mod_eq_of_lt]
theorem Dm {i j n sz:Nat}(hi:i<n)(hj:j<sz):i*sz+j<n*sz:=by
 have:(i+1)*sz≤n*sz:=J7 _ hi
 rw[G5]at this
 omega
def LD {s y:Operand} {sT yT e:TypeId} {sz by_:Nat} {z:V} {xs ys:List V} {tl tl':D2} (ho:o.op= .call {callee:=.builtin .append,args:= #[s,y],argTypes:= #[sT,yT]})
 (hs:ev fr s= .sl xs tl) (hy:ev fr y= .sl ys tl') (he:EO P sT=some e) (hyT:(EO P yT).isSome=true) (hsz:Eh P e=some sz) (hpos:0<sz) (hby:Ny P e=some by_) (hbp:0<by_)
 (hz:HA P e=some z) (hz1:z.one=true) (hzl:z.cells.length=sz) (hA:EN H tl) (hax:xs.all (fun x=>x.cells.length==sz)=true) (hay:ys.all (fun x=>x.cells.length==sz)=true)
 (hbound:(xs.length+ys.length)*by_≤140737488355328) (h0:ys=[]→K (.sl xs tl) H)
 (h:∀t,ys≠[]→G0 H tl t=none→K (.sl (xs++ys) (.tok t)) (upd (G0 H tl) t (some .spare))):I7 P o fr H K:=by
 intro g w a hR hE;have hvs:=E6 hR hE s;have hvy:=E6 hR hE y
 rw[hs]at hvs;rw[hy]at hvy
 obtain⟨base,cap,fs,es,hcap,hfs,hrs,hbs⟩:=DW (P:=P) hvs hax;obtain⟨ybase,ycap,fy,ey,_,hfy,hry,hby'⟩:=DW (P:=P) hvy hay;have hu:=P0 he;obtain⟨e',hyT'⟩:=Option.isSome_iff_exists.1 hyT;have huy:=P0 hyT';obtain⟨zv,ez,hzv⟩:=CS hz
 have hzr:VR g w zv z:=by rw[ez];grind[DJ]
 have hzs:zv.cells.size=sz:=by rw[(hzr.cells hz1).1,hzl]
 have hbytes:∀w,(typeInfo e).run P w= .ok ((P.info? e).getD default) w∧((P.info? e).getD default).bytes=by_:=by
  intro w
  unfold Ny at hby
  cases hi:P.info? e with
  |none=>simp_all
  |some i=>simp[hi]at hby;simp[typeInfo,hi,hby]
 rw[P5 ho];simp only[builtin,Y3,G2,J3,B9,es,ey]
 have hn63':¬(IntKind.i64.max<((xs.length+ys.length:Nat):Int)∧(False∨by_=0)):=by
  grind
 have hbi:∀w,(typeInfo e).run P w= .ok ((P.info? e).getD default) w:=fun w=>(hbytes w).1;have hbb:=(hbytes w).2;have hR1:Rl g (G0 H tl) w:=hR.less fun id b hb=>EI hb
 have hlenx:∀i,i<xs.length→(xs.getD i .bad).cells.length=sz:=fun i hi=>by
  have:=(List.all_eq_true.1 hax) (xs.getD i .bad) (by simp_all)
  simp_all
 have hleny:∀i,i<ys.length→(ys.getD i .bad).cells.length=sz:=fun i hi=>by
  have:=(List.all_eq_true.1 hay) (ys.getD i .bad) (by simp_all)
  simp_all
 have hlenxy:∀i,i<xs.length+ys.length→((xs++ys).getD i .bad).cells.length=sz:=fun i hi=>by
  rw[FW];grind
 have hvals:∀(g':Gh) (w':World),U3 g w g' w'→∀i j,i<xs.length+ys.length→j<sz→(if i<xs.length then fs i j else fy (i-xs.length) j).oneCell'=true∧
  VR g' w' (if i<xs.length then fs i j else fy (i-xs.length) j) (((xs++ys).getD i .bad).cells.getD j .bad):=by
  intro g' w' st i j hi hj;rw[FW]
  split
  ·rename_i hlt;exact⟨(hfs i j hlt hj).1,(hfs i j hlt hj).2.mono st⟩
  exact⟨(hfy _ j (by omega) hj).1,(hfy _ j (by omega) hj).2.mono st⟩
 by_cases hc:xs.length+ys.length≤cap
 ·
  have hrun:∀w',(match base with|some a=>(storeCells (a.add (xs.length*sz)) ((List.range (ys.length*sz)).map fun k=>fy (k / sz) (k % sz))).run P w|none=>.ok () w)= .ok () w'→
   (Builtin.append_ #[sT,yT] o.type #[.slice base xs.length cap,.slice ybase ys.length ycap]).run P w= .ok (.slice base (xs.length+ys.length) cap) w':=by
   intro w' hw';have hry':=hry w fun _ _=>rfl
   rw[ey]at hry'
   simp only[Builtin.append_,B9,run_underlying hu,B7,O4 hsz,run_underlying huy,C4,Builtin.lenOf,V0,Q1,
    AN,Ai,E2,D7,V4,D1,A1 hc,hry']
   cases base with
   |none=>simp_all
   |some a=>simp_all
  by_cases hy0:ys=[]
  ·subst hy0
   have hst:(match base with|some a=>(storeCells (a.add (xs.length*sz)) ((List.range (([]:List V).length*sz)).map fun k=>fy (k / sz) (k % sz))).run P w|none=>.ok () w)= .ok () w:=by
    cases base<;>simp[storeCells]
   rw[hrun w hst];simp only[B7,C4,H6,V6,Bq,←es]
   grind[L4.here]
  have hylen:0<ys.length:=List.length_pos_iff.2 hy0
  rcases hbs with⟨hx0,hc0|hc0,_⟩|⟨b,q,hbase,hcell,_,sz',hsz',htl⟩
  ·omega
  ·subst hc0;exact hA.elim
  cases tl with
  |nil=>exact htl.elim
  |ro=>exact hA.elim
  |full=>grind[Gm]
  | tok t=>
   obtain⟨hn0,lim,ht1,ht2⟩:=htl;have:=hsz' hn0;subst this;have hA':H t=some .spare:=hA;obtain⟨b2,e2,lim2,c,T,k1,k2,k3,k4,k5,k6⟩:=hR.blk t _ hA'
   rw[ht1]at k1
   simp only[E8,AJ]at k1
   obtain⟨rfl,rfl,rfl⟩:=k1;have hcapsz:(xs.length+ys.length)*sz'≤cap*sz':=J7 _ hc;have hadd:(xs.length+ys.length)*sz'=xs.length*sz'+ys.length*sz':=G5 _ _ _
   have hmem:∀v∈((List.range (ys.length*sz')).map fun k=>fy (k / sz') (k % sz')),v.oneCell'=true:=by
    grind[Nat.div_lt_iff_lt_mul,Nat.mod_lt]
   have hst:=run_storeCells_at P b (q+xs.length*sz') T ((List.range (ys.length*sz')).map fun k=>fy (k / sz') (k % sz')) 0 c w k3 (by simp;omega) hmem;have hst':=hst
   rw[hbase]at hrun ⊢
   simp only[Y9]at hrun
   rw[hrun _ hst];simp only[B7,C4,H6]
   generalize hC:(c.toList.take (q+xs.length*sz'+0)++((List.range (ys.length*sz')).map fun k=>fy (k / sz') (k % sz'))++
    c.toList.drop (q+xs.length*sz'+0+((List.range (ys.length*sz')).map fun k=>fy (k / sz') (k % sz')).length)).toArray=C
   have hCs:C.size=c.size:=by rw[←hC];simp;omega
   have hCg:∀k,k<c.size→C[k]? =if k<q+xs.length*sz' then c[k]? else if k<q+xs.length*sz'+ys.length*sz' then some (fy ((k-(q+xs.length*sz')) / sz') ((k-(q+xs.length*sz')) % sz'))else c[k]? :=by
    intro k hk;rw[←hC];simp only[Bq,Q1,F6,N2,Ah];rw[Cq,Cq];simp only[Y4,Hy,Ju (show q+xs.length*sz'≤c.size by omega),Co,FL,Cr,N2,Ah,V8]
    by_cases q1:k<q+xs.length*sz'
    ·rw[A1 q1,A1 q1,A1 q1]
    rw[A3 q1,A3 q1]
    by_cases q2:k<q+xs.length*sz'+ys.length*sz'
    ·rw[A1 (by omega),A1 q2,FM (by omega)];rfl
    rw[A3 (by omega),A3 q2,show q+xs.length*sz'+ys.length*sz'+(k-(q+xs.length*sz')-ys.length*sz')=k by omega]
   have hnown:∀id,g.at (G0 H (.tok t)) id≠some b:=by
    intro id hid
    have hat:g.at H t=some b:=by simp_all[Gh.at]
    by_cases hid':id=t
    ·simp_all[Gh.at,G0,D6]
    have:g.at H id=some b:=by simp_all[Gh.at,G0,C3]
    exact hid' (hR.inj _ _ _ this hat)
   have hcellp:∀x o,g.fz x o→(w.setRow b C).cell? ⟨x,o,none⟩=w.cell? ⟨x,o,none⟩:=by
    intro x o hf
    by_cases hx:x=b
    ·subst hx
     have ho:o<q+xs.length*sz':=by
      grind
     have hw':(w.setRow x C).heap[x]? =some (.cells C T (0,0)):=setRow_heap w x c C T (0,0) k3;simp only[World.cell?,hw',k3,EQ,E2,D7];rw[hCg o (by omega),A1 ho]
    grind[Ce]
   have hbel:Below g.base w (w.setRow b C):=GC w b C k2
   have hRn:=Rl.tok (e0:=q+xs.length*sz') (e:=q+(xs.length+ys.length)*sz') (lim:=c.size) hR1 k2 (setRow_heap w b c C T (0,0) k3) hCs (by omega) k6 (by omega) hcellp hbel
    (fun x hx _=>P1 w b C x hx) hnown
   have hStp:=U3.tok hR1 b (q+xs.length*sz') (q+(xs.length+ys.length)*sz') c.size hcellp hbel;refine⟨_,_,_,hStp,hRn,?_,h g.nx hy0 (hR1.nxt _ (D3 _)).2.2⟩
   refine .sl (sz:=sz') (fun i j=>if i<xs.length then fs i j else fy (i-xs.length) j) (by simp) hc (fun i hi=>hlenxy i hi) (fun i j hi hj=>?_) (fun i j hi hj=>?_)
    (fun i j hi hj=>(hvals _ _ hStp i j hi hj).1) (fun i j hi hj=>(hvals _ _ hStp i j hi hj).2) ?_
   ·grind[Gh.tok,Nat.mul_le_mul_right,Dm]
   ·have h2:=Dm hi hj;have hw':(w.setRow b C).heap[b]? =some (.cells C T (0,0)):=setRow_heap w b c C T (0,0) k3
    by_cases hix:i<xs.length
    ·rw[A1 hix]
     simp_all
    rw[A3 hix];have h1:xs.length*sz'≤i*sz':=J7 _ (by omega);have h3:(i-xs.length)*sz'=i*sz'-xs.length*sz':=Bl _ _ _;simp only[World.cell?,hw',EQ,E2,D7];rw[hCg _ (by omega),A3 (by omega),A1 (by omega)];rw[show q+i*sz'+j-(q+xs.length*sz')=(i-xs.length)*sz'+j by omega,(Q3 hj).1,(Q3 hj).2]
   refine⟨by omega,c.size,?_,by omega⟩;simp[Gh.tok]
 have hnf:¬(2 ^ 48<Builtin.nextslicecap (xs.length+ys.length) cap*by_):=by
  have:=growslice_fits (Hr hc) hbound;omega
 have hdr:∀b o,w.drew.cell? ⟨b,o,none⟩=w.cell? ⟨b,o,none⟩:=fun _ _=>rfl;generalize hG:grownCap w (xs.length+ys.length) cap e=G
 have hGe:xs.length+ys.length≤G:=by rw[←hG];grind[grownCap_ge]
 have hrun:(Builtin.append_ #[sT,yT] o.type #[.slice base xs.length cap,.slice ybase ys.length ycap]).run P w=
  .ok (.slice (some ⟨w.heap.size,0,none⟩) (xs.length+ys.length) G)
   (w.drew.alloc (.cells (((List.range (xs.length*sz)).map fun k=>fs (k / sz) (k % sz)).toArray++((List.range (ys.length*sz)).map fun k=>fy (k / sz) (k % sz)).toArray++
    Builtin.zeroCells zv.cells (G-(xs.length+ys.length))) e)):=by
  have hGd:(Question.appendCap (xs.length+ys.length) cap e).cut (w.tape w.drawn (.appendCap (xs.length+ys.length) cap e))=G:=hG;have hf:(Question.appendCap (xs.length+ys.length) cap e).forced=false:=rfl;have hrs':=hrs w.drew hdr;have hry':=hry w.drew hdr
  rw[es]at hrs';rw[ey]at hry'
  simp only[Builtin.append_,B9,run_underlying hu,B7,O4 hsz,run_underlying huy,C4,Builtin.lenOf,V0,hbi,hbb,Q1,
   AN,Ai,E2,D7,V4,D1,gt_iff_lt,false_or,A3 hc,A3 hnf,run_choose,hf,hGd,Hl,run_askRoom,hrs',hry',hzv,newRow,run_newObj,
   DN,Hp]
  rw[A3 (by omega)]
 rw[hrun];simp only[B7,C4,H6];generalize hC:((List.range (xs.length*sz)).map fun k=>fs (k / sz) (k % sz)).toArray++((List.range (ys.length*sz)).map fun k=>fy (k / sz) (k % sz)).toArray++Builtin.zeroCells zv.cells (G-(xs.length+ys.length))=C;have hadd:(xs.length+ys.length)*sz=xs.length*sz+ys.length*sz:=G5 _ _ _
 have hCs:C.size=G*sz:=by
  rw[←hC];simp only[JD,FK,N2,Ah,size_zeroCells,hzs,Bl];have:(xs.length+ys.length)*sz≤G*sz:=J7 _ hGe;omega
 have hGs:(xs.length+ys.length)*sz≤G*sz:=J7 _ hGe
 have hCg:∀k,k<(xs.length+ys.length)*sz→C[k]? =some (if k<xs.length*sz then fs (k / sz) (k % sz)else fy ((k-xs.length*sz) / sz) ((k-xs.length*sz) % sz)):=by
  grind
 have hcellp:∀x o,g.fz x o→(w.drew.alloc (.cells C e)).cell? ⟨x,o,none⟩=w.cell? ⟨x,o,none⟩:=fun x o hf=>CM (w:=w.drew) (hR.fz_lt hf);have hbel:Below g.base w (w.drew.alloc (.cells C e)):=(U8 _ _).drew.alloc hR.bnd _
 have hnown:∀id,g.at (G0 H tl) id≠some w.heap.size:=fun id hid=>absurd (hR1.lt hid) (R5 _)
 have hRn:=Rl.tok (e0:=0) (e:=(xs.length+ys.length)*sz) (lim:=G*sz) hR1 hR.bnd (AE (w:=w.drew) (o:=.cells C e)) hCs hGs (fun o _ hf=>absurd (hR.fz_lt hf) (R5 _)) (Cv _) hcellp hbel
  (fun x hx hlt=>heap_alloc (w:=w.drew) hlt) hnown
 have hStp:=U3.tok hR1 w.heap.size 0 ((xs.length+ys.length)*sz) (G*sz) hcellp hbel
 have hy0:ys≠[]:=by
  grind
 refine⟨_,_,_,hStp,hRn,?_,h g.nx hy0 (hR1.nxt _ (D3 _)).2.2⟩;have hylen:0<ys.length:=List.length_pos_iff.2 hy0
 refine .sl (sz:=sz) (fun i j=>if i<xs.length then fs i j else fy (i-xs.length) j) (by simp) hGe (fun i hi=>hlenxy i hi) (fun i j hi hj=>.inr ⟨rfl,Cv _,by have:=Dm hi hj;omega⟩) (fun i j hi hj=>?_)
  (fun i j hi hj=>(hvals _ _ hStp i j hi hj).1) (fun i j hi hj=>(hvals _ _ hStp i j hi hj).2) ?_
 ·have h2:=Dm hi hj;rw[show(⟨w.heap.size,0+i*sz+j,none⟩:Addr)=⟨w.drew.heap.size,i*sz+j,none⟩ by simp];rw[MO (w:=w.drew),hCg _ h2]
  congr 1
  by_cases hix:i<xs.length
  ·have h3:=Dm hix hj;rw[A1 h3,A1 hix,(Q3 hj).1,(Q3 hj).2]
  have h1:xs.length*sz≤i*sz:=J7 _ (by omega);have h3:(i-xs.length)*sz=i*sz-xs.length*sz:=Bl _ _ _;rw[A3 (by omega),A3 hix,show i*sz+j-xs.length*sz=(i-xs.length)*sz+j by omega,(Q3 hj).1,(Q3 hj).2]
 refine⟨by omega,G*sz,?_,by simp⟩;simp[Gh.tok]
end
mutual
inductive BV :V→V→Prop
 |refl (x:V):BV x x
 |ro (xs:List V) (t:D2):BV (.sl xs t) (.sl xs .ro)
 |sl {xs ys:List V} (t:D2):L5 xs ys→BV (.sl xs t) (.sl ys .ro)
 |slt {xs ys:List V} (t:D2):L5 xs ys→BV (.sl xs t) (.sl ys t)
 |sub {cs:List V} {d sz:Nat} (h:d+sz≤cs.length):BV (.eref cs d) (.eref ((cs.drop d).take sz) 0)
 |agg {xs ys:List V}:L5 xs ys→BV (.agg xs) (.agg ys)
 |tup {xs ys:List V}:L5 xs ys→BV (.tup xs) (.tup ys)
inductive L5 :List V→List V→Prop
 |nil:L5 [] []
 |cons {x y:V} {xs ys:List V}:BV x y→L5 xs ys→L5 (x::xs) (y::ys)
end
theorem L5.refl:∀xs:List V,L5 xs xs
 |[]=>.nil
 |x::xs=>.cons (.refl x) (.refl xs)
def L5.length:∀{xs ys:List V},L5 xs ys→xs.length=ys.length
 |_,_,.nil=>rfl
 |_,_,.cons _ h=>by simp[L5.length h]
theorem L5.at:∀{xs ys:List V},L5 xs ys→∀i:Nat,BV (xs.getD i .bad) (ys.getD i .bad)
 |_,_,.nil,i=>by simp;exact .refl _
 |_,_,.cons h _,0=>by grind
 |_,_,.cons _ h,i+1=>by simpa using L5.at h i
theorem BV.cells {x y:V}(h:BV x y):L5 x.cells y.cells:=by
 cases h with
 |refl=>exact .refl _
 |ro=>exact .cons (.ro _ _) .nil
 |sl t h=>exact .cons (.sl t h) .nil
 |slt t h=>exact .cons (.slt t h) .nil
 |sub h=>exact .cons (.sub h) .nil
 |agg h=>exact h
 |tup h=>exact .cons (.tup h) .nil
theorem BV.one {x y:V}(h:BV x y)(hx:x.one=true):y.one=true:=by
 cases h<;>first|exact hx|rfl|cases hx
theorem VR.le {g:Gh} {w:World} {v:Value} {x:V} (h:VR g w v x):∀{y:V},BV x y→VR g w v y:=by
 induction h with
 |sl0 ht=>
  intro y k
  cases k with
  |refl=>exact .sl0 ht
  |ro=>exact .sl0 rfl
  |sl t hs=>cases hs;exact .sl0 rfl
  |slt t hs=>cases hs;exact .sl0 ht
 |sle ht=>
  intro y k
  cases k with
  |refl=>exact .sle ht
  |ro=>exact .sle (.inl rfl)
  |sl t hs=>cases hs;exact .sle (.inl rfl)
  |slt t hs=>cases hs;exact .sle ht
 | sl vs hn hc hz hf hw h1 hv ht ih=>
  rename_i b o sz n cap xs t;intro y k
  cases k with
  |refl=>exact .sl vs hn hc hz hf hw h1 hv ht
  |ro=>exact .sl vs hn hc hz hf hw h1 hv trivial
  |sl t hs=>
   refine .sl vs (hs.length▸hn) hc (fun i hi=>?_) hf hw h1 (fun i j hi hj=>ih i j hi hj ((hs.at i).cells.at j)) trivial;rw[←(hs.at i).cells.length];grind
  |slt t hs=>
   refine .sl vs (hs.length▸hn) hc (fun i hi=>?_) hf hw h1 (fun i j hi hj=>ih i j hi hj ((hs.at i).cells.at j)) ht;rw[←(hs.at i).cells.length];grind
 |agg hl h1 hv ih=>
  intro y k
  cases k with
  |refl=>exact .agg hl h1 hv
  |agg hs=>exact .agg (hl.trans hs.length) (fun i hi=>h1 i (hs.length▸hi)) fun i hi=>ih i (hs.length▸hi) (hs.at i)
 |tup hl hv ih=>
  intro y k
  cases k with
  |refl=>exact .tup hl hv
  |tup hs=>exact .tup (hl.trans hs.length) fun i hi=>ih i (hs.length▸hi) (hs.at i)
 |bad v=>intro y k;cases k;exact .bad v
 |bool b=>intro y k;cases k;exact .bool b
 |int k n=>intro y k';cases k';exact .int k n
 |str s=>intro y k;cases k;exact .str s
 |nilp=>intro y k;cases k;exact .nilp
 |nilf=>intro y k;cases k;exact .nilf
 |nili=>intro y k;cases k;exact .nili
 |nilmap=>intro y k;cases k;exact .nilmap
 |map h=>intro y k;cases k;exact .map h
 |fmap hb hw hk hn hl hv ih=>intro y k;cases k;exact .fmap hb hw hk hn hl hv
 |ref h=>intro y k;cases k;exact .ref h
 |own h h0 h1 h2 hp=>intro y k;cases k;exact .own h h0 h1 h2 hp
 |elem h hs=>intro y k;cases k;exact .elem h hs
 | eref vs hf hw h1 hv ih=>
  rename_i b o off cs;intro y k
  cases k with
  |refl=>exact .eref vs hf hw h1 hv
  | sub hd=>
   rename_i sz
   have hl:((cs.drop off).take sz).length=sz:=by simp;omega
   have hg:∀j,j<sz→((cs.drop off).take sz).getD j .bad=cs.getD (off+j) .bad:=fun j hj=>by
    grind
   have:=VR.eref (g:=g) (w:=w) (b:=b) (o:=o+off) (off:=0) (cs:=(cs.drop off).take sz) (fun j=>vs (off+j)) (fun j hj=>by rw[hl]at hj;have:=hf (off+j) (by omega);rwa[←Br]at this)
    (fun j hj=>by rw[hl]at hj;have:=hw (off+j) (by omega);rwa[←Br]at this) (fun j hj=>by rw[hl]at hj;grind) (fun j hj=>by rw[hl]at hj;rw[hg j hj];grind)
   rwa[Bq]at this
 |func hl hv hl' hv' ih ih'=>intro y k;cases k;exact .func hl hv hl' hv'
 |yield h=>intro y k;cases k;exact .yield h
 |iface h ih=>intro y k;cases k;exact .iface h
def L5.sz {sz:Nat}:∀{xs ys:List V},L5 xs ys→ys.all (fun x=>x.cells.length==sz)=true→xs.all (fun x=>x.cells.length==sz)=true
 |_,_,.nil,_=>rfl
 |_,_,.cons h k,ha=>by
  simp only[List.all_cons,H7]at ha ⊢
  exact⟨by rw[h.cells.length];exact ha.1,L5.sz k ha.2⟩
def L5.append:∀{xs ys xs' ys':List V},L5 xs xs'→L5 ys ys'→L5 (xs++ys) (xs'++ys')
 |_,_,_,_,.nil,k=>k
 |_,_,_,_,.cons h k,k'=>.cons h (L5.append k k')
def Gh.own (g:Gh)(b:Nat)(hd:Hd):Gh:=
 {g with mu:=fun x=>if x=g.nx then some b else g.mu x,ow:=fun x=>if x=g.nx then hd else g.ow x,nx:=g.nx+1}
theorem U3.own {g:Gh}{H:A4}{w w':World}(h:Rl g H w)(b:Nat)(hd:Hd)(hc:∀b o,g.fz b o→w'.cell? ⟨b,o,none⟩=w.cell? ⟨b,o,none⟩)(hl:Below g.base w w')(hdr:w.drawn≤w'.drawn:=by first|exact Nat.le_refl _|exact Nat.le_succ _|exact Nat.le_add_right _ _):U3 g w (g.own b hd) w':=by
 have hn:=(h.nxt _ (D3 _)).1;refine⟨fun id b e=>?_,fun t x e=>e,fun _ _ e=>e,rfl,hc,hl,fun id b e=>?_,hdr⟩
 ·grind[Gh.own]
 grind[Gh.own]
def Rl.newArr {g:Gh} {H:A4} {w w':World} (h:Rl g H w) {b o sz:Nat} {ys:List V} (hz:∀i,i<ys.length→(ys.getD i .bad).cells.length=sz)
 (hcell:∀b o,g.fz b o→w'.cell? ⟨b,o,none⟩=w.cell? ⟨b,o,none⟩) (hl:Below g.base w w') (hother:∀x,(ys.length=0∨x≠b)→x<w.heap.size→w'.heap[x]? =w.heap[x]?)
 (hb:ys.length=0∨∃c T,g.base≤b∧w'.heap[b]? =some (.cells c T (0,0))∧o+ys.length*sz≤c.size∧
  (∀i j,i<ys.length→j<sz→(c.getD (o+i*sz+j) undef).oneCell'=true∧VR g w (c.getD (o+i*sz+j) undef) ((ys.getD i .bad).cells.getD j .bad))∧
  (∀q,o≤q→¬g.fz b q)∧∀id,g.at H id≠some b) (hdr:w.drawn≤w'.drawn:=by first|exact D3 _|exact DK _|exact Jz _ _):
 U3 g w (g.own b ⟨o,ys.length,sz⟩) w'∧Rl (g.own b ⟨o,ys.length,sz⟩) (upd H g.nx (some (.arr sz ys))) w'∧H g.nx=none:=by
 have s:=U3.own h b ⟨o,ys.length,sz⟩ hcell hl hdr;have hnx:=h.nxt g.nx (D3 _)
 generalize hG:g.own b ⟨o,ys.length,sz⟩=g' at s ⊢
 have em:∀x,g'.mu x=if x=g.nx then some b else g.mu x:=fun x=>by rw[←hG];rfl
 have eo:∀x,g'.ow x=if x=g.nx then⟨o,ys.length,sz⟩else g.ow x:=fun x=>by rw[←hG];rfl
 have et:g'.tk=g.tk:=by rw[←hG];rfl
 have ef:g'.fz=g.fz:=by rw[←hG];rfl
 have en:g'.nx=g.nx+1:=by rw[←hG];rfl
 have eb:g'.base=g.base:=by rw[←hG];rfl
 have hne:∀id,id≠g.nx→g'.at (upd H g.nx (some (.arr sz ys))) id=g.at H id:=fun id hi=>
  MQ (C3 _ _ hi) (by rw[em,A3 hi]) (by rw[et]) (by rw[eo,A3 hi])
 have hat:g'.at (upd H g.nx (some (.arr sz ys))) g.nx=if ys.length=0 then none else some b:=by grind[Gh.at,upd]
 refine⟨s,⟨fun id k hk=>?_,fun id id' x h1 h2=>?_,fun x q hf=>?_,fun id hi=>?_,?_,fun n=>(h.glb n).mono s⟩,hnx.2.2⟩
 ·by_cases hi:id=g.nx
  ·subst hi;rw[D6]at hk;cases hk
   refine⟨b,by rw[em,A1 rfl],?_⟩;rw[eo,A1 rfl];refine⟨rfl,rfl,hz,hb.imp (fun h=>h) fun⟨c,T,k1,k2,k3,k4,k5,k6⟩=>⟨c,T,by rw[eb];exact k1,k2,k3,fun i j hi hj=>⟨(k4 i j hi hj).1,(k4 i j hi hj).2.mono s⟩,by rw[ef];exact k5⟩⟩
  rw[C3 _ _ hi]at hk
  refine(h.blk id k hk).mono hk s fun x hx=>⟨hother x ?_ (h.lt hx),fun q hq=>by rw[ef]at hq;exact hq⟩
  grind
 ·have hx:∀id,g'.at (upd H g.nx (some (.arr sz ys))) g.nx=some x→g.at H id=some x→False:=fun id h1 h2=>by
   rw[hat]at h1
   grind
  by_cases hi:id=g.nx<;>by_cases hi':id'=g.nx
  ·rw[hi,hi']
  ·simp_all
  ·simp_all
  rw[hne _ hi]at h1;rw[hne _ hi']at h2;exact h.inj _ _ _ h1 h2
 ·rw[ef]at hf
  obtain⟨v,hv⟩:=h.frz x q hf
  simp_all
 ·rw[en]at hi
  have hi':g.nx≤id:=Hv hi
  have hne':id≠g.nx:=fun e=>by omega
  obtain⟨a1,a2,a3⟩:=h.nxt id hi'
  simp_all[upd]
 have:=h.bnd;have:=hl.size;rw[eb];omega
def Rl.setArr {g:Gh} {H:A4} {w:World} (h:Rl g H w) {id b sz:Nat} {xs ys:List V} {c c':Array Value} {T:TypeId} (hk:H id=some (.arr sz xs)) (hb:g.mu id=some b) (hc0:xs.length≠0)
 (hw:w.heap[b]? =some (.cells c T (0,0))) (hsz:c'.size=c.size) (hlo:∀o,o<(g.ow id).o→c'[o]? =c[o]?) (hl:ys.length=xs.length) (hz:∀i,i<ys.length→(ys.getD i .bad).cells.length=sz)
 (hv:∀i j,i<ys.length→j<sz→(c'.getD ((g.ow id).o+i*sz+j) undef).oneCell'=true∧VR g w (c'.getD ((g.ow id).o+i*sz+j) undef) ((ys.getD i .bad).cells.getD j .bad)):
 U3 g w g (w.setRow b c')∧Rl g (upd H id (some (.arr sz ys))) (w.setRow b c'):=by
 obtain⟨b',h1,hs,h2,h4,h6⟩:=h.blk id _ hk
 have e:b'=b:=by rw[hb]at h1;simp_all
 subst e
 rcases h6 with h6|⟨c0,T0,k1,k2,k3,k4,k5⟩
 ·omega
 rw[hw]at k2
 have e2:c0=c:=by grind
 subst e2;have hrow:=setRow_heap w b' c0 c' T (0,0) hw
 have s:U3 g w g (w.setRow b' c'):=by
  refine⟨fun _ _ e=>e,fun _ _ e=>e,fun _ _ e=>e,rfl,fun b o hf=>?_,GC w b' c' k1,fun _ _ _=>rfl,D3 _⟩
  by_cases e:b=b'
  ·subst e
   have ho:o<(g.ow id).o:=by
    grind
   simp only[World.cell?,hrow,hw,EQ,E2,D7]
   grind
  grind[Ce]
 have hat:∀x,g.at (upd H id (some (.arr sz ys))) x=g.at H x:=by
  grind[Gh.at,upd]
 have hid:g.at H id=some b':=by simp_all[Gh.at]
 refine⟨s,fun x k hx=>?_,fun x x' y h1 h2=>h.inj x x' y (hat x▸h1) (hat x'▸h2),fun y o hf=>?_,fun x hx=>?_,?_,fun n=>(h.glb n).mono s⟩
 ·by_cases hxe:x=id
  ·subst hxe;rw[D6]at hx;cases hx
   exact⟨b',hb,hs,h2.trans hl.symm,hz,.inr ⟨c',T,k1,hrow,by rw[hl];omega,fun i j hi hj=>⟨(hv i j hi hj).1,(hv i j hi hj).2.mono s⟩,k5⟩⟩
  rw[C3 _ _ hxe]at hx
  refine(h.blk x k hx).mono hx s fun y hy=>⟨P1 w b' c' y fun e=>?_,fun _ ho=>ho⟩;subst e;exact hxe (h.inj _ _ _ hy hid)
 ·obtain⟨v,hv'⟩:=h.frz y o hf;exact⟨v,(s.cell y o hf).trans hv'⟩
 ·obtain⟨a1,a2,a3⟩:=h.nxt x hx
  have hne:x≠id:=fun e=>by simp_all
  simp_all[upd]
 grind
def L9 (xs:List V)(lo n:Int):List V:=(xs.drop lo.toNat).take n.toNat
def Rl.freezeArr' {g:Gh} {H:A4} {w:World} (h:Rl g H w) {id sz:Nat} {xs:List V} (hk:H id=some (.arr sz xs)):
 ∃g',(g'.mu=g.mu∧g'.tk=g.tk∧g'.ow=g.ow)∧U3 g w g' w∧Rl g' (upd H id none) w∧∀v lo n,VR g' w v (.own id lo n)→VR g' w v (.sl (L9 xs lo n) .ro):=by
 obtain⟨b,h1,hs,h2,h4,h6⟩:=h.blk id _ hk
 by_cases hc:xs.length=0
 ·have hx:xs=[]:=List.length_eq_zero_iff.1 hc;refine⟨g,⟨rfl,rfl,rfl⟩,U3.refl _ _,h.less fun x k hx=>?_,fun v lo n hv=>?_⟩
  ·simp_all[upd]
  subst hx
  cases hv with
  |own hm h0 h1' h2' hp=>
   rename_i p
   have e1:lo=0:=by omega
   have e2:n=0:=by omega
   subst e1;subst e2;rw[show(g.ow id).cap=0 by omega]
   cases p with
   |none=>exact .sl0 rfl
   |some a=>exact .sle (.inl rfl)
 rcases h6 with h6|⟨c,T,k1,k2,k3,k4,k5⟩
 ·omega
 let g':Gh:={g with fz:=fun x o=>g.fz x o∨(x=b∧o<c.size)}
 have s:U3 g w g' w:=⟨fun _ _ e=>e,fun _ _ e=>e,fun _ _ e=>.inl e,rfl,fun _ _ _=>rfl,U8 _ _,fun _ _ _=>rfl,D3 _⟩
 have hid:g.at H id=some b:=by simp_all[Gh.at]
 have hcell:∀o,w.cell? ⟨b,o,none⟩=c[o]? :=fun o=>by simp[World.cell?,k2]
 have hat:∀x y,g'.at (upd H id none) x=some y→x≠id∧g.at H x=some y:=by
  grind[Gh.at,upd]
 have hlt:∀i j,i<xs.length→j<sz→(g.ow id).o+i*sz+j<c.size:=fun i j hi hj=>by
  have e1:=Dm (n:=xs.length) hi hj;omega
 refine⟨g',⟨rfl,rfl,rfl⟩,s,⟨fun x k hx=>?_,fun x x' y h1 h2=>h.inj _ _ _ (hat _ _ h1).2 (hat _ _ h2).2,fun y o hf=>?_,fun x hx=>?_,h.bnd,fun n=>(h.glb n).mono s⟩,fun v lo n hv=>?_⟩
 ·have hxe:x≠id:=fun e=>by simp_all[upd]
  rw[C3 _ _ hxe]at hx
  refine(h.blk x k hx).mono hx s fun y hy=>⟨rfl,fun o ho=>?_⟩
  rcases ho with ho|⟨e,_⟩
  ·exact ho
  subst e;exact absurd (h.inj _ _ _ hy hid) hxe
 ·rcases hf with hf|⟨e,ho⟩
  ·exact h.frz y o hf
  simp_all
 ·obtain⟨a1,a2,a3⟩:=h.nxt x hx
  have hne:x≠id:=fun e=>by simp_all
  grind[upd]
 have hsub:∀i,i<n.toNat→(L9 xs lo n).getD i .bad=xs.getD (lo.toNat+i) .bad:=fun i hi=>by
  simp_all[L9]
 cases hv with
 | own hm h0 h1' h2' hp=>
  rename_i b' p;have hm':g.mu id=some b':=hm
  rw[h1]at hm';cases hm'
  have h2'':lo+n≤((g.ow id).cap:Nat):=h2'
  have hsl:(L9 xs lo n).length=n.toNat:=by grind[L9]
  show VR g' w (.slice p n.toNat ((g.ow id).cap-lo.toNat)) _
  by_cases hn:n=0
  ·subst hn
   have e0:L9 xs lo 0=[]:=by simp[L9]
   rw[e0]
   cases p with
   |none=>
    have:¬(lo<((g.ow id).cap:Nat)):=fun hlt=>by have:=hp hlt;cases this
    rw[show(g.ow id).cap-lo.toNat=0 by omega];exact .sl0 rfl
   |some a=>exact .sle (.inl rfl)
  have hlt2:lo<((g.ow id).cap:Nat):=by omega
  have hpe:=hp hlt2;rw[hpe];have hpe':(g'.ow id)=g.ow id:=rfl;rw[hpe',hs]
  refine .sl (sz:=sz) (fun i j=>c.getD ((g.ow id).o+(lo.toNat+i)*sz+j) undef) hsl (by omega) (fun i hi=>by rw[hsub i hi];grind) (fun i j hi hj=>?_) (fun i j hi hj=>?_)
   (fun i j hi hj=>(k4 _ j (by omega) hj).1) (fun i j hi hj=>by rw[hsub i hi];exact(k4 _ j (by omega) hj).2.mono s) trivial
  ·have:=hlt (lo.toNat+i) j (by omega) hj
   rw[G5]at this
   omega
  rw[hcell];have:=hlt (lo.toNat+i) j (by omega) hj
  rw[G5]at this ⊢
  rw[show(g.ow id).o+lo.toNat*sz+i*sz+j=(g.ow id).o+(lo.toNat*sz+i*sz)+j by omega]
  simp_all
def Rl.freezeArr {g:Gh}{H:A4}{w:World}(h:Rl g H w){id sz:Nat}{xs:List V}(hk:H id=some (.arr sz xs)):
 ∃g',U3 g w g' w∧Rl g' (upd H id none) w∧∀v lo n,VR g' w v (.own id lo n)→VR g' w v (.sl (L9 xs lo n) .ro):=
 let⟨g',_,h⟩:=h.freezeArr' hk;⟨g',h⟩
def Hh (H:A4)(id:Nat):Option (Nat×List V):=
 match H id with
 |some (.arr sz xs)=>some (sz,xs)
 |_=>none
def Fj {H:A4}{id sz:Nat}{xs:List V}(h:Hh H id=some (sz,xs)):H id=some (.arr sz xs):=by
 grind[Hh]
def Ao9 (P:Program)(_H:A4)(t:TypeId)(v:V):Option V:=
 match EO P t,v with
 |some _,.own _ _ n=>some (.int .i64 n)
 |_,_=>none
def Ws (P:Program) (H:A4) (t:TypeId) (v:V) (i:Int):Option V:=
 match EO P t,v with
 |some e,.own id lo n=>
  match Hh H id with
  |some (sz,_)=>if(0≤i∧i<n)∧Eh P e=some sz then some (.elem id (lo+i) sz 0)else none
  |none=>none
 |_,_=>none
def Lp (P:Program) (H:A4) (t:TypeId) (v:V):Option V:=
 match Vq P t,Eh P t,v with
 |some ag,some sz,.elem id i _ off=>
  match Hh H id with
  |some (_,xs)=>if 0≤i∧i<xs.length then Gr ag sz (xs.getD i.toNat .bad).cells off else none
  |none=>none
 |_,_,_=>none
def Sz (x:V)(esz sz off:Nat)(y:V):V:=
 match Nat.beq off 0&&Nat.beq sz esz with
 |true=>y
 |false=>.agg (T5 x.cells off y.cells)
def Sh (P:Program) (H:A4) (t:TypeId) (v y:V):Option A4:=
 match Eh P t,v with
 | some sz,.elem id i esz off=>
  match Hh H id with
  |some (sz',xs)=>
   if(0≤i∧i<xs.length)∧sz'=esz∧y.one=true∧y.cells.length=sz∧off+sz≤esz then some (upd H id (some (.arr esz (xs.set i.toNat (Sz (xs.getD i.toNat .bad) esz sz off y)))))else none
  |none=>none
 |_,_=>none
def VX {x y:V}{esz sz off:Nat}(hx:x.cells.length=esz)(hy:y.cells.length=sz)(h:off+sz≤esz):(Sz x esz sz off y).cells=T5 x.cells off y.cells:=by
 unfold Sz
 split
 ·simp_all[T5]
 rfl
section
variable {P:Program}{o:Oper}{fr:Fr}{H:A4}{K:V→A4→Prop}
theorem ZW {y:Operand} {t:TypeId} {x:V} (ho:o.op= .call {callee:=.builtin .len,args:= #[y],argTypes:= #[t]}) (hl:Ao9 P H t (ev fr y)=some x) (h:K x H):I7 P o fr H K:=by
 intro g w a hR hE;have hv:=E6 hR hE y;rw[P5 ho];simp only[builtin,Y3,G2,J3,B9]
 unfold Ao9 at hl
 split at hl
 ·rename_i e id lo n hse he
  rw[he]at hv
  cases hl;have hu:=P0 hse
  generalize a.eval y=v at hv
  cases hv with
  |own hm h0 h1 h2 hp=>
   simp[Builtin.len_,run_underlying hu,goInt];rw[show(max n 0:Int)=n by omega];exact L4.here hR (.int _ _) h
 cases hl
theorem ZX {t:TypeId} {y z:Operand} {k:IntKind} {i:Int} {x:V} (ho:o.op= .indexAddr t y z) (hz:ev fr z= .int k i) (hl:Ws P H t (ev fr y) i=some x) (h:K x H):I7 P o fr H K:=by
 intro g w a hR hE;have hv:=E6 hR hE y;have hi:=E6 hR hE z
 rw[hz]at hi
 have hi:=hi.int_inv
 unfold Ws at hl
 split at hl
 ·rename_i e id lo n hse he
  rw[he]at hv
  split at hl
  ·rename_i sz xs hx
   split at hl
   ·rename_i hc;cases hl;obtain⟨b',k1,hs,k2,k3,k4⟩:=hR.blk id _ (Fj hx);have hu:=P0 hse
    generalize hav:a.eval y=v at hv
    cases hv with
    |own hm h0 h1 h2 hp=>
     have hlt:lo<((g.ow id).cap:Nat):=by omega
     have hpe:=hp hlt;subst hpe;unfold execOp;rw[ho];have c1:=hc.1.1
     have c2:i<(n.toNat:Int):=by omega
     simp only[hav,hi,Instr.indexAt,asIntOf,B9,C4,B7,run_underlying hu,c1,c2,and_self,D1,O4 hc.2,H6,Y9];refine L4.here hR ?_ h;have:=VR.elem (g:=g) (w:=w) (i:=lo+i) (off:=0) hm hs;rw[hs]
     rw[show(lo+i).toNat=lo.toNat+i.toNat by omega,G5,Bq,←Br]at this
     exact this
   cases hl
  cases hl
 cases hl
theorem Yd {t:TypeId} {y:Operand} {x:V} (ho:o.op= .load t y) (hl:Lp P H t (ev fr y)=some x) (h:K x H):I7 P o fr H K:=by
 intro g w a hR hE;have hv:=E6 hR hE y
 unfold Lp at hl
 split at hl
 ·rename_i ag sz id i esz off ha hs he
  rw[he]at hv
  split at hl
  ·rename_i sz0 xs hx
   split at hl
   ·rename_i hc
    generalize hav:a.eval y=v at hv
    cases hv with
    | elem hm hsz=>
     rename_i b;obtain⟨b',h1,hs0,h2,h4,h6⟩:=hR.blk id _ (Fj hx)
     rw[hm]at h1;cases h1
     subst hs0
     have hlt:i.toNat<xs.length:=by omega
     rcases h6 with h6|⟨c,T,k1,k2,k3,k4,k5⟩
     ·omega
     have hcells:Ti g w b ((g.ow id).o+i.toNat*(g.ow id).sz) (xs.getD i.toNat .bad).cells:=fun j hj=>by
      have hj':j<(g.ow id).sz:=by rw[←h4 _ hlt];exact hj
      have e1:=Dm (n:=xs.length) hlt hj';have e2:xs.length*(g.ow id).sz≤(g.ow id).cap*(g.ow id).sz:=J7 _ (by omega);refine⟨_,?_,(k4 _ j hlt hj').1,(k4 _ j hlt hj').2⟩;simp[World.cell?,k2,Array.getD,show(g.ow id).o+i.toNat*(g.ow id).sz+j<c.size by omega]
     obtain⟨u,hu,hr⟩:=GX (P:=P) hcells ha hs hl;unfold execOp;rw[ho]
     rw[←hsz]at hav
     simp only[hav,Instr.loadAt,Instr.sureAddr,B9,C4,B7,hu,H6]
     grind[L4.here]
   cases hl
  cases hl
 cases hl
theorem VI {t:TypeId} {y z:Operand} {zV:V} {H':A4} (ho:o.op= .store t y z) (hle:BV (ev fr z) zV) (hl:Sh P H t (ev fr y) zV=some H') (h:K .bad H'):I7 P o fr H K:=by
 intro g w a hR hE;have hv:=E6 hR hE y;have hz:=(E6 hR hE z).le hle
 unfold Sh at hl
 split at hl
 ·rename_i sz id i esz off hs he
  rw[he]at hv
  split at hl
  ·rename_i sz0 xs hx
   split at hl
   ·rename_i hc;obtain⟨hb,hs1,hone,hysz,hfit⟩:=hc;cases hl
    generalize hav:a.eval y=v at hv
    cases hv with
    | elem hm hsz=>
     rename_i b;have hk:=Fj hx;obtain⟨b',h1,hs0,h2,h4,h6⟩:=hR.blk id _ hk
     rw[hm]at h1;cases h1
     have hs1:=hs1.symm;subst hs1
     have hlt:i.toNat<xs.length:=by omega
     rcases h6 with h6|⟨c,T,k1,k2,k3,k4,k5⟩
     ·omega
     obtain⟨hcs,hcv⟩:=hz.cells hone
     have hzs:(a.eval z).cells.size=sz:=by rw[hcs,hysz]
     have hmem:∀v∈(a.eval z).cells.toList,v.oneCell'=true:=by
      intro v hv;obtain⟨j,hj,rfl⟩:=AM hv
      have hj':j<(a.eval z).cells.size:=by omega
      have:=(hcv j (by omega)).1
      simp_all
     have hcap0:xs.length≠0:=by omega
     have e2:xs.length*esz≤(g.ow id).cap*esz:=J7 _ (by omega);have e3:(i.toNat+1)*esz≤xs.length*esz:=J7 _ (by omega)
     rw[G5,AA]at e3
     generalize hA:(g.ow id).o+i.toNat*esz+off=A
     have hAl:A+sz≤c.size:=by rw[←hA];omega
     have hst:=run_storeCells_at P b A T (a.eval z).cells.toList 0 c w k2 (by simp;omega) hmem
     generalize hC:(c.toList.take (A+0)++(a.eval z).cells.toList++c.toList.drop (A+0+(a.eval z).cells.toList.length)).toArray=C at hst
     have hCs:C.size=c.size:=by rw[←hC];simp;omega
     have hCg:∀j,j<c.size→C[j]? =if A≤j∧j<A+sz then(a.eval z).cells[j-A]? else c[j]? :=by
      intro j hlt;rw[←hC];simp only[Bq,Q1,F6];rw[Cq,Cq];simp only[Y4,Hy,Ju (show A≤c.size by omega),Co,FL,Cr]
      by_cases q1:j<A
      ·rw[A1 q1,A1 q1,A3 (by omega)]
      rw[A3 q1]
      by_cases q2:j<A+sz
      ·rw[A1 (by omega),A1 ⟨by omega,q2⟩]
      rw[A3 (by omega),A3 (by omega),show A+(a.eval z).cells.size+(j-A-(a.eval z).cells.size)=j by omega]
     have hlen:=h4 _ hlt;have hpc:=VX (x:=xs.getD i.toNat .bad) (y:=zV) hlen hysz hfit
     have hget:∀k,k<xs.length→(xs.set i.toNat (Sz (xs.getD i.toNat .bad) esz sz off zV)).getD k .bad=if k=i.toNat then Sz (xs.getD i.toNat .bad) esz sz off zV else xs.getD k .bad:=by
      grind
     have hset:=hR.setArr (c':=C) (ys:=xs.set i.toNat (Sz (xs.getD i.toNat .bad) esz sz off zV)) hk hm hcap0 k2 hCs (fun q hq=>by
      grind) (by simp) (fun k hk'=>by
      have hk2:k<xs.length:=by grind
      rw[hget k hk2]
      grind[AT]) (fun k j hk' hj=>by
      have hk2:k<xs.length:=by grind
      rw[hget k hk2];have e1:=Dm (n:=xs.length) hk2 hj
      have hin:(g.ow id).o+k*esz+j<c.size:=by omega
      have hCd:C.getD ((g.ow id).o+k*esz+j) undef=if A≤(g.ow id).o+k*esz+j∧(g.ow id).o+k*esz+j<A+sz then(a.eval z).cells.getD ((g.ow id).o+k*esz+j-A) undef else c.getD ((g.ow id).o+k*esz+j) undef:=by
       simp only[M7,hCg _ hin]
       split<;>rfl
      rw[hCd]
      by_cases hki:k=i.toNat
      ·subst hki;rw[A1 rfl,hpc,HK (by rw[hysz,hlen];omega),hysz];rw[←hA]
       grind
      rw[A3 hki]
      have hne:¬(A≤(g.ow id).o+k*esz+j∧(g.ow id).o+k*esz+j<A+sz):=by
       rw[←hA];rintro⟨q1,q2⟩
       rcases Nat.lt_or_gt_of_ne hki with hlt'|hgt
       ·have:=J7 esz (show k+1≤i.toNat by omega)
        rw[G5,AA]at this
        omega
       have:=J7 esz (show i.toNat+1≤k by omega)
       rw[G5,AA]at this
       omega
      rw[A3 hne]
      grind)
     unfold execOp;rw[ho]
     rw[hA]at hav
     simp only[hav,Instr.storeAt,Instr.sureAddr,storeVar,B9,C4,B7,O4 hs w,hzs,ne_eq,Hu,D7,hst,H6];exact⟨g,.bad,_,hset.1,hset.2,.bad _,h⟩
   cases hl
  cases hl
 cases hl
end
end Go.Ab
namespace Go.Ab
open Go.RowKit
variable [L6]
def DY {g:Gh} {H:A4} {w:World} (hR:Rl g H w) (sz:Nat) {v:Value} {x:V} (hx:x= .sl [] .nil∨x= .sl [] .full) (hv:VR g w v x):
 ∃g',U3 g w g' w∧Rl g' (upd H g.nx (some (.arr sz []))) w∧H g.nx=none∧VR g' w v (.own g.nx 0 0):=by
 obtain⟨s,r,hn⟩:=Rl.newArr (w':=w) hR (b:=0) (o:=0) (sz:=sz) (ys:=[]) (fun i hi=>by simp at hi) (fun _ _ _=>rfl) (U8 _ _) (fun _ _ _=>rfl) (.inl rfl);refine⟨_,s,r,hn,?_⟩
 have key:∀p:Option Addr,VR (g.own 0 ⟨0,0,sz⟩) w (.slice p 0 0) (.own g.nx 0 0):=fun p=>by
  have e:(g.own 0 ⟨0,0,sz⟩).ow g.nx=⟨0,0,sz⟩:=by simp[Gh.own]
  have:=VR.own (g:=g.own 0 ⟨0,0,sz⟩) (w:=w) (id:=g.nx) (b:=0) (lo:=0) (n:=0) (p:=p) (by simp[Gh.own]) (by omega) (by omega) (by rw[e];simp) (by rw[e];simp)
  rw[e]at this
  exact this
 rcases hx with rfl|rfl
 ·cases hv with
  |sl0 ht=>grind
  |sle h=>rcases h with h|⟨h,_⟩<;>cases h
  |sl vs hn hc hz hf hw h1 hv ht=>exact ht.elim
 cases hv with
 |sl0 ht=>grind
 |@sle a c t h=>
  simp_all
 |sl vs hn hc hz hf hw h1 hv ht=>
  simp_all[Gm]
section
variable {P:Program}{o:Oper}{fr:Fr}{H:A4}{K:V→A4→Prop}
theorem TK {t:TypeId} {l c:Operand} {e:TypeId} {k1 k2:IntKind} {n m:Int} {sz by_:Nat} {z:V} (ho:o.op= .makeSlice t l c) (hl:ev fr l= .int k1 n) (hc:ev fr c= .int k2 m) (he:EO P t=some e) (hsz:Eh P e=some sz)
 (hpos:0<sz) (hby:Ny P e=some by_) (hbp:0<by_) (hz:HA P e=some z) (hz1:z.one=true) (hzl:z.cells.length=sz) (h0:0≤n) (h1:n≤m) (h2:m*by_≤281474976710656)
 (h:∀id,H id=none→K (.own id 0 n) (upd H id (some (.arr sz (List.replicate m.toNat z))))):I7 P o fr H K:=by
 intro g w a hR hE;have hl':=E6 hR hE l;have hc':=E6 hR hE c
 rw[hl]at hl';rw[hc]at hc'
 have hl':=hl'.int_inv;have hc':=hc'.int_inv;have hu:=P0 he;obtain⟨zv,ez,hzv⟩:=CS hz
 have hzr:VR g w zv z:=by rw[ez];grind[DJ]
 obtain⟨hzs',hzc⟩:=hzr.cells hz1
 have hzs:zv.cells.size=sz:=by rw[hzs',hzl]
 have hbi:∀w,(typeInfo e).run P w= .ok ((P.info? e).getD default) w∧((P.info? e).getD default).bytes=by_:=by
  intro w
  unfold Ny at hby
  cases hi:P.info? e with
  |none=>simp_all
  |some i=>simp[hi]at hby;simp[typeInfo,hi,hby]
 have hb1:∀w,(typeInfo e).run P w= .ok ((P.info? e).getD default) w:=fun w=>(hbi w).1;have hb2:=(hbi w).2
 have hmb:m≤281474976710656:=by
  have:m*1≤m*by_:=Int.mul_le_mul_of_nonneg_left (by omega) (by omega);omega
 have hw1:IntKind.i64.wrap n=n:=wrap_small n h0 (by omega);have hw2:IntKind.i64.wrap m=m:=wrap_small m (by omega) (by omega);have hcm:(by_:Int)*m=m*by_:=Int.mul_comm _ _;generalize hA:(if m.toNat*sz=0 then(#[]:Array Value)else zv.cells)=A;generalize hC:(Array.range (m.toNat*sz)).map (fun i=>A[i % A.size]!)=C
 have hCs:C.size=m.toNat*sz:=by rw[←hC];simp
 have hrun:(Instr.makeSlice t (.int k1 n) (.int k2 m)).run P w= .ok (.slice (some ⟨w.heap.size,0,none⟩) n.toNat m.toNat) (w.alloc (.cells C e)):=by
  have t1:¬(m<0):=by omega
  have t2:¬(281474976710656<(by_:Int)*m):=by omega
  have t3:¬(n<0):=by omega
  have t4:¬(m<n):=by omega
  simp only[Instr.makeSlice,B9,run_underlying hu,B7,asInt,asIntOf,C4,hb1,hb2,hw1,hw2];simp only[gt_iff_lt,t1,t3,t4,FB,Hm,Bool.or_false,Int.reducePow,t2,E2,D7,B9,B7,run_askRoom,O4 hsz]
  by_cases h0:m.toNat*sz=0
  ·rw[A1 h0]at hA
   rw[A1 h0];subst hA;simp[newRow,run_newObj,←hC,DN]
  rw[A3 h0]at hA
  rw[A3 h0];subst hA;simp[newRow,run_newObj,hC,DN,B9,hzv]
 have hn:n.toNat≤m.toNat:=by omega
 have hCg:∀k,k<m.toNat*sz→C.getD k undef=zv.cells.getD (k % sz) undef:=by
  intro k hk
  have hne:m.toNat*sz≠0:=by omega
  rw[A3 hne]at hA
  subst hA;rw[←hC]
  have hlt:k % sz<zv.cells.size:=by rw[hzs];simp_all[DO]
  simp only[M7,Array.getElem?_map,Array.getElem?_range,hk,D1,J4,Bu,hzs];simp[hlt]
 have hrep:∀i,i<m.toNat→(List.replicate m.toNat z).getD i .bad=z:=fun i hi=>by simp_all
 have hlen:(List.replicate m.toNat z).length=m.toNat:=by simp
 obtain⟨s,r,hnone⟩:=Rl.newArr (w':=w.alloc (.cells C e)) hR (b:=w.heap.size) (o:=0) (sz:=sz) (ys:=List.replicate m.toNat z)
  (fun i hi=>by rw[hrep i (by omega)];exact hzl) (fun b q hf=>CM (hR.fz_lt hf)) ((U8 _ _).alloc hR.bnd _) (fun x _ hlt=>heap_alloc hlt)
  (.inr ⟨C,e,hR.bnd,AE,by simp[hCs],fun i j hi hj=>by
   have hi':i<m.toNat:=by omega
   have e1:=Dm (n:=m.toNat) hi' hj;rw[hrep i hi',V1,hCg _ e1,(Q3 hj).2]
   simp_all,fun q _ hf=>absurd (hR.fz_lt hf) (R5 _),fun id hid=>absurd (hR.lt hid) (R5 _)⟩)
 unfold execOp;rw[ho];simp only[hl',hc',B9,hrun,B7,C4,H6];refine⟨_,_,_,s,r,?_,h g.nx hnone⟩;rw[hlen]
 have e':(g.own w.heap.size ⟨0,m.toNat,sz⟩).ow g.nx=⟨0,m.toNat,sz⟩:=by simp[Gh.own]
 have:=VR.own (g:=g.own w.heap.size ⟨0,m.toNat,sz⟩) (w:=w.alloc (.cells C e)) (id:=g.nx) (b:=w.heap.size) (lo:=0) (n:=n) (p:=some ⟨w.heap.size,0,none⟩) (by simp[Gh.own]) (by omega) h0 (by rw[e'];simp_all) (by rw[e'];simp)
 rw[e']at this
 exact this
end
def Ax (xs:List V)(i:Nat)(ys:List V):List V:=xs.take i++ys++xs.drop (i+ys.length)
def Ea {xs ys:List V}{i:Nat}(h:i+ys.length≤xs.length):(Ax xs i ys).length=xs.length:=by grind[Ax]
def Rs {xs ys:List V}{i k:Nat}(h:i+ys.length≤xs.length):(Ax xs i ys).getD k .bad=if i≤k∧k<i+ys.length then ys.getD (k-i) .bad else xs.getD k .bad:=by
 simp only[Ax,GM];rw[Cq,Cq]
 grind
def QJ (H:A4)(v:V):Option (List V):=
 match v with
 | .sl xs _=>some xs
 | .own id lo n=>(Hh H id).map fun q=>L9 q.2 lo n
 |_=>none
def H6.mono {P:Program} {K K':Value→World→Prop} (h:∀v w,K v w→K' v w) {r:Result Next} (hr:H6 P K r):H6 P K' r:=by
 cases r with
 |halt x w=>exact hr
 | ok n w=>
  cases n<;>first
   |exact h _ _ hr
   |exact CallsIn.mono hr fun e w' ⟨v,e1,e2⟩=>⟨v,e1,h _ _ e2⟩
   |exact RoundIn.mono hr fun e w' ⟨v,e1,e2⟩=>⟨v,e1,h _ _ e2⟩
   |exact hr
section
variable {P:Program}{o:Oper}{fr:Fr}{H:A4}{K:V→A4→Prop}
def VR.ownN {g:Gh}{w:World}{b o cap sz:Nat}{n:Int}(h1:0≤n)(h2:n≤cap):VR (g.own b ⟨o,cap,sz⟩) w (.slice (some ⟨b,o,none⟩) n.toNat cap) (.own g.nx 0 n):=by
 have e':(g.own b ⟨o,cap,sz⟩).ow g.nx=⟨o,cap,sz⟩:=by simp[Gh.own]
 have:=VR.own (g:=g.own b ⟨o,cap,sz⟩) (w:=w) (id:=g.nx) (b:=b) (lo:=0) (n:=n) (p:=some ⟨b,o,none⟩) (by simp[Gh.own]) (by omega) h1 (by rw[e'];simp_all) (by rw[e'];simp)
 rw[e']at this
 exact this
def Ex {g:Gh} {H:A4} {w:World} (hR:Rl g H w) {id sz:Nat} {lo n:Int} {xs:List V} {v:Value} (hk:H id=some (.arr sz xs)) (hv:VR g w v (.own id lo n)):
 ∃ b p,g.mu id=some b∧v= .slice p n.toNat (xs.length-lo.toNat)∧0≤lo∧0≤n∧lo+n≤(xs.length:Nat)∧(g.ow id).sz=sz∧(g.ow id).cap=xs.length∧
  (lo<(xs.length:Nat)→p=some ⟨b,(g.ow id).o+lo.toNat*sz,none⟩)∧(∀i,i<xs.length→(xs.getD i .bad).cells.length=sz)∧
  (xs.length=0∨∃c T,g.base≤b∧w.heap[b]? =some (.cells c T (0,0))∧(g.ow id).o+xs.length*sz≤c.size∧
   (∀i j,i<xs.length→j<sz→(c.getD ((g.ow id).o+i*sz+j) undef).oneCell'=true∧VR g w (c.getD ((g.ow id).o+i*sz+j) undef) ((xs.getD i .bad).cells.getD j .bad))∧
   (∀o,(g.ow id).o≤o→¬g.fz b o)∧g.at H id=some b):=by
 obtain⟨b,h1,h2,h3,h4,h5⟩:=hR.blk id _ hk
 cases hv with
 |own hm h0 h1' h2' hp=>
  rename_i p
  rw[h1]at hm;cases hm
  rw[h3]at h2' hp
  rw[h2]at hp
  refine⟨b,p,h1,by rw[h3],h0,h1',h2',h2,h3,hp,h4,?_⟩
  grind[Gh.at]
def Ig (P:Program) {g:Gh} {H:A4} {w:World} (hR:Rl g H w) {x:V} {v:Value} {xs:List V} {sz:Nat} (hx:QJ H x=some xs) (hv:VR g w v x) (hall:xs.all (fun x=>x.cells.length==sz)=true):
 ∃(base:Option Addr) (cap:Nat) (vs:Nat→Nat→Value),v= .slice base xs.length cap∧
  (∀i j,i<xs.length→j<sz→(vs i j).oneCell'=true∧VR g w (vs i j) ((xs.getD i .bad).cells.getD j .bad))∧
  (∀m,m≤xs.length→∀w':World,(∀b o,w'.cell? ⟨b,o,none⟩=w.cell? ⟨b,o,none⟩)→(Builtin.firstCells sz m v).run P w'= .ok ((List.range (m*sz)).map fun k=>vs (k / sz) (k % sz)).toArray w'):=by
 unfold QJ at hx
 split at hx
 ·cases hx;obtain⟨base,cap,vs,h1,_,h2,h3,h4⟩:=DW (P:=P) hv hall;refine⟨base,cap,vs,h1,h2,fun m hm w' hw'=>?_⟩
  rcases h4 with⟨rfl,_,_⟩|⟨b,q,rfl,h5,_⟩
  ·have:m=0:=by grind
   simp_all
  rw[h1];simp only[Builtin.firstCells];refine run_loadCells w' _ _ _ fun k hk=>?_
  have hp:0<sz:=by
   grind
  have hi:k / sz<m:=(OW hp).2 hk;have hj:k % sz<sz:=DO _ hp;rw[Y9,hw']
  have e3:q+k=q+k / sz*sz+k % sz:=by have:=NO k sz;rw[Hk]at this;omega
  rw[e3]
  grind
 ·rename_i id lo n
  cases ha:Hh H id with
  |none=>rw[ha]at hx;cases hx
  | some q=>
   obtain⟨sz0,zs⟩:=q
   rw[ha]at hx
   simp only[J4,E8]at hx
   subst hx;obtain⟨b,p,h1,h2,h3,h4,h5,h6,h7,h8,h9,h10⟩:=Ex hR (Fj ha) hv
   have hl:(L9 zs lo n).length=n.toNat:=by grind[L9]
   rw[hl]
   have hsub:∀i,i<n.toNat→(L9 zs lo n).getD i .bad=zs.getD (lo.toNat+i) .bad:=fun i hi=>by
    grind[L9]
   by_cases hn:n.toNat=0
   ·rw[hn]at h2 ⊢
    refine⟨_,_,fun _ _=>undef,h2,fun i j hi=>by omega,fun m hm w' _=>?_⟩
    have:m=0:=by omega
    subst this;subst h2
    cases p with
    |none=>simp[Builtin.firstCells]
    |some q=>simp[Builtin.firstCells,loadCells,loadCellsFrom]
   have hlt:lo<(zs.length:Nat):=by omega
   rcases h10 with h10|⟨c,T,k1,k2,k3,k4,k5,k6⟩
   ·omega
   have hp:=h8 hlt;subst hp
   have hse:sz0=sz:=by
    have e1:=h9 (lo.toNat+0) (by omega);have e2:=(List.all_eq_true.1 hall) ((L9 zs lo n).getD 0 .bad) (by grind)
    rw[hsub 0 (by omega)]at e2
    rw[←e1];grind
   subst hse;refine⟨_,_,fun i j=>c.getD ((g.ow id).o+(lo.toNat+i)*sz0+j) undef,h2,fun i j hi hj=>?_,fun m hm w' hw'=>?_⟩
   ·rw[hsub i hi];grind
   subst h2;simp only[Builtin.firstCells]
   have hp:0<sz0∨sz0=0:=by omega
   refine run_loadCells w' _ _ _ fun k hk=>?_
   rcases hp with hp|hp
   ·have hi:k / sz0<n.toNat:=Nat.lt_of_lt_of_le ((OW hp).2 hk) hm;have hj:k % sz0<sz0:=DO _ hp;have e1:=Dm (n:=zs.length) (i:=lo.toNat+k / sz0) (by omega) hj;rw[Y9,hw']
    have e3:(g.ow id).o+lo.toNat*sz0+k=(g.ow id).o+(lo.toNat+k / sz0)*sz0+k % sz0:=by
     have:=NO k sz0;rw[Hk]at this;rw[G5];omega
    rw[e3];simp[World.cell?,k2,Array.getD,show(g.ow id).o+(lo.toNat+k / sz0)*sz0+k % sz0<c.size by omega]
   simp_all
 cases hx
def Xv {c C:Array Value}{A m:Nat}{vs:List Value}(hm:vs.length=m)(hA:A+m≤c.size)(hC:(c.toList.take A++vs++c.toList.drop (A+m)).toArray=C):
 C.size=c.size∧∀k,k<c.size→C[k]? =if A≤k∧k<A+m then vs[k-A]? else c[k]? :=by
 subst hC;refine⟨by simp;omega,fun k hk=>?_⟩
 grind
def Xw (P:Program) {g:Gh} {H:A4} {w:World} (hR:Rl g H w) {id sz i m:Nat} {xs ys:List V} {b:Nat} {c:Array Value} {T:TypeId} (hpos:0<sz) (hk:H id=some (.arr sz xs)) (hb:g.mu id=some b)
 (hsz:(g.ow id).sz=sz) (hin:i+ys.length≤xs.length) (hnz:xs.length≠0) (hm:ys.length=m)
 (k2:w.heap[b]? =some (.cells c T (0,0))) (k3:(g.ow id).o+xs.length*sz≤c.size)
 (k4:∀i j,i<xs.length→j<sz→(c.getD ((g.ow id).o+i*sz+j) undef).oneCell'=true∧VR g w (c.getD ((g.ow id).o+i*sz+j) undef) ((xs.getD i .bad).cells.getD j .bad))
 (hlenx:∀i,i<xs.length→(xs.getD i .bad).cells.length=sz) (hleny:∀i,i<ys.length→(ys.getD i .bad).cells.length=sz) (fy:Nat→Nat→Value)
 (hfy:∀i j,i<ys.length→j<sz→(fy i j).oneCell'=true∧VR g w (fy i j) ((ys.getD i .bad).cells.getD j .bad)):
 ∃C,(storeCells ⟨b,(g.ow id).o+i*sz,none⟩ ((List.range (m*sz)).map fun k=>fy (k / sz) (k % sz))).run P w= .ok () (w.setRow b C)∧
  U3 g w g (w.setRow b C)∧Rl g (upd H id (some (.arr sz (Ax xs i ys)))) (w.setRow b C):=by
 subst hm;have hadd:(i+ys.length)*sz=i*sz+ys.length*sz:=G5 _ _ _;have hcapsz:(i+ys.length)*sz≤xs.length*sz:=J7 _ hin
 have hmem:∀v∈((List.range (ys.length*sz)).map fun k=>fy (k / sz) (k % sz)),v.oneCell'=true:=by
  grind[Nat.div_lt_iff_lt_mul,Nat.mod_lt]
 have hst:=run_storeCells_at P b ((g.ow id).o+i*sz) T ((List.range (ys.length*sz)).map fun k=>fy (k / sz) (k % sz)) 0 c w k2 (by simp;omega) hmem
 generalize hC:(c.toList.take ((g.ow id).o+i*sz+0)++((List.range (ys.length*sz)).map fun k=>fy (k / sz) (k % sz))++
  c.toList.drop ((g.ow id).o+i*sz+0+((List.range (ys.length*sz)).map fun k=>fy (k / sz) (k % sz)).length)).toArray=C at hst
 have hL:((List.range (ys.length*sz)).map fun k=>fy (k / sz) (k % sz)).length=ys.length*sz:=by simp
 rw[hL,Bq]at hC
 obtain⟨hCs,hCg⟩:=Xv hL (by omega) hC;refine⟨C,hst,?_⟩;refine hR.setArr hk hb hnz k2 hCs (fun o ho=>?_) (Ea hin) (fun j hj=>?_) (fun j t hj ht=>?_)
 ·grind
 ·rw[Ea hin]at hj
  rw[Rs hin]
  grind
 rw[Ea hin]at hj
 have e1:=Dm (n:=xs.length) hj ht
 have hin':(g.ow id).o+j*sz+t<c.size:=by omega
 rw[Rs hin];simp only[M7,hCg _ hin']
 by_cases hji:i≤j∧j<i+ys.length
 ·have h1:i*sz≤j*sz:=J7 _ hji.1;have h2:=Dm (n:=i+ys.length) hji.2 ht;have h3:(j-i)*sz=j*sz-i*sz:=Bl _ _ _;rw[A1 ⟨by omega,by omega⟩,A1 hji,show(g.ow id).o+j*sz+t-((g.ow id).o+i*sz)=(j-i)*sz+t by omega,V8,FM (by have:=Dm (n:=ys.length) (i:=j-i) (by omega) ht;omega)];simp only[J4,Bu,(Q3 ht).1,(Q3 ht).2]
  grind
 have hne:¬((g.ow id).o+i*sz≤(g.ow id).o+j*sz+t∧(g.ow id).o+j*sz+t<(g.ow id).o+i*sz+ys.length*sz):=by
  rintro⟨q1,q2⟩
  rcases G6 j i with h|h
  ·have:=J7 sz (show j+1≤i by omega)
   rw[G5,AA]at this
   omega
  have h':i+ys.length≤j:=by omega
  have:=J7 sz h';omega
 rw[A3 hne,A3 hji];have:=k4 j t hj ht
 simp_all
def Bn {xs:List V}{lo n:Int}(h0:0≤lo)(h1:0≤n)(h2:lo+n≤(xs.length:Nat)):(L9 xs lo n).length=n.toNat:=by grind[L9]
def Nb {xs:List V}{lo n:Int}{i:Nat}(hi:i<n.toNat):(L9 xs lo n).getD i .bad=xs.getD (lo.toNat+i) .bad:=by
 simp_all[L9]
def KK {xs:List V}{sz:Nat}(h:∀i,i<xs.length→(xs.getD i .bad).cells.length=sz):xs.all (fun x=>x.cells.length==sz)=true:=by
 rw[DS]
 grind[List.getElem_of_mem]
def FV {xs:List V}{sz:Nat}(h:xs.all (fun x=>x.cells.length==sz)=true):∀i,i<xs.length→(xs.getD i .bad).cells.length=sz:=fun i hi=>by
 have:=(List.all_eq_true.1 h) (xs.getD i .bad) (by simp_all)
 simp_all
def XM {g:Gh} {w:World} {H:A4} {K:V→A4→Prop} (hR:Rl g H w) {e:TypeId} {sz G:Nat} {z:V} {xs ys:List V} {zv:Value} (hpos:0<sz) (hzv:VR g w zv z) (hz1:z.one=true) (hzl:z.cells.length=sz)
 (hlenx:∀i,i<xs.length→(xs.getD i .bad).cells.length=sz) (hleny:∀i,i<ys.length→(ys.getD i .bad).cells.length=sz) {fs fy:Nat→Nat→Value}
 (hfs:∀i j,i<xs.length→j<sz→(fs i j).oneCell'=true∧VR g w (fs i j) ((xs.getD i .bad).cells.getD j .bad))
 (hfy:∀i j,i<ys.length→j<sz→(fy i j).oneCell'=true∧VR g w (fy i j) ((ys.getD i .bad).cells.getD j .bad)) (hGe:xs.length+ys.length≤G) {m:Int} (hm:m=((xs.length+ys.length:Nat):Int))
 (hout:∀t k,H t=none→K (.own t 0 m) (upd H t (some (.arr sz (xs++ys++List.replicate k z))))):
 L4 g w K (.slice (some ⟨w.heap.size,0,none⟩) (xs.length+ys.length) G)
  (w.drew.alloc (.cells (((List.range (xs.length*sz)).map fun k=>fs (k / sz) (k % sz)).toArray++((List.range (ys.length*sz)).map fun k=>fy (k / sz) (k % sz)).toArray++
   Builtin.zeroCells zv.cells (G-(xs.length+ys.length))) e)):=by
 obtain⟨hzs',hzc⟩:=hzv.cells hz1
 have hzs:zv.cells.size=sz:=by rw[hzs',hzl]
 generalize hC:((List.range (xs.length*sz)).map fun k=>fs (k / sz) (k % sz)).toArray++((List.range (ys.length*sz)).map fun k=>fy (k / sz) (k % sz)).toArray++Builtin.zeroCells zv.cells (G-(xs.length+ys.length))=C;have hadd:(xs.length+ys.length)*sz=xs.length*sz+ys.length*sz:=G5 _ _ _;have hGs:(xs.length+ys.length)*sz≤G*sz:=J7 _ hGe
 have hCs:C.size=G*sz:=by
  rw[←hC]
  grind[size_zeroCells,Nat.sub_mul]
 have hCg:∀k,k<(xs.length+ys.length)*sz→C[k]? =some (if k<xs.length*sz then fs (k / sz) (k % sz)else fy ((k-xs.length*sz) / sz) ((k-xs.length*sz) % sz)):=by
  grind
 have hCz:∀k,(xs.length+ys.length)*sz≤k→k<G*sz→C[k]? =zv.cells[(k-(xs.length+ys.length)*sz) % sz]? :=by
  intro k hk hk2;rw[←hC,GI,A3 (by simp;omega)];simp only[JD,FK,N2,Ah];rw[show k-(xs.length*sz+ys.length*sz)=k-(xs.length+ys.length)*sz by omega];have hs:=size_zeroCells zv.cells (G-(xs.length+ys.length))
  have hlt:k-(xs.length+ys.length)*sz<(G-(xs.length+ys.length))*sz:=by rw[Bl];omega
  generalize k-(xs.length+ys.length)*sz=q at hlt ⊢
  have hq:q % sz<zv.cells.size:=by rw[hzs];simp_all[DO]
  unfold Builtin.zeroCells
  simp_all
 have hcellp:∀x o,g.fz x o→(w.drew.alloc (.cells C e)).cell? ⟨x,o,none⟩=w.cell? ⟨x,o,none⟩:=fun x o hf=>CM (w:=w.drew) (hR.fz_lt hf);have hbel:Below g.base w (w.drew.alloc (.cells C e)):=(U8 _ _).drew.alloc hR.bnd _
 have hln:(xs++ys++List.replicate (G-(xs.length+ys.length)) z).length=G:=by simp;omega
 have hget:∀i,i<G→(xs++ys++List.replicate (G-(xs.length+ys.length)) z).getD i .bad=if i<xs.length then xs.getD i .bad else if i<xs.length+ys.length then ys.getD (i-xs.length) .bad else z:=by
  grind
 obtain⟨s,r,hnone⟩:=Rl.newArr (w':=w.drew.alloc (.cells C e)) hR (b:=w.heap.size) (o:=0) (sz:=sz) (ys:=xs++ys++List.replicate (G-(xs.length+ys.length)) z)
  (fun i hi=>by
   rw[hln]at hi
   rw[hget i hi]
   grind) hcellp hbel (fun x _ hlt=>heap_alloc (w:=w.drew) hlt)
  (.inr ⟨C,e,hR.bnd,AE (w:=w.drew) (o:=.cells C e),by rw[hln,hCs];omega,fun i j hi hj=>by
   rw[hln]at hi
   have h2:=Dm (n:=G) hi hj;rw[hget i hi];simp only[V1]
   by_cases hix:i<xs.length
   ·have h3:=Dm hix hj
    have h4:i*sz+j<(xs.length+ys.length)*sz:=by omega
    simp only[M7,hCg _ h4,Bu];rw[A1 h3,A1 hix,(Q3 hj).1,(Q3 hj).2]
    simp_all
   have h1:xs.length*sz≤i*sz:=J7 _ (by omega);have h3:(i-xs.length)*sz=i*sz-xs.length*sz:=Bl _ _ _;rw[A3 hix]
   by_cases hiy:i<xs.length+ys.length
   ·have h4:=Dm hiy hj;simp only[M7,hCg _ h4,Bu];rw[A3 (by omega),A1 hiy,show i*sz+j-xs.length*sz=(i-xs.length)*sz+j by omega,(Q3 hj).1,(Q3 hj).2]
    grind
   have h1':(xs.length+ys.length)*sz≤i*sz:=J7 _ (by omega);have h3':(i-(xs.length+ys.length))*sz=i*sz-(xs.length+ys.length)*sz:=Bl _ _ _;rw[A3 hiy]
   have e1:C.getD (i*sz+j) undef=zv.cells.getD j undef:=by
    simp only[M7];rw[hCz _ (by omega) h2,show i*sz+j-(xs.length+ys.length)*sz=(i-(xs.length+ys.length))*sz+j by omega,(Q3 hj).2]
   rw[e1]
   simp_all,fun q _ hf=>absurd (hR.fz_lt hf) (R5 _),fun id hid=>absurd (hR.lt hid) (R5 _)⟩)
 rw[hln]at s r
 refine⟨_,_,_,s,r,?_,hout g.nx _ hnone⟩;have:=VR.ownN (g:=g) (w:=w.drew.alloc (.cells C e)) (b:=w.heap.size) (o:=0) (cap:=G) (sz:=sz) (n:=m) (by omega) (by omega)
 rwa[hm,K0,←hm]at this
def Ai5 {g:Gh} {w:World} {H:A4} {K:V→A4→Prop} (hR:Rl g H w) {id sz:Nat} {lo n:Int} {xs ys:List V} {vs:Value} (hk:H id=some (.arr sz xs)) (hv:VR g w vs (.own id lo n)) (hpos:0<sz)
 (hleny:∀i,i<ys.length→(ys.getD i .bad).cells.length=sz) {fy:Nat→Nat→Value} (hfy:∀i j,i<ys.length→j<sz→(fy i j).oneCell'=true∧VR g w (fy i j) ((ys.getD i .bad).cells.getD j .bad))
 (hfit:lo+n+(ys.length:Nat)≤(xs.length:Nat)) (hin:K (.own id lo (n+(ys.length:Nat))) (upd H id (some (.arr sz (Ax xs (lo+n).toNat ys))))):
 ∃base cap w',vs= .slice base n.toNat cap∧n.toNat+ys.length≤cap∧cap=xs.length-lo.toNat∧
  (match base with|some a=>(storeCells (a.add (n.toNat*sz)) ((List.range (ys.length*sz)).map fun k=>fy (k / sz) (k % sz))).run P w|none=>.ok () w)= .ok () w'∧
  L4 g w K (.slice base (n.toNat+ys.length) cap) w':=by
 obtain⟨b,p,h1,h2,h3,h4,h5,h6,h7,h8,h9,h10⟩:=Ex hR hk hv
 by_cases hcap0:lo=(xs.length:Nat)
 ·
  have hy0:ys=[]:=List.length_eq_zero_iff.1 (by omega)
  have hn0:n=0:=by omega
  subst hy0;subst hn0;refine⟨_,_,w,h2,by simp,rfl,by cases p<;>simp[storeCells],?_⟩
  have e:Ax xs (lo+0).toNat []=xs:=by simp[Ax]
  rw[e]at hin
  refine⟨g,.own id lo 0,H,U3.refl _ _,hR,?_,?_⟩
  rotate_right
  ·have:upd H id (some (.arr sz xs))=H:=by
    funext x
    simp_all[upd]
   rw[this]at hin
   exact hin
  simp_all
 have hlt:lo<(xs.length:Nat):=by omega
 have hp:=h8 hlt;subst hp
 rcases h10 with h10|⟨c,T,k1,k2,k3,k4,k5,k6⟩
 ·omega
 obtain⟨C,hst,s,r⟩:=Xw P hR (i:=(lo+n).toNat) (m:=ys.length) (ys:=ys) hpos hk h1 h6 (by omega) (by omega) rfl k2 k3 k4 h9 hleny fy hfy;refine⟨_,_,w.setRow b C,h2,by omega,rfl,?_,?_⟩
 ·simp only[Y9];rw[show(g.ow id).o+lo.toNat*sz+n.toNat*sz=(g.ow id).o+(lo+n).toNat*sz by rw[show(lo+n).toNat=lo.toNat+n.toNat by omega,G5];omega];exact hst
 refine⟨g,_,_,s,r,?_,hin⟩;have:=VR.own (g:=g) (w:=w.setRow b C) (id:=id) (b:=b) (lo:=lo) (n:=n+(ys.length:Nat)) (p:=some ⟨b,(g.ow id).o+lo.toNat*sz,none⟩) h1 h3 (by omega) (by rw[h7];omega) (fun _=>by rw[h6])
 rw[h7]at this
 rwa[show(n+(ys.length:Nat)).toNat=n.toNat+ys.length by omega]at this
def HW {g:Gh} {w:World} (hR:Rl g H w) {vs vy:Value} {ty:TypeId} {cs:Array Bool} {sT yT e:TypeId} {id sz by_:Nat} {lo n:Int} {z:V} {xs ys:List V} (hvs:VR g w vs (.own id lo n)) {fy:Nat→Nat→Value}
 (hfy:∀i j,i<ys.length→j<sz→(fy i j).oneCell'=true∧VR g w (fy i j) ((ys.getD i .bad).cells.getD j .bad)) (hyl:Builtin.lenOf vy=pure ys.length)
 (hry:∀w':World,(∀b o,w'.cell? ⟨b,o,none⟩=w.cell? ⟨b,o,none⟩)→(Builtin.firstCells sz ys.length vy).run P w'= .ok ((List.range (ys.length*sz)).map fun k=>fy (k / sz) (k % sz)).toArray w')
 (hk:H id=some (.arr sz xs)) (he:EO P sT=some e) (huy:(∃e',P.underlying yT=some (.slice e'))∨P.underlying yT=some .string) (hsz:Eh P e=some sz) (hpos:0<sz) (hby:Ny P e=some by_) (hbp:0<by_)
 (hz:HA P e=some z) (hz1:z.one=true) (hzl:z.cells.length=sz) (hay:ys.all (fun x=>x.cells.length==sz)=true)
 (hin:lo+n+(ys.length:Nat)≤(xs.length:Nat)→K (.own id lo (n+(ys.length:Nat))) (upd H id (some (.arr sz (Ax xs (lo+n).toNat ys)))))
 (hout:(xs.length:Nat)<lo+n+(ys.length:Nat)→(n.toNat+ys.length)*by_≤140737488355328∧∀t k,H t=none→K (.own t 0 (n+(ys.length:Nat))) (upd H t (some (.arr sz (L9 xs lo n++ys++List.replicate k z))))):
 H6 P (L4 g w K) ((builtin .append #[sT,yT] ty cs #[vs,vy]).run P w):=by
 have hleny:=FV hay;have hu:=P0 he;obtain⟨zv,ez,hzv⟩:=CS hz
 have hzr:VR g w zv z:=by rw[ez];grind[DJ]
 have hzs:zv.cells.size=sz:=by rw[(hzr.cells hz1).1,hzl]
 have hbytes:∀w,(typeInfo e).run P w= .ok ((P.info? e).getD default) w∧((P.info? e).getD default).bytes=by_:=by
  intro w
  unfold Ny at hby
  cases hi:P.info? e with
  |none=>simp_all
  |some i=>simp[hi]at hby;simp[typeInfo,hi,hby]
 have hbi:∀w,(typeInfo e).run P w= .ok ((P.info? e).getD default) w:=fun w=>(hbytes w).1;have hbb:=(hbytes w).2;obtain⟨b,p,h1,h2,h3,h4,h5,h6,h7,h8,h9,h10⟩:=Ex hR hk hvs;simp only[builtin,B9]
 by_cases hc:lo+n+(ys.length:Nat)≤(xs.length:Nat)
 ·obtain⟨base,cap,w',q1,q2,q3,q4,q5⟩:=Ai5 (P:=P) hR hk hvs hpos hleny hfy hc (hin hc);rw[q1]
  have hrun:(Builtin.append_ #[sT,yT] ty #[.slice base n.toNat cap,vy]).run P w= .ok (.slice base (n.toNat+ys.length) cap) w':=by
   have hry':=hry w fun _ _=>rfl
   rcases huy with⟨e',huy⟩|huy
   all_goals simp only[hyl,Builtin.append_,B9,run_underlying hu,B7,O4 hsz,run_underlying huy,C4,V0,Q1,
    AN,Ai,E2,D7,V4,D1,A1 q2,hry']
   all_goals cases base with
    |none=>simp only at q4;cases q4;rfl
    |some a=>simp only at q4;simp only[q4,B9,C4,B7]
  rw[hrun]
  simp_all[H6]
 obtain⟨hbound,hout⟩:=hout (by omega)
 have hall:(L9 xs lo n).all (fun x=>x.cells.length==sz)=true:=KK fun i hi=>by
  rw[Bn h3 h4 h5]at hi
  rw[Nb hi];grind
 obtain⟨base,cap,fs,es,hfs,hrs⟩:=Ig P hR (x:=.own id lo n) (xs:=L9 xs lo n) (by grind[QJ,Hh]) hvs hall;have hrs:=hrs _ (D3 _);have hsl:=Bn h3 h4 h5
 have hcap:cap=xs.length-lo.toNat:=by rw[h2]at es;simp_all
 have hc':¬((L9 xs lo n).length+ys.length≤cap):=by omega
 have hnf:¬(2 ^ 48<Builtin.nextslicecap ((L9 xs lo n).length+ys.length) cap*by_):=by
  have:=growslice_fits (Hr hc') (by rw[hsl];exact hbound);omega
 have hdr:∀b o,w.drew.cell? ⟨b,o,none⟩=w.cell? ⟨b,o,none⟩:=fun _ _=>rfl;generalize hG:grownCap w ((L9 xs lo n).length+ys.length) cap e=G
 have hGe:(L9 xs lo n).length+ys.length≤G:=by rw[←hG];grind[grownCap_ge]
 have hn63':¬(IntKind.i64.max<(((L9 xs lo n).length+ys.length:Nat):Int)∧(False∨by_=0)):=by
  grind
 have hrun:(Builtin.append_ #[sT,yT] ty #[.slice base (L9 xs lo n).length cap,vy]).run P w=
  .ok (.slice (some ⟨w.heap.size,0,none⟩) ((L9 xs lo n).length+ys.length) G)
   (w.drew.alloc (.cells (((List.range ((L9 xs lo n).length*sz)).map fun k=>fs (k / sz) (k % sz)).toArray++((List.range (ys.length*sz)).map fun k=>fy (k / sz) (k % sz)).toArray++
    Builtin.zeroCells zv.cells (G-((L9 xs lo n).length+ys.length))) e)):=by
  have hGd:(Question.appendCap ((L9 xs lo n).length+ys.length) cap e).cut (w.tape w.drawn (.appendCap ((L9 xs lo n).length+ys.length) cap e))=G:=hG;have hf:(Question.appendCap ((L9 xs lo n).length+ys.length) cap e).forced=false:=rfl;have hrs':=hrs w.drew hdr
  rw[es]at hrs'
  have hry':=hry w.drew hdr
  rcases huy with⟨e',huy⟩|huy
  all_goals simp only[hyl,Builtin.append_,B9,run_underlying hu,B7,O4 hsz,run_underlying huy,C4,V0,hbi,hbb,Q1,
   AN,Ai,E2,D7,V4,D1,gt_iff_lt,false_or,A3 hc',A3 hnf,run_choose,hf,hGd,Hl,run_askRoom,hrs',hry',hzv,newRow,run_newObj,
   DN,Hp]
  all_goals rw[A3 (by simpa using hn63')]
 rw[es,hrun];simp only[B7,C4,H6];exact XM (K:=K) hR hpos hzr hz1 hzl (FV hall) hleny hfs hfy hGe (m:=n+(ys.length:Nat)) (by omega) hout
def Mr {g:Gh}{w:World}(hR:Rl g H w){vs vy:Value}{yV:V}{ty:TypeId}{cs:Array Bool}{sT yT e:TypeId}{id sz by_:Nat}{lo n:Int}{z:V}{xs ys ys0:List V}(hvs:VR g w vs (.own id lo n))(hvy:VR g w vy yV)
 (hk:H id=some (.arr sz xs)) (hy:QJ H yV=some ys0) (hle:L5 ys0 ys) (he:EO P sT=some e) (hyT:(EO P yT).isSome=true) (hsz:Eh P e=some sz) (hpos:0<sz) (hby:Ny P e=some by_) (hbp:0<by_)
 (hz:HA P e=some z) (hz1:z.one=true) (hzl:z.cells.length=sz) (hay:ys.all (fun x=>x.cells.length==sz)=true)
 (hin:lo+n+(ys.length:Nat)≤(xs.length:Nat)→K (.own id lo (n+(ys.length:Nat))) (upd H id (some (.arr sz (Ax xs (lo+n).toNat ys)))))
 (hout:(xs.length:Nat)<lo+n+(ys.length:Nat)→(n.toNat+ys.length)*by_≤140737488355328∧∀t k,H t=none→K (.own t 0 (n+(ys.length:Nat))) (upd H t (some (.arr sz (L9 xs lo n++ys++List.replicate k z))))):
 H6 P (L4 g w K) ((builtin .append #[sT,yT] ty cs #[vs,vy]).run P w):=by
 obtain⟨ybase,ycap,fy,ey,hfy0,hry⟩:=Ig P hR hy hvy (hle.sz hay)
 rw[hle.length]at ey hfy0 hry
 have hfy:∀i j,i<ys.length→j<sz→(fy i j).oneCell'=true∧VR g w (fy i j) ((ys.getD i .bad).cells.getD j .bad):=fun i j hi hj=>⟨(hfy0 i j hi hj).1,(hfy0 i j hi hj).2.le ((hle.at i).cells.at j)⟩;obtain⟨e',hyT'⟩:=Option.isSome_iff_exists.1 hyT;exact HW hR hvs hfy (by rw[ey];rfl) (hry _ (D3 _)) hk he (.inl ⟨_,P0 hyT'⟩) hsz hpos hby hbp hz hz1 hzl hay hin hout
def OC (sz:Nat)(H:A4)(v:V)(ys':List V):Prop:=
 match v with
 | .sl xs _=>L5 xs ys'∧ys'.all (fun x=>x.cells.length==sz)=true
 | .own id lo n=>∃xs,H id=some (.arr sz xs)∧L5 (L9 xs lo n) ys'
 |_=>False
def OC.inv {g:Gh} {w:World} {sz:Nat} {x:V} {v:Value} {ys':List V} (h:OC sz H x ys') (hR:Rl g H w) (hv:VR g w v x):∃ys0,QJ H x=some ys0∧L5 ys0 ys'∧ys'.all (fun x=>x.cells.length==sz)=true:=by
 unfold OC at h
 split at h
 ·grind[QJ]
 ·obtain⟨xs,hk,hl⟩:=h;obtain⟨b,p,h1,h2,h3,h4,h5,h6,h7,h8,h9,h10⟩:=Ex hR hk hv;refine⟨_,by grind[QJ,Hh],hl,KK fun i hi=>?_⟩
  rw[←hl.length]at hi
  rw[←(hl.at i).cells.length]
  rw[Bn h3 h4 h5]at hi
  rw[Nb hi]
  grind
 grind
theorem TH {s y:Operand}{sT yT e:TypeId}{id sz by_:Nat}{lo n:Int}{z:V}{xs ys:List V}(ho:o.op= .call {callee:=.builtin .append,args:= #[s,y],argTypes:= #[sT,yT]})
 (hs:ev fr s= .own id lo n) (hk:H id=some (.arr sz xs)) (hsrc:OC sz H (ev fr y) ys) (he:EO P sT=some e) (hyT:(EO P yT).isSome=true) (hsz:Eh P e=some sz) (hpos:0<sz) (hby:Ny P e=some by_) (hbp:0<by_)
 (hz:HA P e=some z) (hz1:z.one=true) (hzl:z.cells.length=sz)
 (hin:lo+n+(ys.length:Nat)≤(xs.length:Nat)→K (.own id lo (n+(ys.length:Nat))) (upd H id (some (.arr sz (Ax xs (lo+n).toNat ys)))))
 (hout:(xs.length:Nat)<lo+n+(ys.length:Nat)→(n.toNat+ys.length)*by_≤140737488355328∧∀t k,H t=none→K (.own t 0 (n+(ys.length:Nat))) (upd H t (some (.arr sz (L9 xs lo n++ys++List.replicate k z))))):I7 P o fr H K:=by
 intro g w a hR hE;have hvs:=E6 hR hE s
 rw[hs]at hvs
 obtain⟨ys0,hy,hle,hay⟩:=hsrc.inv hR (E6 hR hE y);rw[P5 ho];simp only[Y3,G2,J3];exact Mr hR hvs (E6 hR hE y) hk hy hle he hyT hsz hpos hby hbp hz hz1 hzl hay hin hout
theorem Sm {s y:Operand} {sT yT e:TypeId} {sz by_:Nat} {z:V} {ys:List V} (ho:o.op= .call {callee:=.builtin .append,args:= #[s,y],argTypes:= #[sT,yT]})
 (hs:ev fr s= .sl [] .nil∨ev fr s= .sl [] .full) (hsrc:OC sz H (ev fr y) ys) (he:EO P sT=some e) (hyT:(EO P yT).isSome=true) (hsz:Eh P e=some sz) (hpos:0<sz) (hby:Ny P e=some by_) (hbp:0<by_)
 (hz:HA P e=some z) (hz1:z.one=true) (hzl:z.cells.length=sz)
 (hbound:ys.length*by_≤140737488355328)
 (hout:∀t k,H t=none→K (.own t 0 (ys.length:Nat)) (upd H t (some (.arr sz (ys++List.replicate k z))))):I7 P o fr H K:=by
 intro g w a hR hE;obtain⟨g',st,hR',hn,hv⟩:=DY hR sz hs (E6 hR hE s);obtain⟨ys0,hy,hle,hay⟩:=hsrc.inv hR (E6 hR hE y);have hvy:=(E6 hR hE y).mono st;rw[P5 ho];simp only[Y3,G2,J3]
 have hy':QJ (upd H g.nx (some (.arr sz []))) (ev fr y)=some ys0:=by
  unfold QJ at hy ⊢
  grind[Hh,upd]
 refine H6.mono ?_ (Mr (K:=fun v H2=>∃H3,K v H3∧∀id b,H3 id=some b→H2 id=some b) hR' hv hvy (D6 _ _ _) hy' hle he hyT hsz hpos hby hbp hz hz1 hzl hay (fun hle'=>?_) (fun _=>⟨by simp_all,fun t k ht=>?_⟩))
 ·exact fun v w' ⟨g2,x,H2,s2,hR2,hv2,H3,hK,hle3⟩=>⟨g2,x,H3,st.trans s2,hR2.less hle3,hv2,hK⟩
 ·have hy0:ys=[]:=List.length_eq_zero_iff.1 (by simp_all);subst hy0;have:=hout g.nx 0 hn
  grind[upd,Ax]
 have hne:t≠g.nx:=fun e=>by grind[D6]
 rw[C3 _ _ hne]at ht
 have:=hout t k ht;rw[Jg]
 grind[upd,L9]
def Ga (s:ByteArray):List V:=s.data.toList.map fun b=>V.int .u8 (b.toNat:Int)
def Ml (s:ByteArray):(Ga s).length=s.size:=by simp[Ga]
def ZN (s:ByteArray){i:Nat}(hi:i<(Ga s).length):∃b,s.data[i]? =some b∧(Ga s).getD i .bad= .int .u8 (b.toNat:Int):=by
 have h:i<s.data.size:=by rw[Ml]at hi;exact hi
 simp_all[Ga]
def Pg (s:ByteArray):(Ga s).all (fun x=>x.cells.length==1)=true:=by
 rw[DS]
 grind[Ga,V.cells]
def ZO (s:ByteArray)(i _:Nat):Value:=.int .u8 ((s.data.getD i 0).toNat:Int)
def WS (s:ByteArray)(g:Gh)(w:World):∀i j,i<(Ga s).length→j<1→(ZO s i j).oneCell'=true∧VR g w (ZO s i j) (((Ga s).getD i .bad).cells.getD j .bad):=by
 intro i j hi hj;obtain⟨b,h1,h2⟩:=ZN s hi
 have hj0:j=0:=by omega
 subst hj0;rw[h2]
 have:s.data.getD i 0=b:=by rw[M7,h1];rfl
 exact⟨rfl,by simp only[ZO,this];exact VR.int _ _⟩
def TD (P:Program) (s:ByteArray) (w':World):(Builtin.firstCells 1 (Ga s).length (.string s)).run P w'= .ok ((List.range ((Ga s).length*1)).map fun k=>ZO s (k / 1) (k % 1)).toArray w':=by
 simp only[Builtin.firstCells,C4,Ml,Nat.mul_one,Nat.div_one]
 congr 1
 apply Array.ext';apply Bv;intro i
 have hx:(s.extract 0 s.size).data=s.data:=by
  have:s.extract 0 s.size=s:=by
   simp_all
  rw[this]
 rw[hx]
 by_cases hi:i<s.data.size
 ·have hs:i<s.size:=hi
  simp_all[ZO]
 simp_all
theorem Sk {s y:Operand}{b:ByteArray}{sT yT e:TypeId}{id by_:Nat}{lo n:Int}{z:V}{xs:List V}(ho:o.op= .call {callee:=.builtin .append,args:= #[s,y],argTypes:= #[sT,yT]})
 (hs:ev fr s= .own id lo n) (hk:H id=some (.arr 1 xs)) (hb:ev fr y= .str b) (he:EO P sT=some e) (hyT:P.underlying yT=some .string) (hsz:Eh P e=some 1) (hby:Ny P e=some by_) (hbp:0<by_)
 (hz:HA P e=some z) (hz1:z.one=true) (hzl:z.cells.length=1)
 (hin:lo+n+((Ga b).length:Nat)≤(xs.length:Nat)→K (.own id lo (n+((Ga b).length:Nat))) (upd H id (some (.arr 1 (Ax xs (lo+n).toNat (Ga b))))))
 (hout:(xs.length:Nat)<lo+n+((Ga b).length:Nat)→(n.toNat+(Ga b).length)*by_≤140737488355328∧∀t k,H t=none→K (.own t 0 (n+((Ga b).length:Nat))) (upd H t (some (.arr 1 (L9 xs lo n++Ga b++List.replicate k z))))):I7 P o fr H K:=by
 intro g w a hR hE;have hvs:=E6 hR hE s
 rw[hs]at hvs
 have hvy:=E6 hR hE y
 rw[hb]at hvy
 rw[P5 ho];simp only[Y3,G2,J3];rw[hvy.str_inv];exact HW hR hvs (WS b g w) (by rw[Ml];rfl) (fun w' _=>TD P b w') hk he (.inr hyT) hsz (by decide) hby hbp hz hz1 hzl (Pg b) hin hout
theorem QL {s y:Operand} {b:ByteArray} {sT yT e:TypeId} {by_:Nat} {z:V} (ho:o.op= .call {callee:=.builtin .append,args:= #[s,y],argTypes:= #[sT,yT]})
 (hs:ev fr s= .sl [] .nil∨ev fr s= .sl [] .full) (hb:ev fr y= .str b) (he:EO P sT=some e) (hyT:P.underlying yT=some .string) (hsz:Eh P e=some 1) (hby:Ny P e=some by_) (hbp:0<by_)
 (hz:HA P e=some z) (hz1:z.one=true) (hzl:z.cells.length=1)
 (hbound:(Ga b).length*by_≤140737488355328)
 (hout:∀t k,H t=none→K (.own t 0 ((Ga b).length:Nat)) (upd H t (some (.arr 1 (Ga b++List.replicate k z))))):I7 P o fr H K:=by
 intro g w a hR hE;obtain⟨g',st,hR',hn,hv⟩:=DY hR 1 hs (E6 hR hE s);have hvy:=E6 hR hE y
 rw[hb]at hvy
 rw[P5 ho];simp only[Y3,G2,J3];rw[hvy.str_inv];refine H6.mono ?_ (HW (K:=fun v H2=>∃H3,K v H3∧∀id b,H3 id=some b→H2 id=some b) hR' hv (WS b g' w) (by rw[Ml];rfl) (fun w' _=>TD P b w') (D6 _ _ _) he (.inr hyT) hsz (by decide) hby hbp hz hz1 hzl (Pg b) (fun hle'=>?_) (fun _=>⟨by simp_all,fun t k ht=>?_⟩))
 ·exact fun v w' ⟨g2,x,H2,s2,hR2,hv2,H3,hK,hle3⟩=>⟨g2,x,H3,st.trans s2,hR2.less hle3,hv2,hK⟩
 ·have hy0:Ga b=[]:=List.length_eq_zero_iff.1 (by simp_all)
  rw[hy0]at hout ⊢
  have:=hout g.nx 0 hn
  grind[upd,Ax]
 have hne:t≠g.nx:=fun e=>by grind[D6]
 rw[C3 _ _ hne]at ht
 have:=hout t k ht;rw[Jg]
 grind[upd,L9]
end
def JW (P:Program) (H:A4) (t:TypeId) (v:V) (lo hi mx:Option Int):Option V:=
 match EO P t,v with
 | some e,.own id l n=>
  match Eh P e,Hh H id with
  | some sz,some (sz',xs)=>
   if sz=sz'∧0≤lo.getD 0∧lo.getD 0≤hi.getD n∧hi.getD n≤mx.getD ((xs.length:Nat)-l)∧mx.getD ((xs.length:Nat)-l)≤(xs.length:Nat)-l∧(mx.isSome=true→hi.isSome=true)then
    some (match mx with|none=>.own id (l+lo.getD 0) (hi.getD n-lo.getD 0)|some _=>.bad)else none
  |_,_=>none
 |_,_=>none
def WD (P:Program)(H:A4)(t:TypeId)(v:V):Option V:=
 match EO P t,v with
 |some _,.own id l _=>(Hh H id).map fun q=>.int .i64 ((q.2.length:Nat)-l)
 |some _,.sl [] .nil=>some (.int .i64 0)
 |some _,.sl [] .full=>some (.int .i64 0)
 |_,_=>none
section
variable {P:Program}{o:Oper}{fr:Fr}{H:A4}{K:V→A4→Prop}
def EE {z:V}{m i:Nat}(h:i<m):(List.replicate m z).getD i .bad=z:=by
 simp_all
theorem Ln {g:Gh} {w:World} (hR:Rl g H w) {vs vy:Value} {ty:TypeId} {cs:Array Bool} {sT yT e:TypeId} {k k':IntKind} {id sz by_:Nat} {lo n m:Int} {z:V} {xs:List V} (hvs:VR g w vs (.own id lo n)) (hvy:VR g w vy (.int k m))
 (hk:H id=some (.arr sz xs)) (he:EO P sT=some e) (hyT:P.underlying yT=some (.int k')) (hsz:Eh P e=some sz) (hpos:0<sz) (hby:Ny P e=some by_) (hbp:0<by_)
 (hz:HA P e=some z) (hz1:z.one=true) (hzl:z.cells.length=sz) (hm0:0≤m)
 (hbound:(n.toNat+m.toNat)*by_≤140737488355328)
 (hin:lo+n+m≤(xs.length:Nat)→K (.own id lo (n+m)) (upd H id (some (.arr sz (Ax xs (lo+n).toNat (List.replicate m.toNat z))))))
 (hout:(xs.length:Nat)<lo+n+m→∀t k,H t=none→K (.own t 0 (n+m)) (upd H t (some (.arr sz (L9 xs lo n++List.replicate m.toNat z++List.replicate k z))))):
 H6 P (L4 g w K) ((builtin .append #[sT,yT] ty cs #[vs,vy]).run P w):=by
 have ey:=hvy.int_inv;have hu:=P0 he;obtain⟨zv,ez,hzv⟩:=CS hz
 have hzr:VR g w zv z:=by rw[ez];grind[DJ]
 obtain⟨hzs',hzc⟩:=hzr.cells hz1
 have hzs:zv.cells.size=sz:=by rw[hzs',hzl]
 have hbytes:∀w,(typeInfo e).run P w= .ok ((P.info? e).getD default) w∧((P.info? e).getD default).bytes=by_:=by
  intro w
  unfold Ny at hby
  cases hi:P.info? e with
  |none=>simp_all
  |some i=>simp[hi]at hby;simp[typeInfo,hi,hby]
 have hbi:∀w,(typeInfo e).run P w= .ok ((P.info? e).getD default) w:=fun w=>(hbytes w).1;have hbb:=(hbytes w).2
 have hmn:m=(m.toNat:Nat):=by omega
 generalize hmm:m.toNat=mm at *
 subst hmn
 have hlr:(List.replicate mm z).length=mm:=by simp
 have hmb:mm*by_≤140737488355328:=V2 (J7 _ (Nat.le_add_left _ _)) hbound;have hm1:mm≤mm*by_:=JJ _ hbp;have hw1:IntKind.i64.wrap (mm:Int)=mm:=wrap_small _ (by omega) (by omega)
 have hleny:∀i,i<(List.replicate mm z).length→((List.replicate mm z).getD i .bad).cells.length=sz:=fun i hi=>by rw[EE (by omega)];exact hzl
 have hfy:∀i j,i<(List.replicate mm z).length→j<sz→(zv.cells.getD j undef).oneCell'=true∧VR g w (zv.cells.getD j undef) (((List.replicate mm z).getD i .bad).cells.getD j .bad):=fun i j hi hj=>by
  rw[EE (by omega)];simp_all
 have hzero:((List.range (mm*sz)).map fun k=>zv.cells.getD (k % sz) undef).toArray=Builtin.zeroCells zv.cells mm:=by
  apply Fz
  ·grind[size_zeroCells]
  intro i h1 h2
  have hi:i<mm*sz:=by grind
  have hq:i % sz<zv.cells.size:=by rw[hzs];simp_all[DO]
  unfold Builtin.zeroCells
  simp_all
 have hn1:¬((mm:Int)<0):=by omega
 have hn2:¬(281474976710656<(mm:Int)*(by_:Int)):=by
  have:((mm*by_:Nat):Int)≤140737488355328:=by omega
  rw[Int.natCast_mul]at this
  omega
 have happ:∀w':World,(if mm*sz=0 then pure #[]else(do pure (Builtin.zeroCells (←zeroValue e).cells mm):Sem (Array Value))).run P w'= .ok ((List.range (mm*sz)).map fun k=>zv.cells.getD (k % sz) undef).toArray w':=by
  intro w'
  by_cases h0:mm*sz=0
  ·rw[A1 h0,h0];rfl
  simp_all
 obtain⟨b,p,h1,h2,h3,h4,h5,h6,h7,h8,h9,h10⟩:=Ex hR hk hvs;simp only[builtin,B9,ey]
 by_cases hc:lo+n+(mm:Int)≤(xs.length:Nat)
 ·obtain⟨base,cap,w',q1,q2,q3,q4,q5⟩:=Ai5 (P:=P) (K:=K) (ys:=List.replicate mm z) (fy:=fun _ j=>zv.cells.getD j undef) hR hk hvs hpos hleny hfy (by rw[hlr];exact hc) (by rw[hlr];exact hin hc)
  rw[hlr]at q2 q4 q5
  rw[q1]
  have hrun:(Builtin.append_ #[sT,yT] ty #[.slice base n.toNat cap,.int k mm]).run P w= .ok (.slice base (n.toNat+mm) cap) w':=by
   have ha:=happ w
   simp only[V0,B9,hzv,C4,B7]at ha
   simp only[Builtin.append_,B9,run_underlying hu,B7,O4 hsz,run_underlying hyT,C4,V0,Q1,asInt,asIntOf,hw1,hbi,hbb,
    AN,Ai,E2,D7,M5,D1,gt_iff_lt,A3 hn1,Int.reducePow,A3 hn2,K0,A1 q2,hzv,ha]
   cases base with
   |none=>simp_all
   |some a=>simp_all
  rw[hrun]
  simp_all[H6]
 have hout:=hout (by omega)
 have hall:(L9 xs lo n).all (fun x=>x.cells.length==sz)=true:=KK fun i hi=>by
  rw[Bn h3 h4 h5]at hi
  rw[Nb hi];grind
 obtain⟨base,cap,fs,es,hfs,hrs⟩:=Ig P hR (x:=.own id lo n) (xs:=L9 xs lo n) (by grind[QJ,Hh]) hvs hall;have hrs:=hrs _ (D3 _);have hsl:=Bn h3 h4 h5
 have hcap:cap=xs.length-lo.toNat:=by rw[h2]at es;simp_all
 have hc':¬((L9 xs lo n).length+mm≤cap):=by omega
 have hnf:¬(2 ^ 48<Builtin.nextslicecap ((L9 xs lo n).length+mm) cap*by_):=by
  have:=growslice_fits (Hr hc') (by rw[hsl];exact hbound);omega
 have hdr:∀b o,w.drew.cell? ⟨b,o,none⟩=w.cell? ⟨b,o,none⟩:=fun _ _=>rfl;generalize hG:grownCap w ((L9 xs lo n).length+mm) cap e=G
 have hGe:(L9 xs lo n).length+mm≤G:=by rw[←hG];grind[grownCap_ge]
 have hn63':¬(IntKind.i64.max<(((L9 xs lo n).length+mm:Nat):Int)∧(True∨by_=0)):=by
  rintro⟨h,_⟩
  have h1':((L9 xs lo n).length+mm)≤(n.toNat+mm)*by_:=by rw[hsl];simp_all[JJ]
  have h2':(9223372036854775807:Int)<(((L9 xs lo n).length+mm:Nat):Int):=h;omega
 have hrun:(Builtin.append_ #[sT,yT] ty #[.slice base (L9 xs lo n).length cap,.int k mm]).run P w=
  .ok (.slice (some ⟨w.heap.size,0,none⟩) ((L9 xs lo n).length+mm) G)
   (w.drew.alloc (.cells (((List.range ((L9 xs lo n).length*sz)).map fun k=>fs (k / sz) (k % sz)).toArray++((List.range (mm*sz)).map fun k=>zv.cells.getD (k % sz) undef).toArray++
    Builtin.zeroCells zv.cells (G-((L9 xs lo n).length+mm))) e)):=by
  have hGd:(Question.appendCap ((L9 xs lo n).length+mm) cap e).cut (w.tape w.drawn (.appendCap ((L9 xs lo n).length+mm) cap e))=G:=hG;have hf:(Question.appendCap ((L9 xs lo n).length+mm) cap e).forced=false:=rfl;have hrs':=hrs w.drew hdr
  rw[es]at hrs'
  have ha:=happ w.drew
  simp only[V0,B9,hzv,C4,B7]at ha
  simp only[Builtin.append_,B9,run_underlying hu,B7,O4 hsz,run_underlying hyT,C4,V0,hbi,hbb,Q1,asInt,asIntOf,hw1,
   AN,Ai,E2,D7,M5,D1,gt_iff_lt,true_or,A3 hn1,Int.reducePow,A3 hn2,K0,A3 hc',A3 hnf,run_choose,hf,hGd,Hl,run_askRoom,hrs',ha,hzv,newRow,run_newObj,
   DN,Hp]
  rw[A3 (by simp_all)]
 rw[es,hrun];simp only[B7,C4,H6];have:=XM (K:=K) (e:=e) (ys:=List.replicate mm z) (fs:=fs) (fy:=fun _ j=>zv.cells.getD j undef) hR hpos hzr hz1 hzl (FV hall) hleny hfs hfy (by rw[hlr];exact hGe) (m:=n+(mm:Int)) (by rw[hlr];omega) hout
 rw[hlr]at this
 exact this
def Sj {s y:Operand}{sT yT e:TypeId}{k k':IntKind}{id sz by_:Nat}{lo n m:Int}{z:V}{xs:List V}(ho:o.op= .call {callee:=.builtin .append,args:= #[s,y],argTypes:= #[sT,yT]})
 (hs:ev fr s= .own id lo n) (hy:ev fr y= .int k m) (hk:H id=some (.arr sz xs)) (he:EO P sT=some e) (hyT:P.underlying yT=some (.int k')) (hsz:Eh P e=some sz) (hpos:0<sz) (hby:Ny P e=some by_) (hbp:0<by_)
 (hz:HA P e=some z) (hz1:z.one=true) (hzl:z.cells.length=sz) (hm0:0≤m)
 (hbound:(n.toNat+m.toNat)*by_≤140737488355328)
 (hin:lo+n+m≤(xs.length:Nat)→K (.own id lo (n+m)) (upd H id (some (.arr sz (Ax xs (lo+n).toNat (List.replicate m.toNat z))))))
 (hout:(xs.length:Nat)<lo+n+m→∀t k,H t=none→K (.own t 0 (n+m)) (upd H t (some (.arr sz (L9 xs lo n++List.replicate m.toNat z++List.replicate k z))))):I7 P o fr H K:=by
 intro g w a hR hE;have hvs:=E6 hR hE s;have hvy:=E6 hR hE y
 rw[hs]at hvs
 rw[hy]at hvy
 rw[P5 ho]
 grind[Ln]
theorem QK {s y:Operand} {sT yT e:TypeId} {k k':IntKind} {sz by_:Nat} {m:Int} {z:V} (ho:o.op= .call {callee:=.builtin .append,args:= #[s,y],argTypes:= #[sT,yT]})
 (hs:ev fr s= .sl [] .nil∨ev fr s= .sl [] .full) (hy:ev fr y= .int k m) (he:EO P sT=some e) (hyT:P.underlying yT=some (.int k')) (hsz:Eh P e=some sz) (hpos:0<sz) (hby:Ny P e=some by_) (hbp:0<by_)
 (hz:HA P e=some z) (hz1:z.one=true) (hzl:z.cells.length=sz) (hm0:0≤m)
 (hbound:m.toNat*by_≤140737488355328)
 (hout:∀t k,H t=none→K (.own t 0 m) (upd H t (some (.arr sz (List.replicate m.toNat z++List.replicate k z))))):I7 P o fr H K:=by
 intro g w a hR hE;obtain⟨g',st,hR',hn,hv⟩:=DY hR sz hs (E6 hR hE s);have hvy:=(E6 hR hE y).mono st
 rw[hy]at hvy
 rw[P5 ho];simp only[Y3,G2,J3];refine H6.mono ?_ (Ln (K:=fun v H2=>∃H3,K v H3∧∀id b,H3 id=some b→H2 id=some b) hR' hv hvy (D6 _ _ _) he hyT hsz hpos hby hbp hz hz1 hzl hm0 (by simp_all) (fun hle'=>?_) (fun _ t k ht=>?_))
 ·exact fun v w' ⟨g2,x,H2,s2,hR2,hv2,H3,hK,hle3⟩=>⟨g2,x,H3,st.trans s2,hR2.less hle3,hv2,hK⟩
 ·have hm:m=0:=by grind
  grind[upd,Ax]
 have hne:t≠g.nx:=fun e=>by grind[D6]
 rw[C3 _ _ hne]at ht
 have:=hout t k ht;rw[Jg]
 grind[upd,L9]
theorem TG {t:TypeId} {y:Operand} {lo hi mx:Option Operand} {il ih im:Option Int} {x:V} (ho:o.op= .slice t y lo hi mx) (hlo:BX (lo.map (ev fr))=some il) (hhi:BX (hi.map (ev fr))=some ih)
 (hmx:BX (mx.map (ev fr))=some im) (hl:JW P H t (ev fr y) il ih im=some x) (h:K x H):I7 P o fr H K:=by
 intro g w a hR hE;have hv:=E6 hR hE y;have hrl:=Fb hR hE hlo;have hrh:=Fb hR hE hhi;have hrm:=Fb hR hE hmx
 have hb:∀(isSlice:Bool) (len cap:Nat),0≤il.getD 0→il.getD 0≤ih.getD len→ih.getD len≤im.getD cap→im.getD cap≤cap→(im.isSome=true→ih.isSome=true)→
  (Instr.sliceBounds isSlice len cap (lo.map a.eval) (hi.map a.eval) (mx.map a.eval)).run P w= .ok ((il.getD 0).toNat,(ih.getD len).toNat,(im.getD cap).toNat) w:=by
  grind[Ps]
 unfold JW at hl
 split at hl
 ·rename_i e id l n hse he;have hu:=P0 hse
  split at hl
  ·rename_i sz sz' xs hs hx
   split at hl
   ·rename_i hc;obtain⟨c0,c1,c2,c3,c4,c5⟩:=hc;subst c0
    rw[he]at hv
    have hk:=Fj hx;obtain⟨b,p,h1,h2,h3,h4,h5,h6,h7,h8,h9,h10⟩:=Ex hR hk hv
    have ecap:(((xs.length-l.toNat:Nat):Nat):Int)=(xs.length:Nat)-l:=by omega
    have en:((n.toNat:Nat):Int)=n:=by omega
    have hb':=hb true n.toNat (xs.length-l.toNat) c1 (by rw[en];exact c2) (by rw[en,ecap];exact c3) (by rw[ecap];exact c4) c5
    rw[en,ecap]at hb'
    unfold execOp;rw[ho];simp only[h2,Instr.sliceAt,Instr.slice,B9,run_underlying hu,B7,hb',O4 hs,C4,H6]
    cases hmi:im with
    |some m=>
     rw[hmi]at hl
     simp only[E8]at hl
     subst hl;exact L4.here hR (.bad _) h
    | none=>
     rw[hmi]at hl
     simp only[E8]at hl
     subst hl;refine L4.here hR ?_ h
     simp only[hmi,Cm]at c3 c4
     simp only[Cm]
     have hown:=VR.own (g:=g) (w:=w) (id:=id) (b:=b) (lo:=l+il.getD 0) (n:=ih.getD n-il.getD 0) (p:=if((xs.length:Nat)-l:Int).toNat=(il.getD 0).toNat then p else p.map fun q=>q.add ((il.getD 0).toNat*sz)) h1 (by omega) (by omega) (by rw[h7];omega)
      (fun hlt=>by
       rw[h7]at hlt
       rw[A3 (by omega),h8 (by omega),h6];simp only[J4,Y9]
       rw[show(l+il.getD 0).toNat=l.toNat+(il.getD 0).toNat by omega,G5,Br])
     rw[h7]at hown
     have e1:(ih.getD n-il.getD 0).toNat=(ih.getD n).toNat-(il.getD 0).toNat:=by omega
     have e2:xs.length-(l+il.getD 0).toNat=((xs.length:Nat)-l:Int).toNat-(il.getD 0).toNat:=by omega
     rw[e1,e2]at hown
     omega
   cases hl
  cases hl
 cases hl
theorem ZY {y:Operand} {t:TypeId} {x:V} (ho:o.op= .call {callee:=.builtin .cap,args:= #[y],argTypes:= #[t]}) (hl:WD P H t (ev fr y)=some x) (h:K x H):I7 P o fr H K:=by
 intro g w a hR hE;have hv:=E6 hR hE y;rw[P5 ho];simp only[builtin,Y3,G2,J3,B9]
 unfold WD at hl
 split at hl
 ·rename_i e id l n hse he
  rw[he]at hv
  cases hx:Hh H id with
  |none=>rw[hx]at hl;cases hl
  |some q=>
   obtain⟨sz,xs⟩:=q
   rw[hx]at hl
   simp only[J4,E8]at hl
   subst hl;obtain⟨b,p,h1,h2,h3,h4,h5,h6,h7,h8,h9,h10⟩:=Ex hR (Fj hx) hv;have hu:=P0 hse;simp[Builtin.cap_,run_underlying hu,goInt,h2];rw[show(((xs.length-l.toNat:Nat):Nat):Int)=(xs.length:Nat)-l by omega];exact L4.here hR (.int _ _) h
 ·rename_i e hse he
  rw[he]at hv
  cases hl;have hu:=P0 hse
  generalize a.eval y=v at hv
  cases hv with
  |sl0 ht=>simp[Builtin.cap_,run_underlying hu,goInt];exact L4.here hR (.int _ _) h
  |sle h=>rcases h with h|⟨h,_⟩<;>cases h
  |sl vs hn hc hz hf hw h1 hv ht=>exact ht.elim
 ·rename_i e hse he
  rw[he]at hv
  cases hl;have hu:=P0 hse
  generalize a.eval y=v at hv
  cases hv with
  |sl0 ht=>simp[Builtin.cap_,run_underlying hu,goInt];exact L4.here hR (.int _ _) h
  |sle hh=>
   rcases hh with hh|⟨_,hh⟩
   ·cases hh
   subst hh;simp[Builtin.cap_,run_underlying hu,goInt];exact L4.here hR (.int _ _) h
  |sl vs hn hc hz hf hw h1 hv ht=>
   rename_i b o sz n cap
   have e1:n=0:=by simp_all
   have e2:cap=n:=ht;subst e2;subst e1;simp[Builtin.cap_,run_underlying hu,goInt];exact L4.here hR (.int _ _) h
 cases hl
def RP {id sz m:Nat} {xs ys:List V} {g:Gh} {H:A4} {w:World} {b:Nat} {p:Option Addr} {lo:Int} (hR:Rl g H w) (hk:H id=some (.arr sz xs)) (h1:g.mu id=some b) (h6:(g.ow id).sz=sz) (h8:lo<(xs.length:Nat)→p=some ⟨b,(g.ow id).o+lo.toNat*sz,none⟩)
 (h9:∀i,i<xs.length→(xs.getD i .bad).cells.length=sz)
 (h10:xs.length=0∨∃c T,g.base≤b∧w.heap[b]? =some (.cells c T (0,0))∧(g.ow id).o+xs.length*sz≤c.size∧
  (∀i j,i<xs.length→j<sz→(c.getD ((g.ow id).o+i*sz+j) undef).oneCell'=true∧VR g w (c.getD ((g.ow id).o+i*sz+j) undef) ((xs.getD i .bad).cells.getD j .bad))∧
  (∀o,(g.ow id).o≤o→¬g.fz b o)∧g.at H id=some b)
 (hpos:0<sz) (hm:ys.length=m) (hin:lo.toNat+m≤xs.length) (hleny:∀i,i<ys.length→(ys.getD i .bad).cells.length=sz) (fy:Nat→Nat→Value)
 (hfy:∀i j,i<ys.length→j<sz→(fy i j).oneCell'=true∧VR g w (fy i j) ((ys.getD i .bad).cells.getD j .bad)):
 ∃w',(match p with|some a=>(storeCells a ((List.range (m*sz)).map fun k=>fy (k / sz) (k % sz))).run P w|none=>.ok () w)= .ok () w'∧
  U3 g w g w'∧Rl g (upd H id (some (.arr sz (Ax xs lo.toNat ys)))) w':=by
 by_cases hm0:m=0
 ·subst hm0;have hy0:ys=[]:=List.length_eq_zero_iff.1 hm;subst hy0;refine⟨w,by cases p<;>simp[storeCells],U3.refl _ _,?_⟩
  have e:Ax xs lo.toNat []=xs:=by simp[Ax]
  have:upd H id (some (.arr sz xs))=H:=by
   funext x
   simp_all[upd]
  rw[e,this];exact hR
 have hp:=h8 (by omega);subst hp
 rcases h10 with h10|⟨c,T,k1,k2,k3,k4,k5,k6⟩
 ·omega
 obtain⟨C,hst,s,r⟩:=Xw P hR (i:=lo.toNat) (m:=m) (ys:=ys) hpos hk h1 h6 (by omega) (by omega) hm k2 k3 k4 h9 hleny fy hfy
 simp_all
theorem Ye {s y:Operand} {sT yT e:TypeId} {id sz:Nat} {lo n:Int} {xs ys:List V} (ho:o.op= .call {callee:=.builtin .copy,args:= #[s,y],argTypes:= #[sT,yT]})
 (hs:ev fr s= .own id lo n) (hk:H id=some (.arr sz xs)) (hsrc:OC sz H (ev fr y) ys) (he:EO P sT=some e) (hsz:Eh P e=some sz) (hpos:0<sz)
 (h:K (.int .i64 (if n<(ys.length:Nat)then n else(ys.length:Nat))) (upd H id (some (.arr sz (Ax xs lo.toNat (ys.take n.toNat)))))):I7 P o fr H K:=by
 intro g w a hR hE;have hvs:=E6 hR hE s;have hvy:=E6 hR hE y
 rw[hs]at hvs
 obtain⟨ys0,hy,hle,hay⟩:=hsrc.inv hR hvy;obtain⟨ybase,ycap,fy,ey,hfy0,hry⟩:=Ig P hR hy hvy (hle.sz hay)
 rw[hle.length]at ey hfy0 hry
 have hfy:∀i j,i<ys.length→j<sz→(fy i j).oneCell'=true∧VR g w (fy i j) ((ys.getD i .bad).cells.getD j .bad):=fun i j hi hj=>⟨(hfy0 i j hi hj).1,(hfy0 i j hi hj).2.le ((hle.at i).cells.at j)⟩;have hleny:=FV hay;have hu:=P0 he;obtain⟨b,p,h1,h2,h3,h4,h5,h6,h7,h8,h9,h10⟩:=Ex hR hk hvs;rw[P5 ho];simp only[builtin,Y3,G2,J3,B9];generalize hm:Nat.min ys.length n.toNat=m;have hm':m=min ys.length n.toNat:=hm.symm
 have hmi:(m:Int)=if n<(ys.length:Nat)then n else(ys.length:Nat):=by split<;>omega
 have htk:ys.take n.toNat=ys.take m:=by
  grind
 rw[htk,←hmi]at h
 have hlt:(ys.take m).length=m:=by simp;omega
 have hgt:∀i,i<m→(ys.take m).getD i .bad=ys.getD i .bad:=fun i hi=>by
  grind
 have hfc:=hry m (by omega) w fun _ _=>rfl;obtain⟨w',hst,hs',hr'⟩:=RP (P:=P) (m:=m) (ys:=ys.take m) hR hk h1 h6 h8 h9 h10 hpos hlt (by omega) (fun i hi=>by rw[hlt]at hi;rw[hgt i hi];grind) fy (fun i j hi hj=>by rw[hlt]at hi;rw[hgt i hi];grind)
 rw[ey]at hfc
 have hrun:(Builtin.copy_ #[sT,yT] o.type #[a.eval s,a.eval y]).run P w= .ok (.int .i64 m) w':=by
  rw[ey,h2]
  simp only[Builtin.copy_,B9,run_underlying hu,B7,O4 hsz,C4,Builtin.lenOf,Q1,
   AN,Ai,hm,hfc,goInt]
  grind[Sem.run_bind,Sem.run_pure,Result.andThen_ok]
 rw[hrun];simp only[B7,C4,H6];exact⟨g,.int .i64 m,_,hs',hr',.int _ _,h⟩
theorem VJ {s:Operand} {sT e:TypeId} {id sz:Nat} {lo n:Int} {z:V} {xs:List V} (ho:o.op= .call {callee:=.builtin .clear,args:= #[s],argTypes:= #[sT]})
 (hs:ev fr s= .own id lo n) (hk:H id=some (.arr sz xs)) (he:EO P sT=some e) (hsz:Eh P e=some sz) (hpos:0<sz) (hz:HA P e=some z) (hz1:z.one=true) (hzl:z.cells.length=sz)
 (h:K (.tup []) (upd H id (some (.arr sz (Ax xs lo.toNat (List.replicate n.toNat z)))))):I7 P o fr H K:=by
 intro g w a hR hE;have hvs:=E6 hR hE s
 rw[hs]at hvs
 have hu:=P0 he;obtain⟨zv,ez,hzv⟩:=CS hz
 have hzr:VR g w zv z:=by rw[ez];grind[DJ]
 obtain⟨hzs',hzc⟩:=hzr.cells hz1
 have hzs:zv.cells.size=sz:=by rw[hzs',hzl]
 obtain⟨b,p,h1,h2,h3,h4,h5,h6,h7,h8,h9,h10⟩:=Ex hR hk hvs
 have hlr:(List.replicate n.toNat z).length=n.toNat:=by simp
 have hzero:(Builtin.zeroCells zv.cells n.toNat).toList=(List.range (n.toNat*sz)).map fun k=>zv.cells.getD (k % sz) undef:=by
  unfold Builtin.zeroCells
  simp_all[DO]
 obtain⟨w',hst,hs',hr'⟩:=RP (P:=P) (m:=n.toNat) (ys:=List.replicate n.toNat z) hR hk h1 h6 h8 h9 h10 hpos hlr (by omega) (fun i hi=>by rw[EE (by omega)];exact hzl)
  (fun _ j=>zv.cells.getD j undef) (fun i j hi hj=>by rw[EE (by omega)];simp_all)
 rw[P5 ho];simp only[builtin,Y3,G2,J3,B9]
 have hrun:(Builtin.clear_ #[sT] o.type #[a.eval s]).run P w= .ok (.tuple #[]) w':=by
  rw[h2];simp only[Builtin.clear_,B9,run_underlying hu,B7,Q1,AN]
  generalize hb:p=base at hst ⊢
  cases base with
  |none=>simp_all
  | some q=>
   simp only at hst
   cases hn:n.toNat with
   |zero=>rw[hn]at hst;simp[storeCells]at hst;subst hst;rfl
   |succ k=>
    rw[hn]at hst hzero
    simp_all
 rw[hrun];simp only[B7,C4,H6];exact⟨g,.tup [],_,hs',hr',.und _ _,h⟩
end
def YF (v:V):Option Prop:=
 match v with
 | .sl xs _=>some (xs=[])
 | .own _ _ n=>some (n=0)
 |_=>none
def Ac9 {g:Gh} {w:World} {x:V} {v:Value} {p:Prop} (h:YF x=some p) (hv:VR g w v x):∃a n c,v= .slice a n c∧(a.isNone=true→p):=by
 unfold YF at h
 split at h
 ·cases h
  cases hv with
  |sl0 ht=>simp_all
  |sle ht=>simp_all
  |sl vs hn hc hz hf hw h1 hv ht=>simp_all
 ·cases h
  cases hv with
  |own hm h0 h1 h2 hp=>
   grind
 cases h
def XH:BinOp→Option Bool
 | .eql=>some true
 | .neq=>some false
 |_=>none
section
variable {P:Program}{o:Oper}{fr:Fr}{H:A4}{K:V→A4→Prop}
theorem Al4 {op:BinOp} {t ty e:TypeId} {y z:Operand} {p:Prop} {q:Bool} (ho:o.op= .binOp op t y z ty) (hq:XH op=some q) (hu:EO P t=some e) (hy:YF (ev fr y)=some p) (hz:ev fr z= .sl [] .nil)
 (h1:p→K (.bool q) H) (h0:K (.bool (!q)) H):I7 P o fr H K:=by
 intro g w a hR hE;have hv:=E6 hR hE y;have hv':=E6 hR hE z
 rw[hz]at hv'
 obtain⟨p',n,c,ea,hp⟩:=Ac9 hy hv
 have ez:a.eval z= .slice none 0 0:=by
  generalize a.eval z=v at hv'
  cases hv' with
  |sl0 ht=>rfl
  |sle h=>rcases h with h|⟨h,_⟩<;>cases h
  |sl vs hn hc hz hf hw h1 hv ht=>exact ht.elim
 have hu':=P0 hu;unfold execOp;rw[ho];simp only[B9,ea,ez]
 have hg:(eqGuard op t y z (.slice p' n c) (.slice none 0 0)).run P w= .ok () w:=by
  cases op<;>simp[eqGuard]
 rw[hg];simp only[B7]
 have hb:(binOp op t (.slice p' n c) (.slice none 0 0)).run P w= .ok (.bool (if p'.isNone then q else !q)) w:=by
  cases op<;>simp only[XH,E8,reduceCtorEq]at hq<;>subst hq
  ·rw[Lib.run_eql_slice_nil w t e p' n c 0 0 hu'];cases p'<;>rfl
  grind[run_neq_slice_nil_any]
 rw[hb];simp only[B7,C4,H6]
 cases hpn:p'.isNone with
 |true=>exact L4.here hR (.bool _) (h1 (hp hpn))
 |false=>exact L4.here hR (.bool _) h0
end
end Go.Ab
namespace Go.Ab
open Go.MapKept
structure KG (P:Program) (kt:TypeId) (G:Value→Prop):Prop where
 check:∀(w:World) (em:Bool) {v:Value},G v→(Instr.checkKey em 10000 kt v).run P w= .ok () w
 find:∀(w:World) {x:Value},G x→∀es:List MapEntry,(∀e∈es,G e.key)→
  ((Instr.findKey kt x es).run P w= .ok none w∧∀e∈es,e.key≠x)∨∃j e,(Instr.findKey kt x es).run P w= .ok (some (j,e.val)) w∧es[j]? =some e∧e.key=x
 stays:∀(w:World) {v:Value},G v→(Instr.keyThatStays v v).run P w= .ok v w
def KG.scalar {P:Program} {kt:TypeId} {d:TypeDesc} (hd:P.underlying kt=some d):KG P kt (IsKey d) where
 check:=fun w em v h=>run_checkKey hd h em 9999
 find:=fun w x hx es h=>by
  rcases findNow_spec hx es 0 h with⟨h1,h2⟩|⟨j,e,h1,h2,h3⟩
  ·grind[run_findKey]
  exact .inr ⟨j,e,by rw[run_findKey hd h1,V1],h2,h3⟩
 stays:=fun w v h=>run_keyThatStays h
section
variable {P:Program}{kt el n:Nat}{k:IntKind}
def Nh (w:World)(he:P.underlying el=some (.int k)){xs:List Int}{i:Nat}(hi:i<xs.length):(part el (xs.map (Value.int k)).toArray i).run P w= .ok (.int k (xs[i])) w:=
 run_part_plain w (by simp[Program.plainKey,he]) (by simp[hi])
def MF (w:World) (he:P.underlying el=some (.int k)) (d:Nat) {xs ys:List Int} (hl:ys.length=xs.length):∀is:List Nat,(∀i∈is,i<xs.length)→
 ∃r:Bool,(Op.eqItems (d+1) el 1 (xs.map (Value.int k)).toArray (ys.map (Value.int k)).toArray is).run P w= .ok r w∧(r=true↔∀i∈is,xs[i]? =ys[i]?)
 |[],_=>⟨true,by simp[Op.eqItems],by simp⟩
 |i::is,h=>by
  have hi:=h i (.head _)
  have hj:i<ys.length:=by omega
  obtain⟨r,hr,hiff⟩:=MF w he d hl is fun j hj=>h j (.tail _ hj);have p1:=Nh w he hi;have p2:=Nh (xs:=ys) w he hj;simp only[Op.eqItems,Nat.mul_one,B9,p1,p2,B7,run_equalIn_int w d el k k _ _ he];have e1:xs[i]? =some xs[i]:=D5 hi;have e2:ys[i]? =some ys[i]:=D5 hj
  by_cases hx:xs[i]=ys[i]
  ·simp_all
  simp_all
def Mb (k:IntKind)(n:Nat)(v:Value):Prop:=∃l:List Int,l.length=n∧v= .agg (l.map (Value.int k)).toArray
def Ww (w:World) (hd:P.underlying kt=some (.array n el)) (he:P.underlying el=some (.int k)) (hc:P.cellsOf el=1) {a b:Value} (ha:Mb k n a) (hb:Mb k n b):
 ∃r:Bool,(Op.equal kt a b).run P w= .ok r w∧(r=true↔b=a):=by
 obtain⟨xs,hx,rfl⟩:=ha;obtain⟨ys,hy,rfl⟩:=hb;obtain⟨i,hi⟩:=info_of_underlying he;obtain⟨r,hr,hiff⟩:=MF w he 9998 (xs:=xs) (ys:=ys) (by omega) (List.range n) (by simp_all);refine⟨r,?_,?_⟩
 ·have:=run_equalIn_array w 9999 (xs.map (Value.int k)).toArray (ys.map (Value.int k)).toArray hd hi
  rw[hc]at this
  exact this.trans hr
 rw[hiff]
 constructor
 ·intro h
  have:xs=ys:=by
   apply Bv
   grind
  rw[this]
 intro h
 have h2:(ys.map (Value.int k))=xs.map (Value.int k):=by grind
 have:ys=xs:=by
  apply Bv;intro j;have:=Q0 (fun l=>l[j]?) h2
  grind
 simp_all
theorem Ja (w:World) (hd:P.underlying kt=some (.array n el)) (he:P.underlying el=some (.int k)) (hc:P.cellsOf el=1) {x:Value} (hx:Mb k n x):∀(es:List MapEntry) (i:Nat),(∀e∈es,Mb k n e.key)→
 ((Instr.findAsking kt x es i).run P w= .ok none w∧∀e∈es,e.key≠x)∨∃j e,(Instr.findAsking kt x es i).run P w= .ok (some (i+j,e.val)) w∧es[j]? =some e∧e.key=x
 |[],i,_=>.inl ⟨by simp[Instr.findAsking],by simp⟩
 | e::es,i,h=>by
  obtain⟨r,hr,hiff⟩:=Ww w hd he hc hx (h e (.head _))
  cases r with
  |true=>exact .inr ⟨0,e,by simp[Instr.findAsking,hr],rfl,hiff.1 rfl⟩
  | false=>
   have hne:e.key≠x:=fun q=>by have:=hiff.2 q;cases this
   rcases Ja w hd he hc hx es (i+1) (fun y hy=>h y (.tail _ hy))with⟨h1,h2⟩|⟨j,e',h1,h2,h3⟩
   ·refine .inl ⟨by simp[Instr.findAsking,hr,h1],fun y hy=>?_⟩
    grind
   exact .inr ⟨j+1,e',by simp[Instr.findAsking,hr,h1,Br,Jh 1 j],by grind,h3⟩
def KG.ints (hd:P.underlying kt=some (.array n el)) (he:P.underlying el=some (.int k)) (hc:P.cellsOf el=1):KG P kt (Mb k n) where
 check:=fun w em v hv=>by
  obtain⟨xs,hx,rfl⟩:=hv;obtain⟨i,hi⟩:=info_of_underlying he;rw[Instr.checkKey];simp only[B9,run_underlying hd,B7];simp only[Std.Legacy.Range.forIn_eq_forIn_range',Std.Legacy.Range.size,Nat.sub_zero,Nat.add_one_sub_one,Nat.div_one]
  have hj:∀j∈List.range' 0 n,j<n:=by simp_all
  generalize List.range' 0 n=is at hj
  induction is with
  |nil=>simp
  |cons j is ih=>
   have p1:=Nh (P:=P) (xs:=xs) w he (i:=j) (by have:=hj j (by simp);omega);have p2:(Instr.checkKey em 9999 el (.int k (xs[j]'(by have:=hj j (by simp);omega)))).run P w= .ok () w:=run_checkKey (k:=.int k (xs[j]'(by have:=hj j (by simp);omega))) he rfl em 9998
   simp_all[run_sizeOf]
 find:=fun w x hx es h=>by
  rw[run_findKey_eq w (k:=kt) (by simp[hd])]
  grind[Ja]
 stays:=fun w v hv=>by
  obtain⟨xs,_,rfl⟩:=hv
  have e:∀l:List Int,((l.map (Value.int k)).zip (l.map (Value.int k))).all (fun x=>Instr.sameBits 9999 x.1 x.2)=true:=by
   intro l
   induction l with
   |nil=>rfl
   |cons a l ih=>simp only[G2,List.zip_cons_cons,List.all_cons,ih,Bool.and_true];simp[Instr.sameBits]
  have h2:Instr.sameBits 10000 (.agg (xs.map (Value.int k)).toArray) (.agg (xs.map (Value.int k)).toArray)=true:=by
   rw[Instr.sameBits]
   grind
  simp[Instr.keyThatStays,h2]
end
section
variable {P:Program}{kt n:Nat}{k:IntKind}
structure FldsInt (P:Program) (k:IntKind) (n:Nat) (fs:List Field):Prop where
 all:∀f∈fs,f.name≠ "_" ∧P.underlying f.type=some (.int k)∧f.offset<n
 cov:∀i,i<n→∃f∈fs,f.offset=i
end
end Go.Ab
