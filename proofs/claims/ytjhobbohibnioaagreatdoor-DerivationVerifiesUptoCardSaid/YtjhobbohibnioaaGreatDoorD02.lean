/- AbA10 AbL1 AbO1 AbO2 AbO3 AbO4 AbO5 AbO6 -/
import Derived.Test.YtjhobbohibnioaaGreatDoorD01
import Derived.Laws.Runes
import Derived.Lib.SliceRun
import Derived.WalkSpells
set_option linter.all false
open Nat (add_assoc add_mul add_zero)
namespace Go.Ab
open Go.RowKit
variable [J9]
section
variable {P:Program}{o:Oper}{fr:Fr}{H:A2}{K:V→A2→Prop}
theorem KL {H:A2} {tl:E4} {id:Nat} {b:Fa} (h:G7 H tl id=some b):H id=some b:=by
 cases tl with
 |tok t=>
  simp only[G7,upd]at h
  split at h
  ·cases h
  exact h
 |_=>exact h
theorem Rl.tok {g:Gh} {H:A2} {w w':World} (h:Rl g H w) {b e0 e lim:Nat} {c:Array Value} {T:TypeId} (hb:g.base≤b) (hrow:w'.heap[b]? =some (.cells c T (0,0))) (hlim:c.size=lim) (he:e≤lim)
 (hfree:∀o,e0≤o→¬g.fz b o) (he0:e0≤e) (hcell:∀b o,g.fz b o→w'.cell? ⟨b,o,none⟩=w.cell? ⟨b,o,none⟩) (hl:Below g.base w w') (hother:∀x,x≠b→x<w.heap.size→w'.heap[x]? =w.heap[x]?)
 (hown:∀id,g.at H id≠some b) (hdr:w.drawn≤w'.drawn:=by first|exact Nat.le_refl _|exact Nat.le_succ _|exact Nat.le_add_right _ _):Rl (g.tok b e0 e lim) (upd H g.nx (some .spare)) w':=by
 have s:=T4.tok h b e0 e lim hcell hl hdr;have hnx:=h.nxt g.nx (Nat.le_refl _)
 have hne:∀id,id≠g.nx→(g.tok b e0 e lim).at (upd H g.nx (some .spare)) id=g.at H id:=fun id hi=>
  KQ (A7 _ _ hi) rfl (by simp[Gh.tok,hi])
 have hat:(g.tok b e0 e lim).at (upd H g.nx (some .spare)) g.nx=some b:=by simp[Gh.at,B7,Gh.tok]
 refine⟨fun id k hk=>?_,fun id id' x h1 h2=>?_,fun x o hf=>?_,fun id hi=>?_,?_,fun n=>(h.glb n).mono s⟩
 ·by_cases hi:id=g.nx
  ·subst hi;rw[B7]at hk;cases hk
   refine⟨b,e,lim,c,T,by simp[Gh.tok],hb,hrow,he,hlim,fun o ho hf=>?_⟩
   rcases hf with hf|⟨_,_,h3⟩
   ·exact hfree o (by omega) hf
   omega
  rw[A7 _ _ hi]at hk
  refine(h.blk id k hk).mono hk s fun x hx=>⟨hother x (fun e=>hown id (by rw[hx,e])) (h.lt hx),fun o ho=>?_⟩
  rcases ho with ho|⟨e,_⟩
  ·exact ho
  subst e;exact absurd hx (hown id)
 ·by_cases hi:id=g.nx<;>by_cases hi':id'=g.nx
  ·rw[hi,hi']
  ·subst hi;rw[hat]at h1;rw[hne _ hi']at h2;cases h1;exact absurd h2 (hown _)
  ·subst hi';rw[hat]at h2;rw[hne _ hi]at h1;cases h2;exact absurd h1 (hown _)
  rw[hne _ hi]at h1;rw[hne _ hi']at h2;exact h.inj _ _ _ h1 h2
 ·rcases hf with hf|⟨e',h1,h2⟩
  ·obtain⟨v,hv⟩:=h.frz x o hf;exact⟨v,(hcell x o hf).trans hv⟩
  subst e'
  have:o<c.size:=by omega
  exact⟨c[o],by simp[World.cell?,hrow,this]⟩
 ·have hi':g.nx≤id:=Nat.le_of_succ_le hi
  have hne':id≠g.nx:=fun e=>by subst e;exact absurd hi (Nat.not_succ_le_self _)
  obtain⟨a1,a2,a3⟩:=h.nxt id hi';exact⟨a1,by simp[Gh.tok,hne',a2],by rw[A7 _ _ hne'];exact a3⟩
 have:=h.bnd;have:=hl.size;simp[Gh.tok];omega
theorem DJ {xs ys:List V}{i:Nat}:(xs++ys).getD i .bad=if i<xs.length then xs.getD i .bad else ys.getD (i - xs.length) .bad:=by
 simp only[List.getD_eq_getElem?_getD,List.getElem?_append]
 split<;>rfl
theorem P9 {i j sz:Nat}(hj:j<sz):(i*sz+j) / sz=i∧(i*sz+j) % sz=j:=by
 have hp:0<sz:=by omega
 constructor
 ·rw[Nat.add_comm,Nat.add_mul_div_right _ _ hp,Nat.div_eq_of_lt hj,Nat.zero_add]
 rw[Nat.add_comm,Nat.add_mul_mod_self_right,Nat.mod_eq_of_lt hj]
theorem Ea {i j n sz:Nat}(hi:i<n)(hj:j<sz):i*sz+j<n*sz:=by
 have:(i+1)*sz≤n*sz:=Nat.mul_le_mul_right _ hi
 rw[add_mul]at this
 omega
theorem Jv {s y:Operand} {sT yT e:TypeId} {sz by_:Nat} {z:V} {xs ys:List V} {tl tl':E4} (ho:o.op= .call {callee:=.builtin .append,args:= #[s,y],argTypes:= #[sT,yT]})
 (hs:ev fr s= .sl xs tl) (hy:ev fr y= .sl ys tl') (he:Fc P sT=some e) (hyT:(Fc P yT).isSome=true) (hsz:Ed P e=some sz) (hpos:0<sz) (hby:Oc P e=some by_) (hbp:0<by_)
 (hz:Gt P e=some z) (hz1:z.one=true) (hzl:z.cells.length=sz) (hA:Ik H tl) (hax:xs.all (fun x=>x.cells.length==sz)=true) (hay:ys.all (fun x=>x.cells.length==sz)=true)
 (hbound:(xs.length+ys.length)*by_≤140737488355328) (h0:ys=[]→K (.sl xs tl) H)
 (h:∀t,ys≠[]→G7 H tl t=none→K (.sl (xs++ys) (.tok t)) (upd (G7 H tl) t (some .spare))):F6 P o fr H K:=by
 intro g w a hR hE;have hvs:=D9 hR hE s;have hvy:=D9 hR hE y
 rw[hs]at hvs;rw[hy]at hvy
 obtain⟨base,cap,fs,es,hcap,hfs,hrs,hbs⟩:=Hq (P:=P) hvs hax;obtain⟨ybase,ycap,fy,ey,_,hfy,hry,hby'⟩:=Hq (P:=P) hvy hay;have hu:=P2 he;obtain⟨e',hyT'⟩:=Option.isSome_iff_exists.1 hyT;have huy:=P2 hyT';obtain⟨zv,ez,hzv⟩:=CA hz
 have hzr:VR g w zv z:=by rw[ez];exact Dl g w zv
 have hzs:zv.cells.size=sz:=by rw[(hzr.cells hz1).1,hzl]
 have hbytes:∀w,(typeInfo e).run P w= .ok ((P.info? e).getD default) w∧((P.info? e).getD default).bytes=by_:=by
  intro w
  unfold Oc at hby
  cases hi:P.info? e with
  |none=>simp[hi]at hby
  |some i=>simp[hi]at hby;simp[typeInfo,hi,hby]
 rw[O2 ho];simp only[builtin,List.map_toArray,List.map_cons,List.map_nil,Sem.run_bind,es,ey]
 have hn63':¬(IntKind.i64.max<((xs.length+ys.length:Nat):Int)∧(False∨by_=0)):=by
  rintro⟨_,hF|hF⟩
  ·exact hF
  omega
 have hbi:∀w,(typeInfo e).run P w= .ok ((P.info? e).getD default) w:=fun w=>(hbytes w).1;have hbb:=(hbytes w).2;have hR1:Rl g (G7 H tl) w:=hR.less fun id b hb=>KL hb
 have hlenx:∀i,i<xs.length→(xs.getD i .bad).cells.length=sz:=fun i hi=>by
  have:=(List.all_eq_true.1 hax) (xs.getD i .bad) (by simp[List.getD,hi])
  simpa using this
 have hleny:∀i,i<ys.length→(ys.getD i .bad).cells.length=sz:=fun i hi=>by
  have:=(List.all_eq_true.1 hay) (ys.getD i .bad) (by simp[List.getD,hi])
  simpa using this
 have hlenxy:∀i,i<xs.length+ys.length→((xs++ys).getD i .bad).cells.length=sz:=fun i hi=>by
  rw[DJ];split
  ·exact hlenx i (by assumption)
  exact hleny _ (by omega)
 have hvals:∀(g':Gh) (w':World),T4 g w g' w'→∀i j,i<xs.length+ys.length→j<sz→(if i<xs.length then fs i j else fy (i - xs.length) j).oneCell'=true∧
  VR g' w' (if i<xs.length then fs i j else fy (i - xs.length) j) (((xs++ys).getD i .bad).cells.getD j .bad):=by
  intro g' w' st i j hi hj;rw[DJ]
  split
  ·rename_i hlt;exact⟨(hfs i j hlt hj).1,(hfs i j hlt hj).2.mono st⟩
  exact⟨(hfy _ j (by omega) hj).1,(hfy _ j (by omega) hj).2.mono st⟩
 by_cases hc:xs.length+ys.length≤cap
 ·
  have hrun:∀w',(match base with|some a=>(storeCells (a.add (xs.length*sz)) ((List.range (ys.length*sz)).map fun k=>fy (k / sz) (k % sz))).run P w|none=>.ok () w)= .ok () w'→
   (Builtin.append_ #[sT,yT] o.type #[.slice base xs.length cap,.slice ybase ys.length ycap]).run P w= .ok (.slice base (xs.length+ys.length) cap) w':=by
   intro w' hw';have hry':=hry w fun _ _=>rfl
   rw[ey]at hry'
   simp only[Builtin.append_,Sem.run_bind,run_underlying hu,Result.andThen_ok,N9 hsz,run_underlying huy,Sem.run_pure,Builtin.lenOf,Sem.run_ite,List.getElem?_toArray,
    List.getElem?_cons_zero,List.getElem?_cons_succ,Bool.false_eq_true,if_false,Bool.not_false,if_true,if_pos hc,hry']
   cases base with
   |none=>simp only at hw';cases hw';rfl
   |some a=>simp only at hw';simp only[hw',Sem.run_bind,Sem.run_pure,Result.andThen_ok]
  by_cases hy0:ys=[]
  ·subst hy0
   have hst:(match base with|some a=>(storeCells (a.add (xs.length*sz)) ((List.range (([]:List V).length*sz)).map fun k=>fy (k / sz) (k % sz))).run P w|none=>.ok () w)= .ok () w:=by
    cases base<;>simp[storeCells]
   rw[hrun w hst];simp only[Result.andThen_ok,Sem.run_pure,G1,List.length_nil,add_zero,←es];exact J7.here hR hvs (h0 rfl)
  have hylen:0<ys.length:=List.length_pos_iff.2 hy0
  rcases hbs with⟨hx0,hc0|hc0,_⟩|⟨b,q,hbase,hcell,_,sz',hsz',htl⟩
  ·subst hx0;simp at hc;omega
  ·subst hc0;exact hA.elim
  cases tl with
  |nil=>exact htl.elim
  |ro=>exact hA.elim
  |full=>simp only[GU]at htl;omega
  | tok t=>
   obtain⟨hn0,lim,ht1,ht2⟩:=htl;have:=hsz' hn0;subst this;have hA':H t=some .spare:=hA;obtain⟨b2,e2,lim2,c,T,k1,k2,k3,k4,k5,k6⟩:=hR.blk t _ hA'
   rw[ht1]at k1
   simp only[Option.some.injEq,Prod.mk.injEq]at k1
   obtain⟨rfl,rfl,rfl⟩:=k1;have hcapsz:(xs.length+ys.length)*sz'≤cap*sz':=Nat.mul_le_mul_right _ hc;have hadd:(xs.length+ys.length)*sz'=xs.length*sz'+ys.length*sz':=add_mul _ _ _
   have hmem:∀v∈((List.range (ys.length*sz')).map fun k=>fy (k / sz') (k % sz')),v.oneCell'=true:=by
    intro v hv;obtain⟨k,hk,rfl⟩:=List.mem_map.1 hv;have hk':=List.mem_range.1 hk;exact(hfy _ _ ((Nat.div_lt_iff_lt_mul hpos).2 hk') (Nat.mod_lt _ hpos)).1
   have hst:=run_storeCells_at P b (q+xs.length*sz') T ((List.range (ys.length*sz')).map fun k=>fy (k / sz') (k % sz')) 0 c w k3 (by simp;omega) hmem;have hst':=hst
   rw[hbase]at hrun ⊢
   simp only[W2]at hrun
   rw[hrun _ hst];simp only[Result.andThen_ok,Sem.run_pure,G1]
   generalize hC:(c.toList.take (q+xs.length*sz'+0)++((List.range (ys.length*sz')).map fun k=>fy (k / sz') (k % sz'))++
    c.toList.drop (q+xs.length*sz'+0+((List.range (ys.length*sz')).map fun k=>fy (k / sz') (k % sz')).length)).toArray=C
   have hCs:C.size=c.size:=by rw[←hC];simp;omega
   have hCg:∀k,k<c.size→C[k]? =if k<q+xs.length*sz' then c[k]? else if k<q+xs.length*sz'+ys.length*sz' then some (fy ((k - (q+xs.length*sz')) / sz') ((k - (q+xs.length*sz')) % sz'))else c[k]? :=by
    intro k hk;rw[←hC];simp only[add_zero,List.getElem?_toArray,List.append_assoc,List.length_map,List.length_range];rw[List.getElem?_append,List.getElem?_append];simp only[List.length_take,Array.length_toList,Nat.min_eq_left (show q+xs.length*sz'≤c.size by omega),List.getElem?_take,List.getElem?_drop,Array.getElem?_toList,List.length_map,List.length_range,List.getElem?_map]
    by_cases q1:k<q+xs.length*sz'
    ·rw[if_pos q1,if_pos q1,if_pos q1]
    rw[if_neg q1,if_neg q1]
    by_cases q2:k<q+xs.length*sz'+ys.length*sz'
    ·rw[if_pos (by omega),if_pos q2,List.getElem?_range (by omega)];rfl
    rw[if_neg (by omega),if_neg q2,show q+xs.length*sz'+ys.length*sz'+(k - (q+xs.length*sz') - ys.length*sz')=k by omega]
   have hnown:∀id,g.at (G7 H (.tok t)) id≠some b:=by
    intro id hid
    have hat:g.at H t=some b:=by simp[Gh.at,hA',ht1]
    by_cases hid':id=t
    ·subst hid';simp[Gh.at,G7,B7]at hid
    have:g.at H id=some b:=by simpa only[Gh.at,G7,A7 _ _ hid']using hid
    exact hid' (hR.inj _ _ _ this hat)
   have hcellp:∀x o,g.fz x o→(w.setRow b C).cell? ⟨x,o,none⟩=w.cell? ⟨x,o,none⟩:=by
    intro x o hf
    by_cases hx:x=b
    ·subst hx
     have ho:o<q+xs.length*sz':=by
      rcases Nat.lt_or_ge o (q+xs.length*sz')with h|h
      ·exact h
      exact absurd hf (k6 o h)
     have hw':(w.setRow x C).heap[x]? =some (.cells C T (0,0)):=setRow_heap w x c C T (0,0) k3;simp only[World.cell?,hw',k3,Option.isSome_none,Bool.false_eq_true,if_false];rw[hCg o (by omega),if_pos ho]
    exact CM w b C x o hx
   have hbel:Below g.base w (w.setRow b C):=GS w b C k2
   have hRn:=Rl.tok (e0:=q+xs.length*sz') (e:=q+(xs.length+ys.length)*sz') (lim:=c.size) hR1 k2 (setRow_heap w b c C T (0,0) k3) hCs (by omega) k6 (by omega) hcellp hbel
    (fun x hx _=>P6 w b C x hx) hnown
   have hStp:=T4.tok hR1 b (q+xs.length*sz') (q+(xs.length+ys.length)*sz') c.size hcellp hbel;refine⟨_,_,_,hStp,hRn,?_,h g.nx hy0 (hR1.nxt _ (Nat.le_refl _)).2.2⟩
   refine .sl (sz:=sz') (fun i j=>if i<xs.length then fs i j else fy (i - xs.length) j) (by simp) hc (fun i hi=>hlenxy i hi) (fun i j hi hj=>?_) (fun i j hi hj=>?_)
    (fun i j hi hj=>(hvals _ _ hStp i j hi hj).1) (fun i j hi hj=>(hvals _ _ hStp i j hi hj).2) ?_
   ·by_cases hix:i<xs.length
    ·exact .inl (hcell i j hix hj).1
    have h1:xs.length*sz'≤i*sz':=Nat.mul_le_mul_right _ (by omega);have h2:=Ea hi hj;exact .inr ⟨rfl,by omega,by omega⟩
   ·have h2:=Ea hi hj;have hw':(w.setRow b C).heap[b]? =some (.cells C T (0,0)):=setRow_heap w b c C T (0,0) k3
    by_cases hix:i<xs.length
    ·rw[if_pos hix];exact(hcellp b _ (hcell i j hix hj).1).trans (hcell i j hix hj).2
    rw[if_neg hix];have h1:xs.length*sz'≤i*sz':=Nat.mul_le_mul_right _ (by omega);have h3:(i - xs.length)*sz'=i*sz' - xs.length*sz':=Nat.sub_mul _ _ _;simp only[World.cell?,hw',Option.isSome_none,Bool.false_eq_true,if_false];rw[hCg _ (by omega),if_neg (by omega),if_pos (by omega)];rw[show q+i*sz'+j - (q+xs.length*sz')=(i - xs.length)*sz'+j by omega,(P9 hj).1,(P9 hj).2]
   refine⟨by omega,c.size,?_,by omega⟩;simp[Gh.tok]
 have hnf:¬(2 ^ 48<Builtin.nextslicecap (xs.length+ys.length) cap*by_):=by
  have:=growslice_fits (Nat.lt_of_not_le hc) hbound;omega
 have hdr:∀b o,w.drew.cell? ⟨b,o,none⟩=w.cell? ⟨b,o,none⟩:=fun _ _=>rfl;generalize hG:grownCap w (xs.length+ys.length) cap e=G
 have hGe:xs.length+ys.length≤G:=by rw[←hG];exact grownCap_ge w _ _ _
 have hrun:(Builtin.append_ #[sT,yT] o.type #[.slice base xs.length cap,.slice ybase ys.length ycap]).run P w=
  .ok (.slice (some ⟨w.heap.size,0,none⟩) (xs.length+ys.length) G)
   (w.drew.alloc (.cells (((List.range (xs.length*sz)).map fun k=>fs (k / sz) (k % sz)).toArray++((List.range (ys.length*sz)).map fun k=>fy (k / sz) (k % sz)).toArray++
    Builtin.zeroCells zv.cells (G - (xs.length+ys.length))) e)):=by
  have hGd:(Question.appendCap (xs.length+ys.length) cap e).cut (w.tape w.drawn (.appendCap (xs.length+ys.length) cap e))=G:=hG;have hf:(Question.appendCap (xs.length+ys.length) cap e).forced=false:=rfl;have hrs':=hrs w.drew hdr;have hry':=hry w.drew hdr
  rw[es]at hrs';rw[ey]at hry'
  simp only[Builtin.append_,Sem.run_bind,run_underlying hu,Result.andThen_ok,N9 hsz,run_underlying huy,Sem.run_pure,Builtin.lenOf,Sem.run_ite,hbi,hbb,List.getElem?_toArray,
   List.getElem?_cons_zero,List.getElem?_cons_succ,Bool.false_eq_true,if_false,Bool.not_false,if_true,gt_iff_lt,false_or,if_neg hc,if_neg hnf,run_choose,hf,hGd,World.drew_eq,run_askRoom,hrs',hry',hzv,newRow,run_newObj,
   World.alloc_eq,World.size_drew]
  rw[if_neg (by simpa using hn63')]
 rw[hrun];simp only[Result.andThen_ok,Sem.run_pure,G1];generalize hC:((List.range (xs.length*sz)).map fun k=>fs (k / sz) (k % sz)).toArray++((List.range (ys.length*sz)).map fun k=>fy (k / sz) (k % sz)).toArray++Builtin.zeroCells zv.cells (G - (xs.length+ys.length))=C;have hadd:(xs.length+ys.length)*sz=xs.length*sz+ys.length*sz:=add_mul _ _ _
 have hCs:C.size=G*sz:=by
  rw[←hC];simp only[Array.size_append,List.size_toArray,List.length_map,List.length_range,size_zeroCells,hzs,Nat.sub_mul];have:(xs.length+ys.length)*sz≤G*sz:=Nat.mul_le_mul_right _ hGe;omega
 have hGs:(xs.length+ys.length)*sz≤G*sz:=Nat.mul_le_mul_right _ hGe
 have hCg:∀k,k<(xs.length+ys.length)*sz→C[k]? =some (if k<xs.length*sz then fs (k / sz) (k % sz)else fy ((k - xs.length*sz) / sz) ((k - xs.length*sz) % sz)):=by
  intro k hk;rw[←hC,Array.getElem?_append,if_pos (by simp;omega),Array.getElem?_append];simp only[List.size_toArray,List.length_map,List.length_range,List.getElem?_toArray,List.getElem?_map]
  split
  ·rw[List.getElem?_range (by assumption)];rfl
  rw[List.getElem?_range (by omega)];rfl
 have hcellp:∀x o,g.fz x o→(w.drew.alloc (.cells C e)).cell? ⟨x,o,none⟩=w.cell? ⟨x,o,none⟩:=fun x o hf=>Ck (w:=w.drew) (hR.fz_lt hf);have hbel:Below g.base w (w.drew.alloc (.cells C e)):=(Below.refl _ _).drew.alloc hR.bnd _
 have hnown:∀id,g.at (G7 H tl) id≠some w.heap.size:=fun id hid=>absurd (hR1.lt hid) (Nat.lt_irrefl _)
 have hRn:=Rl.tok (e0:=0) (e:=(xs.length+ys.length)*sz) (lim:=G*sz) hR1 hR.bnd (BX (w:=w.drew) (o:=.cells C e)) hCs hGs (fun o _ hf=>absurd (hR.fz_lt hf) (Nat.lt_irrefl _)) (Nat.zero_le _) hcellp hbel
  (fun x hx hlt=>heap_alloc (w:=w.drew) hlt) hnown
 have hStp:=T4.tok hR1 w.heap.size 0 ((xs.length+ys.length)*sz) (G*sz) hcellp hbel
 have hy0:ys≠[]:=by
  intro e;subst e;simp at hc
  have:xs.length≤cap:=hcap;omega
 refine⟨_,_,_,hStp,hRn,?_,h g.nx hy0 (hR1.nxt _ (Nat.le_refl _)).2.2⟩;have hylen:0<ys.length:=List.length_pos_iff.2 hy0
 refine .sl (sz:=sz) (fun i j=>if i<xs.length then fs i j else fy (i - xs.length) j) (by simp) hGe (fun i hi=>hlenxy i hi) (fun i j hi hj=>.inr ⟨rfl,Nat.zero_le _,by have:=Ea hi hj;omega⟩) (fun i j hi hj=>?_)
  (fun i j hi hj=>(hvals _ _ hStp i j hi hj).1) (fun i j hi hj=>(hvals _ _ hStp i j hi hj).2) ?_
 ·have h2:=Ea hi hj;rw[show(⟨w.heap.size,0+i*sz+j,none⟩:Addr)=⟨w.drew.heap.size,i*sz+j,none⟩ by simp];rw[KM (w:=w.drew),hCg _ h2]
  congr 1
  by_cases hix:i<xs.length
  ·have h3:=Ea hix hj;rw[if_pos h3,if_pos hix,(P9 hj).1,(P9 hj).2]
  have h1:xs.length*sz≤i*sz:=Nat.mul_le_mul_right _ (by omega);have h3:(i - xs.length)*sz=i*sz - xs.length*sz:=Nat.sub_mul _ _ _;rw[if_neg (by omega),if_neg hix,show i*sz+j - xs.length*sz=(i - xs.length)*sz+j by omega,(P9 hj).1,(P9 hj).2]
 refine⟨by omega,G*sz,?_,by simp⟩;simp[Gh.tok]
end
end Go.Ab
namespace Go.Ab
open Go.RowKit
variable [J9]
mutual
inductive BG :V→V→Prop
 |refl (x:V):BG x x
 |ro (xs:List V) (t:E4):BG (.sl xs t) (.sl xs .ro)
 |sl {xs ys:List V} (t:E4):H9 xs ys→BG (.sl xs t) (.sl ys .ro)
 |slt {xs ys:List V} (t:E4):H9 xs ys→BG (.sl xs t) (.sl ys t)
 |sub {cs:List V} {d sz:Nat} (h:d+sz≤cs.length):BG (.eref cs d) (.eref ((cs.drop d).take sz) 0)
 |agg {xs ys:List V}:H9 xs ys→BG (.agg xs) (.agg ys)
 |tup {xs ys:List V}:H9 xs ys→BG (.tup xs) (.tup ys)
inductive H9 :List V→List V→Prop
 |nil:H9 [] []
 |cons {x y:V} {xs ys:List V}:BG x y→H9 xs ys→H9 (x::xs) (y::ys)
end
theorem H9.refl :∀xs:List V,H9 xs xs
 |[]=>.nil
 |x::xs=>.cons (.refl x) (.refl xs)
theorem H9.length :∀{xs ys:List V},H9 xs ys→xs.length=ys.length
 |_,_,.nil=>rfl
 |_,_,.cons _ h=>by simp[H9.length h]
theorem H9.at :∀{xs ys:List V},H9 xs ys→∀i:Nat,BG (xs.getD i .bad) (ys.getD i .bad)
 |_,_,.nil,i=>by simp;exact .refl _
 |_,_,.cons h _,0=>by simpa using h
 |_,_,.cons _ h,i+1=>by simpa using H9.at h i
theorem BG.cells {x y:V}(h:BG x y):H9 x.cells y.cells:=by
 cases h with
 |refl=>exact .refl _
 |ro=>exact .cons (.ro _ _) .nil
 |sl t h=>exact .cons (.sl t h) .nil
 |slt t h=>exact .cons (.slt t h) .nil
 |sub h=>exact .cons (.sub h) .nil
 |agg h=>exact h
 |tup h=>exact .cons (.tup h) .nil
theorem BG.one {x y:V}(h:BG x y)(hx:x.one=true):y.one=true:=by
 cases h<;>first|exact hx|rfl|cases hx
theorem VR.le {g:Gh} {w:World} {v:Value} {x:V} (h:VR g w v x):∀{y:V},BG x y→VR g w v y:=by
 induction h with
 |sl0 ht=>
  intro y k
  cases k with
  |refl=>exact .sl0 ht
  |ro=>exact .sl0 rfl
  |sl t hs=>cases hs;exact .sl0 rfl
  |slt t hs=>cases hs;exact .sl0 ht
 |sle ht=>
  intro y k
  cases k with
  |refl=>exact .sle ht
  |ro=>exact .sle (.inl rfl)
  |sl t hs=>cases hs;exact .sle (.inl rfl)
  |slt t hs=>cases hs;exact .sle ht
 | sl vs hn hc hz hf hw h1 hv ht ih=>
  rename_i b o sz n cap xs t;intro y k
  cases k with
  |refl=>exact .sl vs hn hc hz hf hw h1 hv ht
  |ro=>exact .sl vs hn hc hz hf hw h1 hv trivial
  |sl t hs=>
   refine .sl vs (hs.length▸hn) hc (fun i hi=>?_) hf hw h1 (fun i j hi hj=>ih i j hi hj ((hs.at i).cells.at j)) trivial;rw[←(hs.at i).cells.length];exact hz i hi
  |slt t hs=>
   refine .sl vs (hs.length▸hn) hc (fun i hi=>?_) hf hw h1 (fun i j hi hj=>ih i j hi hj ((hs.at i).cells.at j)) ht;rw[←(hs.at i).cells.length];exact hz i hi
 |agg hl h1 hv ih=>
  intro y k
  cases k with
  |refl=>exact .agg hl h1 hv
  |agg hs=>exact .agg (hl.trans hs.length) (fun i hi=>h1 i (hs.length▸hi)) fun i hi=>ih i (hs.length▸hi) (hs.at i)
 |tup hl hv ih=>
  intro y k
  cases k with
  |refl=>exact .tup hl hv
  |tup hs=>exact .tup (hl.trans hs.length) fun i hi=>ih i (hs.length▸hi) (hs.at i)
 |bad v=>intro y k;cases k;exact .bad v
 |bool b=>intro y k;cases k;exact .bool b
 |int k n=>intro y k';cases k';exact .int k n
 |str s=>intro y k;cases k;exact .str s
 |nilp=>intro y k;cases k;exact .nilp
 |nilf=>intro y k;cases k;exact .nilf
 |nili=>intro y k;cases k;exact .nili
 |nilmap=>intro y k;cases k;exact .nilmap
 |map h=>intro y k;cases k;exact .map h
 |fmap hb hw hk hn hl hv ih=>intro y k;cases k;exact .fmap hb hw hk hn hl hv
 |ref h=>intro y k;cases k;exact .ref h
 |own h h0 h1 h2 hp=>intro y k;cases k;exact .own h h0 h1 h2 hp
 |elem h hs=>intro y k;cases k;exact .elem h hs
 | eref vs hf hw h1 hv ih=>
  rename_i b o off cs;intro y k
  cases k with
  |refl=>exact .eref vs hf hw h1 hv
  | sub hd=>
   rename_i sz
   have hl:((cs.drop off).take sz).length=sz:=by simp;omega
   have hg:∀j,j<sz→((cs.drop off).take sz).getD j .bad=cs.getD (off+j) .bad:=fun j hj=>by
    simp only[List.getD_eq_getElem?_getD,List.getElem?_take,List.getElem?_drop,if_pos hj]
   have:=VR.eref (g:=g) (w:=w) (b:=b) (o:=o+off) (off:=0) (cs:=(cs.drop off).take sz) (fun j=>vs (off+j)) (fun j hj=>by rw[hl]at hj;have:=hf (off+j) (by omega);rwa[←add_assoc]at this)
    (fun j hj=>by rw[hl]at hj;have:=hw (off+j) (by omega);rwa[←add_assoc]at this) (fun j hj=>by rw[hl]at hj;exact h1 (off+j) (by omega)) (fun j hj=>by rw[hl]at hj;rw[hg j hj];exact hv (off+j) (by omega))
   rwa[add_zero]at this
 |func hl hv hl' hv' ih ih'=>intro y k;cases k;exact .func hl hv hl' hv'
 |yield h=>intro y k;cases k;exact .yield h
 |iface h ih=>intro y k;cases k;exact .iface h
theorem H9.sz {sz:Nat}:∀{xs ys:List V},H9 xs ys→ys.all (fun x=>x.cells.length==sz)=true→xs.all (fun x=>x.cells.length==sz)=true
 |_,_,.nil,_=>rfl
 |_,_,.cons h k,ha=>by
  simp only[List.all_cons,Bool.and_eq_true]at ha ⊢
  exact⟨by rw[h.cells.length];exact ha.1,H9.sz k ha.2⟩
theorem H9.append :∀{xs ys xs' ys':List V},H9 xs xs'→H9 ys ys'→H9 (xs++ys) (xs'++ys')
 |_,_,_,_,.nil,k=>k
 |_,_,_,_,.cons h k,k'=>.cons h (H9.append k k')
end Go.Ab
namespace Go.Ab
open Go.RowKit
variable [J9]
def Gh.own (g:Gh)(b:Nat)(hd:Hd):Gh:=
 {g with mu:=fun x=>if x=g.nx then some b else g.mu x,ow:=fun x=>if x=g.nx then hd else g.ow x,nx:=g.nx+1}
theorem T4.own {g:Gh} {H:A2} {w w':World} (h:Rl g H w) (b:Nat) (hd:Hd) (hc:∀b o,g.fz b o→w'.cell? ⟨b,o,none⟩=w.cell? ⟨b,o,none⟩) (hl:Below g.base w w') (hdr:w.drawn≤w'.drawn:=by first|exact Nat.le_refl _|exact Nat.le_succ _|exact Nat.le_add_right _ _):T4 g w (g.own b hd) w':=by
 have hn:=(h.nxt _ (Nat.le_refl _)).1;refine⟨fun id b e=>?_,fun t x e=>e,fun _ _ e=>e,rfl,hc,hl,fun id b e=>?_,hdr⟩
 ·simp only[Gh.own]
  split
  ·next e'=>subst e';rw[hn]at e;cases e
  exact e
 simp only[Gh.own]
 split
 ·next e'=>subst e';rw[hn]at e;cases e
 rfl
theorem Rl.newArr {g:Gh} {H:A2} {w w':World} (h:Rl g H w) {b o sz:Nat} {ys:List V} (hz:∀i,i<ys.length→(ys.getD i .bad).cells.length=sz)
 (hcell:∀b o,g.fz b o→w'.cell? ⟨b,o,none⟩=w.cell? ⟨b,o,none⟩) (hl:Below g.base w w') (hother:∀x,(ys.length=0∨x≠b)→x<w.heap.size→w'.heap[x]? =w.heap[x]?)
 (hb:ys.length=0∨∃c T,g.base≤b∧w'.heap[b]? =some (.cells c T (0,0))∧o+ys.length*sz≤c.size∧
  (∀i j,i<ys.length→j<sz→(c.getD (o+i*sz+j) undef).oneCell'=true∧VR g w (c.getD (o+i*sz+j) undef) ((ys.getD i .bad).cells.getD j .bad))∧
  (∀q,o≤q→¬g.fz b q)∧∀id,g.at H id≠some b) (hdr:w.drawn≤w'.drawn:=by first|exact Nat.le_refl _|exact Nat.le_succ _|exact Nat.le_add_right _ _):
 T4 g w (g.own b ⟨o,ys.length,sz⟩) w'∧Rl (g.own b ⟨o,ys.length,sz⟩) (upd H g.nx (some (.arr sz ys))) w'∧H g.nx=none:=by
 have s:=T4.own h b ⟨o,ys.length,sz⟩ hcell hl hdr;have hnx:=h.nxt g.nx (Nat.le_refl _)
 generalize hG:g.own b ⟨o,ys.length,sz⟩=g' at s ⊢
 have em:∀x,g'.mu x=if x=g.nx then some b else g.mu x:=fun x=>by rw[←hG];rfl
 have eo:∀x,g'.ow x=if x=g.nx then⟨o,ys.length,sz⟩else g.ow x:=fun x=>by rw[←hG];rfl
 have et:g'.tk=g.tk:=by rw[←hG];rfl
 have ef:g'.fz=g.fz:=by rw[←hG];rfl
 have en:g'.nx=g.nx+1:=by rw[←hG];rfl
 have eb:g'.base=g.base:=by rw[←hG];rfl
 have hne:∀id,id≠g.nx→g'.at (upd H g.nx (some (.arr sz ys))) id=g.at H id:=fun id hi=>
  KQ (A7 _ _ hi) (by rw[em,if_neg hi]) (by rw[et]) (by rw[eo,if_neg hi])
 have hat:g'.at (upd H g.nx (some (.arr sz ys))) g.nx=if ys.length=0 then none else some b:=by simp only[Gh.at,B7,em,if_true]
 refine⟨s,⟨fun id k hk=>?_,fun id id' x h1 h2=>?_,fun x q hf=>?_,fun id hi=>?_,?_,fun n=>(h.glb n).mono s⟩,hnx.2.2⟩
 ·by_cases hi:id=g.nx
  ·subst hi;rw[B7]at hk;cases hk
   refine⟨b,by rw[em,if_pos rfl],?_⟩;rw[eo,if_pos rfl];refine⟨rfl,rfl,hz,hb.imp (fun h=>h) fun⟨c,T,k1,k2,k3,k4,k5,k6⟩=>⟨c,T,by rw[eb];exact k1,k2,k3,fun i j hi hj=>⟨(k4 i j hi hj).1,(k4 i j hi hj).2.mono s⟩,by rw[ef];exact k5⟩⟩
  rw[A7 _ _ hi]at hk
  refine(h.blk id k hk).mono hk s fun x hx=>⟨hother x ?_ (h.lt hx),fun q hq=>by rw[ef]at hq;exact hq⟩
  rcases hb with hb|⟨c,T,k1,k2,k3,k4,k5,k6⟩
  ·exact .inl hb
  exact .inr fun e=>k6 id (by rw[hx,e])
 ·have hx:∀id,g'.at (upd H g.nx (some (.arr sz ys))) g.nx=some x→g.at H id=some x→False:=fun id h1 h2=>by
   rw[hat]at h1
   split at h1
   ·cases h1
   rename_i hc;cases h1
   rcases hb with hb|⟨c,T,k1,k2,k3,k4,k5,k6⟩
   ·exact hc hb
   exact k6 id h2
  by_cases hi:id=g.nx<;>by_cases hi':id'=g.nx
  ·rw[hi,hi']
  ·subst hi;rw[hne _ hi']at h2;exact(hx _ h1 h2).elim
  ·subst hi';rw[hne _ hi]at h1;exact(hx _ h2 h1).elim
  rw[hne _ hi]at h1;rw[hne _ hi']at h2;exact h.inj _ _ _ h1 h2
 ·rw[ef]at hf
  obtain⟨v,hv⟩:=h.frz x q hf;exact⟨v,(hcell x q hf).trans hv⟩
 ·rw[en]at hi
  have hi':g.nx≤id:=Nat.le_of_succ_le hi
  have hne':id≠g.nx:=fun e=>by subst e;exact absurd hi (Nat.not_succ_le_self _)
  obtain⟨a1,a2,a3⟩:=h.nxt id hi';exact⟨by rw[em,if_neg hne'];exact a1,by rw[et];exact a2,by rw[A7 _ _ hne'];exact a3⟩
 have:=h.bnd;have:=hl.size;rw[eb];omega
theorem Rl.setArr {g:Gh} {H:A2} {w:World} (h:Rl g H w) {id b sz:Nat} {xs ys:List V} {c c':Array Value} {T:TypeId} (hk:H id=some (.arr sz xs)) (hb:g.mu id=some b) (hc0:xs.length≠0)
 (hw:w.heap[b]? =some (.cells c T (0,0))) (hsz:c'.size=c.size) (hlo:∀o,o<(g.ow id).o→c'[o]? =c[o]?) (hl:ys.length=xs.length) (hz:∀i,i<ys.length→(ys.getD i .bad).cells.length=sz)
 (hv:∀i j,i<ys.length→j<sz→(c'.getD ((g.ow id).o+i*sz+j) undef).oneCell'=true∧VR g w (c'.getD ((g.ow id).o+i*sz+j) undef) ((ys.getD i .bad).cells.getD j .bad)):
 T4 g w g (w.setRow b c')∧Rl g (upd H id (some (.arr sz ys))) (w.setRow b c'):=by
 obtain⟨b',h1,hs,h2,h4,h6⟩:=h.blk id _ hk
 have e:b'=b:=by rw[hb]at h1;exact(Option.some.inj h1).symm
 subst e
 rcases h6 with h6|⟨c0,T0,k1,k2,k3,k4,k5⟩
 ·exact absurd h6 hc0
 rw[hw]at k2
 have e2:c0=c:=by cases k2;rfl
 subst e2;have hrow:=setRow_heap w b' c0 c' T (0,0) hw
 have s:T4 g w g (w.setRow b' c'):=by
  refine⟨fun _ _ e=>e,fun _ _ e=>e,fun _ _ e=>e,rfl,fun b o hf=>?_,GS w b' c' k1,fun _ _ _=>rfl,Nat.le_refl _⟩
  by_cases e:b=b'
  ·subst e
   have ho:o<(g.ow id).o:=by
    rcases Nat.lt_or_ge o (g.ow id).o with h|h
    ·exact h
    exact absurd hf (k5 o h)
   simp only[World.cell?,hrow,hw,Option.isSome_none,Bool.false_eq_true,if_false];exact hlo o ho
  exact CM w b' c' b o e
 have hat:∀x,g.at (upd H id (some (.arr sz ys))) x=g.at H x:=by
  intro x
  by_cases hx:x=id
  ·subst hx;simp only[Gh.at,B7,hk,hl]
  simp only[Gh.at,A7 _ _ hx]
 have hid:g.at H id=some b':=by simp only[Gh.at,hk,hc0,if_false,hb]
 refine⟨s,fun x k hx=>?_,fun x x' y h1 h2=>h.inj x x' y (hat x▸h1) (hat x'▸h2),fun y o hf=>?_,fun x hx=>?_,?_,fun n=>(h.glb n).mono s⟩
 ·by_cases hxe:x=id
  ·subst hxe;rw[B7]at hx;cases hx
   exact⟨b',hb,hs,h2.trans hl.symm,hz,.inr ⟨c',T,k1,hrow,by rw[hl];omega,fun i j hi hj=>⟨(hv i j hi hj).1,(hv i j hi hj).2.mono s⟩,k5⟩⟩
  rw[A7 _ _ hxe]at hx
  refine(h.blk x k hx).mono hx s fun y hy=>⟨P6 w b' c' y fun e=>?_,fun _ ho=>ho⟩;subst e;exact hxe (h.inj _ _ _ hy hid)
 ·obtain⟨v,hv'⟩:=h.frz y o hf;exact⟨v,(s.cell y o hf).trans hv'⟩
 ·obtain⟨a1,a2,a3⟩:=h.nxt x hx
  have hne:x≠id:=fun e=>by subst e;rw[hk]at a3;cases a3
  exact⟨a1,a2,by rw[A7 _ _ hne];exact a3⟩
 have:=h.bnd;simp[World.setRow];omega
def L7 (xs:List V)(lo n:Int):List V:=(xs.drop lo.toNat).take n.toNat
theorem Rl.freezeArr' {g:Gh} {H:A2} {w:World} (h:Rl g H w) {id sz:Nat} {xs:List V} (hk:H id=some (.arr sz xs)):
 ∃g',(g'.mu=g.mu∧g'.tk=g.tk∧g'.ow=g.ow)∧T4 g w g' w∧Rl g' (upd H id none) w∧∀v lo n,VR g' w v (.own id lo n)→VR g' w v (.sl (L7 xs lo n) .ro):=by
 obtain⟨b,h1,hs,h2,h4,h6⟩:=h.blk id _ hk
 by_cases hc:xs.length=0
 ·have hx:xs=[]:=List.length_eq_zero_iff.1 hc;refine⟨g,⟨rfl,rfl,rfl⟩,T4.refl _ _,h.less fun x k hx=>?_,fun v lo n hv=>?_⟩
  ·by_cases e:x=id
   ·subst e;rw[B7]at hx;cases hx
   rwa[A7 _ _ e]at hx
  subst hx
  cases hv with
  |own hm h0 h1' h2' hp=>
   rename_i p
   have e1:lo=0:=by simp at h2;omega
   have e2:n=0:=by simp at h2;omega
   subst e1;subst e2;rw[show(g.ow id).cap=0 by simpa using h2]
   cases p with
   |none=>exact .sl0 rfl
   |some a=>exact .sle (.inl rfl)
 rcases h6 with h6|⟨c,T,k1,k2,k3,k4,k5⟩
 ·exact absurd h6 hc
 let g':Gh:={g with fz:=fun x o=>g.fz x o∨(x=b∧o<c.size)}
 have s:T4 g w g' w:=⟨fun _ _ e=>e,fun _ _ e=>e,fun _ _ e=>.inl e,rfl,fun _ _ _=>rfl,Below.refl _ _,fun _ _ _=>rfl,Nat.le_refl _⟩
 have hid:g.at H id=some b:=by simp only[Gh.at,hk,hc,if_false,h1]
 have hcell:∀o,w.cell? ⟨b,o,none⟩=c[o]? :=fun o=>by simp[World.cell?,k2]
 have hat:∀x y,g'.at (upd H id none) x=some y→x≠id∧g.at H x=some y:=by
  intro x y hy
  by_cases hx:x=id
  ·subst hx;simp[Gh.at,B7]at hy
  exact⟨hx,by simpa only[Gh.at,A7 _ _ hx]using hy⟩
 have hlt:∀i j,i<xs.length→j<sz→(g.ow id).o+i*sz+j<c.size:=fun i j hi hj=>by
  have e1:=Ea (n:=xs.length) hi hj;omega
 refine⟨g',⟨rfl,rfl,rfl⟩,s,⟨fun x k hx=>?_,fun x x' y h1 h2=>h.inj _ _ _ (hat _ _ h1).2 (hat _ _ h2).2,fun y o hf=>?_,fun x hx=>?_,h.bnd,fun n=>(h.glb n).mono s⟩,fun v lo n hv=>?_⟩
 ·have hxe:x≠id:=fun e=>by subst e;rw[B7]at hx;cases hx
  rw[A7 _ _ hxe]at hx
  refine(h.blk x k hx).mono hx s fun y hy=>⟨rfl,fun o ho=>?_⟩
  rcases ho with ho|⟨e,_⟩
  ·exact ho
  subst e;exact absurd (h.inj _ _ _ hy hid) hxe
 ·rcases hf with hf|⟨e,ho⟩
  ·exact h.frz y o hf
  subst e;exact⟨c[o],by rw[hcell];simp[ho]⟩
 ·obtain⟨a1,a2,a3⟩:=h.nxt x hx
  have hne:x≠id:=fun e=>by subst e;rw[hk]at a3;cases a3
  exact⟨a1,a2,by rw[A7 _ _ hne];exact a3⟩
 have hsub:∀i,i<n.toNat→(L7 xs lo n).getD i .bad=xs.getD (lo.toNat+i) .bad:=fun i hi=>by
  simp only[L7,List.getD_eq_getElem?_getD,List.getElem?_take,List.getElem?_drop,if_pos hi]
 cases hv with
 | own hm h0 h1' h2' hp=>
  rename_i b' p;have hm':g.mu id=some b':=hm
  rw[h1]at hm';cases hm'
  have h2'':lo+n≤((g.ow id).cap:Nat):=h2'
  have hsl:(L7 xs lo n).length=n.toNat:=by simp[L7];omega
  show VR g' w (.slice p n.toNat ((g.ow id).cap - lo.toNat)) _
  by_cases hn:n=0
  ·subst hn
   have e0:L7 xs lo 0=[]:=by simp[L7]
   rw[e0]
   cases p with
   |none=>
    have:¬(lo<((g.ow id).cap:Nat)):=fun hlt=>by have:=hp hlt;cases this
    rw[show(g.ow id).cap - lo.toNat=0 by omega];exact .sl0 rfl
   |some a=>exact .sle (.inl rfl)
  have hlt2:lo<((g.ow id).cap:Nat):=by omega
  have hpe:=hp hlt2;rw[hpe];have hpe':(g'.ow id)=g.ow id:=rfl;rw[hpe',hs]
  refine .sl (sz:=sz) (fun i j=>c.getD ((g.ow id).o+(lo.toNat+i)*sz+j) undef) hsl (by omega) (fun i hi=>by rw[hsub i hi];exact h4 _ (by omega)) (fun i j hi hj=>?_) (fun i j hi hj=>?_)
   (fun i j hi hj=>(k4 _ j (by omega) hj).1) (fun i j hi hj=>by rw[hsub i hi];exact(k4 _ j (by omega) hj).2.mono s) trivial
  ·have:=hlt (lo.toNat+i) j (by omega) hj
   rw[add_mul]at this
   exact .inr ⟨rfl,by omega⟩
  rw[hcell];have:=hlt (lo.toNat+i) j (by omega) hj
  rw[add_mul]at this ⊢
  rw[show(g.ow id).o+lo.toNat*sz+i*sz+j=(g.ow id).o+(lo.toNat*sz+i*sz)+j by omega];simp[Array.getD,show(g.ow id).o+(lo.toNat*sz+i*sz)+j<c.size by omega]
theorem Rl.freezeArr {g:Gh}{H:A2}{w:World}(h:Rl g H w){id sz:Nat}{xs:List V}(hk:H id=some (.arr sz xs)):
 ∃g',T4 g w g' w∧Rl g' (upd H id none) w∧∀v lo n,VR g' w v (.own id lo n)→VR g' w v (.sl (L7 xs lo n) .ro):=
 let⟨g',_,h⟩:=h.freezeArr' hk;⟨g',h⟩
end Go.Ab
namespace Go.Ab
open Go.RowKit
variable [J9]
def CP (H:A2)(id:Nat):Option (Nat×List V):=
 match H id with
 |some (.arr sz xs)=>some (sz,xs)
 |_=>none
theorem Cz {H:A2}{id sz:Nat}{xs:List V}(h:CP H id=some (sz,xs)):H id=some (.arr sz xs):=by
 unfold CP at h
 split at h
 ·cases h;assumption
 cases h
def Af7 (P:Program)(_H:A2)(t:TypeId)(v:V):Option V:=
 match Fc P t,v with
 |some _,.own _ _ n=>some (.int .i64 n)
 |_,_=>none
def UR (P:Program) (H:A2) (t:TypeId) (v:V) (i:Int):Option V:=
 match Fc P t,v with
 |some e,.own id lo n=>
  match CP H id with
  |some (sz,_)=>if(0≤i∧i<n)∧Ed P e=some sz then some (.elem id (lo+i) sz 0)else none
  |none=>none
 |_,_=>none
def Jb (P:Program) (H:A2) (t:TypeId) (v:V):Option V:=
 match QT P t,Ed P t,v with
 |some ag,some sz,.elem id i _ off=>
  match CP H id with
  |some (_,xs)=>if 0≤i∧i<xs.length then DW ag sz (xs.getD i.toNat .bad).cells off else none
  |none=>none
 |_,_,_=>none
def Qm (x:V)(esz sz off:Nat)(y:V):V:=
 match Nat.beq off 0&&Nat.beq sz esz with
 |true=>y
 |false=>.agg (S3 x.cells off y.cells)
def PY (P:Program) (H:A2) (t:TypeId) (v y:V):Option A2:=
 match Ed P t,v with
 | some sz,.elem id i esz off=>
  match CP H id with
  |some (sz',xs)=>
   if(0≤i∧i<xs.length)∧sz'=esz∧y.one=true∧y.cells.length=sz∧off+sz≤esz then some (upd H id (some (.arr esz (xs.set i.toNat (Qm (xs.getD i.toNat .bad) esz sz off y)))))else none
  |none=>none
 |_,_=>none
theorem Uu {x y:V} {esz sz off:Nat} (hx:x.cells.length=esz) (hy:y.cells.length=sz) (h:off+sz≤esz):(Qm x esz sz off y).cells=S3 x.cells off y.cells:=by
 unfold Qm
 split
 ·rename_i e
  simp only[Bool.and_eq_true]at e
  have e1:=Nat.eq_of_beq_eq_true e.1;have e2:=Nat.eq_of_beq_eq_true e.2;subst e1;subst e2;simp[S3,hx,hy]
 rfl
section
variable {P:Program}{o:Oper}{fr:Fr}{H:A2}{K:V→A2→Prop}
theorem Ym {y:Operand} {t:TypeId} {x:V} (ho:o.op= .call {callee:=.builtin .len,args:= #[y],argTypes:= #[t]}) (hl:Af7 P H t (ev fr y)=some x) (h:K x H):F6 P o fr H K:=by
 intro g w a hR hE;have hv:=D9 hR hE y;rw[O2 ho];simp only[builtin,List.map_toArray,List.map_cons,List.map_nil,Sem.run_bind]
 unfold Af7 at hl
 split at hl
 ·rename_i e id lo n hse he
  rw[he]at hv
  cases hl;have hu:=P2 hse
  generalize a.eval y=v at hv
  cases hv with
  |own hm h0 h1 h2 hp=>
   simp[Builtin.len_,run_underlying hu,goInt];rw[show(max n 0:Int)=n by omega];exact J7.here hR (.int _ _) h
 cases hl
theorem Yn {t:TypeId} {y z:Operand} {k:IntKind} {i:Int} {x:V} (ho:o.op= .indexAddr t y z) (hz:ev fr z= .int k i) (hl:UR P H t (ev fr y) i=some x) (h:K x H):F6 P o fr H K:=by
 intro g w a hR hE;have hv:=D9 hR hE y;have hi:=D9 hR hE z
 rw[hz]at hi
 have hi:=hi.int_inv
 unfold UR at hl
 split at hl
 ·rename_i e id lo n hse he
  rw[he]at hv
  split at hl
  ·rename_i sz xs hx
   split at hl
   ·rename_i hc;cases hl;obtain⟨b',k1,hs,k2,k3,k4⟩:=hR.blk id _ (Cz hx);have hu:=P2 hse
    generalize hav:a.eval y=v at hv
    cases hv with
    |own hm h0 h1 h2 hp=>
     have hlt:lo<((g.ow id).cap:Nat):=by omega
     have hpe:=hp hlt;subst hpe;unfold execOp;rw[ho];have c1:=hc.1.1
     have c2:i<(n.toNat:Int):=by omega
     simp only[hav,hi,Instr.indexAt,asIntOf,Sem.run_bind,Sem.run_pure,Result.andThen_ok,run_underlying hu,c1,c2,and_self,if_true,N9 hc.2,G1,Option.map_some,W2];refine J7.here hR ?_ h;have:=VR.elem (g:=g) (w:=w) (i:=lo+i) (off:=0) hm hs;rw[hs]
     rw[show(lo+i).toNat=lo.toNat+i.toNat by omega,add_mul,add_zero,←add_assoc]at this
     exact this
   cases hl
  cases hl
 cases hl
theorem WF {t:TypeId} {y:Operand} {x:V} (ho:o.op= .load t y) (hl:Jb P H t (ev fr y)=some x) (h:K x H):F6 P o fr H K:=by
 intro g w a hR hE;have hv:=D9 hR hE y
 unfold Jb at hl
 split at hl
 ·rename_i ag sz id i esz off ha hs he
  rw[he]at hv
  split at hl
  ·rename_i sz0 xs hx
   split at hl
   ·rename_i hc
    generalize hav:a.eval y=v at hv
    cases hv with
    | elem hm hsz=>
     rename_i b;obtain⟨b',h1,hs0,h2,h4,h6⟩:=hR.blk id _ (Cz hx)
     rw[hm]at h1;cases h1
     subst hs0
     have hlt:i.toNat<xs.length:=by omega
     rcases h6 with h6|⟨c,T,k1,k2,k3,k4,k5⟩
     ·omega
     have hcells:QY g w b ((g.ow id).o+i.toNat*(g.ow id).sz) (xs.getD i.toNat .bad).cells:=fun j hj=>by
      have hj':j<(g.ow id).sz:=by rw[←h4 _ hlt];exact hj
      have e1:=Ea (n:=xs.length) hlt hj';have e2:xs.length*(g.ow id).sz≤(g.ow id).cap*(g.ow id).sz:=Nat.mul_le_mul_right _ (by omega);refine⟨_,?_,(k4 _ j hlt hj').1,(k4 _ j hlt hj').2⟩;simp[World.cell?,k2,Array.getD,show(g.ow id).o+i.toNat*(g.ow id).sz+j<c.size by omega]
     obtain⟨u,hu,hr⟩:=EJ (P:=P) hcells ha hs hl;unfold execOp;rw[ho]
     rw[←hsz]at hav
     simp only[hav,Instr.loadAt,Instr.sureAddr,Sem.run_bind,Sem.run_pure,Result.andThen_ok,hu,G1];exact J7.here hR hr h
   cases hl
  cases hl
 cases hl
theorem Ud {t:TypeId} {y z:Operand} {zV:V} {H':A2} (ho:o.op= .store t y z) (hle:BG (ev fr z) zV) (hl:PY P H t (ev fr y) zV=some H') (h:K .bad H'):F6 P o fr H K:=by
 intro g w a hR hE;have hv:=D9 hR hE y;have hz:=(D9 hR hE z).le hle
 unfold PY at hl
 split at hl
 ·rename_i sz id i esz off hs he
  rw[he]at hv
  split at hl
  ·rename_i sz0 xs hx
   split at hl
   ·rename_i hc;obtain⟨hb,hs1,hone,hysz,hfit⟩:=hc;cases hl
    generalize hav:a.eval y=v at hv
    cases hv with
    | elem hm hsz=>
     rename_i b;have hk:=Cz hx;obtain⟨b',h1,hs0,h2,h4,h6⟩:=hR.blk id _ hk
     rw[hm]at h1;cases h1
     have hs1:=hs1.symm;subst hs1
     have hlt:i.toNat<xs.length:=by omega
     rcases h6 with h6|⟨c,T,k1,k2,k3,k4,k5⟩
     ·omega
     obtain⟨hcs,hcv⟩:=hz.cells hone
     have hzs:(a.eval z).cells.size=sz:=by rw[hcs,hysz]
     have hmem:∀v∈(a.eval z).cells.toList,v.oneCell'=true:=by
      intro v hv;obtain⟨j,hj,rfl⟩:=List.getElem_of_mem hv
      have hj':j<(a.eval z).cells.size:=by simpa using hj
      have:=(hcv j (by omega)).1
      simpa[Array.getD,hj']using this
     have hcap0:xs.length≠0:=by omega
     have e2:xs.length*esz≤(g.ow id).cap*esz:=Nat.mul_le_mul_right _ (by omega);have e3:(i.toNat+1)*esz≤xs.length*esz:=Nat.mul_le_mul_right _ (by omega)
     rw[add_mul,Nat.one_mul]at e3
     generalize hA:(g.ow id).o+i.toNat*esz+off=A
     have hAl:A+sz≤c.size:=by rw[←hA];omega
     have hst:=run_storeCells_at P b A T (a.eval z).cells.toList 0 c w k2 (by simp;omega) hmem
     generalize hC:(c.toList.take (A+0)++(a.eval z).cells.toList++c.toList.drop (A+0+(a.eval z).cells.toList.length)).toArray=C at hst
     have hCs:C.size=c.size:=by rw[←hC];simp;omega
     have hCg:∀j,j<c.size→C[j]? =if A≤j∧j<A+sz then(a.eval z).cells[j - A]? else c[j]? :=by
      intro j hlt;rw[←hC];simp only[add_zero,List.getElem?_toArray,List.append_assoc];rw[List.getElem?_append,List.getElem?_append];simp only[List.length_take,Array.length_toList,Nat.min_eq_left (show A≤c.size by omega),List.getElem?_take,List.getElem?_drop,Array.getElem?_toList]
      by_cases q1:j<A
      ·rw[if_pos q1,if_pos q1,if_neg (by omega)]
      rw[if_neg q1]
      by_cases q2:j<A+sz
      ·rw[if_pos (by omega),if_pos ⟨by omega,q2⟩]
      rw[if_neg (by omega),if_neg (by omega),show A+(a.eval z).cells.size+(j - A - (a.eval z).cells.size)=j by omega]
     have hlen:=h4 _ hlt;have hpc:=Uu (x:=xs.getD i.toNat .bad) (y:=zV) hlen hysz hfit
     have hget:∀k,k<xs.length→(xs.set i.toNat (Qm (xs.getD i.toNat .bad) esz sz off zV)).getD k .bad=if k=i.toNat then Qm (xs.getD i.toNat .bad) esz sz off zV else xs.getD k .bad:=by
      intro k hk;simp only[List.getD_eq_getElem?_getD,List.getElem?_set]
      by_cases e:i.toNat=k
      ·subst e;simp[hlt]
      rw[if_neg e,if_neg (fun e'=>e e'.symm)]
     have hset:=hR.setArr (c':=C) (ys:=xs.set i.toNat (Qm (xs.getD i.toNat .bad) esz sz off zV)) hk hm hcap0 k2 hCs (fun q hq=>by
      by_cases hqc:q<c.size
      ·rw[hCg q hqc,if_neg (by omega)]
      ·rw[Array.getElem?_eq_none (by omega),Array.getElem?_eq_none (by omega)]) (by simp) (fun k hk'=>by
      have hk2:k<xs.length:=by simpa using hk'
      rw[hget k hk2]
      split
      ·rw[hpc,BW (by rw[hysz,hlen];omega),hlen]
      ·exact h4 k hk2) (fun k j hk' hj=>by
      have hk2:k<xs.length:=by simpa using hk'
      rw[hget k hk2];have e1:=Ea (n:=xs.length) hk2 hj
      have hin:(g.ow id).o+k*esz+j<c.size:=by omega
      have hCd:C.getD ((g.ow id).o+k*esz+j) undef=if A≤(g.ow id).o+k*esz+j∧(g.ow id).o+k*esz+j<A+sz then(a.eval z).cells.getD ((g.ow id).o+k*esz+j - A) undef else c.getD ((g.ow id).o+k*esz+j) undef:=by
       simp only[Array.getD_eq_getD_getElem?,hCg _ hin]
       split<;>rfl
      rw[hCd]
      by_cases hki:k=i.toNat
      ·subst hki;rw[if_pos rfl,hpc,HS (by rw[hysz,hlen];omega),hysz];rw[←hA]
       by_cases q:off≤j∧j<off+sz
       ·rw[if_pos ⟨by omega,by omega⟩,if_pos q,show(g.ow id).o+i.toNat*esz+j - ((g.ow id).o+i.toNat*esz+off)=j - off by omega];exact hcv (j - off) (by omega)
       rw[if_neg (by omega),if_neg q];exact k4 _ j hk2 hj
      rw[if_neg hki]
      have hne:¬(A≤(g.ow id).o+k*esz+j∧(g.ow id).o+k*esz+j<A+sz):=by
       rw[←hA];rintro⟨q1,q2⟩
       rcases Nat.lt_or_gt_of_ne hki with hlt'|hgt
       ·have:=Nat.mul_le_mul_right esz (show k+1≤i.toNat by omega)
        rw[add_mul,Nat.one_mul]at this
        omega
       have:=Nat.mul_le_mul_right esz (show i.toNat+1≤k by omega)
       rw[add_mul,Nat.one_mul]at this
       omega
      rw[if_neg hne]
      exact k4 _ j hk2 hj)
     unfold execOp;rw[ho]
     rw[hA]at hav
     simp only[hav,Instr.storeAt,Instr.sureAddr,storeVar,Sem.run_bind,Sem.run_pure,Result.andThen_ok,N9 hs w,hzs,ne_eq,not_true_eq_false,if_false,hst,G1];exact⟨g,.bad,_,hset.1,hset.2,.bad _,h⟩
   cases hl
  cases hl
 cases hl
end
end Go.Ab
namespace Go.Ab
open Go.RowKit
variable [J9]
theorem CZ {g:Gh} {H:A2} {w:World} (hR:Rl g H w) (sz:Nat) {v:Value} {x:V} (hx:x= .sl [] .nil∨x= .sl [] .full) (hv:VR g w v x):
 ∃g',T4 g w g' w∧Rl g' (upd H g.nx (some (.arr sz []))) w∧H g.nx=none∧VR g' w v (.own g.nx 0 0):=by
 obtain⟨s,r,hn⟩:=Rl.newArr (w':=w) hR (b:=0) (o:=0) (sz:=sz) (ys:=[]) (fun i hi=>by simp at hi) (fun _ _ _=>rfl) (Below.refl _ _) (fun _ _ _=>rfl) (.inl rfl);refine⟨_,s,r,hn,?_⟩
 have key:∀p:Option Addr,VR (g.own 0 ⟨0,0,sz⟩) w (.slice p 0 0) (.own g.nx 0 0):=fun p=>by
  have e:(g.own 0 ⟨0,0,sz⟩).ow g.nx=⟨0,0,sz⟩:=by simp[Gh.own]
  have:=VR.own (g:=g.own 0 ⟨0,0,sz⟩) (w:=w) (id:=g.nx) (b:=0) (lo:=0) (n:=0) (p:=p) (by simp[Gh.own]) (by omega) (by omega) (by rw[e];simp) (by rw[e];simp)
  rw[e]at this
  exact this
 rcases hx with rfl|rfl
 ·cases hv with
  |sl0 ht=>exact key none
  |sle h=>rcases h with h|⟨h,_⟩<;>cases h
  |sl vs hn hc hz hf hw h1 hv ht=>exact ht.elim
 cases hv with
 |sl0 ht=>exact key none
 |@sle a c t h=>
  rcases h with h|⟨_,h⟩
  ·cases h
  subst h;exact key (some a)
 |sl vs hn hc hz hf hw h1 hv ht=>
  rename_i b o sz' n cap
  have e1:n=0:=by simpa using hn.symm
  have e2:cap=n:=ht;subst e2;subst e1;exact key (some ⟨b,o,none⟩)
section
variable {P:Program}{o:Oper}{fr:Fr}{H:A2}{K:V→A2→Prop}
theorem RH {t:TypeId} {l c:Operand} {e:TypeId} {k1 k2:IntKind} {n m:Int} {sz by_:Nat} {z:V} (ho:o.op= .makeSlice t l c) (hl:ev fr l= .int k1 n) (hc:ev fr c= .int k2 m) (he:Fc P t=some e) (hsz:Ed P e=some sz)
 (hpos:0<sz) (hby:Oc P e=some by_) (hbp:0<by_) (hz:Gt P e=some z) (hz1:z.one=true) (hzl:z.cells.length=sz) (h0:0≤n) (h1:n≤m) (h2:m*by_≤281474976710656)
 (h:∀id,H id=none→K (.own id 0 n) (upd H id (some (.arr sz (List.replicate m.toNat z))))):F6 P o fr H K:=by
 intro g w a hR hE;have hl':=D9 hR hE l;have hc':=D9 hR hE c
 rw[hl]at hl';rw[hc]at hc'
 have hl':=hl'.int_inv;have hc':=hc'.int_inv;have hu:=P2 he;obtain⟨zv,ez,hzv⟩:=CA hz
 have hzr:VR g w zv z:=by rw[ez];exact Dl g w zv
 obtain⟨hzs',hzc⟩:=hzr.cells hz1
 have hzs:zv.cells.size=sz:=by rw[hzs',hzl]
 have hbi:∀w,(typeInfo e).run P w= .ok ((P.info? e).getD default) w∧((P.info? e).getD default).bytes=by_:=by
  intro w
  unfold Oc at hby
  cases hi:P.info? e with
  |none=>simp[hi]at hby
  |some i=>simp[hi]at hby;simp[typeInfo,hi,hby]
 have hb1:∀w,(typeInfo e).run P w= .ok ((P.info? e).getD default) w:=fun w=>(hbi w).1;have hb2:=(hbi w).2
 have hmb:m≤281474976710656:=by
  have:m*1≤m*by_:=Int.mul_le_mul_of_nonneg_left (by omega) (by omega);omega
 have hw1:IntKind.i64.wrap n=n:=wrap_small n h0 (by omega);have hw2:IntKind.i64.wrap m=m:=wrap_small m (by omega) (by omega);have hcm:(by_:Int)*m=m*by_:=Int.mul_comm _ _;generalize hA:(if m.toNat*sz=0 then(#[]:Array Value)else zv.cells)=A;generalize hC:(Array.range (m.toNat*sz)).map (fun i=>A[i % A.size]!)=C
 have hCs:C.size=m.toNat*sz:=by rw[←hC];simp
 have hrun:(Instr.makeSlice t (.int k1 n) (.int k2 m)).run P w= .ok (.slice (some ⟨w.heap.size,0,none⟩) n.toNat m.toNat) (w.alloc (.cells C e)):=by
  have t1:¬(m<0):=by omega
  have t2:¬(281474976710656<(by_:Int)*m):=by omega
  have t3:¬(n<0):=by omega
  have t4:¬(m<n):=by omega
  simp only[Instr.makeSlice,Sem.run_bind,run_underlying hu,Result.andThen_ok,asInt,asIntOf,Sem.run_pure,hb1,hb2,hw1,hw2];simp only[gt_iff_lt,t1,t3,t4,decide_false,Bool.false_or,Bool.or_false,Int.reducePow,t2,Bool.false_eq_true,or_self,if_false,Sem.run_bind,Sem.run_pure,Result.andThen_ok,run_askRoom,N9 hsz]
  by_cases h0:m.toNat*sz=0
  ·rw[if_pos h0]at hA
   rw[if_pos h0];subst hA;simp[newRow,run_newObj,←hC,World.alloc_eq,Sem.run_bind]
  rw[if_neg h0]at hA
  rw[if_neg h0];subst hA;simp[newRow,run_newObj,hC,World.alloc_eq,Sem.run_bind,hzv]
 have hn:n.toNat≤m.toNat:=by omega
 have hCg:∀k,k<m.toNat*sz→C.getD k undef=zv.cells.getD (k % sz) undef:=by
  intro k hk
  have hne:m.toNat*sz≠0:=by omega
  rw[if_neg hne]at hA
  subst hA;rw[←hC]
  have hlt:k % sz<zv.cells.size:=by rw[hzs];exact Nat.mod_lt _ hpos
  simp only[Array.getD_eq_getD_getElem?,Array.getElem?_map,Array.getElem?_range,hk,if_true,Option.map_some,Option.getD_some,hzs];simp[hlt]
 have hrep:∀i,i<m.toNat→(List.replicate m.toNat z).getD i .bad=z:=fun i hi=>by simp[List.getD,hi]
 have hlen:(List.replicate m.toNat z).length=m.toNat:=by simp
 obtain⟨s,r,hnone⟩:=Rl.newArr (w':=w.alloc (.cells C e)) hR (b:=w.heap.size) (o:=0) (sz:=sz) (ys:=List.replicate m.toNat z)
  (fun i hi=>by rw[hrep i (by simpa using hi)];exact hzl) (fun b q hf=>Ck (hR.fz_lt hf)) ((Below.refl _ _).alloc hR.bnd _) (fun x _ hlt=>heap_alloc hlt)
  (.inr ⟨C,e,hR.bnd,BX,by simp[hCs],fun i j hi hj=>by
   have hi':i<m.toNat:=by simpa using hi
   have e1:=Ea (n:=m.toNat) hi' hj;rw[hrep i hi',Nat.zero_add,hCg _ e1,(P9 hj).2]
   exact hzc j (by omega),fun q _ hf=>absurd (hR.fz_lt hf) (Nat.lt_irrefl _),fun id hid=>absurd (hR.lt hid) (Nat.lt_irrefl _)⟩)
 unfold execOp;rw[ho];simp only[hl',hc',Sem.run_bind,hrun,Result.andThen_ok,Sem.run_pure,G1];refine⟨_,_,_,s,r,?_,h g.nx hnone⟩;rw[hlen]
 have e':(g.own w.heap.size ⟨0,m.toNat,sz⟩).ow g.nx=⟨0,m.toNat,sz⟩:=by simp[Gh.own]
 have:=VR.own (g:=g.own w.heap.size ⟨0,m.toNat,sz⟩) (w:=w.alloc (.cells C e)) (id:=g.nx) (b:=w.heap.size) (lo:=0) (n:=n) (p:=some ⟨w.heap.size,0,none⟩) (by simp[Gh.own]) (by omega) h0 (by rw[e'];simp only;omega) (by rw[e'];simp)
 rw[e']at this
 exact this
end
end Go.Ab
namespace Go.Ab
open Go.RowKit
variable [J9]
def Cg (xs:List V)(i:Nat)(ys:List V):List V:=xs.take i++ys++xs.drop (i+ys.length)
theorem HG {xs ys:List V}{i:Nat}(h:i+ys.length≤xs.length):(Cg xs i ys).length=xs.length:=by simp[Cg];omega
theorem OZ {xs ys:List V}{i k:Nat}(h:i+ys.length≤xs.length):(Cg xs i ys).getD k .bad=if i≤k∧k<i+ys.length then ys.getD (k - i) .bad else xs.getD k .bad:=by
 simp only[Cg,List.getD_eq_getElem?_getD];rw[List.getElem?_append,List.getElem?_append];simp only[List.length_append,List.length_take,Nat.min_eq_left (show i≤xs.length by omega),List.getElem?_take,List.getElem?_drop]
 by_cases h1:k<i
 ·rw[if_pos (by omega),if_pos h1,if_pos h1,if_neg (by omega)]
 by_cases h2:k<i+ys.length
 ·rw[if_pos h2,if_neg h1,if_pos ⟨by omega,h2⟩]
 rw[if_neg h2,if_neg (by omega),show i+ys.length+(k - (i+ys.length))=k by omega]
def PZ (H:A2)(v:V):Option (List V):=
 match v with
 | .sl xs _=>some xs
 | .own id lo n=>(CP H id).map fun q=>L7 q.2 lo n
 |_=>none
theorem G1.mono {P:Program} {K K':Value→World→Prop} (h:∀v w,K v w→K' v w) {r:Result Next} (hr:G1 P K r):G1 P K' r:=by
 cases r with
 |halt x w=>exact hr
 | ok n w=>
  cases n<;>first
   |exact h _ _ hr
   |exact CallsIn.mono hr fun e w' ⟨v,e1,e2⟩=>⟨v,e1,h _ _ e2⟩
   |exact RoundIn.mono hr fun e w' ⟨v,e1,e2⟩=>⟨v,e1,h _ _ e2⟩
   |exact hr
section
variable {P:Program}{o:Oper}{fr:Fr}{H:A2}{K:V→A2→Prop}
theorem VR.ownN {g:Gh}{w:World}{b o cap sz:Nat}{n:Int}(h1:0≤n)(h2:n≤cap):VR (g.own b ⟨o,cap,sz⟩) w (.slice (some ⟨b,o,none⟩) n.toNat cap) (.own g.nx 0 n):=by
 have e':(g.own b ⟨o,cap,sz⟩).ow g.nx=⟨o,cap,sz⟩:=by simp[Gh.own]
 have:=VR.own (g:=g.own b ⟨o,cap,sz⟩) (w:=w) (id:=g.nx) (b:=b) (lo:=0) (n:=n) (p:=some ⟨b,o,none⟩) (by simp[Gh.own]) (by omega) h1 (by rw[e'];simp only;omega) (by rw[e'];simp)
 rw[e']at this
 exact this
theorem Dv {g:Gh} {H:A2} {w:World} (hR:Rl g H w) {id sz:Nat} {lo n:Int} {xs:List V} {v:Value} (hk:H id=some (.arr sz xs)) (hv:VR g w v (.own id lo n)):
 ∃ b p,g.mu id=some b∧v= .slice p n.toNat (xs.length - lo.toNat)∧0≤lo∧0≤n∧lo+n≤(xs.length:Nat)∧(g.ow id).sz=sz∧(g.ow id).cap=xs.length∧
  (lo<(xs.length:Nat)→p=some ⟨b,(g.ow id).o+lo.toNat*sz,none⟩)∧(∀i,i<xs.length→(xs.getD i .bad).cells.length=sz)∧
  (xs.length=0∨∃c T,g.base≤b∧w.heap[b]? =some (.cells c T (0,0))∧(g.ow id).o+xs.length*sz≤c.size∧
   (∀i j,i<xs.length→j<sz→(c.getD ((g.ow id).o+i*sz+j) undef).oneCell'=true∧VR g w (c.getD ((g.ow id).o+i*sz+j) undef) ((xs.getD i .bad).cells.getD j .bad))∧
   (∀o,(g.ow id).o≤o→¬g.fz b o)∧g.at H id=some b):=by
 obtain⟨b,h1,h2,h3,h4,h5⟩:=hR.blk id _ hk
 cases hv with
 |own hm h0 h1' h2' hp=>
  rename_i p
  rw[h1]at hm;cases hm
  rw[h3]at h2' hp
  rw[h2]at hp
  refine⟨b,p,h1,by rw[h3],h0,h1',h2',h2,h3,hp,h4,?_⟩
  by_cases hc:xs.length=0
  ·exact .inl hc
  rcases h5 with h5|⟨c,T,k1,k2,k3,k4,k5⟩
  ·exact .inl h5
  exact .inr ⟨c,T,k1,k2,k3,k4,k5,by simp only[Gh.at,hk,hc,if_false,h1]⟩
theorem FP (P:Program) {g:Gh} {H:A2} {w:World} (hR:Rl g H w) {x:V} {v:Value} {xs:List V} {sz:Nat} (hx:PZ H x=some xs) (hv:VR g w v x) (hall:xs.all (fun x=>x.cells.length==sz)=true):
 ∃(base:Option Addr) (cap:Nat) (vs:Nat→Nat→Value),v= .slice base xs.length cap∧
  (∀i j,i<xs.length→j<sz→(vs i j).oneCell'=true∧VR g w (vs i j) ((xs.getD i .bad).cells.getD j .bad))∧
  (∀m,m≤xs.length→∀w':World,(∀b o,w'.cell? ⟨b,o,none⟩=w.cell? ⟨b,o,none⟩)→(Builtin.firstCells sz m v).run P w'= .ok ((List.range (m*sz)).map fun k=>vs (k / sz) (k % sz)).toArray w'):=by
 unfold PZ at hx
 split at hx
 ·cases hx;obtain⟨base,cap,vs,h1,_,h2,h3,h4⟩:=Hq (P:=P) hv hall;refine⟨base,cap,vs,h1,h2,fun m hm w' hw'=>?_⟩
  rcases h4 with⟨rfl,_,_⟩|⟨b,q,rfl,h5,_⟩
  ·have:m=0:=by simpa using hm
   subst this;cases base<;>simp[h1,Builtin.firstCells,loadCells,loadCellsFrom]
  rw[h1];simp only[Builtin.firstCells];refine run_loadCells w' _ _ _ fun k hk=>?_
  have hp:0<sz:=by
   rcases Nat.eq_zero_or_pos sz with h|h
   ·rw[h,Nat.mul_zero]at hk;omega
   exact h
  have hi:k / sz<m:=(Nat.div_lt_iff_lt_mul hp).2 hk;have hj:k % sz<sz:=Nat.mod_lt _ hp;rw[W2,hw']
  have e3:q+k=q+k / sz*sz+k % sz:=by have:=Nat.div_add_mod k sz;rw[Nat.mul_comm]at this;omega
  rw[e3];exact(h5 _ _ (by omega) hj).2
 ·rename_i id lo n
  cases ha:CP H id with
  |none=>rw[ha]at hx;cases hx
  | some q=>
   obtain⟨sz0,zs⟩:=q
   rw[ha]at hx
   simp only[Option.map_some,Option.some.injEq]at hx
   subst hx;obtain⟨b,p,h1,h2,h3,h4,h5,h6,h7,h8,h9,h10⟩:=Dv hR (Cz ha) hv
   have hl:(L7 zs lo n).length=n.toNat:=by simp[L7];omega
   rw[hl]
   have hsub:∀i,i<n.toNat→(L7 zs lo n).getD i .bad=zs.getD (lo.toNat+i) .bad:=fun i hi=>by
    simp only[L7,List.getD_eq_getElem?_getD,List.getElem?_take,List.getElem?_drop,if_pos hi]
   by_cases hn:n.toNat=0
   ·rw[hn]at h2 ⊢
    refine⟨_,_,fun _ _=>undef,h2,fun i j hi=>by omega,fun m hm w' _=>?_⟩
    have:m=0:=by omega
    subst this;subst h2
    cases p with
    |none=>simp[Builtin.firstCells]
    |some q=>simp[Builtin.firstCells,loadCells,loadCellsFrom]
   have hlt:lo<(zs.length:Nat):=by omega
   rcases h10 with h10|⟨c,T,k1,k2,k3,k4,k5,k6⟩
   ·omega
   have hp:=h8 hlt;subst hp
   have hse:sz0=sz:=by
    have e1:=h9 (lo.toNat+0) (by omega);have e2:=(List.all_eq_true.1 hall) ((L7 zs lo n).getD 0 .bad) (by simp[List.getD,show 0<(L7 zs lo n).length by omega])
    rw[hsub 0 (by omega)]at e2
    rw[←e1];simpa using e2
   subst hse;refine⟨_,_,fun i j=>c.getD ((g.ow id).o+(lo.toNat+i)*sz0+j) undef,h2,fun i j hi hj=>?_,fun m hm w' hw'=>?_⟩
   ·rw[hsub i hi];exact k4 _ j (by omega) hj
   subst h2;simp only[Builtin.firstCells,Option.map_some]
   have hp:0<sz0∨sz0=0:=by omega
   refine run_loadCells w' _ _ _ fun k hk=>?_
   rcases hp with hp|hp
   ·have hi:k / sz0<n.toNat:=Nat.lt_of_lt_of_le ((Nat.div_lt_iff_lt_mul hp).2 hk) hm;have hj:k % sz0<sz0:=Nat.mod_lt _ hp;have e1:=Ea (n:=zs.length) (i:=lo.toNat+k / sz0) (by omega) hj;rw[W2,hw']
    have e3:(g.ow id).o+lo.toNat*sz0+k=(g.ow id).o+(lo.toNat+k / sz0)*sz0+k % sz0:=by
     have:=Nat.div_add_mod k sz0;rw[Nat.mul_comm]at this;rw[add_mul];omega
    rw[e3];simp[World.cell?,k2,Array.getD,show(g.ow id).o+(lo.toNat+k / sz0)*sz0+k % sz0<c.size by omega]
   subst hp;simp at hk
 cases hx
theorem Af9 {c C:Array Value}{A m:Nat}{vs:List Value}(hm:vs.length=m)(hA:A+m≤c.size)(hC:(c.toList.take A++vs++c.toList.drop (A+m)).toArray=C):
 C.size=c.size∧∀k,k<c.size→C[k]? =if A≤k∧k<A+m then vs[k - A]? else c[k]? :=by
 subst hC;refine⟨by simp;omega,fun k hk=>?_⟩;simp only[List.getElem?_toArray,List.append_assoc];rw[List.getElem?_append,List.getElem?_append];simp only[List.length_take,Array.length_toList,Nat.min_eq_left (show A≤c.size by omega),List.getElem?_take,List.getElem?_drop,Array.getElem?_toList]
 by_cases q1:k<A
 ·rw[if_pos q1,if_pos q1,if_neg (by omega)]
 rw[if_neg q1]
 by_cases q2:k<A+m
 ·rw[if_pos (by omega),if_pos ⟨by omega,q2⟩]
 rw[if_neg (by omega),if_neg (by omega),hm,show A+m+(k - A - m)=k by omega]
theorem VS (P:Program) {g:Gh} {H:A2} {w:World} (hR:Rl g H w) {id sz i m:Nat} {xs ys:List V} {b:Nat} {c:Array Value} {T:TypeId} (hpos:0<sz) (hk:H id=some (.arr sz xs)) (hb:g.mu id=some b)
 (hsz:(g.ow id).sz=sz) (hin:i+ys.length≤xs.length) (hnz:xs.length≠0) (hm:ys.length=m)
 (k2:w.heap[b]? =some (.cells c T (0,0))) (k3:(g.ow id).o+xs.length*sz≤c.size)
 (k4:∀i j,i<xs.length→j<sz→(c.getD ((g.ow id).o+i*sz+j) undef).oneCell'=true∧VR g w (c.getD ((g.ow id).o+i*sz+j) undef) ((xs.getD i .bad).cells.getD j .bad))
 (hlenx:∀i,i<xs.length→(xs.getD i .bad).cells.length=sz) (hleny:∀i,i<ys.length→(ys.getD i .bad).cells.length=sz) (fy:Nat→Nat→Value)
 (hfy:∀i j,i<ys.length→j<sz→(fy i j).oneCell'=true∧VR g w (fy i j) ((ys.getD i .bad).cells.getD j .bad)):
 ∃C,(storeCells ⟨b,(g.ow id).o+i*sz,none⟩ ((List.range (m*sz)).map fun k=>fy (k / sz) (k % sz))).run P w= .ok () (w.setRow b C)∧
  T4 g w g (w.setRow b C)∧Rl g (upd H id (some (.arr sz (Cg xs i ys)))) (w.setRow b C):=by
 subst hm;have hadd:(i+ys.length)*sz=i*sz+ys.length*sz:=add_mul _ _ _;have hcapsz:(i+ys.length)*sz≤xs.length*sz:=Nat.mul_le_mul_right _ hin
 have hmem:∀v∈((List.range (ys.length*sz)).map fun k=>fy (k / sz) (k % sz)),v.oneCell'=true:=by
  intro v hv;obtain⟨k,hk,rfl⟩:=List.mem_map.1 hv;have hk':=List.mem_range.1 hk;exact(hfy _ _ ((Nat.div_lt_iff_lt_mul hpos).2 hk') (Nat.mod_lt _ hpos)).1
 have hst:=run_storeCells_at P b ((g.ow id).o+i*sz) T ((List.range (ys.length*sz)).map fun k=>fy (k / sz) (k % sz)) 0 c w k2 (by simp;omega) hmem
 generalize hC:(c.toList.take ((g.ow id).o+i*sz+0)++((List.range (ys.length*sz)).map fun k=>fy (k / sz) (k % sz))++
  c.toList.drop ((g.ow id).o+i*sz+0+((List.range (ys.length*sz)).map fun k=>fy (k / sz) (k % sz)).length)).toArray=C at hst
 have hL:((List.range (ys.length*sz)).map fun k=>fy (k / sz) (k % sz)).length=ys.length*sz:=by simp
 rw[hL,add_zero]at hC
 obtain⟨hCs,hCg⟩:=Af9 hL (by omega) hC;refine⟨C,hst,?_⟩;refine hR.setArr hk hb hnz k2 hCs (fun o ho=>?_) (HG hin) (fun j hj=>?_) (fun j t hj ht=>?_)
 ·by_cases h:o<c.size
  ·rw[hCg o h,if_neg (by omega)]
  rw[Array.getElem?_eq_none (by omega),Array.getElem?_eq_none (by omega)]
 ·rw[HG hin]at hj
  rw[OZ hin]
  split
  ·exact hleny _ (by omega)
  exact hlenx _ hj
 rw[HG hin]at hj
 have e1:=Ea (n:=xs.length) hj ht
 have hin':(g.ow id).o+j*sz+t<c.size:=by omega
 rw[OZ hin];simp only[Array.getD_eq_getD_getElem?,hCg _ hin']
 by_cases hji:i≤j∧j<i+ys.length
 ·have h1:i*sz≤j*sz:=Nat.mul_le_mul_right _ hji.1;have h2:=Ea (n:=i+ys.length) hji.2 ht;have h3:(j - i)*sz=j*sz - i*sz:=Nat.sub_mul _ _ _;rw[if_pos ⟨by omega,by omega⟩,if_pos hji,show(g.ow id).o+j*sz+t - ((g.ow id).o+i*sz)=(j - i)*sz+t by omega,List.getElem?_map,List.getElem?_range (by have:=Ea (n:=ys.length) (i:=j - i) (by omega) ht;omega)];simp only[Option.map_some,Option.getD_some,(P9 ht).1,(P9 ht).2];exact hfy _ t (by omega) ht
 have hne:¬((g.ow id).o+i*sz≤(g.ow id).o+j*sz+t∧(g.ow id).o+j*sz+t<(g.ow id).o+i*sz+ys.length*sz):=by
  rintro⟨q1,q2⟩
  rcases Nat.lt_or_ge j i with h|h
  ·have:=Nat.mul_le_mul_right sz (show j+1≤i by omega)
   rw[add_mul,Nat.one_mul]at this
   omega
  have h':i+ys.length≤j:=by omega
  have:=Nat.mul_le_mul_right sz h';omega
 rw[if_neg hne,if_neg hji];have:=k4 j t hj ht
 simpa only[Array.getD_eq_getD_getElem?]using this
theorem Dy {xs:List V}{lo n:Int}(h0:0≤lo)(h1:0≤n)(h2:lo+n≤(xs.length:Nat)):(L7 xs lo n).length=n.toNat:=by simp[L7];omega
theorem Lf {xs:List V}{lo n:Int}{i:Nat}(hi:i<n.toNat):(L7 xs lo n).getD i .bad=xs.getD (lo.toNat+i) .bad:=by
 simp only[L7,List.getD_eq_getElem?_getD,List.getElem?_take,List.getElem?_drop,if_pos hi]
theorem Ig {xs:List V}{sz:Nat}(h:∀i,i<xs.length→(xs.getD i .bad).cells.length=sz):xs.all (fun x=>x.cells.length==sz)=true:=by
 rw[List.all_eq_true];intro x hx;obtain⟨i,hi,rfl⟩:=List.getElem_of_mem hx;have:=h i hi
 simpa[List.getD,hi]using this
theorem Fv {xs:List V}{sz:Nat}(h:xs.all (fun x=>x.cells.length==sz)=true):∀i,i<xs.length→(xs.getD i .bad).cells.length=sz:=fun i hi=>by
 have:=(List.all_eq_true.1 h) (xs.getD i .bad) (by simp[List.getD,hi])
 simpa using this
theorem Wr {g:Gh} {w:World} {H:A2} {K:V→A2→Prop} (hR:Rl g H w) {e:TypeId} {sz G:Nat} {z:V} {xs ys:List V} {zv:Value} (hpos:0<sz) (hzv:VR g w zv z) (hz1:z.one=true) (hzl:z.cells.length=sz)
 (hlenx:∀i,i<xs.length→(xs.getD i .bad).cells.length=sz) (hleny:∀i,i<ys.length→(ys.getD i .bad).cells.length=sz) {fs fy:Nat→Nat→Value}
 (hfs:∀i j,i<xs.length→j<sz→(fs i j).oneCell'=true∧VR g w (fs i j) ((xs.getD i .bad).cells.getD j .bad))
 (hfy:∀i j,i<ys.length→j<sz→(fy i j).oneCell'=true∧VR g w (fy i j) ((ys.getD i .bad).cells.getD j .bad)) (hGe:xs.length+ys.length≤G) {m:Int} (hm:m=((xs.length+ys.length:Nat):Int))
 (hout:∀t k,H t=none→K (.own t 0 m) (upd H t (some (.arr sz (xs++ys++List.replicate k z))))):
 J7 g w K (.slice (some ⟨w.heap.size,0,none⟩) (xs.length+ys.length) G)
  (w.drew.alloc (.cells (((List.range (xs.length*sz)).map fun k=>fs (k / sz) (k % sz)).toArray++((List.range (ys.length*sz)).map fun k=>fy (k / sz) (k % sz)).toArray++
   Builtin.zeroCells zv.cells (G - (xs.length+ys.length))) e)):=by
 obtain⟨hzs',hzc⟩:=hzv.cells hz1
 have hzs:zv.cells.size=sz:=by rw[hzs',hzl]
 generalize hC:((List.range (xs.length*sz)).map fun k=>fs (k / sz) (k % sz)).toArray++((List.range (ys.length*sz)).map fun k=>fy (k / sz) (k % sz)).toArray++Builtin.zeroCells zv.cells (G - (xs.length+ys.length))=C;have hadd:(xs.length+ys.length)*sz=xs.length*sz+ys.length*sz:=add_mul _ _ _;have hGs:(xs.length+ys.length)*sz≤G*sz:=Nat.mul_le_mul_right _ hGe
 have hCs:C.size=G*sz:=by
  rw[←hC];simp only[Array.size_append,List.size_toArray,List.length_map,List.length_range,size_zeroCells,hzs,Nat.sub_mul];omega
 have hCg:∀k,k<(xs.length+ys.length)*sz→C[k]? =some (if k<xs.length*sz then fs (k / sz) (k % sz)else fy ((k - xs.length*sz) / sz) ((k - xs.length*sz) % sz)):=by
  intro k hk;rw[←hC,Array.getElem?_append,if_pos (by simp;omega),Array.getElem?_append];simp only[List.size_toArray,List.length_map,List.length_range,List.getElem?_toArray,List.getElem?_map]
  split
  ·rw[List.getElem?_range (by assumption)];rfl
  rw[List.getElem?_range (by omega)];rfl
 have hCz:∀k,(xs.length+ys.length)*sz≤k→k<G*sz→C[k]? =zv.cells[(k - (xs.length+ys.length)*sz) % sz]? :=by
  intro k hk hk2;rw[←hC,Array.getElem?_append,if_neg (by simp;omega)];simp only[Array.size_append,List.size_toArray,List.length_map,List.length_range];rw[show k - (xs.length*sz+ys.length*sz)=k - (xs.length+ys.length)*sz by omega];have hs:=size_zeroCells zv.cells (G - (xs.length+ys.length))
  have hlt:k - (xs.length+ys.length)*sz<(G - (xs.length+ys.length))*sz:=by rw[Nat.sub_mul];omega
  generalize k - (xs.length+ys.length)*sz=q at hlt ⊢
  have hq:q % sz<zv.cells.size:=by rw[hzs];exact Nat.mod_lt _ hpos
  unfold Builtin.zeroCells;simp[hzs,hlt,Array.getElem?_map,Array.getElem?_range];rw[getElem!_pos zv.cells (q % sz) hq,getElem?_pos zv.cells (q % sz) hq]
 have hcellp:∀x o,g.fz x o→(w.drew.alloc (.cells C e)).cell? ⟨x,o,none⟩=w.cell? ⟨x,o,none⟩:=fun x o hf=>Ck (w:=w.drew) (hR.fz_lt hf);have hbel:Below g.base w (w.drew.alloc (.cells C e)):=(Below.refl _ _).drew.alloc hR.bnd _
 have hln:(xs++ys++List.replicate (G - (xs.length+ys.length)) z).length=G:=by simp;omega
 have hget:∀i,i<G→(xs++ys++List.replicate (G - (xs.length+ys.length)) z).getD i .bad=if i<xs.length then xs.getD i .bad else if i<xs.length+ys.length then ys.getD (i - xs.length) .bad else z:=by
  intro i hi;rw[DJ,DJ];simp only[List.length_append]
  by_cases h1:i<xs.length
  ·rw[if_pos (by omega),if_pos h1,if_pos h1]
  rw[if_neg h1]
  by_cases h2:i<xs.length+ys.length
  ·rw[if_pos h2,if_pos h2,if_neg h1]
  rw[if_neg h2,if_neg h2,if_neg h1];simp only[List.getD_eq_getElem?_getD,List.getElem?_replicate];rw[if_pos (by omega)];rfl
 obtain⟨s,r,hnone⟩:=Rl.newArr (w':=w.drew.alloc (.cells C e)) hR (b:=w.heap.size) (o:=0) (sz:=sz) (ys:=xs++ys++List.replicate (G - (xs.length+ys.length)) z)
  (fun i hi=>by
   rw[hln]at hi
   rw[hget i hi]
   split
   ·exact hlenx i (by assumption)
   split
   ·exact hleny _ (by omega)
   exact hzl) hcellp hbel (fun x _ hlt=>heap_alloc (w:=w.drew) hlt)
  (.inr ⟨C,e,hR.bnd,BX (w:=w.drew) (o:=.cells C e),by rw[hln,hCs];omega,fun i j hi hj=>by
   rw[hln]at hi
   have h2:=Ea (n:=G) hi hj;rw[hget i hi];simp only[Nat.zero_add]
   by_cases hix:i<xs.length
   ·have h3:=Ea hix hj
    have h4:i*sz+j<(xs.length+ys.length)*sz:=by omega
    simp only[Array.getD_eq_getD_getElem?,hCg _ h4,Option.getD_some];rw[if_pos h3,if_pos hix,(P9 hj).1,(P9 hj).2];exact hfs i j hix hj
   have h1:xs.length*sz≤i*sz:=Nat.mul_le_mul_right _ (by omega);have h3:(i - xs.length)*sz=i*sz - xs.length*sz:=Nat.sub_mul _ _ _;rw[if_neg hix]
   by_cases hiy:i<xs.length+ys.length
   ·have h4:=Ea hiy hj;simp only[Array.getD_eq_getD_getElem?,hCg _ h4,Option.getD_some];rw[if_neg (by omega),if_pos hiy,show i*sz+j - xs.length*sz=(i - xs.length)*sz+j by omega,(P9 hj).1,(P9 hj).2];exact hfy _ j (by omega) hj
   have h1':(xs.length+ys.length)*sz≤i*sz:=Nat.mul_le_mul_right _ (by omega);have h3':(i - (xs.length+ys.length))*sz=i*sz - (xs.length+ys.length)*sz:=Nat.sub_mul _ _ _;rw[if_neg hiy]
   have e1:C.getD (i*sz+j) undef=zv.cells.getD j undef:=by
    simp only[Array.getD_eq_getD_getElem?];rw[hCz _ (by omega) h2,show i*sz+j - (xs.length+ys.length)*sz=(i - (xs.length+ys.length))*sz+j by omega,(P9 hj).2]
   rw[e1]
   exact hzc j (by omega),fun q _ hf=>absurd (hR.fz_lt hf) (Nat.lt_irrefl _),fun id hid=>absurd (hR.lt hid) (Nat.lt_irrefl _)⟩)
 rw[hln]at s r
 refine⟨_,_,_,s,r,?_,hout g.nx _ hnone⟩;have:=VR.ownN (g:=g) (w:=w.drew.alloc (.cells C e)) (b:=w.heap.size) (o:=0) (cap:=G) (sz:=sz) (n:=m) (by omega) (by omega)
 rwa[hm,Int.toNat_natCast,←hm]at this
theorem ZR {g:Gh} {w:World} {H:A2} {K:V→A2→Prop} (hR:Rl g H w) {id sz:Nat} {lo n:Int} {xs ys:List V} {vs:Value} (hk:H id=some (.arr sz xs)) (hv:VR g w vs (.own id lo n)) (hpos:0<sz)
 (hleny:∀i,i<ys.length→(ys.getD i .bad).cells.length=sz) {fy:Nat→Nat→Value} (hfy:∀i j,i<ys.length→j<sz→(fy i j).oneCell'=true∧VR g w (fy i j) ((ys.getD i .bad).cells.getD j .bad))
 (hfit:lo+n+(ys.length:Nat)≤(xs.length:Nat)) (hin:K (.own id lo (n+(ys.length:Nat))) (upd H id (some (.arr sz (Cg xs (lo+n).toNat ys))))):
 ∃base cap w',vs= .slice base n.toNat cap∧n.toNat+ys.length≤cap∧cap=xs.length - lo.toNat∧
  (match base with|some a=>(storeCells (a.add (n.toNat*sz)) ((List.range (ys.length*sz)).map fun k=>fy (k / sz) (k % sz))).run P w|none=>.ok () w)= .ok () w'∧
  J7 g w K (.slice base (n.toNat+ys.length) cap) w':=by
 obtain⟨b,p,h1,h2,h3,h4,h5,h6,h7,h8,h9,h10⟩:=Dv hR hk hv
 by_cases hcap0:lo=(xs.length:Nat)
 ·
  have hy0:ys=[]:=List.length_eq_zero_iff.1 (by omega)
  have hn0:n=0:=by omega
  subst hy0;subst hn0;refine⟨_,_,w,h2,by simp,rfl,by cases p<;>simp[storeCells],?_⟩
  have e:Cg xs (lo+0).toNat []=xs:=by simp[Cg]
  rw[e]at hin
  refine⟨g,.own id lo 0,H,T4.refl _ _,hR,?_,?_⟩
  rotate_right
  ·have:upd H id (some (.arr sz xs))=H:=by
    funext x
    simp only[upd]
    split
    ·next e=>subst e;exact hk.symm
    rfl
   rw[this]at hin
   exact hin
  rw[h2]at hv;simpa using hv
 have hlt:lo<(xs.length:Nat):=by omega
 have hp:=h8 hlt;subst hp
 rcases h10 with h10|⟨c,T,k1,k2,k3,k4,k5,k6⟩
 ·omega
 obtain⟨C,hst,s,r⟩:=VS P hR (i:=(lo+n).toNat) (m:=ys.length) (ys:=ys) hpos hk h1 h6 (by omega) (by omega) rfl k2 k3 k4 h9 hleny fy hfy;refine⟨_,_,w.setRow b C,h2,by omega,rfl,?_,?_⟩
 ·simp only[Option.map_some,W2];rw[show(g.ow id).o+lo.toNat*sz+n.toNat*sz=(g.ow id).o+(lo+n).toNat*sz by rw[show(lo+n).toNat=lo.toNat+n.toNat by omega,add_mul];omega];exact hst
 refine⟨g,_,_,s,r,?_,hin⟩;have:=VR.own (g:=g) (w:=w.setRow b C) (id:=id) (b:=b) (lo:=lo) (n:=n+(ys.length:Nat)) (p:=some ⟨b,(g.ow id).o+lo.toNat*sz,none⟩) h1 h3 (by omega) (by rw[h7];omega) (fun _=>by rw[h6])
 rw[h7]at this
 rwa[show(n+(ys.length:Nat)).toNat=n.toNat+ys.length by omega]at this
theorem FJ {g:Gh} {w:World} (hR:Rl g H w) {vs vy:Value} {ty:TypeId} {cs:Array Bool} {sT yT e:TypeId} {id sz by_:Nat} {lo n:Int} {z:V} {xs ys:List V} (hvs:VR g w vs (.own id lo n)) {fy:Nat→Nat→Value}
 (hfy:∀i j,i<ys.length→j<sz→(fy i j).oneCell'=true∧VR g w (fy i j) ((ys.getD i .bad).cells.getD j .bad)) (hyl:Builtin.lenOf vy=pure ys.length)
 (hry:∀w':World,(∀b o,w'.cell? ⟨b,o,none⟩=w.cell? ⟨b,o,none⟩)→(Builtin.firstCells sz ys.length vy).run P w'= .ok ((List.range (ys.length*sz)).map fun k=>fy (k / sz) (k % sz)).toArray w')
 (hk:H id=some (.arr sz xs)) (he:Fc P sT=some e) (huy:(∃e',P.underlying yT=some (.slice e'))∨P.underlying yT=some .string) (hsz:Ed P e=some sz) (hpos:0<sz) (hby:Oc P e=some by_) (hbp:0<by_)
 (hz:Gt P e=some z) (hz1:z.one=true) (hzl:z.cells.length=sz) (hay:ys.all (fun x=>x.cells.length==sz)=true)
 (hin:lo+n+(ys.length:Nat)≤(xs.length:Nat)→K (.own id lo (n+(ys.length:Nat))) (upd H id (some (.arr sz (Cg xs (lo+n).toNat ys)))))
 (hout:(xs.length:Nat)<lo+n+(ys.length:Nat)→(n.toNat+ys.length)*by_≤140737488355328∧∀t k,H t=none→K (.own t 0 (n+(ys.length:Nat))) (upd H t (some (.arr sz (L7 xs lo n++ys++List.replicate k z))))):
 G1 P (J7 g w K) ((builtin .append #[sT,yT] ty cs #[vs,vy]).run P w):=by
 have hleny:=Fv hay;have hu:=P2 he;obtain⟨zv,ez,hzv⟩:=CA hz
 have hzr:VR g w zv z:=by rw[ez];exact Dl g w zv
 have hzs:zv.cells.size=sz:=by rw[(hzr.cells hz1).1,hzl]
 have hbytes:∀w,(typeInfo e).run P w= .ok ((P.info? e).getD default) w∧((P.info? e).getD default).bytes=by_:=by
  intro w
  unfold Oc at hby
  cases hi:P.info? e with
  |none=>simp[hi]at hby
  |some i=>simp[hi]at hby;simp[typeInfo,hi,hby]
 have hbi:∀w,(typeInfo e).run P w= .ok ((P.info? e).getD default) w:=fun w=>(hbytes w).1;have hbb:=(hbytes w).2;obtain⟨b,p,h1,h2,h3,h4,h5,h6,h7,h8,h9,h10⟩:=Dv hR hk hvs;simp only[builtin,List.map_toArray,List.map_cons,List.map_nil,Sem.run_bind]
 by_cases hc:lo+n+(ys.length:Nat)≤(xs.length:Nat)
 ·obtain⟨base,cap,w',q1,q2,q3,q4,q5⟩:=ZR (P:=P) hR hk hvs hpos hleny hfy hc (hin hc);rw[q1]
  have hrun:(Builtin.append_ #[sT,yT] ty #[.slice base n.toNat cap,vy]).run P w= .ok (.slice base (n.toNat+ys.length) cap) w':=by
   have hry':=hry w fun _ _=>rfl
   rcases huy with⟨e',huy⟩|huy
   all_goals simp only[hyl,Builtin.append_,Sem.run_bind,run_underlying hu,Result.andThen_ok,N9 hsz,run_underlying huy,Sem.run_pure,Sem.run_ite,List.getElem?_toArray,
    List.getElem?_cons_zero,List.getElem?_cons_succ,Bool.false_eq_true,if_false,Bool.not_false,if_true,if_pos q2,hry']
   all_goals cases base with
    |none=>simp only at q4;cases q4;rfl
    |some a=>simp only at q4;simp only[q4,Sem.run_bind,Sem.run_pure,Result.andThen_ok]
  rw[hrun];simp only[Result.andThen_ok,Sem.run_pure,G1];exact q5
 obtain⟨hbound,hout⟩:=hout (by omega)
 have hall:(L7 xs lo n).all (fun x=>x.cells.length==sz)=true:=Ig fun i hi=>by
  rw[Dy h3 h4 h5]at hi
  rw[Lf hi];exact h9 _ (by omega)
 obtain⟨base,cap,fs,es,hfs,hrs⟩:=FP P hR (x:=.own id lo n) (xs:=L7 xs lo n) (by simp[PZ,CP,hk]) hvs hall;have hrs:=hrs _ (Nat.le_refl _);have hsl:=Dy h3 h4 h5
 have hcap:cap=xs.length - lo.toNat:=by rw[h2]at es;simp only[Value.slice.injEq]at es;omega
 have hc':¬((L7 xs lo n).length+ys.length≤cap):=by omega
 have hnf:¬(2 ^ 48<Builtin.nextslicecap ((L7 xs lo n).length+ys.length) cap*by_):=by
  have:=growslice_fits (Nat.lt_of_not_le hc') (by rw[hsl];exact hbound);omega
 have hdr:∀b o,w.drew.cell? ⟨b,o,none⟩=w.cell? ⟨b,o,none⟩:=fun _ _=>rfl;generalize hG:grownCap w ((L7 xs lo n).length+ys.length) cap e=G
 have hGe:(L7 xs lo n).length+ys.length≤G:=by rw[←hG];exact grownCap_ge w _ _ _
 have hn63':¬(IntKind.i64.max<(((L7 xs lo n).length+ys.length:Nat):Int)∧(False∨by_=0)):=by
  rintro⟨_,hF|hF⟩
  ·exact hF
  omega
 have hrun:(Builtin.append_ #[sT,yT] ty #[.slice base (L7 xs lo n).length cap,vy]).run P w=
  .ok (.slice (some ⟨w.heap.size,0,none⟩) ((L7 xs lo n).length+ys.length) G)
   (w.drew.alloc (.cells (((List.range ((L7 xs lo n).length*sz)).map fun k=>fs (k / sz) (k % sz)).toArray++((List.range (ys.length*sz)).map fun k=>fy (k / sz) (k % sz)).toArray++
    Builtin.zeroCells zv.cells (G - ((L7 xs lo n).length+ys.length))) e)):=by
  have hGd:(Question.appendCap ((L7 xs lo n).length+ys.length) cap e).cut (w.tape w.drawn (.appendCap ((L7 xs lo n).length+ys.length) cap e))=G:=hG;have hf:(Question.appendCap ((L7 xs lo n).length+ys.length) cap e).forced=false:=rfl;have hrs':=hrs w.drew hdr
  rw[es]at hrs'
  have hry':=hry w.drew hdr
  rcases huy with⟨e',huy⟩|huy
  all_goals simp only[hyl,Builtin.append_,Sem.run_bind,run_underlying hu,Result.andThen_ok,N9 hsz,run_underlying huy,Sem.run_pure,Sem.run_ite,hbi,hbb,List.getElem?_toArray,
   List.getElem?_cons_zero,List.getElem?_cons_succ,Bool.false_eq_true,if_false,Bool.not_false,if_true,gt_iff_lt,false_or,if_neg hc',if_neg hnf,run_choose,hf,hGd,World.drew_eq,run_askRoom,hrs',hry',hzv,newRow,run_newObj,
   World.alloc_eq,World.size_drew]
  all_goals rw[if_neg (by simpa using hn63')]
 rw[es,hrun];simp only[Result.andThen_ok,Sem.run_pure,G1];exact Wr (K:=K) hR hpos hzr hz1 hzl (Fv hall) hleny hfs hfy hGe (m:=n+(ys.length:Nat)) (by omega) hout
theorem Kt {g:Gh}{w:World}(hR:Rl g H w){vs vy:Value}{yV:V}{ty:TypeId}{cs:Array Bool}{sT yT e:TypeId}{id sz by_:Nat}{lo n:Int}{z:V}{xs ys ys0:List V}(hvs:VR g w vs (.own id lo n))(hvy:VR g w vy yV)
 (hk:H id=some (.arr sz xs)) (hy:PZ H yV=some ys0) (hle:H9 ys0 ys) (he:Fc P sT=some e) (hyT:(Fc P yT).isSome=true) (hsz:Ed P e=some sz) (hpos:0<sz) (hby:Oc P e=some by_) (hbp:0<by_)
 (hz:Gt P e=some z) (hz1:z.one=true) (hzl:z.cells.length=sz) (hay:ys.all (fun x=>x.cells.length==sz)=true)
 (hin:lo+n+(ys.length:Nat)≤(xs.length:Nat)→K (.own id lo (n+(ys.length:Nat))) (upd H id (some (.arr sz (Cg xs (lo+n).toNat ys)))))
 (hout:(xs.length:Nat)<lo+n+(ys.length:Nat)→(n.toNat+ys.length)*by_≤140737488355328∧∀t k,H t=none→K (.own t 0 (n+(ys.length:Nat))) (upd H t (some (.arr sz (L7 xs lo n++ys++List.replicate k z))))):
 G1 P (J7 g w K) ((builtin .append #[sT,yT] ty cs #[vs,vy]).run P w):=by
 obtain⟨ybase,ycap,fy,ey,hfy0,hry⟩:=FP P hR hy hvy (hle.sz hay)
 rw[hle.length]at ey hfy0 hry
 have hfy:∀i j,i<ys.length→j<sz→(fy i j).oneCell'=true∧VR g w (fy i j) ((ys.getD i .bad).cells.getD j .bad):=fun i j hi hj=>⟨(hfy0 i j hi hj).1,(hfy0 i j hi hj).2.le ((hle.at i).cells.at j)⟩;obtain⟨e',hyT'⟩:=Option.isSome_iff_exists.1 hyT;exact FJ hR hvs hfy (by rw[ey];rfl) (hry _ (Nat.le_refl _)) hk he (.inl ⟨_,P2 hyT'⟩) hsz hpos hby hbp hz hz1 hzl hay hin hout
def Oh (sz:Nat)(H:A2)(v:V)(ys':List V):Prop:=
 match v with
 | .sl xs _=>H9 xs ys'∧ys'.all (fun x=>x.cells.length==sz)=true
 | .own id lo n=>∃xs,H id=some (.arr sz xs)∧H9 (L7 xs lo n) ys'
 |_=>False
theorem Oh.inv {g:Gh} {w:World} {sz:Nat} {x:V} {v:Value} {ys':List V} (h:Oh sz H x ys') (hR:Rl g H w) (hv:VR g w v x):∃ys0,PZ H x=some ys0∧H9 ys0 ys'∧ys'.all (fun x=>x.cells.length==sz)=true:=by
 unfold Oh at h
 split at h
 ·exact⟨_,rfl,h⟩
 ·obtain⟨xs,hk,hl⟩:=h;obtain⟨b,p,h1,h2,h3,h4,h5,h6,h7,h8,h9,h10⟩:=Dv hR hk hv;refine⟨_,by simp only[PZ,CP,hk,Option.map_some],hl,Ig fun i hi=>?_⟩
  rw[←hl.length]at hi
  rw[←(hl.at i).cells.length]
  rw[Dy h3 h4 h5]at hi
  rw[Lf hi];exact h9 _ (by omega)
 exact h.elim
theorem RE {s y:Operand}{sT yT e:TypeId}{id sz by_:Nat}{lo n:Int}{z:V}{xs ys:List V}(ho:o.op= .call {callee:=.builtin .append,args:= #[s,y],argTypes:= #[sT,yT]})
 (hs:ev fr s= .own id lo n) (hk:H id=some (.arr sz xs)) (hsrc:Oh sz H (ev fr y) ys) (he:Fc P sT=some e) (hyT:(Fc P yT).isSome=true) (hsz:Ed P e=some sz) (hpos:0<sz) (hby:Oc P e=some by_) (hbp:0<by_)
 (hz:Gt P e=some z) (hz1:z.one=true) (hzl:z.cells.length=sz)
 (hin:lo+n+(ys.length:Nat)≤(xs.length:Nat)→K (.own id lo (n+(ys.length:Nat))) (upd H id (some (.arr sz (Cg xs (lo+n).toNat ys)))))
 (hout:(xs.length:Nat)<lo+n+(ys.length:Nat)→(n.toNat+ys.length)*by_≤140737488355328∧∀t k,H t=none→K (.own t 0 (n+(ys.length:Nat))) (upd H t (some (.arr sz (L7 xs lo n++ys++List.replicate k z))))):F6 P o fr H K:=by
 intro g w a hR hE;have hvs:=D9 hR hE s
 rw[hs]at hvs
 obtain⟨ys0,hy,hle,hay⟩:=hsrc.inv hR (D9 hR hE y);rw[O2 ho];simp only[List.map_toArray,List.map_cons,List.map_nil];exact Kt hR hvs (D9 hR hE y) hk hy hle he hyT hsz hpos hby hbp hz hz1 hzl hay hin hout
theorem Qc {s y:Operand} {sT yT e:TypeId} {sz by_:Nat} {z:V} {ys:List V} (ho:o.op= .call {callee:=.builtin .append,args:= #[s,y],argTypes:= #[sT,yT]})
 (hs:ev fr s= .sl [] .nil∨ev fr s= .sl [] .full) (hsrc:Oh sz H (ev fr y) ys) (he:Fc P sT=some e) (hyT:(Fc P yT).isSome=true) (hsz:Ed P e=some sz) (hpos:0<sz) (hby:Oc P e=some by_) (hbp:0<by_)
 (hz:Gt P e=some z) (hz1:z.one=true) (hzl:z.cells.length=sz)
 (hbound:ys.length*by_≤140737488355328)
 (hout:∀t k,H t=none→K (.own t 0 (ys.length:Nat)) (upd H t (some (.arr sz (ys++List.replicate k z))))):F6 P o fr H K:=by
 intro g w a hR hE;obtain⟨g',st,hR',hn,hv⟩:=CZ hR sz hs (D9 hR hE s);obtain⟨ys0,hy,hle,hay⟩:=hsrc.inv hR (D9 hR hE y);have hvy:=(D9 hR hE y).mono st;rw[O2 ho];simp only[List.map_toArray,List.map_cons,List.map_nil]
 have hy':PZ (upd H g.nx (some (.arr sz []))) (ev fr y)=some ys0:=by
  unfold PZ at hy ⊢
  split at hy
  ·exact hy
  ·rename_i id lo n _
   cases ha:CP H id with
   |none=>rw[ha]at hy;cases hy
   |some q=>
    have h1:=Cz (sz:=q.1) (xs:=q.2) ha
    have hne:id≠g.nx:=fun e=>by subst e;rw[hn]at h1;cases h1
    have:CP (upd H g.nx (some (.arr sz []))) id=CP H id:=by simp only[CP,A7 _ _ hne]
    rw[this];exact hy
  cases hy
 refine G1.mono ?_ (Kt (K:=fun v H2=>∃H3,K v H3∧∀id b,H3 id=some b→H2 id=some b) hR' hv hvy (B7 _ _ _) hy' hle he hyT hsz hpos hby hbp hz hz1 hzl hay (fun hle'=>?_) (fun _=>⟨by simpa using hbound,fun t k ht=>?_⟩))
 ·exact fun v w' ⟨g2,x,H2,s2,hR2,hv2,H3,hK,hle3⟩=>⟨g2,x,H3,st.trans s2,hR2.less hle3,hv2,hK⟩
 ·have hy0:ys=[]:=List.length_eq_zero_iff.1 (by simp only[List.length_nil]at hle';omega);subst hy0;have:=hout g.nx 0 hn;refine⟨_,this,fun id b hb=>?_⟩
  by_cases e:id=g.nx
  ·subst e;rw[B7]at hb ⊢;simpa[Cg]using hb
  rw[A7 _ _ e]at hb;rw[A7 _ _ e,A7 _ _ e];exact hb
 have hne:t≠g.nx:=fun e=>by subst e;rw[B7]at ht;cases ht
 rw[A7 _ _ hne]at ht
 have:=hout t k ht;rw[Int.zero_add];refine⟨_,this,fun id b hb=>?_⟩
 by_cases e:id=t
 ·subst e;rw[B7]at hb ⊢;simpa[L7]using hb
 rw[A7 _ _ e]at hb ⊢
 by_cases e2:id=g.nx
 ·subst e2;rw[hn]at hb;cases hb
 rw[A7 _ _ e2];exact hb
def DQ (s:ByteArray):List V:=s.data.toList.map fun b=>V.int .u8 (b.toNat:Int)
theorem Kl (s:ByteArray):(DQ s).length=s.size:=by simp[DQ]
theorem Yf (s:ByteArray){i:Nat}(hi:i<(DQ s).length):∃b,s.data[i]? =some b∧(DQ s).getD i .bad= .int .u8 (b.toNat:Int):=by
 have h:i<s.data.size:=by rw[Kl]at hi;exact hi
 exact⟨s.data[i],by simp[h],by rw[DQ,List.getD_eq_getElem?_getD,List.getElem?_map,Array.getElem?_toList,Array.getElem?_eq_getElem h];rfl⟩
theorem MP (s:ByteArray):(DQ s).all (fun x=>x.cells.length==1)=true:=by
 rw[List.all_eq_true];intro x hx
 simp only[DQ,List.mem_map]at hx
 obtain⟨b,_,rfl⟩:=hx;rfl
def Yg (s:ByteArray)(i _:Nat):Value:=.int .u8 ((s.data.getD i 0).toNat:Int)
theorem Vx (s:ByteArray)(g:Gh)(w:World):∀i j,i<(DQ s).length→j<1→(Yg s i j).oneCell'=true∧VR g w (Yg s i j) (((DQ s).getD i .bad).cells.getD j .bad):=by
 intro i j hi hj;obtain⟨b,h1,h2⟩:=Yf s hi
 have hj0:j=0:=by omega
 subst hj0;rw[h2]
 have:s.data.getD i 0=b:=by rw[Array.getD_eq_getD_getElem?,h1];rfl
 exact⟨rfl,by simp only[Yg,this];exact VR.int _ _⟩
theorem RA (P:Program) (s:ByteArray) (w':World):(Builtin.firstCells 1 (DQ s).length (.string s)).run P w'= .ok ((List.range ((DQ s).length*1)).map fun k=>Yg s (k / 1) (k % 1)).toArray w':=by
 simp only[Builtin.firstCells,Sem.run_pure,Kl,Nat.mul_one,Nat.div_one]
 congr 1
 apply Array.ext';apply List.ext_getElem?;intro i
 have hx:(s.extract 0 s.size).data=s.data:=by
  have:s.extract 0 s.size=s:=by
   apply ByteArray.ext;simp[ByteArray.data_extract]
  rw[this]
 rw[hx]
 by_cases hi:i<s.data.size
 ·have hs:i<s.size:=hi;simp[hi,hs,Yg,Array.getD]
 have hs:¬i<s.size:=hi;simp[hi,hs]
theorem Qb {s y:Operand}{b:ByteArray}{sT yT e:TypeId}{id by_:Nat}{lo n:Int}{z:V}{xs:List V}(ho:o.op= .call {callee:=.builtin .append,args:= #[s,y],argTypes:= #[sT,yT]})
 (hs:ev fr s= .own id lo n) (hk:H id=some (.arr 1 xs)) (hb:ev fr y= .str b) (he:Fc P sT=some e) (hyT:P.underlying yT=some .string) (hsz:Ed P e=some 1) (hby:Oc P e=some by_) (hbp:0<by_)
 (hz:Gt P e=some z) (hz1:z.one=true) (hzl:z.cells.length=1)
 (hin:lo+n+((DQ b).length:Nat)≤(xs.length:Nat)→K (.own id lo (n+((DQ b).length:Nat))) (upd H id (some (.arr 1 (Cg xs (lo+n).toNat (DQ b))))))
 (hout:(xs.length:Nat)<lo+n+((DQ b).length:Nat)→(n.toNat+(DQ b).length)*by_≤140737488355328∧∀t k,H t=none→K (.own t 0 (n+((DQ b).length:Nat))) (upd H t (some (.arr 1 (L7 xs lo n++DQ b++List.replicate k z))))):F6 P o fr H K:=by
 intro g w a hR hE;have hvs:=D9 hR hE s
 rw[hs]at hvs
 have hvy:=D9 hR hE y
 rw[hb]at hvy
 rw[O2 ho];simp only[List.map_toArray,List.map_cons,List.map_nil];rw[hvy.str_inv];exact FJ hR hvs (Vx b g w) (by rw[Kl];rfl) (fun w' _=>RA P b w') hk he (.inr hyT) hsz (by decide) hby hbp hz hz1 hzl (MP b) hin hout
theorem Oq {s y:Operand} {b:ByteArray} {sT yT e:TypeId} {by_:Nat} {z:V} (ho:o.op= .call {callee:=.builtin .append,args:= #[s,y],argTypes:= #[sT,yT]})
 (hs:ev fr s= .sl [] .nil∨ev fr s= .sl [] .full) (hb:ev fr y= .str b) (he:Fc P sT=some e) (hyT:P.underlying yT=some .string) (hsz:Ed P e=some 1) (hby:Oc P e=some by_) (hbp:0<by_)
 (hz:Gt P e=some z) (hz1:z.one=true) (hzl:z.cells.length=1)
 (hbound:(DQ b).length*by_≤140737488355328)
 (hout:∀t k,H t=none→K (.own t 0 ((DQ b).length:Nat)) (upd H t (some (.arr 1 (DQ b++List.replicate k z))))):F6 P o fr H K:=by
 intro g w a hR hE;obtain⟨g',st,hR',hn,hv⟩:=CZ hR 1 hs (D9 hR hE s);have hvy:=D9 hR hE y
 rw[hb]at hvy
 rw[O2 ho];simp only[List.map_toArray,List.map_cons,List.map_nil];rw[hvy.str_inv];refine G1.mono ?_ (FJ (K:=fun v H2=>∃H3,K v H3∧∀id b,H3 id=some b→H2 id=some b) hR' hv (Vx b g' w) (by rw[Kl];rfl) (fun w' _=>RA P b w') (B7 _ _ _) he (.inr hyT) hsz (by decide) hby hbp hz hz1 hzl (MP b) (fun hle'=>?_) (fun _=>⟨by simpa using hbound,fun t k ht=>?_⟩))
 ·exact fun v w' ⟨g2,x,H2,s2,hR2,hv2,H3,hK,hle3⟩=>⟨g2,x,H3,st.trans s2,hR2.less hle3,hv2,hK⟩
 ·have hy0:DQ b=[]:=List.length_eq_zero_iff.1 (by simp only[List.length_nil]at hle';omega)
  rw[hy0]at hout ⊢
  have:=hout g.nx 0 hn;refine⟨_,this,fun id b hb=>?_⟩
  by_cases e:id=g.nx
  ·subst e;rw[B7]at hb ⊢;simpa[Cg]using hb
  rw[A7 _ _ e]at hb;rw[A7 _ _ e,A7 _ _ e];exact hb
 have hne:t≠g.nx:=fun e=>by subst e;rw[B7]at ht;cases ht
 rw[A7 _ _ hne]at ht
 have:=hout t k ht;rw[Int.zero_add];refine⟨_,this,fun id b hb=>?_⟩
 by_cases e:id=t
 ·subst e;rw[B7]at hb ⊢;simpa[L7]using hb
 rw[A7 _ _ e]at hb ⊢
 by_cases e2:id=g.nx
 ·subst e2;rw[hn]at hb;cases hb
 rw[A7 _ _ e2];exact hb
end
end Go.Ab
namespace Go.Ab
open Go.RowKit
variable [J9]
def Hr (P:Program) (H:A2) (t:TypeId) (v:V) (lo hi mx:Option Int):Option V:=
 match Fc P t,v with
 | some e,.own id l n=>
  match Ed P e,CP H id with
  | some sz,some (sz',xs)=>
   if sz=sz'∧0≤lo.getD 0∧lo.getD 0≤hi.getD n∧hi.getD n≤mx.getD ((xs.length:Nat) - l)∧mx.getD ((xs.length:Nat) - l)≤(xs.length:Nat) - l∧(mx.isSome=true→hi.isSome=true)then
    some (match mx with|none=>.own id (l+lo.getD 0) (hi.getD n - lo.getD 0)|some _=>.bad)else none
  |_,_=>none
 |_,_=>none
def Vg (P:Program)(H:A2)(t:TypeId)(v:V):Option V:=
 match Fc P t,v with
 |some _,.own id l _=>(CP H id).map fun q=>.int .i64 ((q.2.length:Nat) - l)
 |some _,.sl [] .nil=>some (.int .i64 0)
 |some _,.sl [] .full=>some (.int .i64 0)
 |_,_=>none
section
variable {P:Program}{o:Oper}{fr:Fr}{H:A2}{K:V→A2→Prop}
theorem HT {z:V}{m i:Nat}(h:i<m):(List.replicate m z).getD i .bad=z:=by
 simp[List.getD,h]
theorem Ja {g:Gh} {w:World} (hR:Rl g H w) {vs vy:Value} {ty:TypeId} {cs:Array Bool} {sT yT e:TypeId} {k k':IntKind} {id sz by_:Nat} {lo n m:Int} {z:V} {xs:List V} (hvs:VR g w vs (.own id lo n)) (hvy:VR g w vy (.int k m))
 (hk:H id=some (.arr sz xs)) (he:Fc P sT=some e) (hyT:P.underlying yT=some (.int k')) (hsz:Ed P e=some sz) (hpos:0<sz) (hby:Oc P e=some by_) (hbp:0<by_)
 (hz:Gt P e=some z) (hz1:z.one=true) (hzl:z.cells.length=sz) (hm0:0≤m)
 (hbound:(n.toNat+m.toNat)*by_≤140737488355328)
 (hin:lo+n+m≤(xs.length:Nat)→K (.own id lo (n+m)) (upd H id (some (.arr sz (Cg xs (lo+n).toNat (List.replicate m.toNat z))))))
 (hout:(xs.length:Nat)<lo+n+m→∀t k,H t=none→K (.own t 0 (n+m)) (upd H t (some (.arr sz (L7 xs lo n++List.replicate m.toNat z++List.replicate k z))))):
 G1 P (J7 g w K) ((builtin .append #[sT,yT] ty cs #[vs,vy]).run P w):=by
 have ey:=hvy.int_inv;have hu:=P2 he;obtain⟨zv,ez,hzv⟩:=CA hz
 have hzr:VR g w zv z:=by rw[ez];exact Dl g w zv
 obtain⟨hzs',hzc⟩:=hzr.cells hz1
 have hzs:zv.cells.size=sz:=by rw[hzs',hzl]
 have hbytes:∀w,(typeInfo e).run P w= .ok ((P.info? e).getD default) w∧((P.info? e).getD default).bytes=by_:=by
  intro w
  unfold Oc at hby
  cases hi:P.info? e with
  |none=>simp[hi]at hby
  |some i=>simp[hi]at hby;simp[typeInfo,hi,hby]
 have hbi:∀w,(typeInfo e).run P w= .ok ((P.info? e).getD default) w:=fun w=>(hbytes w).1;have hbb:=(hbytes w).2
 have hmn:m=(m.toNat:Nat):=by omega
 generalize hmm:m.toNat=mm at *
 subst hmn
 have hlr:(List.replicate mm z).length=mm:=by simp
 have hmb:mm*by_≤140737488355328:=Nat.le_trans (Nat.mul_le_mul_right _ (Nat.le_add_left _ _)) hbound;have hm1:mm≤mm*by_:=Nat.le_mul_of_pos_right _ hbp;have hw1:IntKind.i64.wrap (mm:Int)=mm:=wrap_small _ (by omega) (by omega)
 have hleny:∀i,i<(List.replicate mm z).length→((List.replicate mm z).getD i .bad).cells.length=sz:=fun i hi=>by rw[HT (by simpa using hi)];exact hzl
 have hfy:∀i j,i<(List.replicate mm z).length→j<sz→(zv.cells.getD j undef).oneCell'=true∧VR g w (zv.cells.getD j undef) (((List.replicate mm z).getD i .bad).cells.getD j .bad):=fun i j hi hj=>by
  rw[HT (by simpa using hi)];exact hzc j (by omega)
 have hzero:((List.range (mm*sz)).map fun k=>zv.cells.getD (k % sz) undef).toArray=Builtin.zeroCells zv.cells mm:=by
  apply Array.ext
  ·simp[size_zeroCells,hzs]
  intro i h1 h2
  have hi:i<mm*sz:=by simpa using h1
  have hq:i % sz<zv.cells.size:=by rw[hzs];exact Nat.mod_lt _ hpos
  unfold Builtin.zeroCells;simp[hzs,Array.getD];rw[dif_pos (Nat.mod_lt _ hpos),getElem!_pos zv.cells (i % sz) hq]
 have hn1:¬((mm:Int)<0):=by omega
 have hn2:¬(281474976710656<(mm:Int)*(by_:Int)):=by
  have:((mm*by_:Nat):Int)≤140737488355328:=by omega
  rw[Int.natCast_mul]at this
  omega
 have happ:∀w':World,(if mm*sz=0 then pure #[]else(do pure (Builtin.zeroCells (←zeroValue e).cells mm):Sem (Array Value))).run P w'= .ok ((List.range (mm*sz)).map fun k=>zv.cells.getD (k % sz) undef).toArray w':=by
  intro w'
  by_cases h0:mm*sz=0
  ·rw[if_pos h0,h0];rfl
  rw[if_neg h0,hzero];simp only[Sem.run_bind,hzv,Result.andThen_ok,Sem.run_pure]
 obtain⟨b,p,h1,h2,h3,h4,h5,h6,h7,h8,h9,h10⟩:=Dv hR hk hvs;simp only[builtin,List.map_toArray,List.map_cons,List.map_nil,Sem.run_bind,ey]
 by_cases hc:lo+n+(mm:Int)≤(xs.length:Nat)
 ·obtain⟨base,cap,w',q1,q2,q3,q4,q5⟩:=ZR (P:=P) (K:=K) (ys:=List.replicate mm z) (fy:=fun _ j=>zv.cells.getD j undef) hR hk hvs hpos hleny hfy (by rw[hlr];exact hc) (by rw[hlr];exact hin hc)
  rw[hlr]at q2 q4 q5
  rw[q1]
  have hrun:(Builtin.append_ #[sT,yT] ty #[.slice base n.toNat cap,.int k mm]).run P w= .ok (.slice base (n.toNat+mm) cap) w':=by
   have ha:=happ w
   simp only[Sem.run_ite,Sem.run_bind,hzv,Sem.run_pure,Result.andThen_ok]at ha
   simp only[Builtin.append_,Sem.run_bind,run_underlying hu,Result.andThen_ok,N9 hsz,run_underlying hyT,Sem.run_pure,Sem.run_ite,List.getElem?_toArray,asInt,asIntOf,hw1,hbi,hbb,
    List.getElem?_cons_zero,List.getElem?_cons_succ,Bool.false_eq_true,if_false,Bool.not_true,if_true,gt_iff_lt,if_neg hn1,Int.reducePow,if_neg hn2,Int.toNat_natCast,if_pos q2,hzv,ha]
   cases base with
   |none=>simp only at q4;cases q4;rfl
   |some a=>simp only at q4;simp only[q4,Sem.run_bind,Sem.run_pure,Result.andThen_ok]
  rw[hrun];simp only[Result.andThen_ok,Sem.run_pure,G1];exact q5
 have hout:=hout (by omega)
 have hall:(L7 xs lo n).all (fun x=>x.cells.length==sz)=true:=Ig fun i hi=>by
  rw[Dy h3 h4 h5]at hi
  rw[Lf hi];exact h9 _ (by omega)
 obtain⟨base,cap,fs,es,hfs,hrs⟩:=FP P hR (x:=.own id lo n) (xs:=L7 xs lo n) (by simp[PZ,CP,hk]) hvs hall;have hrs:=hrs _ (Nat.le_refl _);have hsl:=Dy h3 h4 h5
 have hcap:cap=xs.length - lo.toNat:=by rw[h2]at es;simp only[Value.slice.injEq]at es;omega
 have hc':¬((L7 xs lo n).length+mm≤cap):=by omega
 have hnf:¬(2 ^ 48<Builtin.nextslicecap ((L7 xs lo n).length+mm) cap*by_):=by
  have:=growslice_fits (Nat.lt_of_not_le hc') (by rw[hsl];exact hbound);omega
 have hdr:∀b o,w.drew.cell? ⟨b,o,none⟩=w.cell? ⟨b,o,none⟩:=fun _ _=>rfl;generalize hG:grownCap w ((L7 xs lo n).length+mm) cap e=G
 have hGe:(L7 xs lo n).length+mm≤G:=by rw[←hG];exact grownCap_ge w _ _ _
 have hn63':¬(IntKind.i64.max<(((L7 xs lo n).length+mm:Nat):Int)∧(True∨by_=0)):=by
  rintro⟨h,_⟩
  have h1':((L7 xs lo n).length+mm)≤(n.toNat+mm)*by_:=by rw[hsl];exact Nat.le_mul_of_pos_right _ hbp
  have h2':(9223372036854775807:Int)<(((L7 xs lo n).length+mm:Nat):Int):=h;omega
 have hrun:(Builtin.append_ #[sT,yT] ty #[.slice base (L7 xs lo n).length cap,.int k mm]).run P w=
  .ok (.slice (some ⟨w.heap.size,0,none⟩) ((L7 xs lo n).length+mm) G)
   (w.drew.alloc (.cells (((List.range ((L7 xs lo n).length*sz)).map fun k=>fs (k / sz) (k % sz)).toArray++((List.range (mm*sz)).map fun k=>zv.cells.getD (k % sz) undef).toArray++
    Builtin.zeroCells zv.cells (G - ((L7 xs lo n).length+mm))) e)):=by
  have hGd:(Question.appendCap ((L7 xs lo n).length+mm) cap e).cut (w.tape w.drawn (.appendCap ((L7 xs lo n).length+mm) cap e))=G:=hG;have hf:(Question.appendCap ((L7 xs lo n).length+mm) cap e).forced=false:=rfl;have hrs':=hrs w.drew hdr
  rw[es]at hrs'
  have ha:=happ w.drew
  simp only[Sem.run_ite,Sem.run_bind,hzv,Sem.run_pure,Result.andThen_ok]at ha
  simp only[Builtin.append_,Sem.run_bind,run_underlying hu,Result.andThen_ok,N9 hsz,run_underlying hyT,Sem.run_pure,Sem.run_ite,hbi,hbb,List.getElem?_toArray,asInt,asIntOf,hw1,
   List.getElem?_cons_zero,List.getElem?_cons_succ,Bool.false_eq_true,if_false,Bool.not_true,if_true,gt_iff_lt,true_or,if_neg hn1,Int.reducePow,if_neg hn2,Int.toNat_natCast,if_neg hc',if_neg hnf,run_choose,hf,hGd,World.drew_eq,run_askRoom,hrs',ha,hzv,newRow,run_newObj,
   World.alloc_eq,World.size_drew]
  rw[if_neg (by simpa using hn63')]
 rw[es,hrun];simp only[Result.andThen_ok,Sem.run_pure,G1];have:=Wr (K:=K) (e:=e) (ys:=List.replicate mm z) (fs:=fs) (fy:=fun _ j=>zv.cells.getD j undef) hR hpos hzr hz1 hzl (Fv hall) hleny hfs hfy (by rw[hlr];exact hGe) (m:=n+(mm:Int)) (by rw[hlr];omega) hout
 rw[hlr]at this
 exact this
theorem Qa {s y:Operand}{sT yT e:TypeId}{k k':IntKind}{id sz by_:Nat}{lo n m:Int}{z:V}{xs:List V}(ho:o.op= .call {callee:=.builtin .append,args:= #[s,y],argTypes:= #[sT,yT]})
 (hs:ev fr s= .own id lo n) (hy:ev fr y= .int k m) (hk:H id=some (.arr sz xs)) (he:Fc P sT=some e) (hyT:P.underlying yT=some (.int k')) (hsz:Ed P e=some sz) (hpos:0<sz) (hby:Oc P e=some by_) (hbp:0<by_)
 (hz:Gt P e=some z) (hz1:z.one=true) (hzl:z.cells.length=sz) (hm0:0≤m)
 (hbound:(n.toNat+m.toNat)*by_≤140737488355328)
 (hin:lo+n+m≤(xs.length:Nat)→K (.own id lo (n+m)) (upd H id (some (.arr sz (Cg xs (lo+n).toNat (List.replicate m.toNat z))))))
 (hout:(xs.length:Nat)<lo+n+m→∀t k,H t=none→K (.own t 0 (n+m)) (upd H t (some (.arr sz (L7 xs lo n++List.replicate m.toNat z++List.replicate k z))))):F6 P o fr H K:=by
 intro g w a hR hE;have hvs:=D9 hR hE s;have hvy:=D9 hR hE y
 rw[hs]at hvs
 rw[hy]at hvy
 rw[O2 ho];simp only[List.map_toArray,List.map_cons,List.map_nil];exact Ja hR hvs hvy hk he hyT hsz hpos hby hbp hz hz1 hzl hm0 hbound hin hout
theorem Oo {s y:Operand} {sT yT e:TypeId} {k k':IntKind} {sz by_:Nat} {m:Int} {z:V} (ho:o.op= .call {callee:=.builtin .append,args:= #[s,y],argTypes:= #[sT,yT]})
 (hs:ev fr s= .sl [] .nil∨ev fr s= .sl [] .full) (hy:ev fr y= .int k m) (he:Fc P sT=some e) (hyT:P.underlying yT=some (.int k')) (hsz:Ed P e=some sz) (hpos:0<sz) (hby:Oc P e=some by_) (hbp:0<by_)
 (hz:Gt P e=some z) (hz1:z.one=true) (hzl:z.cells.length=sz) (hm0:0≤m)
 (hbound:m.toNat*by_≤140737488355328)
 (hout:∀t k,H t=none→K (.own t 0 m) (upd H t (some (.arr sz (List.replicate m.toNat z++List.replicate k z))))):F6 P o fr H K:=by
 intro g w a hR hE;obtain⟨g',st,hR',hn,hv⟩:=CZ hR sz hs (D9 hR hE s);have hvy:=(D9 hR hE y).mono st
 rw[hy]at hvy
 rw[O2 ho];simp only[List.map_toArray,List.map_cons,List.map_nil];refine G1.mono ?_ (Ja (K:=fun v H2=>∃H3,K v H3∧∀id b,H3 id=some b→H2 id=some b) hR' hv hvy (B7 _ _ _) he hyT hsz hpos hby hbp hz hz1 hzl hm0 (by simpa using hbound) (fun hle'=>?_) (fun _ t k ht=>?_))
 ·exact fun v w' ⟨g2,x,H2,s2,hR2,hv2,H3,hK,hle3⟩=>⟨g2,x,H3,st.trans s2,hR2.less hle3,hv2,hK⟩
 ·have hm:m=0:=by simp only[List.length_nil]at hle';omega
  subst hm;have:=hout g.nx 0 hn;refine⟨_,this,fun id b hb=>?_⟩
  by_cases e:id=g.nx
  ·subst e;rw[B7]at hb ⊢;simpa[Cg]using hb
  rw[A7 _ _ e]at hb;rw[A7 _ _ e,A7 _ _ e];exact hb
 have hne:t≠g.nx:=fun e=>by subst e;rw[B7]at ht;cases ht
 rw[A7 _ _ hne]at ht
 have:=hout t k ht;rw[Int.zero_add];refine⟨_,this,fun id b hb=>?_⟩
 by_cases e:id=t
 ·subst e;rw[B7]at hb ⊢;simpa[L7]using hb
 rw[A7 _ _ e]at hb ⊢
 by_cases e2:id=g.nx
 ·subst e2;rw[hn]at hb;cases hb
 rw[A7 _ _ e2];exact hb
theorem RD {t:TypeId} {y:Operand} {lo hi mx:Option Operand} {il ih im:Option Int} {x:V} (ho:o.op= .slice t y lo hi mx) (hlo:AI (lo.map (ev fr))=some il) (hhi:AI (hi.map (ev fr))=some ih)
 (hmx:AI (mx.map (ev fr))=some im) (hl:Hr P H t (ev fr y) il ih im=some x) (h:K x H):F6 P o fr H K:=by
 intro g w a hR hE;have hv:=D9 hR hE y;have hrl:=Da hR hE hlo;have hrh:=Da hR hE hhi;have hrm:=Da hR hE hmx
 have hb:∀(isSlice:Bool) (len cap:Nat),0≤il.getD 0→il.getD 0≤ih.getD len→ih.getD len≤im.getD cap→im.getD cap≤cap→(im.isSome=true→ih.isSome=true)→
  (Instr.sliceBounds isSlice len cap (lo.map a.eval) (hi.map a.eval) (mx.map a.eval)).run P w= .ok ((il.getD 0).toNat,(ih.getD len).toNat,(im.getD cap).toNat) w:=by
  intro isSlice len cap c1 c2 c3 c4 c5;refine MY (P:=P) isSlice len cap _ _ _ _ _ _ w ?_ ?_ ?_ (by omega) (by omega) (by omega)
  ·rcases hrl with⟨e1,rfl⟩|⟨k,j,e1,rfl⟩
   ·exact .inl ⟨e1,rfl⟩
   simp only[Option.getD_some]at c1
   exact .inr ⟨k,by rw[e1];simp only[Option.getD_some];rw[Ej (b:=0) c1]⟩
  ·rcases hrh with⟨e1,rfl⟩|⟨k,j,e1,rfl⟩
   ·rcases hrm with⟨e2,rfl⟩|⟨k,j,e2,rfl⟩
    ·exact .inl ⟨e1,e2,by simp⟩
    simp at c5
   simp only[Option.getD_some]at c2
   exact .inr ⟨k,by rw[e1];simp only[Option.getD_some];rw[Ej (b:=0) (by omega)]⟩
  rcases hrm with⟨e1,rfl⟩|⟨k,j,e1,rfl⟩
  ·exact .inl ⟨e1,by simp⟩
  simp only[Option.getD_some]at c3
  exact .inr ⟨k,by rw[e1];simp only[Option.getD_some];rw[Ej (b:=0) (by omega)]⟩
 unfold Hr at hl
 split at hl
 ·rename_i e id l n hse he;have hu:=P2 hse
  split at hl
  ·rename_i sz sz' xs hs hx
   split at hl
   ·rename_i hc;obtain⟨c0,c1,c2,c3,c4,c5⟩:=hc;subst c0
    rw[he]at hv
    have hk:=Cz hx;obtain⟨b,p,h1,h2,h3,h4,h5,h6,h7,h8,h9,h10⟩:=Dv hR hk hv
    have ecap:(((xs.length - l.toNat:Nat):Nat):Int)=(xs.length:Nat) - l:=by omega
    have en:((n.toNat:Nat):Int)=n:=by omega
    have hb':=hb true n.toNat (xs.length - l.toNat) c1 (by rw[en];exact c2) (by rw[en,ecap];exact c3) (by rw[ecap];exact c4) c5
    rw[en,ecap]at hb'
    unfold execOp;rw[ho];simp only[h2,Instr.sliceAt,Instr.slice,Sem.run_bind,run_underlying hu,Result.andThen_ok,hb',N9 hs,Sem.run_pure,G1]
    cases hmi:im with
    |some m=>
     rw[hmi]at hl
     simp only[Option.some.injEq]at hl
     subst hl;exact J7.here hR (.bad _) h
    | none=>
     rw[hmi]at hl
     simp only[Option.some.injEq]at hl
     subst hl;refine J7.here hR ?_ h
     simp only[hmi,Option.getD_none]at c3 c4
     simp only[Option.getD_none]
     have hown:=VR.own (g:=g) (w:=w) (id:=id) (b:=b) (lo:=l+il.getD 0) (n:=ih.getD n - il.getD 0) (p:=if((xs.length:Nat) - l:Int).toNat=(il.getD 0).toNat then p else p.map fun q=>q.add ((il.getD 0).toNat*sz)) h1 (by omega) (by omega) (by rw[h7];omega)
      (fun hlt=>by
       rw[h7]at hlt
       rw[if_neg (by omega),h8 (by omega),h6];simp only[Option.map_some,W2]
       rw[show(l+il.getD 0).toNat=l.toNat+(il.getD 0).toNat by omega,add_mul,add_assoc])
     rw[h7]at hown
     have e1:(ih.getD n - il.getD 0).toNat=(ih.getD n).toNat - (il.getD 0).toNat:=by omega
     have e2:xs.length - (l+il.getD 0).toNat=((xs.length:Nat) - l:Int).toNat - (il.getD 0).toNat:=by omega
     rw[e1,e2]at hown
     by_cases hcl:((xs.length:Nat) - l:Int).toNat=(il.getD 0).toNat
     ·rw[if_pos hcl]at hown ⊢
      exact hown
     rw[if_neg hcl]at hown ⊢
     cases p<;>simpa[W2]using hown
   cases hl
  cases hl
 cases hl
theorem Yo {y:Operand} {t:TypeId} {x:V} (ho:o.op= .call {callee:=.builtin .cap,args:= #[y],argTypes:= #[t]}) (hl:Vg P H t (ev fr y)=some x) (h:K x H):F6 P o fr H K:=by
 intro g w a hR hE;have hv:=D9 hR hE y;rw[O2 ho];simp only[builtin,List.map_toArray,List.map_cons,List.map_nil,Sem.run_bind]
 unfold Vg at hl
 split at hl
 ·rename_i e id l n hse he
  rw[he]at hv
  cases hx:CP H id with
  |none=>rw[hx]at hl;cases hl
  |some q=>
   obtain⟨sz,xs⟩:=q
   rw[hx]at hl
   simp only[Option.map_some,Option.some.injEq]at hl
   subst hl;obtain⟨b,p,h1,h2,h3,h4,h5,h6,h7,h8,h9,h10⟩:=Dv hR (Cz hx) hv;have hu:=P2 hse;simp[Builtin.cap_,run_underlying hu,goInt,h2];rw[show(((xs.length - l.toNat:Nat):Nat):Int)=(xs.length:Nat) - l by omega];exact J7.here hR (.int _ _) h
 ·rename_i e hse he
  rw[he]at hv
  cases hl;have hu:=P2 hse
  generalize a.eval y=v at hv
  cases hv with
  |sl0 ht=>simp[Builtin.cap_,run_underlying hu,goInt];exact J7.here hR (.int _ _) h
  |sle h=>rcases h with h|⟨h,_⟩<;>cases h
  |sl vs hn hc hz hf hw h1 hv ht=>exact ht.elim
 ·rename_i e hse he
  rw[he]at hv
  cases hl;have hu:=P2 hse
  generalize a.eval y=v at hv
  cases hv with
  |sl0 ht=>simp[Builtin.cap_,run_underlying hu,goInt];exact J7.here hR (.int _ _) h
  |sle hh=>
   rcases hh with hh|⟨_,hh⟩
   ·cases hh
   subst hh;simp[Builtin.cap_,run_underlying hu,goInt];exact J7.here hR (.int _ _) h
  |sl vs hn hc hz hf hw h1 hv ht=>
   rename_i b o sz n cap
   have e1:n=0:=by simpa using hn.symm
   have e2:cap=n:=ht;subst e2;subst e1;simp[Builtin.cap_,run_underlying hu,goInt];exact J7.here hR (.int _ _) h
 cases hl
theorem XA {id sz m:Nat} {xs ys:List V} {g:Gh} {H:A2} {w:World} {b:Nat} {p:Option Addr} {lo:Int} (hR:Rl g H w) (hk:H id=some (.arr sz xs)) (h1:g.mu id=some b) (h6:(g.ow id).sz=sz) (h8:lo<(xs.length:Nat)→p=some ⟨b,(g.ow id).o+lo.toNat*sz,none⟩)
 (h9:∀i,i<xs.length→(xs.getD i .bad).cells.length=sz)
 (h10:xs.length=0∨∃c T,g.base≤b∧w.heap[b]? =some (.cells c T (0,0))∧(g.ow id).o+xs.length*sz≤c.size∧
  (∀i j,i<xs.length→j<sz→(c.getD ((g.ow id).o+i*sz+j) undef).oneCell'=true∧VR g w (c.getD ((g.ow id).o+i*sz+j) undef) ((xs.getD i .bad).cells.getD j .bad))∧
  (∀o,(g.ow id).o≤o→¬g.fz b o)∧g.at H id=some b)
 (hpos:0<sz) (hm:ys.length=m) (hin:lo.toNat+m≤xs.length) (hleny:∀i,i<ys.length→(ys.getD i .bad).cells.length=sz) (fy:Nat→Nat→Value)
 (hfy:∀i j,i<ys.length→j<sz→(fy i j).oneCell'=true∧VR g w (fy i j) ((ys.getD i .bad).cells.getD j .bad)):
 ∃w',(match p with|some a=>(storeCells a ((List.range (m*sz)).map fun k=>fy (k / sz) (k % sz))).run P w|none=>.ok () w)= .ok () w'∧
  T4 g w g w'∧Rl g (upd H id (some (.arr sz (Cg xs lo.toNat ys)))) w':=by
 by_cases hm0:m=0
 ·subst hm0;have hy0:ys=[]:=List.length_eq_zero_iff.1 hm;subst hy0;refine⟨w,by cases p<;>simp[storeCells],T4.refl _ _,?_⟩
  have e:Cg xs lo.toNat []=xs:=by simp[Cg]
  have:upd H id (some (.arr sz xs))=H:=by
   funext x
   simp only[upd]
   split
   ·next e=>subst e;exact hk.symm
   rfl
  rw[e,this];exact hR
 have hp:=h8 (by omega);subst hp
 rcases h10 with h10|⟨c,T,k1,k2,k3,k4,k5,k6⟩
 ·omega
 obtain⟨C,hst,s,r⟩:=VS P hR (i:=lo.toNat) (m:=m) (ys:=ys) hpos hk h1 h6 (by omega) (by omega) hm k2 k3 k4 h9 hleny fy hfy;exact⟨_,hst,s,r⟩
theorem WG {s y:Operand} {sT yT e:TypeId} {id sz:Nat} {lo n:Int} {xs ys:List V} (ho:o.op= .call {callee:=.builtin .copy,args:= #[s,y],argTypes:= #[sT,yT]})
 (hs:ev fr s= .own id lo n) (hk:H id=some (.arr sz xs)) (hsrc:Oh sz H (ev fr y) ys) (he:Fc P sT=some e) (hsz:Ed P e=some sz) (hpos:0<sz)
 (h:K (.int .i64 (if n<(ys.length:Nat)then n else(ys.length:Nat))) (upd H id (some (.arr sz (Cg xs lo.toNat (ys.take n.toNat)))))):F6 P o fr H K:=by
 intro g w a hR hE;have hvs:=D9 hR hE s;have hvy:=D9 hR hE y
 rw[hs]at hvs
 obtain⟨ys0,hy,hle,hay⟩:=hsrc.inv hR hvy;obtain⟨ybase,ycap,fy,ey,hfy0,hry⟩:=FP P hR hy hvy (hle.sz hay)
 rw[hle.length]at ey hfy0 hry
 have hfy:∀i j,i<ys.length→j<sz→(fy i j).oneCell'=true∧VR g w (fy i j) ((ys.getD i .bad).cells.getD j .bad):=fun i j hi hj=>⟨(hfy0 i j hi hj).1,(hfy0 i j hi hj).2.le ((hle.at i).cells.at j)⟩;have hleny:=Fv hay;have hu:=P2 he;obtain⟨b,p,h1,h2,h3,h4,h5,h6,h7,h8,h9,h10⟩:=Dv hR hk hvs;rw[O2 ho];simp only[builtin,List.map_toArray,List.map_cons,List.map_nil,Sem.run_bind];generalize hm:Nat.min ys.length n.toNat=m;have hm':m=min ys.length n.toNat:=hm.symm
 have hmi:(m:Int)=if n<(ys.length:Nat)then n else(ys.length:Nat):=by split<;>omega
 have htk:ys.take n.toNat=ys.take m:=by
  rcases Nat.le_total ys.length n.toNat with q|q
  ·rw[List.take_of_length_le q,List.take_of_length_le (by omega)]
  rw[show m=n.toNat by omega]
 rw[htk,←hmi]at h
 have hlt:(ys.take m).length=m:=by simp;omega
 have hgt:∀i,i<m→(ys.take m).getD i .bad=ys.getD i .bad:=fun i hi=>by
  simp only[List.getD_eq_getElem?_getD,List.getElem?_take,if_pos hi]
 have hfc:=hry m (by omega) w fun _ _=>rfl;obtain⟨w',hst,hs',hr'⟩:=XA (P:=P) (m:=m) (ys:=ys.take m) hR hk h1 h6 h8 h9 h10 hpos hlt (by omega) (fun i hi=>by rw[hlt]at hi;rw[hgt i hi];exact hleny i (by omega)) fy (fun i j hi hj=>by rw[hlt]at hi;rw[hgt i hi];exact hfy i j (by omega) hj)
 rw[ey]at hfc
 have hrun:(Builtin.copy_ #[sT,yT] o.type #[a.eval s,a.eval y]).run P w= .ok (.int .i64 m) w':=by
  rw[ey,h2]
  simp only[Builtin.copy_,Sem.run_bind,run_underlying hu,Result.andThen_ok,N9 hsz,Sem.run_pure,Builtin.lenOf,List.getElem?_toArray,
   List.getElem?_cons_zero,List.getElem?_cons_succ,hm,hfc,goInt]
  generalize p=base at hst ⊢
  cases base with
  |none=>simp only at hst;cases hst;rfl
  |some q=>simp only at hst;simp only[hst,Sem.run_bind,Sem.run_pure,Result.andThen_ok]
 rw[hrun];simp only[Result.andThen_ok,Sem.run_pure,G1];exact⟨g,.int .i64 m,_,hs',hr',.int _ _,h⟩
end
end Go.Ab
namespace Go.Ab
open Go.RowKit
variable [J9]
def Xg (v:V):Option Prop:=
 match v with
 | .sl xs _=>some (xs=[])
 | .own _ _ n=>some (n=0)
 |_=>none
theorem YO {g:Gh} {w:World} {x:V} {v:Value} {p:Prop} (h:Xg x=some p) (hv:VR g w v x):∃a n c,v= .slice a n c∧(a.isNone=true→p):=by
 unfold Xg at h
 split at h
 ·cases h
  cases hv with
  |sl0 ht=>exact⟨_,_,_,rfl,fun _=>rfl⟩
  |sle ht=>exact⟨_,_,_,rfl,fun h=>by cases h⟩
  |sl vs hn hc hz hf hw h1 hv ht=>exact⟨_,_,_,rfl,fun h=>by cases h⟩
 ·cases h
  cases hv with
  | own hm h0 h1 h2 hp=>
   rename_i id lo n b p;refine⟨_,_,_,rfl,fun ha=>?_⟩
   cases p with
   |some q=>cases ha
   |none=>
    have:¬(lo<((g.ow id).cap:Nat)):=fun hlt=>by have:=hp hlt;cases this
    omega
 cases h
def Wf :BinOp→Option Bool
 | .eql=>some true
 | .neq=>some false
 |_=>none
section
variable {P:Program}{o:Oper}{fr:Fr}{H:A2}{K:V→A2→Prop}
theorem Ab6 {op:BinOp} {t ty e:TypeId} {y z:Operand} {p:Prop} {q:Bool} (ho:o.op= .binOp op t y z ty) (hq:Wf op=some q) (hu:Fc P t=some e) (hy:Xg (ev fr y)=some p) (hz:ev fr z= .sl [] .nil)
 (h1:p→K (.bool q) H) (h0:K (.bool (!q)) H):F6 P o fr H K:=by
 intro g w a hR hE;have hv:=D9 hR hE y;have hv':=D9 hR hE z
 rw[hz]at hv'
 obtain⟨p',n,c,ea,hp⟩:=YO hy hv
 have ez:a.eval z= .slice none 0 0:=by
  generalize a.eval z=v at hv'
  cases hv' with
  |sl0 ht=>rfl
  |sle h=>rcases h with h|⟨h,_⟩<;>cases h
  |sl vs hn hc hz hf hw h1 hv ht=>exact ht.elim
 have hu':=P2 hu;unfold execOp;rw[ho];simp only[Sem.run_bind,ea,ez]
 have hg:(eqGuard op t y z (.slice p' n c) (.slice none 0 0)).run P w= .ok () w:=by
  cases op<;>simp[eqGuard]
 rw[hg];simp only[Result.andThen_ok]
 have hb:(binOp op t (.slice p' n c) (.slice none 0 0)).run P w= .ok (.bool (if p'.isNone then q else !q)) w:=by
  cases op<;>simp only[Wf,Option.some.injEq,reduceCtorEq]at hq<;>subst hq
  ·rw[Lib.run_eql_slice_nil w t e p' n c 0 0 hu'];cases p'<;>rfl
  rw[run_neq_slice_nil_any w t e p' n c 0 0 hu'];cases p'<;>rfl
 rw[hb];simp only[Result.andThen_ok,Sem.run_pure,G1]
 cases hpn:p'.isNone with
 |true=>exact J7.here hR (.bool _) (h1 (hp hpn))
 |false=>exact J7.here hR (.bool _) h0
end
end Go.Ab
