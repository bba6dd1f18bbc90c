/- AbA10 AbL1 AbO1 AbO2 AbO3 AbO4 AbO5 AbO6 AbN0 -/
import Derived.Test.YtildiiggamckaaaGreatDoorL01
import Derived.Laws.Runes
import Derived.Lib.SliceRun
import Derived.WalkSpells
import Derived.MapKept
import Derived.DeepKeys4
set_option linter.all false
namespace Go.Ab
open Go.RowKit
variable [K9]
section
variable {P:Program}{o:Oper}{fr:Fr}{H:A1}{K:V→A1→Prop}
theorem Ek {H:A1} {tl:E5} {id:Nat} {b:CT} (h:F9 H tl id=some b):H id=some b:=by
 cases tl with
 |tok t=>
  simp_all[F9,upd]
 |_=>exact h
theorem Rl.tok {g:Gh} {H:A1} {w w':World} (h:Rl g H w) {b e0 e lim:Nat} {c:Array Value} {T:TypeId} (hb:g.base≤b) (hrow:w'.heap[b]? =some (.cells c T (0,0))) (hlim:c.size=lim) (he:e≤lim)
 (hfree:∀o,e0≤o→¬g.fz b o) (he0:e0≤e) (hcell:∀b o,g.fz b o→w'.cell? ⟨b,o,none⟩=w.cell? ⟨b,o,none⟩) (hl:Below g.base w w') (hother:∀x,x≠b→x<w.heap.size→w'.heap[x]? =w.heap[x]?)
 (hown:∀id,g.at H id≠some b) (hdr:w.drawn≤w'.drawn:=by first|exact D1 _|exact Dw _|exact Jj _ _):Rl (g.tok b e0 e lim) (upd H g.nx (some .spare)) w':=by
 have s:=U1.tok h b e0 e lim hcell hl hdr;have hnx:=h.nxt g.nx (D1 _)
 have hne:∀id,id≠g.nx→(g.tok b e0 e lim).at (upd H g.nx (some .spare)) id=g.at H id:=fun id hi=>
  MJ (C1 _ _ hi) rfl (by grind [Gh.tok])
 have hat:(g.tok b e0 e lim).at (upd H g.nx (some .spare)) g.nx=some b:=by simp_all[Gh.at,Gh.tok,upd]
 refine⟨fun id k hk=>?_,fun id id' x h1 h2=>?_,fun x o hf=>?_,fun id hi=>?_,?_,fun n=>(h.glb n).mono s⟩
 ·by_cases hi:id=g.nx
  ·subst hi;rw[C8]at hk;cases hk
   refine⟨b,e,lim,c,T,by simp[Gh.tok],hb,hrow,he,hlim,fun o ho hf=>?_⟩
   grind [Gh.tok]
  rw[C1 _ _ hi]at hk
  refine(h.blk id k hk).mono hk s fun x hx=>⟨hother x (fun e=>hown id (by rw[hx,e])) (h.lt hx),fun o ho=>?_⟩
  grind [Gh.tok]
 ·by_cases hi:id=g.nx<;>by_cases hi':id'=g.nx
  ·rw[hi,hi']
  ·simp_all
  ·simp_all
  rw[hne _ hi]at h1;rw[hne _ hi']at h2;exact h.inj _ _ _ h1 h2
 ·rcases hf with hf|⟨e',h1,h2⟩
  ·obtain⟨v,hv⟩:=h.frz x o hf
   simp_all
  subst e'
  have:o<c.size:=by omega
  exact⟨c[o],by simp[World.cell?,hrow,this]⟩
 ·have hi':g.nx≤id:=Ha hi
  have hne':id≠g.nx:=fun e=>by grind [Gh.tok]
  obtain⟨a1,a2,a3⟩:=h.nxt id hi'
  grind [Gh.tok,upd]
 grind [Gh.tok]
theorem Fz {xs ys:List V}{i:Nat}:(xs++ys).getD i .bad=if i<xs.length then xs.getD i .bad else ys.getD (i - xs.length) .bad:=by
 grind
theorem P9 {i j sz:Nat}(hj:j<sz):(i*sz+j) / sz=i∧(i*sz+j) % sz=j:=by
 have hp:0<sz:=by omega
 simp_all[IS,Nat.add_mul_div_right,Nat.mod_eq_of_lt]
theorem CY {i j n sz:Nat}(hi:i<n)(hj:j<sz):i*sz+j<n*sz:=by
 have:(i+1)*sz≤n*sz:=J3 _ hi
 rw[G2]at this
 omega
theorem Lo {s y:Operand} {sT yT e:TypeId} {sz by_:Nat} {z:V} {xs ys:List V} {tl tl':E5} (ho:o.op= .call {callee:=.builtin .append,args:= #[s,y],argTypes:= #[sT,yT]})
 (hs:ev fr s= .sl xs tl) (hy:ev fr y= .sl ys tl') (he:Ev P sT=some e) (hyT:(Ev P yT).isSome=true) (hsz:DS P e=some sz) (hpos:0<sz) (hby:Nr P e=some by_) (hbp:0<by_)
 (hz:Hi P e=some z) (hz1:z.one=true) (hzl:z.cells.length=sz) (hA:Gd H tl) (hax:xs.all (fun x=>x.cells.length==sz)=true) (hay:ys.all (fun x=>x.cells.length==sz)=true)
 (hbound:(xs.length+ys.length)*by_≤140737488355328) (h0:ys=[]→K (.sl xs tl) H)
 (h:∀t,ys≠[]→F9 H tl t=none→K (.sl (xs++ys) (.tok t)) (upd (F9 H tl) t (some .spare))):H5 P o fr H K:=by
 intro g w a hR hE;have hvs:=D8 hR hE s;have hvy:=D8 hR hE y
 rw[hs]at hvs;rw[hy]at hvy
 obtain⟨base,cap,fs,es,hcap,hfs,hrs,hbs⟩:=DJ (P:=P) hvs hax;obtain⟨ybase,ycap,fy,ey,_,hfy,hry,hby'⟩:=DJ (P:=P) hvy hay;have hu:=O4 he;obtain⟨e',hyT'⟩:=Option.isSome_iff_exists.1 hyT;have huy:=O4 hyT';obtain⟨zv,ez,hzv⟩:=CB hz
 have hzr:VR g w zv z:=by rw[ez];grind [Du]
 have hzs:zv.cells.size=sz:=by rw[(hzr.cells hz1).1,hzl]
 have hbytes:∀w,(typeInfo e).run P w= .ok ((P.info? e).getD default) w∧((P.info? e).getD default).bytes=by_:=by
  intro w
  unfold Nr at hby
  cases hi:P.info? e with
  |none=>simp_all
  |some i=>simp[hi]at hby;simp[typeInfo,hi,hby]
 rw[O0 ho];simp only[builtin,V1,E9,I1,B5,es,ey]
 have hn63':¬(IntKind.i64.max<((xs.length+ys.length:Nat):Int)∧(False∨by_=0)):=by
  grind
 have hbi:∀w,(typeInfo e).run P w= .ok ((P.info? e).getD default) w:=fun w=>(hbytes w).1;have hbb:=(hbytes w).2;have hR1:Rl g (F9 H tl) w:=hR.less fun id b hb=>Ek hb
 have hlenx:∀i,i<xs.length→(xs.getD i .bad).cells.length=sz:=fun i hi=>by
  have:=(List.all_eq_true.1 hax) (xs.getD i .bad) (by simp_all)
  simp_all
 have hleny:∀i,i<ys.length→(ys.getD i .bad).cells.length=sz:=fun i hi=>by
  have:=(List.all_eq_true.1 hay) (ys.getD i .bad) (by simp_all)
  simp_all
 have hlenxy:∀i,i<xs.length+ys.length→((xs++ys).getD i .bad).cells.length=sz:=fun i hi=>by
  rw[Fz];grind
 have hvals:∀(g':Gh) (w':World),U1 g w g' w'→∀i j,i<xs.length+ys.length→j<sz→(if i<xs.length then fs i j else fy (i - xs.length) j).oneCell'=true∧
  VR g' w' (if i<xs.length then fs i j else fy (i - xs.length) j) (((xs++ys).getD i .bad).cells.getD j .bad):=by
  intro g' w' st i j hi hj;rw[Fz]
  split
  ·rename_i hlt;exact⟨(hfs i j hlt hj).1,(hfs i j hlt hj).2.mono st⟩
  exact⟨(hfy _ j (by omega) hj).1,(hfy _ j (by omega) hj).2.mono st⟩
 by_cases hc:xs.length+ys.length≤cap
 ·
  have hrun:∀w',(match base with|some a=>(storeCells (a.add (xs.length*sz)) ((List.range (ys.length*sz)).map fun k=>fy (k / sz) (k % sz))).run P w|none=>.ok () w)= .ok () w'→
   (Builtin.append_ #[sT,yT] o.type #[.slice base xs.length cap,.slice ybase ys.length ycap]).run P w= .ok (.slice base (xs.length+ys.length) cap) w':=by
   intro w' hw';have hry':=hry w fun _ _=>rfl
   rw[ey]at hry'
   simp only[Builtin.append_,B5,run_underlying hu,B2,N6 hsz,run_underlying huy,B9,Builtin.lenOf,U8,O2,
    X9,Q8,F6,E3,Z7,C7,A2 hc,hry']
   cases base with
   |none=>simp_all
   |some a=>simp_all
  by_cases hy0:ys=[]
  ·subst hy0
   have hst:(match base with|some a=>(storeCells (a.add (xs.length*sz)) ((List.range (([]:List V).length*sz)).map fun k=>fy (k / sz) (k % sz))).run P w|none=>.ok () w)= .ok () w:=by
    cases base<;>simp[storeCells]
   rw[hrun w hst];simp only[B2,B9,G6,Bq,Bn,←es]
   grind [K6.here]
  have hylen:0<ys.length:=List.length_pos_iff.2 hy0
  rcases hbs with⟨hx0,hc0|hc0,_⟩|⟨b,q,hbase,hcell,_,sz',hsz',htl⟩
  ·omega
  ·subst hc0;exact hA.elim
  cases tl with
  |nil=>exact htl.elim
  |ro=>exact hA.elim
  |full=>grind [FT]
  | tok t=>
   obtain⟨hn0,lim,ht1,ht2⟩:=htl;have:=hsz' hn0;subst this;have hA':H t=some .spare:=hA;obtain⟨b2,e2,lim2,c,T,k1,k2,k3,k4,k5,k6⟩:=hR.blk t _ hA'
   rw[ht1]at k1
   simp only[D9,X6]at k1
   obtain⟨rfl,rfl,rfl⟩:=k1;have hcapsz:(xs.length+ys.length)*sz'≤cap*sz':=J3 _ hc;have hadd:(xs.length+ys.length)*sz'=xs.length*sz'+ys.length*sz':=G2 _ _ _
   have hmem:∀v∈((List.range (ys.length*sz')).map fun k=>fy (k / sz') (k % sz')),v.oneCell'=true:=by
    grind [Nat.div_lt_iff_lt_mul,Nat.mod_lt]
   have hst:=run_storeCells_at P b (q+xs.length*sz') T ((List.range (ys.length*sz')).map fun k=>fy (k / sz') (k % sz')) 0 c w k3 (by simp;omega) hmem;have hst':=hst
   rw[hbase]at hrun ⊢
   simp only[Y3]at hrun
   rw[hrun _ hst];simp only[B2,B9,G6]
   generalize hC:(c.toList.take (q+xs.length*sz'+0)++((List.range (ys.length*sz')).map fun k=>fy (k / sz') (k % sz'))++
    c.toList.drop (q+xs.length*sz'+0+((List.range (ys.length*sz')).map fun k=>fy (k / sz') (k % sz')).length)).toArray=C
   have hCs:C.size=c.size:=by rw[←hC];simp;omega
   have hCg:∀k,k<c.size→C[k]? =if k<q+xs.length*sz' then c[k]? else if k<q+xs.length*sz'+ys.length*sz' then some (fy ((k - (q+xs.length*sz')) / sz') ((k - (q+xs.length*sz')) % sz'))else c[k]? :=by
    intro k hk;rw[←hC];simp only[Bn,O2,E7,Q7,S5];rw[Cc,Cc];simp only[Br,He,Jc (show q+xs.length*sz'≤c.size by omega),Dk,Hb,Ce,Q7,S5,Z8]
    by_cases q1:k<q+xs.length*sz'
    ·rw[A2 q1,A2 q1,A2 q1]
    rw[A3 q1,A3 q1]
    by_cases q2:k<q+xs.length*sz'+ys.length*sz'
    ·rw[A2 (by omega),A2 q2,Fk (by omega)];rfl
    rw[A3 (by omega),A3 q2,show q+xs.length*sz'+ys.length*sz'+(k - (q+xs.length*sz') - ys.length*sz')=k by omega]
   have hnown:∀id,g.at (F9 H (.tok t)) id≠some b:=by
    intro id hid
    have hat:g.at H t=some b:=by simp_all[Gh.at]
    by_cases hid':id=t
    ·simp_all[Gh.at,F9,C8]
    have:g.at H id=some b:=by simp_all[Gh.at,F9,C1]
    exact hid' (hR.inj _ _ _ this hat)
   have hcellp:∀x o,g.fz x o→(w.setRow b C).cell? ⟨x,o,none⟩=w.cell? ⟨x,o,none⟩:=by
    intro x o hf
    by_cases hx:x=b
    ·subst hx
     have ho:o<q+xs.length*sz':=by
      grind
     have hw':(w.setRow x C).heap[x]? =some (.cells C T (0,0)):=setRow_heap w x c C T (0,0) k3;simp only[World.cell?,hw',k3,Ey,F6,E3];rw[hCg o (by omega),A2 ho]
    grind [BW]
   have hbel:Below g.base w (w.setRow b C):=Gj w b C k2
   have hRn:=Rl.tok (e0:=q+xs.length*sz') (e:=q+(xs.length+ys.length)*sz') (lim:=c.size) hR1 k2 (setRow_heap w b c C T (0,0) k3) hCs (by omega) k6 (by omega) hcellp hbel
    (fun x hx _=>O5 w b C x hx) hnown
   have hStp:=U1.tok hR1 b (q+xs.length*sz') (q+(xs.length+ys.length)*sz') c.size hcellp hbel;refine⟨_,_,_,hStp,hRn,?_,h g.nx hy0 (hR1.nxt _ (D1 _)).2.2⟩
   refine .sl (sz:=sz') (fun i j=>if i<xs.length then fs i j else fy (i - xs.length) j) (by simp) hc (fun i hi=>hlenxy i hi) (fun i j hi hj=>?_) (fun i j hi hj=>?_)
    (fun i j hi hj=>(hvals _ _ hStp i j hi hj).1) (fun i j hi hj=>(hvals _ _ hStp i j hi hj).2) ?_
   ·grind [Gh.tok,Nat.mul_le_mul_right,CY]
   ·have h2:=CY hi hj;have hw':(w.setRow b C).heap[b]? =some (.cells C T (0,0)):=setRow_heap w b c C T (0,0) k3
    by_cases hix:i<xs.length
    ·rw[A2 hix]
     simp_all
    rw[A3 hix];have h1:xs.length*sz'≤i*sz':=J3 _ (by omega);have h3:(i - xs.length)*sz'=i*sz' - xs.length*sz':=Bi _ _ _;simp only[World.cell?,hw',Ey,F6,E3];rw[hCg _ (by omega),A3 (by omega),A2 (by omega)];rw[show q+i*sz'+j - (q+xs.length*sz')=(i - xs.length)*sz'+j by omega,(P9 hj).1,(P9 hj).2]
   refine⟨by omega,c.size,?_,by omega⟩;simp[Gh.tok]
 have hnf:¬(2 ^ 48<Builtin.nextslicecap (xs.length+ys.length) cap*by_):=by
  have:=growslice_fits (GX hc) hbound;omega
 have hdr:∀b o,w.drew.cell? ⟨b,o,none⟩=w.cell? ⟨b,o,none⟩:=fun _ _=>rfl;generalize hG:grownCap w (xs.length+ys.length) cap e=G
 have hGe:xs.length+ys.length≤G:=by rw[←hG];grind [grownCap_ge]
 have hrun:(Builtin.append_ #[sT,yT] o.type #[.slice base xs.length cap,.slice ybase ys.length ycap]).run P w=
  .ok (.slice (some ⟨w.heap.size,0,none⟩) (xs.length+ys.length) G)
   (w.drew.alloc (.cells (((List.range (xs.length*sz)).map fun k=>fs (k / sz) (k % sz)).toArray++((List.range (ys.length*sz)).map fun k=>fy (k / sz) (k % sz)).toArray++
    Builtin.zeroCells zv.cells (G - (xs.length+ys.length))) e)):=by
  have hGd:(Question.appendCap (xs.length+ys.length) cap e).cut (w.tape w.drawn (.appendCap (xs.length+ys.length) cap e))=G:=hG;have hf:(Question.appendCap (xs.length+ys.length) cap e).forced=false:=rfl;have hrs':=hrs w.drew hdr;have hry':=hry w.drew hdr
  rw[es]at hrs';rw[ey]at hry'
  simp only[Builtin.append_,B5,run_underlying hu,B2,N6 hsz,run_underlying huy,B9,Builtin.lenOf,U8,hbi,hbb,O2,
   X9,Q8,F6,E3,Z7,C7,gt_iff_lt,false_or,A3 hc,A3 hnf,run_choose,hf,hGd,GS,run_askRoom,hrs',hry',hzv,newRow,run_newObj,
   DC,GW]
  rw[A3 (by omega)]
 rw[hrun];simp only[B2,B9,G6];generalize hC:((List.range (xs.length*sz)).map fun k=>fs (k / sz) (k % sz)).toArray++((List.range (ys.length*sz)).map fun k=>fy (k / sz) (k % sz)).toArray++Builtin.zeroCells zv.cells (G - (xs.length+ys.length))=C;have hadd:(xs.length+ys.length)*sz=xs.length*sz+ys.length*sz:=G2 _ _ _
 have hCs:C.size=G*sz:=by
  rw[←hC];simp only[Jn,Fh,Q7,S5,size_zeroCells,hzs,Bi];have:(xs.length+ys.length)*sz≤G*sz:=J3 _ hGe;omega
 have hGs:(xs.length+ys.length)*sz≤G*sz:=J3 _ hGe
 have hCg:∀k,k<(xs.length+ys.length)*sz→C[k]? =some (if k<xs.length*sz then fs (k / sz) (k % sz)else fy ((k - xs.length*sz) / sz) ((k - xs.length*sz) % sz)):=by
  grind
 have hcellp:∀x o,g.fz x o→(w.drew.alloc (.cells C e)).cell? ⟨x,o,none⟩=w.cell? ⟨x,o,none⟩:=fun x o hf=>Cx (w:=w.drew) (hR.fz_lt hf);have hbel:Below g.base w (w.drew.alloc (.cells C e)):=(U7 _ _).drew.alloc hR.bnd _
 have hnown:∀id,g.at (F9 H tl) id≠some w.heap.size:=fun id hid=>absurd (hR1.lt hid) (Q6 _)
 have hRn:=Rl.tok (e0:=0) (e:=(xs.length+ys.length)*sz) (lim:=G*sz) hR1 hR.bnd (Aw (w:=w.drew) (o:=.cells C e)) hCs hGs (fun o _ hf=>absurd (hR.fz_lt hf) (Q6 _)) (Ci _) hcellp hbel
  (fun x hx hlt=>heap_alloc (w:=w.drew) hlt) hnown
 have hStp:=U1.tok hR1 w.heap.size 0 ((xs.length+ys.length)*sz) (G*sz) hcellp hbel
 have hy0:ys≠[]:=by
  grind
 refine⟨_,_,_,hStp,hRn,?_,h g.nx hy0 (hR1.nxt _ (D1 _)).2.2⟩;have hylen:0<ys.length:=List.length_pos_iff.2 hy0
 refine .sl (sz:=sz) (fun i j=>if i<xs.length then fs i j else fy (i - xs.length) j) (by simp) hGe (fun i hi=>hlenxy i hi) (fun i j hi hj=>.inr ⟨rfl,Ci _,by have:=CY hi hj;omega⟩) (fun i j hi hj=>?_)
  (fun i j hi hj=>(hvals _ _ hStp i j hi hj).1) (fun i j hi hj=>(hvals _ _ hStp i j hi hj).2) ?_
 ·have h2:=CY hi hj;rw[show(⟨w.heap.size,0+i*sz+j,none⟩:Addr)=⟨w.drew.heap.size,i*sz+j,none⟩ by simp];rw[MG (w:=w.drew),hCg _ h2]
  congr 1
  by_cases hix:i<xs.length
  ·have h3:=CY hix hj;rw[A2 h3,A2 hix,(P9 hj).1,(P9 hj).2]
  have h1:xs.length*sz≤i*sz:=J3 _ (by omega);have h3:(i - xs.length)*sz=i*sz - xs.length*sz:=Bi _ _ _;rw[A3 (by omega),A3 hix,show i*sz+j - xs.length*sz=(i - xs.length)*sz+j by omega,(P9 hj).1,(P9 hj).2]
 refine⟨by omega,G*sz,?_,by simp⟩;simp[Gh.tok]
end
end Go.Ab
namespace Go.Ab
open Go.RowKit
variable [K9]
mutual
inductive BQ :V→V→Prop
 |refl (x:V):BQ x x
 |ro (xs:List V) (t:E5):BQ (.sl xs t) (.sl xs .ro)
 |sl {xs ys:List V} (t:E5):L8 xs ys→BQ (.sl xs t) (.sl ys .ro)
 |slt {xs ys:List V} (t:E5):L8 xs ys→BQ (.sl xs t) (.sl ys t)
 |sub {cs:List V} {d sz:Nat} (h:d+sz≤cs.length):BQ (.eref cs d) (.eref ((cs.drop d).take sz) 0)
 |agg {xs ys:List V}:L8 xs ys→BQ (.agg xs) (.agg ys)
 |tup {xs ys:List V}:L8 xs ys→BQ (.tup xs) (.tup ys)
inductive L8 :List V→List V→Prop
 |nil:L8 [] []
 |cons {x y:V} {xs ys:List V}:BQ x y→L8 xs ys→L8 (x::xs) (y::ys)
end
theorem L8.refl :∀xs:List V,L8 xs xs
 |[]=>.nil
 |x::xs=>.cons (.refl x) (.refl xs)
theorem L8.length :∀{xs ys:List V},L8 xs ys→xs.length=ys.length
 |_,_,.nil=>rfl
 |_,_,.cons _ h=>by simp[L8.length h]
theorem L8.at :∀{xs ys:List V},L8 xs ys→∀i:Nat,BQ (xs.getD i .bad) (ys.getD i .bad)
 |_,_,.nil,i=>by simp;exact .refl _
 |_,_,.cons h _,0=>by grind
 |_,_,.cons _ h,i+1=>by simpa using L8.at h i
theorem BQ.cells {x y:V}(h:BQ x y):L8 x.cells y.cells:=by
 cases h with
 |refl=>exact .refl _
 |ro=>exact .cons (.ro _ _) .nil
 |sl t h=>exact .cons (.sl t h) .nil
 |slt t h=>exact .cons (.slt t h) .nil
 |sub h=>exact .cons (.sub h) .nil
 |agg h=>exact h
 |tup h=>exact .cons (.tup h) .nil
theorem BQ.one {x y:V}(h:BQ x y)(hx:x.one=true):y.one=true:=by
 cases h<;>first|exact hx|rfl|cases hx
theorem VR.le {g:Gh} {w:World} {v:Value} {x:V} (h:VR g w v x):∀{y:V},BQ x y→VR g w v y:=by
 induction h with
 |sl0 ht=>
  intro y k
  cases k with
  |refl=>exact .sl0 ht
  |ro=>exact .sl0 rfl
  |sl t hs=>cases hs;exact .sl0 rfl
  |slt t hs=>cases hs;exact .sl0 ht
 |sle ht=>
  intro y k
  cases k with
  |refl=>exact .sle ht
  |ro=>exact .sle (.inl rfl)
  |sl t hs=>cases hs;exact .sle (.inl rfl)
  |slt t hs=>cases hs;exact .sle ht
 | sl vs hn hc hz hf hw h1 hv ht ih=>
  rename_i b o sz n cap xs t;intro y k
  cases k with
  |refl=>exact .sl vs hn hc hz hf hw h1 hv ht
  |ro=>exact .sl vs hn hc hz hf hw h1 hv trivial
  |sl t hs=>
   refine .sl vs (hs.length▸hn) hc (fun i hi=>?_) hf hw h1 (fun i j hi hj=>ih i j hi hj ((hs.at i).cells.at j)) trivial;rw[←(hs.at i).cells.length];grind
  |slt t hs=>
   refine .sl vs (hs.length▸hn) hc (fun i hi=>?_) hf hw h1 (fun i j hi hj=>ih i j hi hj ((hs.at i).cells.at j)) ht;rw[←(hs.at i).cells.length];grind
 |agg hl h1 hv ih=>
  intro y k
  cases k with
  |refl=>exact .agg hl h1 hv
  |agg hs=>exact .agg (hl.trans hs.length) (fun i hi=>h1 i (hs.length▸hi)) fun i hi=>ih i (hs.length▸hi) (hs.at i)
 |tup hl hv ih=>
  intro y k
  cases k with
  |refl=>exact .tup hl hv
  |tup hs=>exact .tup (hl.trans hs.length) fun i hi=>ih i (hs.length▸hi) (hs.at i)
 |bad v=>intro y k;cases k;exact .bad v
 |bool b=>intro y k;cases k;exact .bool b
 |int k n=>intro y k';cases k';exact .int k n
 |str s=>intro y k;cases k;exact .str s
 |nilp=>intro y k;cases k;exact .nilp
 |nilf=>intro y k;cases k;exact .nilf
 |nili=>intro y k;cases k;exact .nili
 |nilmap=>intro y k;cases k;exact .nilmap
 |map h=>intro y k;cases k;exact .map h
 |fmap hb hw hk hn hl hv ih=>intro y k;cases k;exact .fmap hb hw hk hn hl hv
 |ref h=>intro y k;cases k;exact .ref h
 |own h h0 h1 h2 hp=>intro y k;cases k;exact .own h h0 h1 h2 hp
 |elem h hs=>intro y k;cases k;exact .elem h hs
 | eref vs hf hw h1 hv ih=>
  rename_i b o off cs;intro y k
  cases k with
  |refl=>exact .eref vs hf hw h1 hv
  | sub hd=>
   rename_i sz
   have hl:((cs.drop off).take sz).length=sz:=by simp;omega
   have hg:∀j,j<sz→((cs.drop off).take sz).getD j .bad=cs.getD (off+j) .bad:=fun j hj=>by
    grind
   have:=VR.eref (g:=g) (w:=w) (b:=b) (o:=o+off) (off:=0) (cs:=(cs.drop off).take sz) (fun j=>vs (off+j)) (fun j hj=>by rw[hl]at hj;have:=hf (off+j) (by omega);rwa[←Bo]at this)
    (fun j hj=>by rw[hl]at hj;have:=hw (off+j) (by omega);rwa[←Bo]at this) (fun j hj=>by rw[hl]at hj;grind) (fun j hj=>by rw[hl]at hj;rw[hg j hj];grind)
   rwa[Bn]at this
 |func hl hv hl' hv' ih ih'=>intro y k;cases k;exact .func hl hv hl' hv'
 |yield h=>intro y k;cases k;exact .yield h
 |iface h ih=>intro y k;cases k;exact .iface h
theorem L8.sz {sz:Nat}:∀{xs ys:List V},L8 xs ys→ys.all (fun x=>x.cells.length==sz)=true→xs.all (fun x=>x.cells.length==sz)=true
 |_,_,.nil,_=>rfl
 |_,_,.cons h k,ha=>by
  simp only[List.all_cons,G8]at ha ⊢
  exact⟨by rw[h.cells.length];exact ha.1,L8.sz k ha.2⟩
theorem L8.append :∀{xs ys xs' ys':List V},L8 xs xs'→L8 ys ys'→L8 (xs++ys) (xs'++ys')
 |_,_,_,_,.nil,k=>k
 |_,_,_,_,.cons h k,k'=>.cons h (L8.append k k')
end Go.Ab
namespace Go.Ab
open Go.RowKit
variable [K9]
def Gh.own (g:Gh)(b:Nat)(hd:Hd):Gh:=
 {g with mu:=fun x=>if x=g.nx then some b else g.mu x,ow:=fun x=>if x=g.nx then hd else g.ow x,nx:=g.nx+1}
theorem U1.own {g:Gh}{H:A1}{w w':World}(h:Rl g H w)(b:Nat)(hd:Hd)(hc:∀b o,g.fz b o→w'.cell? ⟨b,o,none⟩=w.cell? ⟨b,o,none⟩)(hl:Below g.base w w')(hdr:w.drawn≤w'.drawn:=by first|exact Nat.le_refl _|exact Nat.le_succ _|exact Nat.le_add_right _ _):U1 g w (g.own b hd) w':=by
 have hn:=(h.nxt _ (D1 _)).1;refine⟨fun id b e=>?_,fun t x e=>e,fun _ _ e=>e,rfl,hc,hl,fun id b e=>?_,hdr⟩
 ·grind [Gh.own]
 grind [Gh.own]
theorem Rl.newArr {g:Gh} {H:A1} {w w':World} (h:Rl g H w) {b o sz:Nat} {ys:List V} (hz:∀i,i<ys.length→(ys.getD i .bad).cells.length=sz)
 (hcell:∀b o,g.fz b o→w'.cell? ⟨b,o,none⟩=w.cell? ⟨b,o,none⟩) (hl:Below g.base w w') (hother:∀x,(ys.length=0∨x≠b)→x<w.heap.size→w'.heap[x]? =w.heap[x]?)
 (hb:ys.length=0∨∃c T,g.base≤b∧w'.heap[b]? =some (.cells c T (0,0))∧o+ys.length*sz≤c.size∧
  (∀i j,i<ys.length→j<sz→(c.getD (o+i*sz+j) undef).oneCell'=true∧VR g w (c.getD (o+i*sz+j) undef) ((ys.getD i .bad).cells.getD j .bad))∧
  (∀q,o≤q→¬g.fz b q)∧∀id,g.at H id≠some b) (hdr:w.drawn≤w'.drawn:=by first|exact D1 _|exact Dw _|exact Jj _ _):
 U1 g w (g.own b ⟨o,ys.length,sz⟩) w'∧Rl (g.own b ⟨o,ys.length,sz⟩) (upd H g.nx (some (.arr sz ys))) w'∧H g.nx=none:=by
 have s:=U1.own h b ⟨o,ys.length,sz⟩ hcell hl hdr;have hnx:=h.nxt g.nx (D1 _)
 generalize hG:g.own b ⟨o,ys.length,sz⟩=g' at s ⊢
 have em:∀x,g'.mu x=if x=g.nx then some b else g.mu x:=fun x=>by rw[←hG];rfl
 have eo:∀x,g'.ow x=if x=g.nx then⟨o,ys.length,sz⟩else g.ow x:=fun x=>by rw[←hG];rfl
 have et:g'.tk=g.tk:=by rw[←hG];rfl
 have ef:g'.fz=g.fz:=by rw[←hG];rfl
 have en:g'.nx=g.nx+1:=by rw[←hG];rfl
 have eb:g'.base=g.base:=by rw[←hG];rfl
 have hne:∀id,id≠g.nx→g'.at (upd H g.nx (some (.arr sz ys))) id=g.at H id:=fun id hi=>
  MJ (C1 _ _ hi) (by rw[em,A3 hi]) (by rw[et]) (by rw[eo,A3 hi])
 have hat:g'.at (upd H g.nx (some (.arr sz ys))) g.nx=if ys.length=0 then none else some b:=by grind [Gh.at,upd]
 refine⟨s,⟨fun id k hk=>?_,fun id id' x h1 h2=>?_,fun x q hf=>?_,fun id hi=>?_,?_,fun n=>(h.glb n).mono s⟩,hnx.2.2⟩
 ·by_cases hi:id=g.nx
  ·subst hi;rw[C8]at hk;cases hk
   refine⟨b,by rw[em,A2 rfl],?_⟩;rw[eo,A2 rfl];refine⟨rfl,rfl,hz,hb.imp (fun h=>h) fun⟨c,T,k1,k2,k3,k4,k5,k6⟩=>⟨c,T,by rw[eb];exact k1,k2,k3,fun i j hi hj=>⟨(k4 i j hi hj).1,(k4 i j hi hj).2.mono s⟩,by rw[ef];exact k5⟩⟩
  rw[C1 _ _ hi]at hk
  refine(h.blk id k hk).mono hk s fun x hx=>⟨hother x ?_ (h.lt hx),fun q hq=>by rw[ef]at hq;exact hq⟩
  grind
 ·have hx:∀id,g'.at (upd H g.nx (some (.arr sz ys))) g.nx=some x→g.at H id=some x→False:=fun id h1 h2=>by
   rw[hat]at h1
   grind
  by_cases hi:id=g.nx<;>by_cases hi':id'=g.nx
  ·rw[hi,hi']
  ·simp_all
  ·simp_all
  rw[hne _ hi]at h1;rw[hne _ hi']at h2;exact h.inj _ _ _ h1 h2
 ·rw[ef]at hf
  obtain⟨v,hv⟩:=h.frz x q hf
  simp_all
 ·rw[en]at hi
  have hi':g.nx≤id:=Ha hi
  have hne':id≠g.nx:=fun e=>by omega
  obtain⟨a1,a2,a3⟩:=h.nxt id hi'
  simp_all[upd]
 have:=h.bnd;have:=hl.size;rw[eb];omega
theorem Rl.setArr {g:Gh} {H:A1} {w:World} (h:Rl g H w) {id b sz:Nat} {xs ys:List V} {c c':Array Value} {T:TypeId} (hk:H id=some (.arr sz xs)) (hb:g.mu id=some b) (hc0:xs.length≠0)
 (hw:w.heap[b]? =some (.cells c T (0,0))) (hsz:c'.size=c.size) (hlo:∀o,o<(g.ow id).o→c'[o]? =c[o]?) (hl:ys.length=xs.length) (hz:∀i,i<ys.length→(ys.getD i .bad).cells.length=sz)
 (hv:∀i j,i<ys.length→j<sz→(c'.getD ((g.ow id).o+i*sz+j) undef).oneCell'=true∧VR g w (c'.getD ((g.ow id).o+i*sz+j) undef) ((ys.getD i .bad).cells.getD j .bad)):
 U1 g w g (w.setRow b c')∧Rl g (upd H id (some (.arr sz ys))) (w.setRow b c'):=by
 obtain⟨b',h1,hs,h2,h4,h6⟩:=h.blk id _ hk
 have e:b'=b:=by rw[hb]at h1;simp_all
 subst e
 rcases h6 with h6|⟨c0,T0,k1,k2,k3,k4,k5⟩
 ·omega
 rw[hw]at k2
 have e2:c0=c:=by grind
 subst e2;have hrow:=setRow_heap w b' c0 c' T (0,0) hw
 have s:U1 g w g (w.setRow b' c'):=by
  refine⟨fun _ _ e=>e,fun _ _ e=>e,fun _ _ e=>e,rfl,fun b o hf=>?_,Gj w b' c' k1,fun _ _ _=>rfl,D1 _⟩
  by_cases e:b=b'
  ·subst e
   have ho:o<(g.ow id).o:=by
    grind
   simp only[World.cell?,hrow,hw,Ey,F6,E3]
   grind
  grind [BW]
 have hat:∀x,g.at (upd H id (some (.arr sz ys))) x=g.at H x:=by
  grind [Gh.at,upd]
 have hid:g.at H id=some b':=by simp_all[Gh.at]
 refine⟨s,fun x k hx=>?_,fun x x' y h1 h2=>h.inj x x' y (hat x▸h1) (hat x'▸h2),fun y o hf=>?_,fun x hx=>?_,?_,fun n=>(h.glb n).mono s⟩
 ·by_cases hxe:x=id
  ·subst hxe;rw[C8]at hx;cases hx
   exact⟨b',hb,hs,h2.trans hl.symm,hz,.inr ⟨c',T,k1,hrow,by rw[hl];omega,fun i j hi hj=>⟨(hv i j hi hj).1,(hv i j hi hj).2.mono s⟩,k5⟩⟩
  rw[C1 _ _ hxe]at hx
  refine(h.blk x k hx).mono hx s fun y hy=>⟨O5 w b' c' y fun e=>?_,fun _ ho=>ho⟩;subst e;exact hxe (h.inj _ _ _ hy hid)
 ·obtain⟨v,hv'⟩:=h.frz y o hf;exact⟨v,(s.cell y o hf).trans hv'⟩
 ·obtain⟨a1,a2,a3⟩:=h.nxt x hx
  have hne:x≠id:=fun e=>by simp_all
  simp_all[upd]
 grind
def L1 (xs:List V)(lo n:Int):List V:=(xs.drop lo.toNat).take n.toNat
theorem Rl.freezeArr' {g:Gh} {H:A1} {w:World} (h:Rl g H w) {id sz:Nat} {xs:List V} (hk:H id=some (.arr sz xs)):
 ∃g',(g'.mu=g.mu∧g'.tk=g.tk∧g'.ow=g.ow)∧U1 g w g' w∧Rl g' (upd H id none) w∧∀v lo n,VR g' w v (.own id lo n)→VR g' w v (.sl (L1 xs lo n) .ro):=by
 obtain⟨b,h1,hs,h2,h4,h6⟩:=h.blk id _ hk
 by_cases hc:xs.length=0
 ·have hx:xs=[]:=List.length_eq_zero_iff.1 hc;refine⟨g,⟨rfl,rfl,rfl⟩,U1.refl _ _,h.less fun x k hx=>?_,fun v lo n hv=>?_⟩
  ·simp_all[upd]
  subst hx
  cases hv with
  |own hm h0 h1' h2' hp=>
   rename_i p
   have e1:lo=0:=by omega
   have e2:n=0:=by omega
   subst e1;subst e2;rw[show(g.ow id).cap=0 by omega]
   cases p with
   |none=>exact .sl0 rfl
   |some a=>exact .sle (.inl rfl)
 rcases h6 with h6|⟨c,T,k1,k2,k3,k4,k5⟩
 ·omega
 let g':Gh:={g with fz:=fun x o=>g.fz x o∨(x=b∧o<c.size)}
 have s:U1 g w g' w:=⟨fun _ _ e=>e,fun _ _ e=>e,fun _ _ e=>.inl e,rfl,fun _ _ _=>rfl,U7 _ _,fun _ _ _=>rfl,D1 _⟩
 have hid:g.at H id=some b:=by simp_all[Gh.at]
 have hcell:∀o,w.cell? ⟨b,o,none⟩=c[o]? :=fun o=>by simp[World.cell?,k2]
 have hat:∀x y,g'.at (upd H id none) x=some y→x≠id∧g.at H x=some y:=by
  grind [Gh.at,upd]
 have hlt:∀i j,i<xs.length→j<sz→(g.ow id).o+i*sz+j<c.size:=fun i j hi hj=>by
  have e1:=CY (n:=xs.length) hi hj;omega
 refine⟨g',⟨rfl,rfl,rfl⟩,s,⟨fun x k hx=>?_,fun x x' y h1 h2=>h.inj _ _ _ (hat _ _ h1).2 (hat _ _ h2).2,fun y o hf=>?_,fun x hx=>?_,h.bnd,fun n=>(h.glb n).mono s⟩,fun v lo n hv=>?_⟩
 ·have hxe:x≠id:=fun e=>by simp_all[upd]
  rw[C1 _ _ hxe]at hx
  refine(h.blk x k hx).mono hx s fun y hy=>⟨rfl,fun o ho=>?_⟩
  rcases ho with ho|⟨e,_⟩
  ·exact ho
  subst e;exact absurd (h.inj _ _ _ hy hid) hxe
 ·rcases hf with hf|⟨e,ho⟩
  ·exact h.frz y o hf
  simp_all
 ·obtain⟨a1,a2,a3⟩:=h.nxt x hx
  have hne:x≠id:=fun e=>by simp_all
  grind [upd]
 have hsub:∀i,i<n.toNat→(L1 xs lo n).getD i .bad=xs.getD (lo.toNat+i) .bad:=fun i hi=>by
  simp_all[L1]
 cases hv with
 | own hm h0 h1' h2' hp=>
  rename_i b' p;have hm':g.mu id=some b':=hm
  rw[h1]at hm';cases hm'
  have h2'':lo+n≤((g.ow id).cap:Nat):=h2'
  have hsl:(L1 xs lo n).length=n.toNat:=by grind [L1]
  show VR g' w (.slice p n.toNat ((g.ow id).cap - lo.toNat)) _
  by_cases hn:n=0
  ·subst hn
   have e0:L1 xs lo 0=[]:=by simp[L1]
   rw[e0]
   cases p with
   |none=>
    have:¬(lo<((g.ow id).cap:Nat)):=fun hlt=>by have:=hp hlt;cases this
    rw[show(g.ow id).cap - lo.toNat=0 by omega];exact .sl0 rfl
   |some a=>exact .sle (.inl rfl)
  have hlt2:lo<((g.ow id).cap:Nat):=by omega
  have hpe:=hp hlt2;rw[hpe];have hpe':(g'.ow id)=g.ow id:=rfl;rw[hpe',hs]
  refine .sl (sz:=sz) (fun i j=>c.getD ((g.ow id).o+(lo.toNat+i)*sz+j) undef) hsl (by omega) (fun i hi=>by rw[hsub i hi];grind) (fun i j hi hj=>?_) (fun i j hi hj=>?_)
   (fun i j hi hj=>(k4 _ j (by omega) hj).1) (fun i j hi hj=>by rw[hsub i hi];exact(k4 _ j (by omega) hj).2.mono s) trivial
  ·have:=hlt (lo.toNat+i) j (by omega) hj
   rw[G2]at this
   omega
  rw[hcell];have:=hlt (lo.toNat+i) j (by omega) hj
  rw[G2]at this ⊢
  rw[show(g.ow id).o+lo.toNat*sz+i*sz+j=(g.ow id).o+(lo.toNat*sz+i*sz)+j by omega]
  simp_all
theorem Rl.freezeArr {g:Gh}{H:A1}{w:World}(h:Rl g H w){id sz:Nat}{xs:List V}(hk:H id=some (.arr sz xs)):
 ∃g',U1 g w g' w∧Rl g' (upd H id none) w∧∀v lo n,VR g' w v (.own id lo n)→VR g' w v (.sl (L1 xs lo n) .ro):=
 let⟨g',_,h⟩:=h.freezeArr' hk;⟨g',h⟩
end Go.Ab
namespace Go.Ab
open Go.RowKit
variable [K9]
def FB (H:A1)(id:Nat):Option (Nat×List V):=
 match H id with
 |some (.arr sz xs)=>some (sz,xs)
 |_=>none
theorem EN {H:A1}{id sz:Nat}{xs:List V}(h:FB H id=some (sz,xs)):H id=some (.arr sz xs):=by
 grind [FB]
def Al9 (P:Program)(_H:A1)(t:TypeId)(v:V):Option V:=
 match Ev P t,v with
 |some _,.own _ _ n=>some (.int .i64 n)
 |_,_=>none
def VZ (P:Program) (H:A1) (t:TypeId) (v:V) (i:Int):Option V:=
 match Ev P t,v with
 |some e,.own id lo n=>
  match FB H id with
  |some (sz,_)=>if(0≤i∧i<n)∧DS P e=some sz then some (.elem id (lo+i) sz 0)else none
  |none=>none
 |_,_=>none
def Le (P:Program) (H:A1) (t:TypeId) (v:V):Option V:=
 match UW P t,DS P t,v with
 |some ag,some sz,.elem id i _ off=>
  match FB H id with
  |some (_,xs)=>if 0≤i∧i<xs.length then FX ag sz (xs.getD i.toNat .bad).cells off else none
  |none=>none
 |_,_,_=>none
def Si (x:V)(esz sz off:Nat)(y:V):V:=
 match Nat.beq off 0&&Nat.beq sz esz with
 |true=>y
 |false=>.agg (S7 x.cells off y.cells)
def RT (P:Program) (H:A1) (t:TypeId) (v y:V):Option A1:=
 match DS P t,v with
 | some sz,.elem id i esz off=>
  match FB H id with
  |some (sz',xs)=>
   if(0≤i∧i<xs.length)∧sz'=esz∧y.one=true∧y.cells.length=sz∧off+sz≤esz then some (upd H id (some (.arr esz (xs.set i.toNat (Si (xs.getD i.toNat .bad) esz sz off y)))))else none
  |none=>none
 |_,_=>none
theorem VD {x y:V}{esz sz off:Nat}(hx:x.cells.length=esz)(hy:y.cells.length=sz)(h:off+sz≤esz):(Si x esz sz off y).cells=S7 x.cells off y.cells:=by
 unfold Si
 split
 ·simp_all[S7]
 rfl
section
variable {P:Program}{o:Oper}{fr:Fr}{H:A1}{K:V→A1→Prop}
theorem Zz {y:Operand} {t:TypeId} {x:V} (ho:o.op= .call {callee:=.builtin .len,args:= #[y],argTypes:= #[t]}) (hl:Al9 P H t (ev fr y)=some x) (h:K x H):H5 P o fr H K:=by
 intro g w a hR hE;have hv:=D8 hR hE y;rw[O0 ho];simp only[builtin,V1,E9,I1,B5]
 unfold Al9 at hl
 split at hl
 ·rename_i e id lo n hse he
  rw[he]at hv
  cases hl;have hu:=O4 hse
  generalize a.eval y=v at hv
  cases hv with
  |own hm h0 h1 h2 hp=>
   simp[Builtin.len_,run_underlying hu,goInt];rw[show(max n 0:Int)=n by omega];exact K6.here hR (.int _ _) h
 cases hl
theorem ZA {t:TypeId} {y z:Operand} {k:IntKind} {i:Int} {x:V} (ho:o.op= .indexAddr t y z) (hz:ev fr z= .int k i) (hl:VZ P H t (ev fr y) i=some x) (h:K x H):H5 P o fr H K:=by
 intro g w a hR hE;have hv:=D8 hR hE y;have hi:=D8 hR hE z
 rw[hz]at hi
 have hi:=hi.int_inv
 unfold VZ at hl
 split at hl
 ·rename_i e id lo n hse he
  rw[he]at hv
  split at hl
  ·rename_i sz xs hx
   split at hl
   ·rename_i hc;cases hl;obtain⟨b',k1,hs,k2,k3,k4⟩:=hR.blk id _ (EN hx);have hu:=O4 hse
    generalize hav:a.eval y=v at hv
    cases hv with
    |own hm h0 h1 h2 hp=>
     have hlt:lo<((g.ow id).cap:Nat):=by omega
     have hpe:=hp hlt;subst hpe;unfold execOp;rw[ho];have c1:=hc.1.1
     have c2:i<(n.toNat:Int):=by omega
     simp only[hav,hi,Instr.indexAt,asIntOf,B5,B9,B2,run_underlying hu,c1,c2,and_self,C7,N6 hc.2,G6,Y3];refine K6.here hR ?_ h;have:=VR.elem (g:=g) (w:=w) (i:=lo+i) (off:=0) hm hs;rw[hs]
     rw[show(lo+i).toNat=lo.toNat+i.toNat by omega,G2,Bn,←Bo]at this
     exact this
   cases hl
  cases hl
 cases hl
theorem XH {t:TypeId} {y:Operand} {x:V} (ho:o.op= .load t y) (hl:Le P H t (ev fr y)=some x) (h:K x H):H5 P o fr H K:=by
 intro g w a hR hE;have hv:=D8 hR hE y
 unfold Le at hl
 split at hl
 ·rename_i ag sz id i esz off ha hs he
  rw[he]at hv
  split at hl
  ·rename_i sz0 xs hx
   split at hl
   ·rename_i hc
    generalize hav:a.eval y=v at hv
    cases hv with
    | elem hm hsz=>
     rename_i b;obtain⟨b',h1,hs0,h2,h4,h6⟩:=hR.blk id _ (EN hx)
     rw[hm]at h1;cases h1
     subst hs0
     have hlt:i.toNat<xs.length:=by omega
     rcases h6 with h6|⟨c,T,k1,k2,k3,k4,k5⟩
     ·omega
     have hcells:SU g w b ((g.ow id).o+i.toNat*(g.ow id).sz) (xs.getD i.toNat .bad).cells:=fun j hj=>by
      have hj':j<(g.ow id).sz:=by rw[←h4 _ hlt];exact hj
      have e1:=CY (n:=xs.length) hlt hj';have e2:xs.length*(g.ow id).sz≤(g.ow id).cap*(g.ow id).sz:=J3 _ (by omega);refine⟨_,?_,(k4 _ j hlt hj').1,(k4 _ j hlt hj').2⟩;simp[World.cell?,k2,Array.getD,show(g.ow id).o+i.toNat*(g.ow id).sz+j<c.size by omega]
     obtain⟨u,hu,hr⟩:=GD (P:=P) hcells ha hs hl;unfold execOp;rw[ho]
     rw[←hsz]at hav
     simp only[hav,Instr.loadAt,Instr.sureAddr,B5,B9,B2,hu,G6]
     grind [K6.here]
   cases hl
  cases hl
 cases hl
theorem Vo {t:TypeId} {y z:Operand} {zV:V} {H':A1} (ho:o.op= .store t y z) (hle:BQ (ev fr z) zV) (hl:RT P H t (ev fr y) zV=some H') (h:K .bad H'):H5 P o fr H K:=by
 intro g w a hR hE;have hv:=D8 hR hE y;have hz:=(D8 hR hE z).le hle
 unfold RT at hl
 split at hl
 ·rename_i sz id i esz off hs he
  rw[he]at hv
  split at hl
  ·rename_i sz0 xs hx
   split at hl
   ·rename_i hc;obtain⟨hb,hs1,hone,hysz,hfit⟩:=hc;cases hl
    generalize hav:a.eval y=v at hv
    cases hv with
    | elem hm hsz=>
     rename_i b;have hk:=EN hx;obtain⟨b',h1,hs0,h2,h4,h6⟩:=hR.blk id _ hk
     rw[hm]at h1;cases h1
     have hs1:=hs1.symm;subst hs1
     have hlt:i.toNat<xs.length:=by omega
     rcases h6 with h6|⟨c,T,k1,k2,k3,k4,k5⟩
     ·omega
     obtain⟨hcs,hcv⟩:=hz.cells hone
     have hzs:(a.eval z).cells.size=sz:=by rw[hcs,hysz]
     have hmem:∀v∈(a.eval z).cells.toList,v.oneCell'=true:=by
      intro v hv;obtain⟨j,hj,rfl⟩:=Z9 hv
      have hj':j<(a.eval z).cells.size:=by omega
      have:=(hcv j (by omega)).1
      simp_all
     have hcap0:xs.length≠0:=by omega
     have e2:xs.length*esz≤(g.ow id).cap*esz:=J3 _ (by omega);have e3:(i.toNat+1)*esz≤xs.length*esz:=J3 _ (by omega)
     rw[G2,Au]at e3
     generalize hA:(g.ow id).o+i.toNat*esz+off=A
     have hAl:A+sz≤c.size:=by rw[←hA];omega
     have hst:=run_storeCells_at P b A T (a.eval z).cells.toList 0 c w k2 (by simp;omega) hmem
     generalize hC:(c.toList.take (A+0)++(a.eval z).cells.toList++c.toList.drop (A+0+(a.eval z).cells.toList.length)).toArray=C at hst
     have hCs:C.size=c.size:=by rw[←hC];simp;omega
     have hCg:∀j,j<c.size→C[j]? =if A≤j∧j<A+sz then(a.eval z).cells[j - A]? else c[j]? :=by
      intro j hlt;rw[←hC];simp only[Bn,O2,E7];rw[Cc,Cc];simp only[Br,He,Jc (show A≤c.size by omega),Dk,Hb,Ce]
      by_cases q1:j<A
      ·rw[A2 q1,A2 q1,A3 (by omega)]
      rw[A3 q1]
      by_cases q2:j<A+sz
      ·rw[A2 (by omega),A2 ⟨by omega,q2⟩]
      rw[A3 (by omega),A3 (by omega),show A+(a.eval z).cells.size+(j - A - (a.eval z).cells.size)=j by omega]
     have hlen:=h4 _ hlt;have hpc:=VD (x:=xs.getD i.toNat .bad) (y:=zV) hlen hysz hfit
     have hget:∀k,k<xs.length→(xs.set i.toNat (Si (xs.getD i.toNat .bad) esz sz off zV)).getD k .bad=if k=i.toNat then Si (xs.getD i.toNat .bad) esz sz off zV else xs.getD k .bad:=by
      grind
     have hset:=hR.setArr (c':=C) (ys:=xs.set i.toNat (Si (xs.getD i.toNat .bad) esz sz off zV)) hk hm hcap0 k2 hCs (fun q hq=>by
      grind) (by simp) (fun k hk'=>by
      have hk2:k<xs.length:=by grind
      rw[hget k hk2]
      grind [AM]) (fun k j hk' hj=>by
      have hk2:k<xs.length:=by grind
      rw[hget k hk2];have e1:=CY (n:=xs.length) hk2 hj
      have hin:(g.ow id).o+k*esz+j<c.size:=by omega
      have hCd:C.getD ((g.ow id).o+k*esz+j) undef=if A≤(g.ow id).o+k*esz+j∧(g.ow id).o+k*esz+j<A+sz then(a.eval z).cells.getD ((g.ow id).o+k*esz+j - A) undef else c.getD ((g.ow id).o+k*esz+j) undef:=by
       simp only[L9,hCg _ hin]
       split<;>rfl
      rw[hCd]
      by_cases hki:k=i.toNat
      ·subst hki;rw[A2 rfl,hpc,Hq (by rw[hysz,hlen];omega),hysz];rw[←hA]
       grind
      rw[A3 hki]
      have hne:¬(A≤(g.ow id).o+k*esz+j∧(g.ow id).o+k*esz+j<A+sz):=by
       rw[←hA];rintro⟨q1,q2⟩
       rcases Nat.lt_or_gt_of_ne hki with hlt'|hgt
       ·have:=J3 esz (show k+1≤i.toNat by omega)
        rw[G2,Au]at this
        omega
       have:=J3 esz (show i.toNat+1≤k by omega)
       rw[G2,Au]at this
       omega
      rw[A3 hne]
      grind)
     unfold execOp;rw[ho]
     rw[hA]at hav
     simp only[hav,Instr.storeAt,Instr.sureAddr,storeVar,B5,B9,B2,N6 hs w,hzs,ne_eq,Fi,E3,hst,G6];exact⟨g,.bad,_,hset.1,hset.2,.bad _,h⟩
   cases hl
  cases hl
 cases hl
end
end Go.Ab
namespace Go.Ab
open Go.RowKit
variable [K9]
theorem DL {g:Gh} {H:A1} {w:World} (hR:Rl g H w) (sz:Nat) {v:Value} {x:V} (hx:x= .sl [] .nil∨x= .sl [] .full) (hv:VR g w v x):
 ∃g',U1 g w g' w∧Rl g' (upd H g.nx (some (.arr sz []))) w∧H g.nx=none∧VR g' w v (.own g.nx 0 0):=by
 obtain⟨s,r,hn⟩:=Rl.newArr (w':=w) hR (b:=0) (o:=0) (sz:=sz) (ys:=[]) (fun i hi=>by simp at hi) (fun _ _ _=>rfl) (U7 _ _) (fun _ _ _=>rfl) (.inl rfl);refine⟨_,s,r,hn,?_⟩
 have key:∀p:Option Addr,VR (g.own 0 ⟨0,0,sz⟩) w (.slice p 0 0) (.own g.nx 0 0):=fun p=>by
  have e:(g.own 0 ⟨0,0,sz⟩).ow g.nx=⟨0,0,sz⟩:=by simp[Gh.own]
  have:=VR.own (g:=g.own 0 ⟨0,0,sz⟩) (w:=w) (id:=g.nx) (b:=0) (lo:=0) (n:=0) (p:=p) (by simp[Gh.own]) (by omega) (by omega) (by rw[e];simp) (by rw[e];simp)
  rw[e]at this
  exact this
 rcases hx with rfl|rfl
 ·cases hv with
  |sl0 ht=>grind
  |sle h=>rcases h with h|⟨h,_⟩<;>cases h
  |sl vs hn hc hz hf hw h1 hv ht=>exact ht.elim
 cases hv with
 |sl0 ht=>grind
 |@sle a c t h=>
  simp_all
 |sl vs hn hc hz hf hw h1 hv ht=>
  simp_all[FT]
section
variable {P:Program}{o:Oper}{fr:Fr}{H:A1}{K:V→A1→Prop}
theorem Tv {t:TypeId} {l c:Operand} {e:TypeId} {k1 k2:IntKind} {n m:Int} {sz by_:Nat} {z:V} (ho:o.op= .makeSlice t l c) (hl:ev fr l= .int k1 n) (hc:ev fr c= .int k2 m) (he:Ev P t=some e) (hsz:DS P e=some sz)
 (hpos:0<sz) (hby:Nr P e=some by_) (hbp:0<by_) (hz:Hi P e=some z) (hz1:z.one=true) (hzl:z.cells.length=sz) (h0:0≤n) (h1:n≤m) (h2:m*by_≤281474976710656)
 (h:∀id,H id=none→K (.own id 0 n) (upd H id (some (.arr sz (List.replicate m.toNat z))))):H5 P o fr H K:=by
 intro g w a hR hE;have hl':=D8 hR hE l;have hc':=D8 hR hE c
 rw[hl]at hl';rw[hc]at hc'
 have hl':=hl'.int_inv;have hc':=hc'.int_inv;have hu:=O4 he;obtain⟨zv,ez,hzv⟩:=CB hz
 have hzr:VR g w zv z:=by rw[ez];grind [Du]
 obtain⟨hzs',hzc⟩:=hzr.cells hz1
 have hzs:zv.cells.size=sz:=by rw[hzs',hzl]
 have hbi:∀w,(typeInfo e).run P w= .ok ((P.info? e).getD default) w∧((P.info? e).getD default).bytes=by_:=by
  intro w
  unfold Nr at hby
  cases hi:P.info? e with
  |none=>simp_all
  |some i=>simp[hi]at hby;simp[typeInfo,hi,hby]
 have hb1:∀w,(typeInfo e).run P w= .ok ((P.info? e).getD default) w:=fun w=>(hbi w).1;have hb2:=(hbi w).2
 have hmb:m≤281474976710656:=by
  have:m*1≤m*by_:=Int.mul_le_mul_of_nonneg_left (by omega) (by omega);omega
 have hw1:IntKind.i64.wrap n=n:=wrap_small n h0 (by omega);have hw2:IntKind.i64.wrap m=m:=wrap_small m (by omega) (by omega);have hcm:(by_:Int)*m=m*by_:=Int.mul_comm _ _;generalize hA:(if m.toNat*sz=0 then(#[]:Array Value)else zv.cells)=A;generalize hC:(Array.range (m.toNat*sz)).map (fun i=>A[i % A.size]!)=C
 have hCs:C.size=m.toNat*sz:=by rw[←hC];simp
 have hrun:(Instr.makeSlice t (.int k1 n) (.int k2 m)).run P w= .ok (.slice (some ⟨w.heap.size,0,none⟩) n.toNat m.toNat) (w.alloc (.cells C e)):=by
  have t1:¬(m<0):=by omega
  have t2:¬(281474976710656<(by_:Int)*m):=by omega
  have t3:¬(n<0):=by omega
  have t4:¬(m<n):=by omega
  simp only[Instr.makeSlice,B5,run_underlying hu,B2,asInt,asIntOf,B9,hb1,hb2,hw1,hw2];simp only[gt_iff_lt,t1,t3,t4,GR,GT,Bool.or_false,Int.reducePow,t2,F6,E3,B5,B2,run_askRoom,N6 hsz]
  by_cases h0:m.toNat*sz=0
  ·rw[A2 h0]at hA
   rw[A2 h0];subst hA;simp[newRow,run_newObj,←hC,DC]
  rw[A3 h0]at hA
  rw[A3 h0];subst hA;simp[newRow,run_newObj,hC,DC,B5,hzv]
 have hn:n.toNat≤m.toNat:=by omega
 have hCg:∀k,k<m.toNat*sz→C.getD k undef=zv.cells.getD (k % sz) undef:=by
  intro k hk
  have hne:m.toNat*sz≠0:=by omega
  rw[A3 hne]at hA
  subst hA;rw[←hC]
  have hlt:k % sz<zv.cells.size:=by rw[hzs];simp_all[DD]
  simp only[L9,Array.getElem?_map,Array.getElem?_range,hk,C7,H8,BZ,hzs];simp[hlt]
 have hrep:∀i,i<m.toNat→(List.replicate m.toNat z).getD i .bad=z:=fun i hi=>by simp_all
 have hlen:(List.replicate m.toNat z).length=m.toNat:=by simp
 obtain⟨s,r,hnone⟩:=Rl.newArr (w':=w.alloc (.cells C e)) hR (b:=w.heap.size) (o:=0) (sz:=sz) (ys:=List.replicate m.toNat z)
  (fun i hi=>by rw[hrep i (by omega)];exact hzl) (fun b q hf=>Cx (hR.fz_lt hf)) ((U7 _ _).alloc hR.bnd _) (fun x _ hlt=>heap_alloc hlt)
  (.inr ⟨C,e,hR.bnd,Aw,by simp[hCs],fun i j hi hj=>by
   have hi':i<m.toNat:=by omega
   have e1:=CY (n:=m.toNat) hi' hj;rw[hrep i hi',U9,hCg _ e1,(P9 hj).2]
   simp_all,fun q _ hf=>absurd (hR.fz_lt hf) (Q6 _),fun id hid=>absurd (hR.lt hid) (Q6 _)⟩)
 unfold execOp;rw[ho];simp only[hl',hc',B5,hrun,B2,B9,G6];refine⟨_,_,_,s,r,?_,h g.nx hnone⟩;rw[hlen]
 have e':(g.own w.heap.size ⟨0,m.toNat,sz⟩).ow g.nx=⟨0,m.toNat,sz⟩:=by simp[Gh.own]
 have:=VR.own (g:=g.own w.heap.size ⟨0,m.toNat,sz⟩) (w:=w.alloc (.cells C e)) (id:=g.nx) (b:=w.heap.size) (lo:=0) (n:=n) (p:=some ⟨w.heap.size,0,none⟩) (by simp[Gh.own]) (by omega) h0 (by rw[e'];simp_all) (by rw[e'];simp)
 rw[e']at this
 exact this
end
end Go.Ab
namespace Go.Ab
open Go.RowKit
variable [K9]
def Ap (xs:List V)(i:Nat)(ys:List V):List V:=xs.take i++ys++xs.drop (i+ys.length)
theorem DM {xs ys:List V}{i:Nat}(h:i+ys.length≤xs.length):(Ap xs i ys).length=xs.length:=by grind [Ap]
theorem Rg {xs ys:List V}{i k:Nat}(h:i+ys.length≤xs.length):(Ap xs i ys).getD k .bad=if i≤k∧k<i+ys.length then ys.getD (k - i) .bad else xs.getD k .bad:=by
 simp only[Ap,EA];rw[Cc,Cc]
 grind
def Qz (H:A1)(v:V):Option (List V):=
 match v with
 | .sl xs _=>some xs
 | .own id lo n=>(FB H id).map fun q=>L1 q.2 lo n
 |_=>none
theorem G6.mono {P:Program} {K K':Value→World→Prop} (h:∀v w,K v w→K' v w) {r:Result Next} (hr:G6 P K r):G6 P K' r:=by
 cases r with
 |halt x w=>exact hr
 | ok n w=>
  cases n<;>first
   |exact h _ _ hr
   |exact CallsIn.mono hr fun e w' ⟨v,e1,e2⟩=>⟨v,e1,h _ _ e2⟩
   |exact RoundIn.mono hr fun e w' ⟨v,e1,e2⟩=>⟨v,e1,h _ _ e2⟩
   |exact hr
section
variable {P:Program}{o:Oper}{fr:Fr}{H:A1}{K:V→A1→Prop}
theorem VR.ownN {g:Gh}{w:World}{b o cap sz:Nat}{n:Int}(h1:0≤n)(h2:n≤cap):VR (g.own b ⟨o,cap,sz⟩) w (.slice (some ⟨b,o,none⟩) n.toNat cap) (.own g.nx 0 n):=by
 have e':(g.own b ⟨o,cap,sz⟩).ow g.nx=⟨o,cap,sz⟩:=by simp[Gh.own]
 have:=VR.own (g:=g.own b ⟨o,cap,sz⟩) (w:=w) (id:=g.nx) (b:=b) (lo:=0) (n:=n) (p:=some ⟨b,o,none⟩) (by simp[Gh.own]) (by omega) h1 (by rw[e'];simp_all) (by rw[e'];simp)
 rw[e']at this
 exact this
theorem Eb {g:Gh} {H:A1} {w:World} (hR:Rl g H w) {id sz:Nat} {lo n:Int} {xs:List V} {v:Value} (hk:H id=some (.arr sz xs)) (hv:VR g w v (.own id lo n)):
 ∃ b p,g.mu id=some b∧v= .slice p n.toNat (xs.length - lo.toNat)∧0≤lo∧0≤n∧lo+n≤(xs.length:Nat)∧(g.ow id).sz=sz∧(g.ow id).cap=xs.length∧
  (lo<(xs.length:Nat)→p=some ⟨b,(g.ow id).o+lo.toNat*sz,none⟩)∧(∀i,i<xs.length→(xs.getD i .bad).cells.length=sz)∧
  (xs.length=0∨∃c T,g.base≤b∧w.heap[b]? =some (.cells c T (0,0))∧(g.ow id).o+xs.length*sz≤c.size∧
   (∀i j,i<xs.length→j<sz→(c.getD ((g.ow id).o+i*sz+j) undef).oneCell'=true∧VR g w (c.getD ((g.ow id).o+i*sz+j) undef) ((xs.getD i .bad).cells.getD j .bad))∧
   (∀o,(g.ow id).o≤o→¬g.fz b o)∧g.at H id=some b):=by
 obtain⟨b,h1,h2,h3,h4,h5⟩:=hR.blk id _ hk
 cases hv with
 |own hm h0 h1' h2' hp=>
  rename_i p
  rw[h1]at hm;cases hm
  rw[h3]at h2' hp
  rw[h2]at hp
  refine⟨b,p,h1,by rw[h3],h0,h1',h2',h2,h3,hp,h4,?_⟩
  grind [Gh.at]
theorem HM (P:Program) {g:Gh} {H:A1} {w:World} (hR:Rl g H w) {x:V} {v:Value} {xs:List V} {sz:Nat} (hx:Qz H x=some xs) (hv:VR g w v x) (hall:xs.all (fun x=>x.cells.length==sz)=true):
 ∃(base:Option Addr) (cap:Nat) (vs:Nat→Nat→Value),v= .slice base xs.length cap∧
  (∀i j,i<xs.length→j<sz→(vs i j).oneCell'=true∧VR g w (vs i j) ((xs.getD i .bad).cells.getD j .bad))∧
  (∀m,m≤xs.length→∀w':World,(∀b o,w'.cell? ⟨b,o,none⟩=w.cell? ⟨b,o,none⟩)→(Builtin.firstCells sz m v).run P w'= .ok ((List.range (m*sz)).map fun k=>vs (k / sz) (k % sz)).toArray w'):=by
 unfold Qz at hx
 split at hx
 ·cases hx;obtain⟨base,cap,vs,h1,_,h2,h3,h4⟩:=DJ (P:=P) hv hall;refine⟨base,cap,vs,h1,h2,fun m hm w' hw'=>?_⟩
  rcases h4 with⟨rfl,_,_⟩|⟨b,q,rfl,h5,_⟩
  ·have:m=0:=by grind
   simp_all
  rw[h1];simp only[Builtin.firstCells];refine run_loadCells w' _ _ _ fun k hk=>?_
  have hp:0<sz:=by
   grind
  have hi:k / sz<m:=(ON hp).2 hk;have hj:k % sz<sz:=DD _ hp;rw[Y3,hw']
  have e3:q+k=q+k / sz*sz+k % sz:=by have:=NC k sz;rw[GQ]at this;omega
  rw[e3]
  grind
 ·rename_i id lo n
  cases ha:FB H id with
  |none=>rw[ha]at hx;cases hx
  | some q=>
   obtain⟨sz0,zs⟩:=q
   rw[ha]at hx
   simp only[H8,D9]at hx
   subst hx;obtain⟨b,p,h1,h2,h3,h4,h5,h6,h7,h8,h9,h10⟩:=Eb hR (EN ha) hv
   have hl:(L1 zs lo n).length=n.toNat:=by grind [L1]
   rw[hl]
   have hsub:∀i,i<n.toNat→(L1 zs lo n).getD i .bad=zs.getD (lo.toNat+i) .bad:=fun i hi=>by
    grind [L1]
   by_cases hn:n.toNat=0
   ·rw[hn]at h2 ⊢
    refine⟨_,_,fun _ _=>undef,h2,fun i j hi=>by omega,fun m hm w' _=>?_⟩
    have:m=0:=by omega
    subst this;subst h2
    cases p with
    |none=>simp[Builtin.firstCells]
    |some q=>simp[Builtin.firstCells,loadCells,loadCellsFrom]
   have hlt:lo<(zs.length:Nat):=by omega
   rcases h10 with h10|⟨c,T,k1,k2,k3,k4,k5,k6⟩
   ·omega
   have hp:=h8 hlt;subst hp
   have hse:sz0=sz:=by
    have e1:=h9 (lo.toNat+0) (by omega);have e2:=(List.all_eq_true.1 hall) ((L1 zs lo n).getD 0 .bad) (by grind)
    rw[hsub 0 (by omega)]at e2
    rw[←e1];grind
   subst hse;refine⟨_,_,fun i j=>c.getD ((g.ow id).o+(lo.toNat+i)*sz0+j) undef,h2,fun i j hi hj=>?_,fun m hm w' hw'=>?_⟩
   ·rw[hsub i hi];grind
   subst h2;simp only[Builtin.firstCells]
   have hp:0<sz0∨sz0=0:=by omega
   refine run_loadCells w' _ _ _ fun k hk=>?_
   rcases hp with hp|hp
   ·have hi:k / sz0<n.toNat:=Nat.lt_of_lt_of_le ((ON hp).2 hk) hm;have hj:k % sz0<sz0:=DD _ hp;have e1:=CY (n:=zs.length) (i:=lo.toNat+k / sz0) (by omega) hj;rw[Y3,hw']
    have e3:(g.ow id).o+lo.toNat*sz0+k=(g.ow id).o+(lo.toNat+k / sz0)*sz0+k % sz0:=by
     have:=NC k sz0;rw[GQ]at this;rw[G2];omega
    rw[e3];simp[World.cell?,k2,Array.getD,show(g.ow id).o+(lo.toNat+k / sz0)*sz0+k % sz0<c.size by omega]
   simp_all
 cases hx
theorem Xf {c C:Array Value}{A m:Nat}{vs:List Value}(hm:vs.length=m)(hA:A+m≤c.size)(hC:(c.toList.take A++vs++c.toList.drop (A+m)).toArray=C):
 C.size=c.size∧∀k,k<c.size→C[k]? =if A≤k∧k<A+m then vs[k - A]? else c[k]? :=by
 subst hC;refine⟨by simp;omega,fun k hk=>?_⟩
 grind
theorem Xg (P:Program) {g:Gh} {H:A1} {w:World} (hR:Rl g H w) {id sz i m:Nat} {xs ys:List V} {b:Nat} {c:Array Value} {T:TypeId} (hpos:0<sz) (hk:H id=some (.arr sz xs)) (hb:g.mu id=some b)
 (hsz:(g.ow id).sz=sz) (hin:i+ys.length≤xs.length) (hnz:xs.length≠0) (hm:ys.length=m)
 (k2:w.heap[b]? =some (.cells c T (0,0))) (k3:(g.ow id).o+xs.length*sz≤c.size)
 (k4:∀i j,i<xs.length→j<sz→(c.getD ((g.ow id).o+i*sz+j) undef).oneCell'=true∧VR g w (c.getD ((g.ow id).o+i*sz+j) undef) ((xs.getD i .bad).cells.getD j .bad))
 (hlenx:∀i,i<xs.length→(xs.getD i .bad).cells.length=sz) (hleny:∀i,i<ys.length→(ys.getD i .bad).cells.length=sz) (fy:Nat→Nat→Value)
 (hfy:∀i j,i<ys.length→j<sz→(fy i j).oneCell'=true∧VR g w (fy i j) ((ys.getD i .bad).cells.getD j .bad)):
 ∃C,(storeCells ⟨b,(g.ow id).o+i*sz,none⟩ ((List.range (m*sz)).map fun k=>fy (k / sz) (k % sz))).run P w= .ok () (w.setRow b C)∧
  U1 g w g (w.setRow b C)∧Rl g (upd H id (some (.arr sz (Ap xs i ys)))) (w.setRow b C):=by
 subst hm;have hadd:(i+ys.length)*sz=i*sz+ys.length*sz:=G2 _ _ _;have hcapsz:(i+ys.length)*sz≤xs.length*sz:=J3 _ hin
 have hmem:∀v∈((List.range (ys.length*sz)).map fun k=>fy (k / sz) (k % sz)),v.oneCell'=true:=by
  grind [Nat.div_lt_iff_lt_mul,Nat.mod_lt]
 have hst:=run_storeCells_at P b ((g.ow id).o+i*sz) T ((List.range (ys.length*sz)).map fun k=>fy (k / sz) (k % sz)) 0 c w k2 (by simp;omega) hmem
 generalize hC:(c.toList.take ((g.ow id).o+i*sz+0)++((List.range (ys.length*sz)).map fun k=>fy (k / sz) (k % sz))++
  c.toList.drop ((g.ow id).o+i*sz+0+((List.range (ys.length*sz)).map fun k=>fy (k / sz) (k % sz)).length)).toArray=C at hst
 have hL:((List.range (ys.length*sz)).map fun k=>fy (k / sz) (k % sz)).length=ys.length*sz:=by simp
 rw[hL,Bn]at hC
 obtain⟨hCs,hCg⟩:=Xf hL (by omega) hC;refine⟨C,hst,?_⟩;refine hR.setArr hk hb hnz k2 hCs (fun o ho=>?_) (DM hin) (fun j hj=>?_) (fun j t hj ht=>?_)
 ·grind
 ·rw[DM hin]at hj
  rw[Rg hin]
  grind
 rw[DM hin]at hj
 have e1:=CY (n:=xs.length) hj ht
 have hin':(g.ow id).o+j*sz+t<c.size:=by omega
 rw[Rg hin];simp only[L9,hCg _ hin']
 by_cases hji:i≤j∧j<i+ys.length
 ·have h1:i*sz≤j*sz:=J3 _ hji.1;have h2:=CY (n:=i+ys.length) hji.2 ht;have h3:(j - i)*sz=j*sz - i*sz:=Bi _ _ _;rw[A2 ⟨by omega,by omega⟩,A2 hji,show(g.ow id).o+j*sz+t - ((g.ow id).o+i*sz)=(j - i)*sz+t by omega,Z8,Fk (by have:=CY (n:=ys.length) (i:=j - i) (by omega) ht;omega)];simp only[H8,BZ,(P9 ht).1,(P9 ht).2]
  grind
 have hne:¬((g.ow id).o+i*sz≤(g.ow id).o+j*sz+t∧(g.ow id).o+j*sz+t<(g.ow id).o+i*sz+ys.length*sz):=by
  rintro⟨q1,q2⟩
  rcases H6 j i with h|h
  ·have:=J3 sz (show j+1≤i by omega)
   rw[G2,Au]at this
   omega
  have h':i+ys.length≤j:=by omega
  have:=J3 sz h';omega
 rw[A3 hne,A3 hji];have:=k4 j t hj ht
 simp_all
theorem Bk {xs:List V}{lo n:Int}(h0:0≤lo)(h1:0≤n)(h2:lo+n≤(xs.length:Nat)):(L1 xs lo n).length=n.toNat:=by grind [L1]
theorem MV {xs:List V}{lo n:Int}{i:Nat}(hi:i<n.toNat):(L1 xs lo n).getD i .bad=xs.getD (lo.toNat+i) .bad:=by
 simp_all[L1]
theorem Ks {xs:List V}{sz:Nat}(h:∀i,i<xs.length→(xs.getD i .bad).cells.length=sz):xs.all (fun x=>x.cells.length==sz)=true:=by
 rw[DG]
 grind [List.getElem_of_mem]
theorem Fy {xs:List V}{sz:Nat}(h:xs.all (fun x=>x.cells.length==sz)=true):∀i,i<xs.length→(xs.getD i .bad).cells.length=sz:=fun i hi=>by
 have:=(List.all_eq_true.1 h) (xs.getD i .bad) (by simp_all)
 simp_all
theorem Xw {g:Gh} {w:World} {H:A1} {K:V→A1→Prop} (hR:Rl g H w) {e:TypeId} {sz G:Nat} {z:V} {xs ys:List V} {zv:Value} (hpos:0<sz) (hzv:VR g w zv z) (hz1:z.one=true) (hzl:z.cells.length=sz)
 (hlenx:∀i,i<xs.length→(xs.getD i .bad).cells.length=sz) (hleny:∀i,i<ys.length→(ys.getD i .bad).cells.length=sz) {fs fy:Nat→Nat→Value}
 (hfs:∀i j,i<xs.length→j<sz→(fs i j).oneCell'=true∧VR g w (fs i j) ((xs.getD i .bad).cells.getD j .bad))
 (hfy:∀i j,i<ys.length→j<sz→(fy i j).oneCell'=true∧VR g w (fy i j) ((ys.getD i .bad).cells.getD j .bad)) (hGe:xs.length+ys.length≤G) {m:Int} (hm:m=((xs.length+ys.length:Nat):Int))
 (hout:∀t k,H t=none→K (.own t 0 m) (upd H t (some (.arr sz (xs++ys++List.replicate k z))))):
 K6 g w K (.slice (some ⟨w.heap.size,0,none⟩) (xs.length+ys.length) G)
  (w.drew.alloc (.cells (((List.range (xs.length*sz)).map fun k=>fs (k / sz) (k % sz)).toArray++((List.range (ys.length*sz)).map fun k=>fy (k / sz) (k % sz)).toArray++
   Builtin.zeroCells zv.cells (G - (xs.length+ys.length))) e)):=by
 obtain⟨hzs',hzc⟩:=hzv.cells hz1
 have hzs:zv.cells.size=sz:=by rw[hzs',hzl]
 generalize hC:((List.range (xs.length*sz)).map fun k=>fs (k / sz) (k % sz)).toArray++((List.range (ys.length*sz)).map fun k=>fy (k / sz) (k % sz)).toArray++Builtin.zeroCells zv.cells (G - (xs.length+ys.length))=C;have hadd:(xs.length+ys.length)*sz=xs.length*sz+ys.length*sz:=G2 _ _ _;have hGs:(xs.length+ys.length)*sz≤G*sz:=J3 _ hGe
 have hCs:C.size=G*sz:=by
  rw[←hC]
  grind [size_zeroCells,Nat.sub_mul]
 have hCg:∀k,k<(xs.length+ys.length)*sz→C[k]? =some (if k<xs.length*sz then fs (k / sz) (k % sz)else fy ((k - xs.length*sz) / sz) ((k - xs.length*sz) % sz)):=by
  grind
 have hCz:∀k,(xs.length+ys.length)*sz≤k→k<G*sz→C[k]? =zv.cells[(k - (xs.length+ys.length)*sz) % sz]? :=by
  intro k hk hk2;rw[←hC,Gq,A3 (by simp;omega)];simp only[Jn,Fh,Q7,S5];rw[show k - (xs.length*sz+ys.length*sz)=k - (xs.length+ys.length)*sz by omega];have hs:=size_zeroCells zv.cells (G - (xs.length+ys.length))
  have hlt:k - (xs.length+ys.length)*sz<(G - (xs.length+ys.length))*sz:=by rw[Bi];omega
  generalize k - (xs.length+ys.length)*sz=q at hlt ⊢
  have hq:q % sz<zv.cells.size:=by rw[hzs];simp_all[DD]
  unfold Builtin.zeroCells
  simp_all
 have hcellp:∀x o,g.fz x o→(w.drew.alloc (.cells C e)).cell? ⟨x,o,none⟩=w.cell? ⟨x,o,none⟩:=fun x o hf=>Cx (w:=w.drew) (hR.fz_lt hf);have hbel:Below g.base w (w.drew.alloc (.cells C e)):=(U7 _ _).drew.alloc hR.bnd _
 have hln:(xs++ys++List.replicate (G - (xs.length+ys.length)) z).length=G:=by simp;omega
 have hget:∀i,i<G→(xs++ys++List.replicate (G - (xs.length+ys.length)) z).getD i .bad=if i<xs.length then xs.getD i .bad else if i<xs.length+ys.length then ys.getD (i - xs.length) .bad else z:=by
  grind
 obtain⟨s,r,hnone⟩:=Rl.newArr (w':=w.drew.alloc (.cells C e)) hR (b:=w.heap.size) (o:=0) (sz:=sz) (ys:=xs++ys++List.replicate (G - (xs.length+ys.length)) z)
  (fun i hi=>by
   rw[hln]at hi
   rw[hget i hi]
   grind) hcellp hbel (fun x _ hlt=>heap_alloc (w:=w.drew) hlt)
  (.inr ⟨C,e,hR.bnd,Aw (w:=w.drew) (o:=.cells C e),by rw[hln,hCs];omega,fun i j hi hj=>by
   rw[hln]at hi
   have h2:=CY (n:=G) hi hj;rw[hget i hi];simp only[U9]
   by_cases hix:i<xs.length
   ·have h3:=CY hix hj
    have h4:i*sz+j<(xs.length+ys.length)*sz:=by omega
    simp only[L9,hCg _ h4,BZ];rw[A2 h3,A2 hix,(P9 hj).1,(P9 hj).2]
    simp_all
   have h1:xs.length*sz≤i*sz:=J3 _ (by omega);have h3:(i - xs.length)*sz=i*sz - xs.length*sz:=Bi _ _ _;rw[A3 hix]
   by_cases hiy:i<xs.length+ys.length
   ·have h4:=CY hiy hj;simp only[L9,hCg _ h4,BZ];rw[A3 (by omega),A2 hiy,show i*sz+j - xs.length*sz=(i - xs.length)*sz+j by omega,(P9 hj).1,(P9 hj).2]
    grind
   have h1':(xs.length+ys.length)*sz≤i*sz:=J3 _ (by omega);have h3':(i - (xs.length+ys.length))*sz=i*sz - (xs.length+ys.length)*sz:=Bi _ _ _;rw[A3 hiy]
   have e1:C.getD (i*sz+j) undef=zv.cells.getD j undef:=by
    simp only[L9];rw[hCz _ (by omega) h2,show i*sz+j - (xs.length+ys.length)*sz=(i - (xs.length+ys.length))*sz+j by omega,(P9 hj).2]
   rw[e1]
   simp_all,fun q _ hf=>absurd (hR.fz_lt hf) (Q6 _),fun id hid=>absurd (hR.lt hid) (Q6 _)⟩)
 rw[hln]at s r
 refine⟨_,_,_,s,r,?_,hout g.nx _ hnone⟩;have:=VR.ownN (g:=g) (w:=w.drew.alloc (.cells C e)) (b:=w.heap.size) (o:=0) (cap:=G) (sz:=sz) (n:=m) (by omega) (by omega)
 rwa[hm,N3,←hm]at this
theorem Ae7 {g:Gh} {w:World} {H:A1} {K:V→A1→Prop} (hR:Rl g H w) {id sz:Nat} {lo n:Int} {xs ys:List V} {vs:Value} (hk:H id=some (.arr sz xs)) (hv:VR g w vs (.own id lo n)) (hpos:0<sz)
 (hleny:∀i,i<ys.length→(ys.getD i .bad).cells.length=sz) {fy:Nat→Nat→Value} (hfy:∀i j,i<ys.length→j<sz→(fy i j).oneCell'=true∧VR g w (fy i j) ((ys.getD i .bad).cells.getD j .bad))
 (hfit:lo+n+(ys.length:Nat)≤(xs.length:Nat)) (hin:K (.own id lo (n+(ys.length:Nat))) (upd H id (some (.arr sz (Ap xs (lo+n).toNat ys))))):
 ∃base cap w',vs= .slice base n.toNat cap∧n.toNat+ys.length≤cap∧cap=xs.length - lo.toNat∧
  (match base with|some a=>(storeCells (a.add (n.toNat*sz)) ((List.range (ys.length*sz)).map fun k=>fy (k / sz) (k % sz))).run P w|none=>.ok () w)= .ok () w'∧
  K6 g w K (.slice base (n.toNat+ys.length) cap) w':=by
 obtain⟨b,p,h1,h2,h3,h4,h5,h6,h7,h8,h9,h10⟩:=Eb hR hk hv
 by_cases hcap0:lo=(xs.length:Nat)
 ·
  have hy0:ys=[]:=List.length_eq_zero_iff.1 (by omega)
  have hn0:n=0:=by omega
  subst hy0;subst hn0;refine⟨_,_,w,h2,by simp,rfl,by cases p<;>simp[storeCells],?_⟩
  have e:Ap xs (lo+0).toNat []=xs:=by simp[Ap]
  rw[e]at hin
  refine⟨g,.own id lo 0,H,U1.refl _ _,hR,?_,?_⟩
  rotate_right
  ·have:upd H id (some (.arr sz xs))=H:=by
    funext x
    simp_all[upd]
   rw[this]at hin
   exact hin
  simp_all
 have hlt:lo<(xs.length:Nat):=by omega
 have hp:=h8 hlt;subst hp
 rcases h10 with h10|⟨c,T,k1,k2,k3,k4,k5,k6⟩
 ·omega
 obtain⟨C,hst,s,r⟩:=Xg P hR (i:=(lo+n).toNat) (m:=ys.length) (ys:=ys) hpos hk h1 h6 (by omega) (by omega) rfl k2 k3 k4 h9 hleny fy hfy;refine⟨_,_,w.setRow b C,h2,by omega,rfl,?_,?_⟩
 ·simp only[Y3];rw[show(g.ow id).o+lo.toNat*sz+n.toNat*sz=(g.ow id).o+(lo+n).toNat*sz by rw[show(lo+n).toNat=lo.toNat+n.toNat by omega,G2];omega];exact hst
 refine⟨g,_,_,s,r,?_,hin⟩;have:=VR.own (g:=g) (w:=w.setRow b C) (id:=id) (b:=b) (lo:=lo) (n:=n+(ys.length:Nat)) (p:=some ⟨b,(g.ow id).o+lo.toNat*sz,none⟩) h1 h3 (by omega) (by rw[h7];omega) (fun _=>by rw[h6])
 rw[h7]at this
 rwa[show(n+(ys.length:Nat)).toNat=n.toNat+ys.length by omega]at this
theorem HC {g:Gh} {w:World} (hR:Rl g H w) {vs vy:Value} {ty:TypeId} {cs:Array Bool} {sT yT e:TypeId} {id sz by_:Nat} {lo n:Int} {z:V} {xs ys:List V} (hvs:VR g w vs (.own id lo n)) {fy:Nat→Nat→Value}
 (hfy:∀i j,i<ys.length→j<sz→(fy i j).oneCell'=true∧VR g w (fy i j) ((ys.getD i .bad).cells.getD j .bad)) (hyl:Builtin.lenOf vy=pure ys.length)
 (hry:∀w':World,(∀b o,w'.cell? ⟨b,o,none⟩=w.cell? ⟨b,o,none⟩)→(Builtin.firstCells sz ys.length vy).run P w'= .ok ((List.range (ys.length*sz)).map fun k=>fy (k / sz) (k % sz)).toArray w')
 (hk:H id=some (.arr sz xs)) (he:Ev P sT=some e) (huy:(∃e',P.underlying yT=some (.slice e'))∨P.underlying yT=some .string) (hsz:DS P e=some sz) (hpos:0<sz) (hby:Nr P e=some by_) (hbp:0<by_)
 (hz:Hi P e=some z) (hz1:z.one=true) (hzl:z.cells.length=sz) (hay:ys.all (fun x=>x.cells.length==sz)=true)
 (hin:lo+n+(ys.length:Nat)≤(xs.length:Nat)→K (.own id lo (n+(ys.length:Nat))) (upd H id (some (.arr sz (Ap xs (lo+n).toNat ys)))))
 (hout:(xs.length:Nat)<lo+n+(ys.length:Nat)→(n.toNat+ys.length)*by_≤140737488355328∧∀t k,H t=none→K (.own t 0 (n+(ys.length:Nat))) (upd H t (some (.arr sz (L1 xs lo n++ys++List.replicate k z))))):
 G6 P (K6 g w K) ((builtin .append #[sT,yT] ty cs #[vs,vy]).run P w):=by
 have hleny:=Fy hay;have hu:=O4 he;obtain⟨zv,ez,hzv⟩:=CB hz
 have hzr:VR g w zv z:=by rw[ez];grind [Du]
 have hzs:zv.cells.size=sz:=by rw[(hzr.cells hz1).1,hzl]
 have hbytes:∀w,(typeInfo e).run P w= .ok ((P.info? e).getD default) w∧((P.info? e).getD default).bytes=by_:=by
  intro w
  unfold Nr at hby
  cases hi:P.info? e with
  |none=>simp_all
  |some i=>simp[hi]at hby;simp[typeInfo,hi,hby]
 have hbi:∀w,(typeInfo e).run P w= .ok ((P.info? e).getD default) w:=fun w=>(hbytes w).1;have hbb:=(hbytes w).2;obtain⟨b,p,h1,h2,h3,h4,h5,h6,h7,h8,h9,h10⟩:=Eb hR hk hvs;simp only[builtin,B5]
 by_cases hc:lo+n+(ys.length:Nat)≤(xs.length:Nat)
 ·obtain⟨base,cap,w',q1,q2,q3,q4,q5⟩:=Ae7 (P:=P) hR hk hvs hpos hleny hfy hc (hin hc);rw[q1]
  have hrun:(Builtin.append_ #[sT,yT] ty #[.slice base n.toNat cap,vy]).run P w= .ok (.slice base (n.toNat+ys.length) cap) w':=by
   have hry':=hry w fun _ _=>rfl
   rcases huy with⟨e',huy⟩|huy
   all_goals simp only[hyl,Builtin.append_,B5,run_underlying hu,B2,N6 hsz,run_underlying huy,B9,U8,O2,
    X9,Q8,F6,E3,Z7,C7,A2 q2,hry']
   all_goals cases base with
    |none=>simp only at q4;cases q4;rfl
    |some a=>simp only at q4;simp only[q4,B5,B9,B2]
  rw[hrun]
  simp_all[G6]
 obtain⟨hbound,hout⟩:=hout (by omega)
 have hall:(L1 xs lo n).all (fun x=>x.cells.length==sz)=true:=Ks fun i hi=>by
  rw[Bk h3 h4 h5]at hi
  rw[MV hi];grind
 obtain⟨base,cap,fs,es,hfs,hrs⟩:=HM P hR (x:=.own id lo n) (xs:=L1 xs lo n) (by grind [Qz,FB]) hvs hall;have hrs:=hrs _ (D1 _);have hsl:=Bk h3 h4 h5
 have hcap:cap=xs.length - lo.toNat:=by rw[h2]at es;simp_all
 have hc':¬((L1 xs lo n).length+ys.length≤cap):=by omega
 have hnf:¬(2 ^ 48<Builtin.nextslicecap ((L1 xs lo n).length+ys.length) cap*by_):=by
  have:=growslice_fits (GX hc') (by rw[hsl];exact hbound);omega
 have hdr:∀b o,w.drew.cell? ⟨b,o,none⟩=w.cell? ⟨b,o,none⟩:=fun _ _=>rfl;generalize hG:grownCap w ((L1 xs lo n).length+ys.length) cap e=G
 have hGe:(L1 xs lo n).length+ys.length≤G:=by rw[←hG];grind [grownCap_ge]
 have hn63':¬(IntKind.i64.max<(((L1 xs lo n).length+ys.length:Nat):Int)∧(False∨by_=0)):=by
  grind
 have hrun:(Builtin.append_ #[sT,yT] ty #[.slice base (L1 xs lo n).length cap,vy]).run P w=
  .ok (.slice (some ⟨w.heap.size,0,none⟩) ((L1 xs lo n).length+ys.length) G)
   (w.drew.alloc (.cells (((List.range ((L1 xs lo n).length*sz)).map fun k=>fs (k / sz) (k % sz)).toArray++((List.range (ys.length*sz)).map fun k=>fy (k / sz) (k % sz)).toArray++
    Builtin.zeroCells zv.cells (G - ((L1 xs lo n).length+ys.length))) e)):=by
  have hGd:(Question.appendCap ((L1 xs lo n).length+ys.length) cap e).cut (w.tape w.drawn (.appendCap ((L1 xs lo n).length+ys.length) cap e))=G:=hG;have hf:(Question.appendCap ((L1 xs lo n).length+ys.length) cap e).forced=false:=rfl;have hrs':=hrs w.drew hdr
  rw[es]at hrs'
  have hry':=hry w.drew hdr
  rcases huy with⟨e',huy⟩|huy
  all_goals simp only[hyl,Builtin.append_,B5,run_underlying hu,B2,N6 hsz,run_underlying huy,B9,U8,hbi,hbb,O2,
   X9,Q8,F6,E3,Z7,C7,gt_iff_lt,false_or,A3 hc',A3 hnf,run_choose,hf,hGd,GS,run_askRoom,hrs',hry',hzv,newRow,run_newObj,
   DC,GW]
  all_goals rw[A3 (by simpa using hn63')]
 rw[es,hrun];simp only[B2,B9,G6];exact Xw (K:=K) hR hpos hzr hz1 hzl (Fy hall) hleny hfs hfy hGe (m:=n+(ys.length:Nat)) (by omega) hout
theorem Mi {g:Gh}{w:World}(hR:Rl g H w){vs vy:Value}{yV:V}{ty:TypeId}{cs:Array Bool}{sT yT e:TypeId}{id sz by_:Nat}{lo n:Int}{z:V}{xs ys ys0:List V}(hvs:VR g w vs (.own id lo n))(hvy:VR g w vy yV)
 (hk:H id=some (.arr sz xs)) (hy:Qz H yV=some ys0) (hle:L8 ys0 ys) (he:Ev P sT=some e) (hyT:(Ev P yT).isSome=true) (hsz:DS P e=some sz) (hpos:0<sz) (hby:Nr P e=some by_) (hbp:0<by_)
 (hz:Hi P e=some z) (hz1:z.one=true) (hzl:z.cells.length=sz) (hay:ys.all (fun x=>x.cells.length==sz)=true)
 (hin:lo+n+(ys.length:Nat)≤(xs.length:Nat)→K (.own id lo (n+(ys.length:Nat))) (upd H id (some (.arr sz (Ap xs (lo+n).toNat ys)))))
 (hout:(xs.length:Nat)<lo+n+(ys.length:Nat)→(n.toNat+ys.length)*by_≤140737488355328∧∀t k,H t=none→K (.own t 0 (n+(ys.length:Nat))) (upd H t (some (.arr sz (L1 xs lo n++ys++List.replicate k z))))):
 G6 P (K6 g w K) ((builtin .append #[sT,yT] ty cs #[vs,vy]).run P w):=by
 obtain⟨ybase,ycap,fy,ey,hfy0,hry⟩:=HM P hR hy hvy (hle.sz hay)
 rw[hle.length]at ey hfy0 hry
 have hfy:∀i j,i<ys.length→j<sz→(fy i j).oneCell'=true∧VR g w (fy i j) ((ys.getD i .bad).cells.getD j .bad):=fun i j hi hj=>⟨(hfy0 i j hi hj).1,(hfy0 i j hi hj).2.le ((hle.at i).cells.at j)⟩;obtain⟨e',hyT'⟩:=Option.isSome_iff_exists.1 hyT;exact HC hR hvs hfy (by rw[ey];rfl) (hry _ (D1 _)) hk he (.inl ⟨_,O4 hyT'⟩) hsz hpos hby hbp hz hz1 hzl hay hin hout
def Oq (sz:Nat)(H:A1)(v:V)(ys':List V):Prop:=
 match v with
 | .sl xs _=>L8 xs ys'∧ys'.all (fun x=>x.cells.length==sz)=true
 | .own id lo n=>∃xs,H id=some (.arr sz xs)∧L8 (L1 xs lo n) ys'
 |_=>False
theorem Oq.inv {g:Gh} {w:World} {sz:Nat} {x:V} {v:Value} {ys':List V} (h:Oq sz H x ys') (hR:Rl g H w) (hv:VR g w v x):∃ys0,Qz H x=some ys0∧L8 ys0 ys'∧ys'.all (fun x=>x.cells.length==sz)=true:=by
 unfold Oq at h
 split at h
 ·grind [Qz]
 ·obtain⟨xs,hk,hl⟩:=h;obtain⟨b,p,h1,h2,h3,h4,h5,h6,h7,h8,h9,h10⟩:=Eb hR hk hv;refine⟨_,by grind [Qz,FB],hl,Ks fun i hi=>?_⟩
  rw[←hl.length]at hi
  rw[←(hl.at i).cells.length]
  rw[Bk h3 h4 h5]at hi
  rw[MV hi]
  grind
 grind
theorem Ts {s y:Operand}{sT yT e:TypeId}{id sz by_:Nat}{lo n:Int}{z:V}{xs ys:List V}(ho:o.op= .call {callee:=.builtin .append,args:= #[s,y],argTypes:= #[sT,yT]})
 (hs:ev fr s= .own id lo n) (hk:H id=some (.arr sz xs)) (hsrc:Oq sz H (ev fr y) ys) (he:Ev P sT=some e) (hyT:(Ev P yT).isSome=true) (hsz:DS P e=some sz) (hpos:0<sz) (hby:Nr P e=some by_) (hbp:0<by_)
 (hz:Hi P e=some z) (hz1:z.one=true) (hzl:z.cells.length=sz)
 (hin:lo+n+(ys.length:Nat)≤(xs.length:Nat)→K (.own id lo (n+(ys.length:Nat))) (upd H id (some (.arr sz (Ap xs (lo+n).toNat ys)))))
 (hout:(xs.length:Nat)<lo+n+(ys.length:Nat)→(n.toNat+ys.length)*by_≤140737488355328∧∀t k,H t=none→K (.own t 0 (n+(ys.length:Nat))) (upd H t (some (.arr sz (L1 xs lo n++ys++List.replicate k z))))):H5 P o fr H K:=by
 intro g w a hR hE;have hvs:=D8 hR hE s
 rw[hs]at hvs
 obtain⟨ys0,hy,hle,hay⟩:=hsrc.inv hR (D8 hR hE y);rw[O0 ho];simp only[V1,E9,I1];exact Mi hR hvs (D8 hR hE y) hk hy hle he hyT hsz hpos hby hbp hz hz1 hzl hay hin hout
theorem RX {s y:Operand} {sT yT e:TypeId} {sz by_:Nat} {z:V} {ys:List V} (ho:o.op= .call {callee:=.builtin .append,args:= #[s,y],argTypes:= #[sT,yT]})
 (hs:ev fr s= .sl [] .nil∨ev fr s= .sl [] .full) (hsrc:Oq sz H (ev fr y) ys) (he:Ev P sT=some e) (hyT:(Ev P yT).isSome=true) (hsz:DS P e=some sz) (hpos:0<sz) (hby:Nr P e=some by_) (hbp:0<by_)
 (hz:Hi P e=some z) (hz1:z.one=true) (hzl:z.cells.length=sz)
 (hbound:ys.length*by_≤140737488355328)
 (hout:∀t k,H t=none→K (.own t 0 (ys.length:Nat)) (upd H t (some (.arr sz (ys++List.replicate k z))))):H5 P o fr H K:=by
 intro g w a hR hE;obtain⟨g',st,hR',hn,hv⟩:=DL hR sz hs (D8 hR hE s);obtain⟨ys0,hy,hle,hay⟩:=hsrc.inv hR (D8 hR hE y);have hvy:=(D8 hR hE y).mono st;rw[O0 ho];simp only[V1,E9,I1]
 have hy':Qz (upd H g.nx (some (.arr sz []))) (ev fr y)=some ys0:=by
  unfold Qz at hy ⊢
  grind [FB,upd]
 refine G6.mono ?_ (Mi (K:=fun v H2=>∃H3,K v H3∧∀id b,H3 id=some b→H2 id=some b) hR' hv hvy (C8 _ _ _) hy' hle he hyT hsz hpos hby hbp hz hz1 hzl hay (fun hle'=>?_) (fun _=>⟨by simp_all,fun t k ht=>?_⟩))
 ·exact fun v w' ⟨g2,x,H2,s2,hR2,hv2,H3,hK,hle3⟩=>⟨g2,x,H3,st.trans s2,hR2.less hle3,hv2,hK⟩
 ·have hy0:ys=[]:=List.length_eq_zero_iff.1 (by simp_all);subst hy0;have:=hout g.nx 0 hn
  grind [upd,Ap]
 have hne:t≠g.nx:=fun e=>by grind [C8]
 rw[C1 _ _ hne]at ht
 have:=hout t k ht;rw[IR]
 grind [upd,L1]
def FF (s:ByteArray):List V:=s.data.toList.map fun b=>V.int .u8 (b.toNat:Int)
theorem Mb (s:ByteArray):(FF s).length=s.size:=by simp[FF]
theorem Zr (s:ByteArray){i:Nat}(hi:i<(FF s).length):∃b,s.data[i]? =some b∧(FF s).getD i .bad= .int .u8 (b.toNat:Int):=by
 have h:i<s.data.size:=by rw[Mb]at hi;exact hi
 simp_all[FF]
theorem OW (s:ByteArray):(FF s).all (fun x=>x.cells.length==1)=true:=by
 rw[DG]
 grind [FF,V.cells]
def Zs (s:ByteArray)(i _:Nat):Value:=.int .u8 ((s.data.getD i 0).toNat:Int)
theorem WJ (s:ByteArray)(g:Gh)(w:World):∀i j,i<(FF s).length→j<1→(Zs s i j).oneCell'=true∧VR g w (Zs s i j) (((FF s).getD i .bad).cells.getD j .bad):=by
 intro i j hi hj;obtain⟨b,h1,h2⟩:=Zr s hi
 have hj0:j=0:=by omega
 subst hj0;rw[h2]
 have:s.data.getD i 0=b:=by rw[L9,h1];rfl
 exact⟨rfl,by simp only[Zs,this];exact VR.int _ _⟩
theorem Tm (P:Program) (s:ByteArray) (w':World):(Builtin.firstCells 1 (FF s).length (.string s)).run P w'= .ok ((List.range ((FF s).length*1)).map fun k=>Zs s (k / 1) (k % 1)).toArray w':=by
 simp only[Builtin.firstCells,B9,Mb,Nat.mul_one,Nat.div_one]
 congr 1
 apply Array.ext';apply AH;intro i
 have hx:(s.extract 0 s.size).data=s.data:=by
  have:s.extract 0 s.size=s:=by
   simp_all
  rw[this]
 rw[hx]
 by_cases hi:i<s.data.size
 ·have hs:i<s.size:=hi
  simp_all[Zs]
 simp_all
theorem RW {s y:Operand}{b:ByteArray}{sT yT e:TypeId}{id by_:Nat}{lo n:Int}{z:V}{xs:List V}(ho:o.op= .call {callee:=.builtin .append,args:= #[s,y],argTypes:= #[sT,yT]})
 (hs:ev fr s= .own id lo n) (hk:H id=some (.arr 1 xs)) (hb:ev fr y= .str b) (he:Ev P sT=some e) (hyT:P.underlying yT=some .string) (hsz:DS P e=some 1) (hby:Nr P e=some by_) (hbp:0<by_)
 (hz:Hi P e=some z) (hz1:z.one=true) (hzl:z.cells.length=1)
 (hin:lo+n+((FF b).length:Nat)≤(xs.length:Nat)→K (.own id lo (n+((FF b).length:Nat))) (upd H id (some (.arr 1 (Ap xs (lo+n).toNat (FF b))))))
 (hout:(xs.length:Nat)<lo+n+((FF b).length:Nat)→(n.toNat+(FF b).length)*by_≤140737488355328∧∀t k,H t=none→K (.own t 0 (n+((FF b).length:Nat))) (upd H t (some (.arr 1 (L1 xs lo n++FF b++List.replicate k z))))):H5 P o fr H K:=by
 intro g w a hR hE;have hvs:=D8 hR hE s
 rw[hs]at hvs
 have hvy:=D8 hR hE y
 rw[hb]at hvy
 rw[O0 ho];simp only[V1,E9,I1];rw[hvy.str_inv];exact HC hR hvs (WJ b g w) (by rw[Mb];rfl) (fun w' _=>Tm P b w') hk he (.inr hyT) hsz (by decide) hby hbp hz hz1 hzl (OW b) hin hout
theorem QB {s y:Operand} {b:ByteArray} {sT yT e:TypeId} {by_:Nat} {z:V} (ho:o.op= .call {callee:=.builtin .append,args:= #[s,y],argTypes:= #[sT,yT]})
 (hs:ev fr s= .sl [] .nil∨ev fr s= .sl [] .full) (hb:ev fr y= .str b) (he:Ev P sT=some e) (hyT:P.underlying yT=some .string) (hsz:DS P e=some 1) (hby:Nr P e=some by_) (hbp:0<by_)
 (hz:Hi P e=some z) (hz1:z.one=true) (hzl:z.cells.length=1)
 (hbound:(FF b).length*by_≤140737488355328)
 (hout:∀t k,H t=none→K (.own t 0 ((FF b).length:Nat)) (upd H t (some (.arr 1 (FF b++List.replicate k z))))):H5 P o fr H K:=by
 intro g w a hR hE;obtain⟨g',st,hR',hn,hv⟩:=DL hR 1 hs (D8 hR hE s);have hvy:=D8 hR hE y
 rw[hb]at hvy
 rw[O0 ho];simp only[V1,E9,I1];rw[hvy.str_inv];refine G6.mono ?_ (HC (K:=fun v H2=>∃H3,K v H3∧∀id b,H3 id=some b→H2 id=some b) hR' hv (WJ b g' w) (by rw[Mb];rfl) (fun w' _=>Tm P b w') (C8 _ _ _) he (.inr hyT) hsz (by decide) hby hbp hz hz1 hzl (OW b) (fun hle'=>?_) (fun _=>⟨by simp_all,fun t k ht=>?_⟩))
 ·exact fun v w' ⟨g2,x,H2,s2,hR2,hv2,H3,hK,hle3⟩=>⟨g2,x,H3,st.trans s2,hR2.less hle3,hv2,hK⟩
 ·have hy0:FF b=[]:=List.length_eq_zero_iff.1 (by simp_all)
  rw[hy0]at hout ⊢
  have:=hout g.nx 0 hn
  grind [upd,Ap]
 have hne:t≠g.nx:=fun e=>by grind [C8]
 rw[C1 _ _ hne]at ht
 have:=hout t k ht;rw[IR]
 grind [upd,L1]
end
end Go.Ab
namespace Go.Ab
open Go.RowKit
variable [K9]
def JG (P:Program) (H:A1) (t:TypeId) (v:V) (lo hi mx:Option Int):Option V:=
 match Ev P t,v with
 | some e,.own id l n=>
  match DS P e,FB H id with
  | some sz,some (sz',xs)=>
   if sz=sz'∧0≤lo.getD 0∧lo.getD 0≤hi.getD n∧hi.getD n≤mx.getD ((xs.length:Nat) - l)∧mx.getD ((xs.length:Nat) - l)≤(xs.length:Nat) - l∧(mx.isSome=true→hi.isSome=true)then
    some (match mx with|none=>.own id (l+lo.getD 0) (hi.getD n - lo.getD 0)|some _=>.bad)else none
  |_,_=>none
 |_,_=>none
def Wo (P:Program)(H:A1)(t:TypeId)(v:V):Option V:=
 match Ev P t,v with
 |some _,.own id l _=>(FB H id).map fun q=>.int .i64 ((q.2.length:Nat) - l)
 |some _,.sl [] .nil=>some (.int .i64 0)
 |some _,.sl [] .full=>some (.int .i64 0)
 |_,_=>none
section
variable {P:Program}{o:Oper}{fr:Fr}{H:A1}{K:V→A1→Prop}
theorem Ei {z:V}{m i:Nat}(h:i<m):(List.replicate m z).getD i .bad=z:=by
 simp_all
theorem Lc {g:Gh} {w:World} (hR:Rl g H w) {vs vy:Value} {ty:TypeId} {cs:Array Bool} {sT yT e:TypeId} {k k':IntKind} {id sz by_:Nat} {lo n m:Int} {z:V} {xs:List V} (hvs:VR g w vs (.own id lo n)) (hvy:VR g w vy (.int k m))
 (hk:H id=some (.arr sz xs)) (he:Ev P sT=some e) (hyT:P.underlying yT=some (.int k')) (hsz:DS P e=some sz) (hpos:0<sz) (hby:Nr P e=some by_) (hbp:0<by_)
 (hz:Hi P e=some z) (hz1:z.one=true) (hzl:z.cells.length=sz) (hm0:0≤m)
 (hbound:(n.toNat+m.toNat)*by_≤140737488355328)
 (hin:lo+n+m≤(xs.length:Nat)→K (.own id lo (n+m)) (upd H id (some (.arr sz (Ap xs (lo+n).toNat (List.replicate m.toNat z))))))
 (hout:(xs.length:Nat)<lo+n+m→∀t k,H t=none→K (.own t 0 (n+m)) (upd H t (some (.arr sz (L1 xs lo n++List.replicate m.toNat z++List.replicate k z))))):
 G6 P (K6 g w K) ((builtin .append #[sT,yT] ty cs #[vs,vy]).run P w):=by
 have ey:=hvy.int_inv;have hu:=O4 he;obtain⟨zv,ez,hzv⟩:=CB hz
 have hzr:VR g w zv z:=by rw[ez];grind [Du]
 obtain⟨hzs',hzc⟩:=hzr.cells hz1
 have hzs:zv.cells.size=sz:=by rw[hzs',hzl]
 have hbytes:∀w,(typeInfo e).run P w= .ok ((P.info? e).getD default) w∧((P.info? e).getD default).bytes=by_:=by
  intro w
  unfold Nr at hby
  cases hi:P.info? e with
  |none=>simp_all
  |some i=>simp[hi]at hby;simp[typeInfo,hi,hby]
 have hbi:∀w,(typeInfo e).run P w= .ok ((P.info? e).getD default) w:=fun w=>(hbytes w).1;have hbb:=(hbytes w).2
 have hmn:m=(m.toNat:Nat):=by omega
 generalize hmm:m.toNat=mm at *
 subst hmn
 have hlr:(List.replicate mm z).length=mm:=by simp
 have hmb:mm*by_≤140737488355328:=Z6 (J3 _ (Nat.le_add_left _ _)) hbound;have hm1:mm≤mm*by_:=Ju _ hbp;have hw1:IntKind.i64.wrap (mm:Int)=mm:=wrap_small _ (by omega) (by omega)
 have hleny:∀i,i<(List.replicate mm z).length→((List.replicate mm z).getD i .bad).cells.length=sz:=fun i hi=>by rw[Ei (by omega)];exact hzl
 have hfy:∀i j,i<(List.replicate mm z).length→j<sz→(zv.cells.getD j undef).oneCell'=true∧VR g w (zv.cells.getD j undef) (((List.replicate mm z).getD i .bad).cells.getD j .bad):=fun i j hi hj=>by
  rw[Ei (by omega)];simp_all
 have hzero:((List.range (mm*sz)).map fun k=>zv.cells.getD (k % sz) undef).toArray=Builtin.zeroCells zv.cells mm:=by
  apply Fa
  ·grind [size_zeroCells]
  intro i h1 h2
  have hi:i<mm*sz:=by grind
  have hq:i % sz<zv.cells.size:=by rw[hzs];simp_all[DD]
  unfold Builtin.zeroCells
  simp_all
 have hn1:¬((mm:Int)<0):=by omega
 have hn2:¬(281474976710656<(mm:Int)*(by_:Int)):=by
  have:((mm*by_:Nat):Int)≤140737488355328:=by omega
  rw[Int.natCast_mul]at this
  omega
 have happ:∀w':World,(if mm*sz=0 then pure #[]else(do pure (Builtin.zeroCells (←zeroValue e).cells mm):Sem (Array Value))).run P w'= .ok ((List.range (mm*sz)).map fun k=>zv.cells.getD (k % sz) undef).toArray w':=by
  intro w'
  by_cases h0:mm*sz=0
  ·rw[A2 h0,h0];rfl
  simp_all
 obtain⟨b,p,h1,h2,h3,h4,h5,h6,h7,h8,h9,h10⟩:=Eb hR hk hvs;simp only[builtin,B5,ey]
 by_cases hc:lo+n+(mm:Int)≤(xs.length:Nat)
 ·obtain⟨base,cap,w',q1,q2,q3,q4,q5⟩:=Ae7 (P:=P) (K:=K) (ys:=List.replicate mm z) (fy:=fun _ j=>zv.cells.getD j undef) hR hk hvs hpos hleny hfy (by rw[hlr];exact hc) (by rw[hlr];exact hin hc)
  rw[hlr]at q2 q4 q5
  rw[q1]
  have hrun:(Builtin.append_ #[sT,yT] ty #[.slice base n.toNat cap,.int k mm]).run P w= .ok (.slice base (n.toNat+mm) cap) w':=by
   have ha:=happ w
   simp only[U8,B5,hzv,B9,B2]at ha
   simp only[Builtin.append_,B5,run_underlying hu,B2,N6 hsz,run_underlying hyT,B9,U8,O2,asInt,asIntOf,hw1,hbi,hbb,
    X9,Q8,F6,E3,Q5,C7,gt_iff_lt,A3 hn1,Int.reducePow,A3 hn2,N3,A2 q2,hzv,ha]
   cases base with
   |none=>simp_all
   |some a=>simp_all
  rw[hrun]
  simp_all[G6]
 have hout:=hout (by omega)
 have hall:(L1 xs lo n).all (fun x=>x.cells.length==sz)=true:=Ks fun i hi=>by
  rw[Bk h3 h4 h5]at hi
  rw[MV hi];grind
 obtain⟨base,cap,fs,es,hfs,hrs⟩:=HM P hR (x:=.own id lo n) (xs:=L1 xs lo n) (by grind [Qz,FB]) hvs hall;have hrs:=hrs _ (D1 _);have hsl:=Bk h3 h4 h5
 have hcap:cap=xs.length - lo.toNat:=by rw[h2]at es;simp_all
 have hc':¬((L1 xs lo n).length+mm≤cap):=by omega
 have hnf:¬(2 ^ 48<Builtin.nextslicecap ((L1 xs lo n).length+mm) cap*by_):=by
  have:=growslice_fits (GX hc') (by rw[hsl];exact hbound);omega
 have hdr:∀b o,w.drew.cell? ⟨b,o,none⟩=w.cell? ⟨b,o,none⟩:=fun _ _=>rfl;generalize hG:grownCap w ((L1 xs lo n).length+mm) cap e=G
 have hGe:(L1 xs lo n).length+mm≤G:=by rw[←hG];grind [grownCap_ge]
 have hn63':¬(IntKind.i64.max<(((L1 xs lo n).length+mm:Nat):Int)∧(True∨by_=0)):=by
  rintro⟨h,_⟩
  have h1':((L1 xs lo n).length+mm)≤(n.toNat+mm)*by_:=by rw[hsl];simp_all[Ju]
  have h2':(9223372036854775807:Int)<(((L1 xs lo n).length+mm:Nat):Int):=h;omega
 have hrun:(Builtin.append_ #[sT,yT] ty #[.slice base (L1 xs lo n).length cap,.int k mm]).run P w=
  .ok (.slice (some ⟨w.heap.size,0,none⟩) ((L1 xs lo n).length+mm) G)
   (w.drew.alloc (.cells (((List.range ((L1 xs lo n).length*sz)).map fun k=>fs (k / sz) (k % sz)).toArray++((List.range (mm*sz)).map fun k=>zv.cells.getD (k % sz) undef).toArray++
    Builtin.zeroCells zv.cells (G - ((L1 xs lo n).length+mm))) e)):=by
  have hGd:(Question.appendCap ((L1 xs lo n).length+mm) cap e).cut (w.tape w.drawn (.appendCap ((L1 xs lo n).length+mm) cap e))=G:=hG;have hf:(Question.appendCap ((L1 xs lo n).length+mm) cap e).forced=false:=rfl;have hrs':=hrs w.drew hdr
  rw[es]at hrs'
  have ha:=happ w.drew
  simp only[U8,B5,hzv,B9,B2]at ha
  simp only[Builtin.append_,B5,run_underlying hu,B2,N6 hsz,run_underlying hyT,B9,U8,hbi,hbb,O2,asInt,asIntOf,hw1,
   X9,Q8,F6,E3,Q5,C7,gt_iff_lt,true_or,A3 hn1,Int.reducePow,A3 hn2,N3,A3 hc',A3 hnf,run_choose,hf,hGd,GS,run_askRoom,hrs',ha,hzv,newRow,run_newObj,
   DC,GW]
  rw[A3 (by simp_all)]
 rw[es,hrun];simp only[B2,B9,G6];have:=Xw (K:=K) (e:=e) (ys:=List.replicate mm z) (fs:=fs) (fy:=fun _ j=>zv.cells.getD j undef) hR hpos hzr hz1 hzl (Fy hall) hleny hfs hfy (by rw[hlr];exact hGe) (m:=n+(mm:Int)) (by rw[hlr];omega) hout
 rw[hlr]at this
 exact this
theorem RV {s y:Operand}{sT yT e:TypeId}{k k':IntKind}{id sz by_:Nat}{lo n m:Int}{z:V}{xs:List V}(ho:o.op= .call {callee:=.builtin .append,args:= #[s,y],argTypes:= #[sT,yT]})
 (hs:ev fr s= .own id lo n) (hy:ev fr y= .int k m) (hk:H id=some (.arr sz xs)) (he:Ev P sT=some e) (hyT:P.underlying yT=some (.int k')) (hsz:DS P e=some sz) (hpos:0<sz) (hby:Nr P e=some by_) (hbp:0<by_)
 (hz:Hi P e=some z) (hz1:z.one=true) (hzl:z.cells.length=sz) (hm0:0≤m)
 (hbound:(n.toNat+m.toNat)*by_≤140737488355328)
 (hin:lo+n+m≤(xs.length:Nat)→K (.own id lo (n+m)) (upd H id (some (.arr sz (Ap xs (lo+n).toNat (List.replicate m.toNat z))))))
 (hout:(xs.length:Nat)<lo+n+m→∀t k,H t=none→K (.own t 0 (n+m)) (upd H t (some (.arr sz (L1 xs lo n++List.replicate m.toNat z++List.replicate k z))))):H5 P o fr H K:=by
 intro g w a hR hE;have hvs:=D8 hR hE s;have hvy:=D8 hR hE y
 rw[hs]at hvs
 rw[hy]at hvy
 rw[O0 ho]
 grind [Lc]
theorem QA {s y:Operand} {sT yT e:TypeId} {k k':IntKind} {sz by_:Nat} {m:Int} {z:V} (ho:o.op= .call {callee:=.builtin .append,args:= #[s,y],argTypes:= #[sT,yT]})
 (hs:ev fr s= .sl [] .nil∨ev fr s= .sl [] .full) (hy:ev fr y= .int k m) (he:Ev P sT=some e) (hyT:P.underlying yT=some (.int k')) (hsz:DS P e=some sz) (hpos:0<sz) (hby:Nr P e=some by_) (hbp:0<by_)
 (hz:Hi P e=some z) (hz1:z.one=true) (hzl:z.cells.length=sz) (hm0:0≤m)
 (hbound:m.toNat*by_≤140737488355328)
 (hout:∀t k,H t=none→K (.own t 0 m) (upd H t (some (.arr sz (List.replicate m.toNat z++List.replicate k z))))):H5 P o fr H K:=by
 intro g w a hR hE;obtain⟨g',st,hR',hn,hv⟩:=DL hR sz hs (D8 hR hE s);have hvy:=(D8 hR hE y).mono st
 rw[hy]at hvy
 rw[O0 ho];simp only[V1,E9,I1];refine G6.mono ?_ (Lc (K:=fun v H2=>∃H3,K v H3∧∀id b,H3 id=some b→H2 id=some b) hR' hv hvy (C8 _ _ _) he hyT hsz hpos hby hbp hz hz1 hzl hm0 (by simp_all) (fun hle'=>?_) (fun _ t k ht=>?_))
 ·exact fun v w' ⟨g2,x,H2,s2,hR2,hv2,H3,hK,hle3⟩=>⟨g2,x,H3,st.trans s2,hR2.less hle3,hv2,hK⟩
 ·have hm:m=0:=by grind
  grind [upd,Ap]
 have hne:t≠g.nx:=fun e=>by grind [C8]
 rw[C1 _ _ hne]at ht
 have:=hout t k ht;rw[IR]
 grind [upd,L1]
theorem Tr {t:TypeId} {y:Operand} {lo hi mx:Option Operand} {il ih im:Option Int} {x:V} (ho:o.op= .slice t y lo hi mx) (hlo:BM (lo.map (ev fr))=some il) (hhi:BM (hi.map (ev fr))=some ih)
 (hmx:BM (mx.map (ev fr))=some im) (hl:JG P H t (ev fr y) il ih im=some x) (h:K x H):H5 P o fr H K:=by
 intro g w a hR hE;have hv:=D8 hR hE y;have hrl:=EG hR hE hlo;have hrh:=EG hR hE hhi;have hrm:=EG hR hE hmx
 have hb:∀(isSlice:Bool) (len cap:Nat),0≤il.getD 0→il.getD 0≤ih.getD len→ih.getD len≤im.getD cap→im.getD cap≤cap→(im.isSome=true→ih.isSome=true)→
  (Instr.sliceBounds isSlice len cap (lo.map a.eval) (hi.map a.eval) (mx.map a.eval)).run P w= .ok ((il.getD 0).toNat,(ih.getD len).toNat,(im.getD cap).toNat) w:=by
  grind [Pi]
 unfold JG at hl
 split at hl
 ·rename_i e id l n hse he;have hu:=O4 hse
  split at hl
  ·rename_i sz sz' xs hs hx
   split at hl
   ·rename_i hc;obtain⟨c0,c1,c2,c3,c4,c5⟩:=hc;subst c0
    rw[he]at hv
    have hk:=EN hx;obtain⟨b,p,h1,h2,h3,h4,h5,h6,h7,h8,h9,h10⟩:=Eb hR hk hv
    have ecap:(((xs.length - l.toNat:Nat):Nat):Int)=(xs.length:Nat) - l:=by omega
    have en:((n.toNat:Nat):Int)=n:=by omega
    have hb':=hb true n.toNat (xs.length - l.toNat) c1 (by rw[en];exact c2) (by rw[en,ecap];exact c3) (by rw[ecap];exact c4) c5
    rw[en,ecap]at hb'
    unfold execOp;rw[ho];simp only[h2,Instr.sliceAt,Instr.slice,B5,run_underlying hu,B2,hb',N6 hs,B9,G6]
    cases hmi:im with
    |some m=>
     rw[hmi]at hl
     simp only[D9]at hl
     subst hl;exact K6.here hR (.bad _) h
    | none=>
     rw[hmi]at hl
     simp only[D9]at hl
     subst hl;refine K6.here hR ?_ h
     simp only[hmi,Dj]at c3 c4
     simp only[Dj]
     have hown:=VR.own (g:=g) (w:=w) (id:=id) (b:=b) (lo:=l+il.getD 0) (n:=ih.getD n - il.getD 0) (p:=if((xs.length:Nat) - l:Int).toNat=(il.getD 0).toNat then p else p.map fun q=>q.add ((il.getD 0).toNat*sz)) h1 (by omega) (by omega) (by rw[h7];omega)
      (fun hlt=>by
       rw[h7]at hlt
       rw[A3 (by omega),h8 (by omega),h6];simp only[H8,Y3]
       rw[show(l+il.getD 0).toNat=l.toNat+(il.getD 0).toNat by omega,G2,Bo])
     rw[h7]at hown
     have e1:(ih.getD n - il.getD 0).toNat=(ih.getD n).toNat - (il.getD 0).toNat:=by omega
     have e2:xs.length - (l+il.getD 0).toNat=((xs.length:Nat) - l:Int).toNat - (il.getD 0).toNat:=by omega
     rw[e1,e2]at hown
     omega
   cases hl
  cases hl
 cases hl
theorem ZB {y:Operand} {t:TypeId} {x:V} (ho:o.op= .call {callee:=.builtin .cap,args:= #[y],argTypes:= #[t]}) (hl:Wo P H t (ev fr y)=some x) (h:K x H):H5 P o fr H K:=by
 intro g w a hR hE;have hv:=D8 hR hE y;rw[O0 ho];simp only[builtin,V1,E9,I1,B5]
 unfold Wo at hl
 split at hl
 ·rename_i e id l n hse he
  rw[he]at hv
  cases hx:FB H id with
  |none=>rw[hx]at hl;cases hl
  |some q=>
   obtain⟨sz,xs⟩:=q
   rw[hx]at hl
   simp only[H8,D9]at hl
   subst hl;obtain⟨b,p,h1,h2,h3,h4,h5,h6,h7,h8,h9,h10⟩:=Eb hR (EN hx) hv;have hu:=O4 hse;simp[Builtin.cap_,run_underlying hu,goInt,h2];rw[show(((xs.length - l.toNat:Nat):Nat):Int)=(xs.length:Nat) - l by omega];exact K6.here hR (.int _ _) h
 ·rename_i e hse he
  rw[he]at hv
  cases hl;have hu:=O4 hse
  generalize a.eval y=v at hv
  cases hv with
  |sl0 ht=>simp[Builtin.cap_,run_underlying hu,goInt];exact K6.here hR (.int _ _) h
  |sle h=>rcases h with h|⟨h,_⟩<;>cases h
  |sl vs hn hc hz hf hw h1 hv ht=>exact ht.elim
 ·rename_i e hse he
  rw[he]at hv
  cases hl;have hu:=O4 hse
  generalize a.eval y=v at hv
  cases hv with
  |sl0 ht=>simp[Builtin.cap_,run_underlying hu,goInt];exact K6.here hR (.int _ _) h
  |sle hh=>
   rcases hh with hh|⟨_,hh⟩
   ·cases hh
   subst hh;simp[Builtin.cap_,run_underlying hu,goInt];exact K6.here hR (.int _ _) h
  |sl vs hn hc hz hf hw h1 hv ht=>
   rename_i b o sz n cap
   have e1:n=0:=by simp_all
   have e2:cap=n:=ht;subst e2;subst e1;simp[Builtin.cap_,run_underlying hu,goInt];exact K6.here hR (.int _ _) h
 cases hl
theorem RC {id sz m:Nat} {xs ys:List V} {g:Gh} {H:A1} {w:World} {b:Nat} {p:Option Addr} {lo:Int} (hR:Rl g H w) (hk:H id=some (.arr sz xs)) (h1:g.mu id=some b) (h6:(g.ow id).sz=sz) (h8:lo<(xs.length:Nat)→p=some ⟨b,(g.ow id).o+lo.toNat*sz,none⟩)
 (h9:∀i,i<xs.length→(xs.getD i .bad).cells.length=sz)
 (h10:xs.length=0∨∃c T,g.base≤b∧w.heap[b]? =some (.cells c T (0,0))∧(g.ow id).o+xs.length*sz≤c.size∧
  (∀i j,i<xs.length→j<sz→(c.getD ((g.ow id).o+i*sz+j) undef).oneCell'=true∧VR g w (c.getD ((g.ow id).o+i*sz+j) undef) ((xs.getD i .bad).cells.getD j .bad))∧
  (∀o,(g.ow id).o≤o→¬g.fz b o)∧g.at H id=some b)
 (hpos:0<sz) (hm:ys.length=m) (hin:lo.toNat+m≤xs.length) (hleny:∀i,i<ys.length→(ys.getD i .bad).cells.length=sz) (fy:Nat→Nat→Value)
 (hfy:∀i j,i<ys.length→j<sz→(fy i j).oneCell'=true∧VR g w (fy i j) ((ys.getD i .bad).cells.getD j .bad)):
 ∃w',(match p with|some a=>(storeCells a ((List.range (m*sz)).map fun k=>fy (k / sz) (k % sz))).run P w|none=>.ok () w)= .ok () w'∧
  U1 g w g w'∧Rl g (upd H id (some (.arr sz (Ap xs lo.toNat ys)))) w':=by
 by_cases hm0:m=0
 ·subst hm0;have hy0:ys=[]:=List.length_eq_zero_iff.1 hm;subst hy0;refine⟨w,by cases p<;>simp[storeCells],U1.refl _ _,?_⟩
  have e:Ap xs lo.toNat []=xs:=by simp[Ap]
  have:upd H id (some (.arr sz xs))=H:=by
   funext x
   simp_all[upd]
  rw[e,this];exact hR
 have hp:=h8 (by omega);subst hp
 rcases h10 with h10|⟨c,T,k1,k2,k3,k4,k5,k6⟩
 ·omega
 obtain⟨C,hst,s,r⟩:=Xg P hR (i:=lo.toNat) (m:=m) (ys:=ys) hpos hk h1 h6 (by omega) (by omega) hm k2 k3 k4 h9 hleny fy hfy
 simp_all
theorem XI {s y:Operand} {sT yT e:TypeId} {id sz:Nat} {lo n:Int} {xs ys:List V} (ho:o.op= .call {callee:=.builtin .copy,args:= #[s,y],argTypes:= #[sT,yT]})
 (hs:ev fr s= .own id lo n) (hk:H id=some (.arr sz xs)) (hsrc:Oq sz H (ev fr y) ys) (he:Ev P sT=some e) (hsz:DS P e=some sz) (hpos:0<sz)
 (h:K (.int .i64 (if n<(ys.length:Nat)then n else(ys.length:Nat))) (upd H id (some (.arr sz (Ap xs lo.toNat (ys.take n.toNat)))))):H5 P o fr H K:=by
 intro g w a hR hE;have hvs:=D8 hR hE s;have hvy:=D8 hR hE y
 rw[hs]at hvs
 obtain⟨ys0,hy,hle,hay⟩:=hsrc.inv hR hvy;obtain⟨ybase,ycap,fy,ey,hfy0,hry⟩:=HM P hR hy hvy (hle.sz hay)
 rw[hle.length]at ey hfy0 hry
 have hfy:∀i j,i<ys.length→j<sz→(fy i j).oneCell'=true∧VR g w (fy i j) ((ys.getD i .bad).cells.getD j .bad):=fun i j hi hj=>⟨(hfy0 i j hi hj).1,(hfy0 i j hi hj).2.le ((hle.at i).cells.at j)⟩;have hleny:=Fy hay;have hu:=O4 he;obtain⟨b,p,h1,h2,h3,h4,h5,h6,h7,h8,h9,h10⟩:=Eb hR hk hvs;rw[O0 ho];simp only[builtin,V1,E9,I1,B5];generalize hm:Nat.min ys.length n.toNat=m;have hm':m=min ys.length n.toNat:=hm.symm
 have hmi:(m:Int)=if n<(ys.length:Nat)then n else(ys.length:Nat):=by split<;>omega
 have htk:ys.take n.toNat=ys.take m:=by
  grind
 rw[htk,←hmi]at h
 have hlt:(ys.take m).length=m:=by simp;omega
 have hgt:∀i,i<m→(ys.take m).getD i .bad=ys.getD i .bad:=fun i hi=>by
  grind
 have hfc:=hry m (by omega) w fun _ _=>rfl;obtain⟨w',hst,hs',hr'⟩:=RC (P:=P) (m:=m) (ys:=ys.take m) hR hk h1 h6 h8 h9 h10 hpos hlt (by omega) (fun i hi=>by rw[hlt]at hi;rw[hgt i hi];grind) fy (fun i j hi hj=>by rw[hlt]at hi;rw[hgt i hi];grind)
 rw[ey]at hfc
 have hrun:(Builtin.copy_ #[sT,yT] o.type #[a.eval s,a.eval y]).run P w= .ok (.int .i64 m) w':=by
  rw[ey,h2]
  simp only[Builtin.copy_,B5,run_underlying hu,B2,N6 hsz,B9,Builtin.lenOf,O2,
   X9,Q8,hm,hfc,goInt]
  grind [Sem.run_bind,Sem.run_pure,Result.andThen_ok]
 rw[hrun];simp only[B2,B9,G6];exact⟨g,.int .i64 m,_,hs',hr',.int _ _,h⟩
theorem Vp {s:Operand} {sT e:TypeId} {id sz:Nat} {lo n:Int} {z:V} {xs:List V} (ho:o.op= .call {callee:=.builtin .clear,args:= #[s],argTypes:= #[sT]})
 (hs:ev fr s= .own id lo n) (hk:H id=some (.arr sz xs)) (he:Ev P sT=some e) (hsz:DS P e=some sz) (hpos:0<sz) (hz:Hi P e=some z) (hz1:z.one=true) (hzl:z.cells.length=sz)
 (h:K (.tup []) (upd H id (some (.arr sz (Ap xs lo.toNat (List.replicate n.toNat z)))))):H5 P o fr H K:=by
 intro g w a hR hE;have hvs:=D8 hR hE s
 rw[hs]at hvs
 have hu:=O4 he;obtain⟨zv,ez,hzv⟩:=CB hz
 have hzr:VR g w zv z:=by rw[ez];grind [Du]
 obtain⟨hzs',hzc⟩:=hzr.cells hz1
 have hzs:zv.cells.size=sz:=by rw[hzs',hzl]
 obtain⟨b,p,h1,h2,h3,h4,h5,h6,h7,h8,h9,h10⟩:=Eb hR hk hvs
 have hlr:(List.replicate n.toNat z).length=n.toNat:=by simp
 have hzero:(Builtin.zeroCells zv.cells n.toNat).toList=(List.range (n.toNat*sz)).map fun k=>zv.cells.getD (k % sz) undef:=by
  unfold Builtin.zeroCells
  simp_all[DD]
 obtain⟨w',hst,hs',hr'⟩:=RC (P:=P) (m:=n.toNat) (ys:=List.replicate n.toNat z) hR hk h1 h6 h8 h9 h10 hpos hlr (by omega) (fun i hi=>by rw[Ei (by omega)];exact hzl)
  (fun _ j=>zv.cells.getD j undef) (fun i j hi hj=>by rw[Ei (by omega)];simp_all)
 rw[O0 ho];simp only[builtin,V1,E9,I1,B5]
 have hrun:(Builtin.clear_ #[sT] o.type #[a.eval s]).run P w= .ok (.tuple #[]) w':=by
  rw[h2];simp only[Builtin.clear_,B5,run_underlying hu,B2,O2,X9]
  generalize hb:p=base at hst ⊢
  cases base with
  |none=>simp_all
  | some q=>
   simp only at hst
   cases hn:n.toNat with
   |zero=>rw[hn]at hst;simp[storeCells]at hst;subst hst;rfl
   |succ k=>
    rw[hn]at hst hzero
    simp_all
 rw[hrun];simp only[B2,B9,G6];exact⟨g,.tup [],_,hs',hr',.und _ _,h⟩
end
end Go.Ab
namespace Go.Ab
open Go.RowKit
variable [K9]
def Yf (v:V):Option Prop:=
 match v with
 | .sl xs _=>some (xs=[])
 | .own _ _ n=>some (n=0)
 |_=>none
theorem ZZ {g:Gh} {w:World} {x:V} {v:Value} {p:Prop} (h:Yf x=some p) (hv:VR g w v x):∃a n c,v= .slice a n c∧(a.isNone=true→p):=by
 unfold Yf at h
 split at h
 ·cases h
  cases hv with
  |sl0 ht=>simp_all
  |sle ht=>simp_all
  |sl vs hn hc hz hf hw h1 hv ht=>simp_all
 ·cases h
  cases hv with
  |own hm h0 h1 h2 hp=>
   grind
 cases h
def Xp :BinOp→Option Bool
 | .eql=>some true
 | .neq=>some false
 |_=>none
section
variable {P:Program}{o:Oper}{fr:Fr}{H:A1}{K:V→A1→Prop}
theorem Ah5 {op:BinOp} {t ty e:TypeId} {y z:Operand} {p:Prop} {q:Bool} (ho:o.op= .binOp op t y z ty) (hq:Xp op=some q) (hu:Ev P t=some e) (hy:Yf (ev fr y)=some p) (hz:ev fr z= .sl [] .nil)
 (h1:p→K (.bool q) H) (h0:K (.bool (!q)) H):H5 P o fr H K:=by
 intro g w a hR hE;have hv:=D8 hR hE y;have hv':=D8 hR hE z
 rw[hz]at hv'
 obtain⟨p',n,c,ea,hp⟩:=ZZ hy hv
 have ez:a.eval z= .slice none 0 0:=by
  generalize a.eval z=v at hv'
  cases hv' with
  |sl0 ht=>rfl
  |sle h=>rcases h with h|⟨h,_⟩<;>cases h
  |sl vs hn hc hz hf hw h1 hv ht=>exact ht.elim
 have hu':=O4 hu;unfold execOp;rw[ho];simp only[B5,ea,ez]
 have hg:(eqGuard op t y z (.slice p' n c) (.slice none 0 0)).run P w= .ok () w:=by
  cases op<;>simp[eqGuard]
 rw[hg];simp only[B2]
 have hb:(binOp op t (.slice p' n c) (.slice none 0 0)).run P w= .ok (.bool (if p'.isNone then q else !q)) w:=by
  cases op<;>simp only[Xp,D9,reduceCtorEq]at hq<;>subst hq
  ·rw[Lib.run_eql_slice_nil w t e p' n c 0 0 hu'];cases p'<;>rfl
  grind [run_neq_slice_nil_any]
 rw[hb];simp only[B2,B9,G6]
 cases hpn:p'.isNone with
 |true=>exact K6.here hR (.bool _) (h1 (hp hpn))
 |false=>exact K6.here hR (.bool _) h0
end
end Go.Ab
namespace Go.Ab
open Go.MapKept
structure KG (P:Program) (kt:TypeId) (G:Value→Prop):Prop where
 check:∀(w:World) (em:Bool) {v:Value},G v→(Instr.checkKey em 10000 kt v).run P w= .ok () w
 find:∀(w:World) {x:Value},G x→∀es:List MapEntry,(∀e∈es,G e.key)→
  ((Instr.findKey kt x es).run P w= .ok none w∧∀e∈es,e.key≠x)∨∃j e,(Instr.findKey kt x es).run P w= .ok (some (j,e.val)) w∧es[j]? =some e∧e.key=x
 stays:∀(w:World) {v:Value},G v→(Instr.keyThatStays v v).run P w= .ok v w
theorem KG.scalar {P:Program} {kt:TypeId} {d:TypeDesc} (hd:P.underlying kt=some d):KG P kt (IsKey d) where
 check:=fun w em v h=>run_checkKey hd h em 9999
 find:=fun w x hx es h=>by
  rcases findNow_spec hx es 0 h with⟨h1,h2⟩|⟨j,e,h1,h2,h3⟩
  ·grind [run_findKey]
  exact .inr ⟨j,e,by rw[run_findKey hd h1,U9],h2,h3⟩
 stays:=fun w v h=>run_keyThatStays h
section
variable {P:Program}{kt el n:Nat}{k:IntKind}
theorem Nb (w:World)(he:P.underlying el=some (.int k)){xs:List Int}{i:Nat}(hi:i<xs.length):(part el (xs.map (Value.int k)).toArray i).run P w= .ok (.int k (xs[i])) w:=
 run_part_plain w (by simp[Program.plainKey,he]) (by simp[hi])
theorem My (w:World) (he:P.underlying el=some (.int k)) (d:Nat) {xs ys:List Int} (hl:ys.length=xs.length):∀is:List Nat,(∀i∈is,i<xs.length)→
 ∃r:Bool,(Op.eqItems (d+1) el 1 (xs.map (Value.int k)).toArray (ys.map (Value.int k)).toArray is).run P w= .ok r w∧(r=true↔∀i∈is,xs[i]? =ys[i]?)
 |[],_=>⟨true,by simp[Op.eqItems],by simp⟩
 |i::is,h=>by
  have hi:=h i (.head _)
  have hj:i<ys.length:=by omega
  obtain⟨r,hr,hiff⟩:=My w he d hl is fun j hj=>h j (.tail _ hj);have p1:=Nb w he hi;have p2:=Nb (xs:=ys) w he hj;simp only[Op.eqItems,Nat.mul_one,B5,p1,p2,B2,run_equalIn_int w d el k k _ _ he];have e1:xs[i]? =some xs[i]:=E2 hi;have e2:ys[i]? =some ys[i]:=E2 hj
  by_cases hx:xs[i]=ys[i]
  ·simp_all
  simp_all
def LQ (k:IntKind)(n:Nat)(v:Value):Prop:=∃l:List Int,l.length=n∧v= .agg (l.map (Value.int k)).toArray
theorem Wf (w:World) (hd:P.underlying kt=some (.array n el)) (he:P.underlying el=some (.int k)) (hc:P.cellsOf el=1) {a b:Value} (ha:LQ k n a) (hb:LQ k n b):
 ∃r:Bool,(Op.equal kt a b).run P w= .ok r w∧(r=true↔b=a):=by
 obtain⟨xs,hx,rfl⟩:=ha;obtain⟨ys,hy,rfl⟩:=hb;obtain⟨i,hi⟩:=info_of_underlying he;obtain⟨r,hr,hiff⟩:=My w he 9998 (xs:=xs) (ys:=ys) (by omega) (List.range n) (by simp_all);refine⟨r,?_,?_⟩
 ·have:=run_equalIn_array w 9999 (xs.map (Value.int k)).toArray (ys.map (Value.int k)).toArray hd hi
  rw[hc]at this
  exact this.trans hr
 rw[hiff]
 constructor
 ·intro h
  have:xs=ys:=by
   apply AH
   grind
  rw[this]
 intro h
 have h2:(ys.map (Value.int k))=xs.map (Value.int k):=by grind
 have:ys=xs:=by
  apply AH;intro j;have:=O8 (fun l=>l[j]?) h2
  grind
 simp_all
theorem IL (w:World) (hd:P.underlying kt=some (.array n el)) (he:P.underlying el=some (.int k)) (hc:P.cellsOf el=1) {x:Value} (hx:LQ k n x):∀(es:List MapEntry) (i:Nat),(∀e∈es,LQ k n e.key)→
 ((Instr.findAsking kt x es i).run P w= .ok none w∧∀e∈es,e.key≠x)∨∃j e,(Instr.findAsking kt x es i).run P w= .ok (some (i+j,e.val)) w∧es[j]? =some e∧e.key=x
 |[],i,_=>.inl ⟨by simp[Instr.findAsking],by simp⟩
 | e::es,i,h=>by
  obtain⟨r,hr,hiff⟩:=Wf w hd he hc hx (h e (.head _))
  cases r with
  |true=>exact .inr ⟨0,e,by simp[Instr.findAsking,hr],rfl,hiff.1 rfl⟩
  | false=>
   have hne:e.key≠x:=fun q=>by have:=hiff.2 q;cases this
   rcases IL w hd he hc hx es (i+1) (fun y hy=>h y (.tail _ hy))with⟨h1,h2⟩|⟨j,e',h1,h2,h3⟩
   ·refine .inl ⟨by simp[Instr.findAsking,hr,h1],fun y hy=>?_⟩
    grind
   exact .inr ⟨j+1,e',by simp[Instr.findAsking,hr,h1,Bo,IS 1 j],by grind,h3⟩
theorem KG.ints (hd:P.underlying kt=some (.array n el)) (he:P.underlying el=some (.int k)) (hc:P.cellsOf el=1):KG P kt (LQ k n) where
 check:=fun w em v hv=>by
  obtain⟨xs,hx,rfl⟩:=hv;obtain⟨i,hi⟩:=info_of_underlying he;rw[Instr.checkKey];simp only[B5,run_underlying hd,B2];simp only[Std.Legacy.Range.forIn_eq_forIn_range',Std.Legacy.Range.size,Nat.sub_zero,Nat.add_one_sub_one,Nat.div_one]
  have hj:∀j∈List.range' 0 n,j<n:=by simp_all
  generalize List.range' 0 n=is at hj
  induction is with
  |nil=>simp
  |cons j is ih=>
   have p1:=Nb (P:=P) (xs:=xs) w he (i:=j) (by have:=hj j (by simp);omega);have p2:(Instr.checkKey em 9999 el (.int k (xs[j]'(by have:=hj j (by simp);omega)))).run P w= .ok () w:=run_checkKey (k:=.int k (xs[j]'(by have:=hj j (by simp);omega))) he rfl em 9998
   simp_all[run_sizeOf]
 find:=fun w x hx es h=>by
  rw[run_findKey_eq w (k:=kt) (by simp[hd])]
  grind [IL]
 stays:=fun w v hv=>by
  obtain⟨xs,_,rfl⟩:=hv
  have e:∀l:List Int,((l.map (Value.int k)).zip (l.map (Value.int k))).all (fun x=>Instr.sameBits 9999 x.1 x.2)=true:=by
   intro l
   induction l with
   |nil=>rfl
   |cons a l ih=>simp only[E9,List.zip_cons_cons,List.all_cons,ih,Bool.and_true];simp[Instr.sameBits]
  have h2:Instr.sameBits 10000 (.agg (xs.map (Value.int k)).toArray) (.agg (xs.map (Value.int k)).toArray)=true:=by
   rw[Instr.sameBits]
   grind
  simp[Instr.keyThatStays,h2]
end
section
variable {P:Program}{kt n:Nat}{k:IntKind}
structure FldsInt (P:Program) (k:IntKind) (n:Nat) (fs:List Field):Prop where
 all:∀f∈fs,f.name≠ "_" ∧P.underlying f.type=some (.int k)∧f.offset<n
 cov:∀i,i<n→∃f∈fs,f.offset=i
end
end Go.Ab
