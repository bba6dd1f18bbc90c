/- AbK2 AbB16 AbB20 AbB12 AbS3 AbC2 AbC4 AbF1 AbF2 AbF3 AbB15 AbR1 AbR2 AbC5 AbS5 AbB13 AbB21 AbB19 -/
import Derived.Test.YtanbgjgaafeplaaGreatDoorB08
import Derived.Shelf.SlSortCmp.NoneTotal
set_option linter.all false
open List (append_assoc)
open Nat (add_mul)
open Go.Ab.Ar (len_eq lst lst_eq ofs)
namespace Go.Ab
open Go.RowKit Go.Sort Go.Shelf Go.Proofs
structure PN (P:Program) (f:FuncId) (k:Nat):Prop where
 zero:∀p cap fv w,Calls P f #[.slice p 0 cap,fv] w fun e w'=>e= .returned (.tuple #[])∧w'=w
 pos:∀(α:Type) [Inhabited α] (enc:α→List Value) (_:∀x,(enc x).length=k) (_:∀x,∀v∈enc x,v.oneCell'=true) (cf:α→α→Int) (_:SWO (ltOf cf)) (g:Nat) (cb:Array Value) (blk off cap:Nat) (d:Array α) (w:World)
  (_:∀args w,(callFunc g args).run P w= .ok (.enter g args) w) (_:CmpLays P g cb enc k cf blk off d.size w) (_:HoldsK enc k w blk off d) (_:blk<w.heap.size) (_:d.size<4611686018427387904) (_:∀x y,(ltOf cf) x y=false→(ltOf cf) y x=false→x=y),
  Calls P f #[.slice (some ⟨blk,off,none⟩) d.size cap,.func (.func g) #[] cb] w fun e w'=>e= .returned (.tuple #[])∧∃n os,w'=sortWorldK enc k w blk off n (d.toList.mergeSort fun x y=> !(ltOf cf) y x).toArray os
theorem Vl {P:Program}{ρ:Ren}(Ly:SlLaysF0.n6 P ρ){k:Nat}(aE:∀w,(isAgg (ρ.t 24)).run P w= .ok true w)(zE:∀w,(Go.sizeOf (ρ.t 24)).run P w= .ok k w):PN P (ρ.f 6) k:=
 ⟨fun p cap fv w=>AnyF.slices_SortFunc_none Ly p cap fv w,fun α _ enc hk h1 cf hO g cb blk off cap d w eg hc hH hb hs hT=>AnyQ.slices_SortFunc_total Ly k aE zE enc hk h1 cf hO g cb blk off cap d w eg hc hH hb hs hT⟩
variable [G7]
theorem Pm {pre ds rest:List V}{j:Nat}(hj:j<ds.length):(pre++ds++rest).getD (pre.length+j) .bad=ds.getD j .bad:=by
 rw[append_assoc,List.getD_eq_getElem?_getD,List.getElem?_append_right (by omega),Nat.add_sub_cancel_left,List.getElem?_append_left hj,List.getD_eq_getElem?_getD]
theorem Ph {pre es ds rest:List V} (hl:ds.length=es.length) {i:Nat} (hi:i<pre.length∨pre.length+ds.length≤i):(pre++ds++rest).getD i .bad=(pre++es++rest).getD i .bad:=by
 simp only[append_assoc,List.getD_eq_getElem?_getD]
 rcases hi with hi|hi
 ·rw[List.getElem?_append_left hi,List.getElem?_append_left hi]
 have key:∀l:List V,l.length=es.length→(pre++(l++rest))[i]? =rest[i - pre.length - es.length]? :=fun l h=>by
  rw[List.getElem?_append_right (by omega),List.getElem?_append_right (by omega),h]
 rw[key _ hl,key _ rfl]
theorem XK {off:Nat}{d c:Array Value}{t:Nat}(ht:t<c.size):(putCells (fun v=>v) off d c).getD t undef=if off≤t∧t<off+d.size then d[t - off]! else c.getD t undef:=by
 unfold putCells;simp only[Array.getD,Array.size_mapIdx,ht,dif_pos,Array.getInternal_eq_getElem,Array.getElem_mapIdx]
theorem SK {g:Gh} {H:A2} {w:World} (hR:Rl g H w) {ix b k:Nat} {pre es ds rest:List V} {c:Array Value} {T:TypeId} (hk:H ix=some (.arr k (pre++es++rest))) (e1:g.mu ix=some b) (hl:ds.length=es.length) (hes:0<es.length)
 (k2:w.heap[b]? =some (.cells c T (0,0))) (k3:(g.ow ix).o+(pre++es++rest).length*k≤c.size)
 (k4:∀i j,i<(pre++es++rest).length→j<k→(c.getD ((g.ow ix).o+i*k+j) undef).oneCell'=true∧VR g w (c.getD ((g.ow ix).o+i*k+j) undef) (((pre++es++rest).getD i .bad).cells.getD j .bad))
 (e9:∀i,i<(pre++es++rest).length→((pre++es++rest).getD i .bad).cells.length=k)
 (d:Array Value) (hd:d.size=es.length*k) (hds:∀i,i<ds.length→(ds.getD i .bad).cells.length=k)
 (hdv:∀i j,i<ds.length→j<k→(d[i*k+j]!).oneCell'=true∧VR g w d[i*k+j]! ((ds.getD i .bad).cells.getD j .bad)) (m:Nat) (os:Array Obj):
 P1 g w g (grow (putRow (fun v=>v) (Sort.ahead w m) b ((g.ow ix).o+pre.length*k) d) os)∧
  Rl g (upd H ix (some (.arr k (pre++ds++rest)))) (grow (putRow (fun v=>v) (Sort.ahead w m) b ((g.ow ix).o+pre.length*k) d) os):=by
 have hlen:(pre++es++rest).length=pre.length+es.length+rest.length:=by simp;omega
 have hlen':(pre++ds++rest).length=pre.length+es.length+rest.length:=by simp;omega
 have hs:=Rl.setArr hR (ys:=pre++ds++rest) (c':=putCells (fun v=>v) ((g.ow ix).o+pre.length*k) d c) hk e1 (by omega) k2 (by simp[putCells])
  (fun o ho=>by
   simp only[putCells,Array.getElem?_mapIdx]
   cases c[o]? with
   |none=>rfl
   |some x=>simp only[Option.map_some];rw[if_neg (by omega)])
  (by omega)
  (fun i hi=>by
   by_cases hm:i<pre.length∨pre.length+ds.length≤i
   ·rw[Ph hl hm];exact e9 i (by omega)
   obtain⟨j,rfl⟩:∃j,i=pre.length+j:=⟨i - pre.length,by omega⟩
   rw[Pm (show j<ds.length by omega)];exact hds j (by omega))
  (fun i j hi hj=>by
   have hb:(i+1)*k≤(pre++es++rest).length*k:=Nat.mul_le_mul_right k (by omega)
   rw[add_mul,Nat.one_mul]at hb
   rw[XK (by omega)]
   by_cases h1:i<pre.length
   ·have hb1:(i+1)*k≤pre.length*k:=Nat.mul_le_mul_right k h1
    rw[add_mul,Nat.one_mul]at hb1
    rw[if_neg (by omega),Ph hl (.inl h1)];exact k4 i j (by omega) hj
   by_cases h2:pre.length+ds.length≤i
   ·have hb2:(pre.length+ds.length)*k≤i*k:=Nat.mul_le_mul_right k h2
    rw[add_mul]at hb2
    rw[if_neg (by rw[hd,←hl];omega),Ph hl (.inr h2)];exact k4 i j (by omega) hj
   obtain⟨u,rfl⟩:∃u,i=pre.length+u:=⟨i - pre.length,by omega⟩
   have hu:u<ds.length:=by omega
   have hb3:(u+1)*k≤es.length*k:=Nat.mul_le_mul_right k (by omega)
   rw[add_mul,Nat.one_mul]at hb3
   rw[if_pos (by rw[hd,add_mul];omega),Pm hu,show(g.ow ix).o+(pre.length+u)*k+j - ((g.ow ix).o+pre.length*k)=u*k+j by rw[add_mul];omega]
   exact hdv u j hu hj)
 obtain⟨s1,R1⟩:=hs
 generalize hw1:w.setRow b (putCells (fun v=>v) ((g.ow ix).o+pre.length*k) d c)=w1 at s1 R1
 have hsz1:w1.heap.size=w.heap.size:=by rw[←hw1];simp[World.setRow]
 have hheap:∀x,x<w1.heap.size→(grow (putRow (fun v=>v) (Sort.ahead w m) b ((g.ow ix).o+pre.length*k) d) os).heap[x]? =w1.heap[x]? :=fun x hx=>by
  have hx':x<w.heap.size:=by omega
  simp only[grow,putRow,mapBlock,Sort.ahead];rw[Array.getElem?_append_left (by simpa using hx'),Array.getElem?_modify]
  by_cases hxb:b=x
  ·subst hxb;rw[if_pos rfl,k2,←hw1,setRow_heap w b c _ T (0,0) k2];rfl
  rw[if_neg hxb,←hw1,K3 w b _ x (fun e=>hxb e.symm)]
 have hbel:Below g.base w1 (grow (putRow (fun v=>v) (Sort.ahead w m) b ((g.ow ix).o+pre.length*k) d) os):=by
  refine⟨by rw[←hw1];rfl,by rw[←hw1];rfl,by rw[←hw1];rfl,?_,fun k hk'=>?_⟩
  ·rw[hsz1];simp[grow,putRow,mapBlock,Sort.ahead]
  exact hheap k (by have:=hR.bnd;omega)
 obtain⟨s2,R2⟩:=R1.more hbel hheap (by rw[←hw1];exact Nat.le_add_right _ _);exact⟨s1.trans s2,R2⟩
theorem YA {w w':World} (h:Below w.heap.size w w') (hd:w.drawn≤w'.drawn):∃q os',w'=grow (w.drewN q) os':=by
 refine⟨w'.drawn - w.drawn,w'.heap.extract w.heap.size w'.heap.size,?_⟩;obtain⟨h1,h2,h3,h4,h5⟩:=h
 cases w' with
 |mk heap tape drawn os output=>
  simp only at h1 h2 h3 h4 h5 hd ⊢
  subst h1;subst h2;subst h3;simp only[grow,World.drewN,World.mk.injEq,true_and,and_true];refine⟨?_,by omega⟩;apply Array.ext_getElem?;intro i;rw[Array.getElem?_append]
  split
  ·rename_i hi;exact h5 i hi
  rename_i hi;rw[Array.getElem?_extract]
  split
  ·rename_i h;rw[show w.heap.size+(i - w.heap.size)=i by omega]
  rename_i h;rw[Array.getElem?_eq_none (by omega)]
theorem VR.base_up {g:Gh}{w:World}{B:Nat}(hB:g.base≤B){v:Value}{x:V}(h:VR g w v x):VR {g with base:=B} w v x:=by
 induction h with
 |bad v=>exact .bad v
 |bool b=>exact .bool b
 |int k n=>exact .int k n
 |str s=>exact .str s
 |nilp=>exact .nilp
 |nilf=>exact .nilf
 |nili=>exact .nili
 |nilmap=>exact .nilmap
 |map h=>exact .map h
 |fmap hb hw hk hn hl hv ih=>exact .fmap (Nat.lt_of_lt_of_le hb hB) hw hk hn hl ih
 |ref h=>exact .ref h
 |own h h0 h1 h2 hp=>exact .own h h0 h1 h2 hp
 |elem h hs=>exact .elem h hs
 |eref vs hf hw h1 hv ih=>exact .eref vs hf hw h1 ih
 |sl0 ht=>exact .sl0 ht
 |sle ht=>exact .sle ht
 |sl vs hn hc hz hf hw h1 hv ht ih=>exact .sl vs hn hc hz hf hw h1 ih (by cases ‹E3› <;>exact ht)
 |func hl hv hl' hv' ih ih'=>exact .func hl ih hl' ih'
 |yield h=>exact .yield h
 |iface h ih=>exact .iface ih
 |agg hl h1 hv ih=>exact .agg hl h1 ih
 |tup hl hv ih=>exact .tup hl ih
theorem Ab4 {P:Program}{f:FuncId}{args:List V}{n:Int}(hc:B2 P f args (.int .i64 n))(hrun:∀vals w,(callFunc f vals).run P w= .ok (.enter f vals) w){g:Gh}{H:A2}{w:World}(hR:Rl g H w){vals:Array Value}(hA:Args g w vals args):
 Calls P f vals w fun e w'=>e= .returned (.int .i64 n)∧∃q os',w'=grow (w.drewN q) os':=by
 let g2:Gh:={g with base:=w.heap.size,nx:=g.nx}
 have hR2:Rl g2 (fun _=>none) w:=⟨fun _ _ h=>(by cases h),fun id id' b h1 h2=>(by simp[Gh.at]at h1),hR.frz,fun id h=>⟨(hR.nxt id h).1,(hR.nxt id h).2.1,rfl⟩,Nat.le_refl _,fun n=>(hR.glb n).base_up hR.bnd⟩;have h:=hc (fun _=>none) g2 w vals hR2 ⟨hA.1,fun i hi=>(hA.2 i hi).base_up hR.bnd⟩
 rw[hrun]at h
 have h:CallsIn Fence.wide 0 P f vals w fun e w'=>∃v,e= .returned v∧H5 g2 w (fun x H'=>x= .int .i64 n∧H'=fun _=>none) v w':=h
 rw[callsIn_wide]at h
 refine h.mono ?_;rintro e w' ⟨v,rfl,g',x,H',s,R',hv,rfl,rfl⟩;exact⟨by rw[hv.int_inv],YA s.low s.dr⟩
def PV (P:Program)(f:FuncId)(fv:V)(k:Nat)(xs ys:List V):Prop:=
 (∀H (q:OG),CN q (xs.length:Nat)→H q.id=some (.arr k (q.pre++xs++q.rest))→H6 P f [.own q.id q.lo q.n,fv] H fun x H'=>x= .tup []∧H'=upd H q.id (some (.arr k (q.pre++ys++q.rest))))∧ys.length=xs.length
theorem VR.funcN {g:Gh} {w:World} {v:Value} {fn:Fn} {C:List V} (h:VR g w v (.func fn [] C)):∃cb,v= .func fn #[] cb∧Args g w cb C:=by
 cases h with
 |@func _ fs cs _ _ hl hv hl' hv'=>
  have e1:fs= #[]:=Array.eq_empty_of_size_eq_zero hl;subst e1;exact⟨cs,rfl,hl',hv'⟩
theorem YJ {α:Type}[Inhabited α]{enc:α→List Value}{k:Nat}{d:Array α}{i j:Nat}(hi:i<d.size)(hj:j<k):(flatK enc k d)[i*k+j]! =(enc d[i]!)[j]! :=by
 have h1:(i+1)*k≤d.size*k:=Nat.mul_le_mul_right k hi
 rw[add_mul,Nat.one_mul]at h1
 rw[get_flatK _ _ _ _ (by omega)]
 have hk:0<k:=by omega
 rw[show(i*k+j) / k=i by rw[Nat.mul_comm,Nat.mul_add_div hk,Nat.div_eq_of_lt hj];rfl,show(i*k+j) % k=j by rw[Nat.mul_comm,Nat.mul_add_mod,Nat.mod_eq_of_lt hj]]
theorem KK [Ar] {P:Program} {sf:FuncId} {k:Nat} (hS:PN P sf k)
 (hrun:∀vals w,(callFunc sf vals).run P w= .ok (.enter sf vals) w) {α:Type} {f:α→V} {va:α→List V} (hf:∀x,f x= .agg (va x)) (hsz:∀x,(va x).length=k)
 {cmp:α→α→Option Int} {gf:FuncId} {C:List V} (eg:∀vals w,(callFunc gf vals).run P w= .ok (.enter gf vals) w) (hc:∀a b n,cmp a b=some n→B2 P gf ([.agg (va a),.agg (va b)]++C) (.int .i64 n))
 {l r:List α} (h:Gg cmp l=some r):PV P sf (.func (.func gf) [] C) k (lst f l) (lst f r):=by
 obtain⟨hp,hst,hlt⟩:=Sx h;refine⟨?_,by rw[J4,J4];exact hp.length_eq⟩;rw[lst_eq,lst_eq];intro H q hq hk g w vals hR hA;obtain⟨hlen,hv⟩:=hA;obtain⟨vals⟩:=vals
 match vals,hlen with
 | [v,fvv],_=>
  have hv1:VR g w v (.own q.id q.lo q.n):=by have:=hv 0 (by simp);simpa using this
  have hv2:VR g w fvv (.func (.func gf) [] C):=by have:=hv 1 (by simp);simpa using this
  obtain⟨cb,rfl,hcb⟩:=hv2.funcN;rw[hrun]
  show CallsIn Fence.wide 0 P sf #[v,.func (.func gf) #[] cb] w _
  rw[callsIn_wide];obtain⟨b,p,e1,e2,e3,e4,e5,e6,e7,e8,e9,e10⟩:=CT hR hk hv1
  have hxl:(q.pre++l.map f++q.rest).length=q.pre.length+l.length+q.rest.length:=by simp;omega
  have hn0:=hq.2
  rw[List.length_map]at hn0
  have hnn:q.n.toNat=l.length:=by omega
  by_cases hz:l=[]
  ·subst hz
   have hr:r=[]:=by simpa using hp.length_eq
   subst hr;subst e2;rw[hnn];refine(hS.zero p _ _ w).mono ?_;rintro e w' ⟨rfl,rfl⟩;refine⟨_,rfl,g,.tup [],H,P1.refl _ _,hR,VR.und _ _,rfl,?_⟩
   funext x
   by_cases hx:x=q.id
   ·subst hx;rw[B1];exact hk
   rw[A3 _ _ hx]
  have hn:0<l.length:=List.length_pos_iff.2 hz
  rcases e10 with e10|⟨c,T,k1,k2,k3,k4,k5,k6⟩
  ·omega
  have hp8:=e8 (by rw[hq.1];omega);subst hp8;subst e2
  haveI:Inhabited (Fin l.length):=⟨⟨0,hn⟩⟩
  have hlo:q.lo.toNat=q.pre.length:=by rw[hq.1];simp
  let enc:Fin l.length→List Value:=fun i=>(List.range k).map fun j=>c.getD ((g.ow q.id).o+(q.pre.length+i.val)*k+j) undef
  have henc:∀x,(enc x).length=k:=fun x=>by simp[enc]
  have hencj:∀(x:Fin l.length) (j:Nat),j<k→(enc x)[j]! =c.getD ((g.ow q.id).o+(q.pre.length+x.val)*k+j) undef:=fun x j hj=>by simp[enc,hj]
  have hcellV:∀(x:Fin l.length) (j:Nat),((q.pre++l.map f++q.rest).getD (q.pre.length+x.val) .bad).cells.getD j .bad=(va l[x.val]).getD j .bad:=fun x j=>by
   have e:(l.map f).getD x.val .bad=f l[x.val]:=by rw[List.getD_eq_getElem?_getD,List.getElem?_map,List.getElem?_eq_getElem x.isLt];rfl
   rw[Pm (by simp),e,hf];rfl
  have hcell:∀(x:Fin l.length) (j:Nat),j<k→((enc x)[j]!).oneCell'=true∧VR g w (enc x)[j]! ((va l[x.val]).getD j .bad):=fun x j hj=>by
   rw[hencj x j hj,←hcellV];exact k4 _ j (by rw[hxl];omega) hj
  have h1:∀x,∀v∈enc x,v.oneCell'=true:=fun x v hv=>by
   obtain⟨j,hj,rfl⟩:=List.getElem_of_mem hv
   rw[henc]at hj
   have:=(hcell x j hj).1
   rwa[getElem!_pos _ _ (by rw[henc];exact hj)]at this
  have hdef:∀i j:Fin l.length,∃n,cmp l[i.val] l[j.val]=some n:=fun i j=>Sv hst (hp.mem_iff.2 (List.getElem_mem _)) (hp.mem_iff.2 (List.getElem_mem _))
  let cf:Fin l.length→Fin l.length→Int:=fun i j=>(cmp l[i.val] l[j.val]).getD 0
  have hpos:∀i:Fin l.length,∃p:Nat,∃hh:p<r.length,r[p]=l[i.val]:=fun i=>by
   obtain⟨p,hh,e⟩:=List.getElem_of_mem (hp.mem_iff.2 (List.getElem_mem i.isLt));exact⟨p,hh,e⟩
  let pos:Fin l.length→Nat:=fun i=>Classical.choose (hpos i)
  have hpos':∀i:Fin l.length,∃hh:pos i<r.length,r[pos i]=l[i.val]:=fun i=>Classical.choose_spec (hpos i)
  have hltp:∀i j,ltOf cf i j=decide (pos i<pos j):=fun i j=>by
   obtain⟨n,hn⟩:=hdef i j;obtain⟨a1,a2⟩:=hpos' i;obtain⟨b1,b2⟩:=hpos' j;rw[←Y1 hst a1 b1,a2,b2];simp[ltOf,cf,Po,hn]
  have hnd:=hp.nodup_iff.1 (ON hst)
  have hinj:∀i j:Fin l.length,pos i=pos j→i=j:=fun i j e=>by
   obtain⟨a1,a2⟩:=hpos' i;obtain⟨b1,b2⟩:=hpos' j
   have e2:l[i.val]=l[j.val]:=by rw[←a2,←b2];simp only[e]
   rw[List.Nodup,List.pairwise_iff_getElem]at hnd
   apply Fin.ext
   rcases Nat.lt_trichotomy i.val j.val with h'|h'|h'
   ·exact absurd e2 (hnd _ _ i.isLt j.isLt h')
   ·exact h'
   exact absurd e2.symm (hnd _ _ j.isLt i.isLt h')
  have hO:SWO (ltOf cf):=⟨fun x=>by rw[hltp];simp,fun x y z=>by rw[hltp,hltp,hltp];simp;omega,fun x y z=>by rw[hltp,hltp,hltp];simp;omega⟩
  have hT:∀x y,ltOf cf x y=false→ltOf cf y x=false→x=y:=fun x y=>by
   rw[hltp,hltp];intro a b;simp at a b;exact hinj _ _ (by omega)
  let d0:Array (Fin l.length):=(List.finRange l.length).toArray
  have hd0:d0.size=l.length:=by simp[d0]
  have hW:∀(dk:Array (Fin l.length)),dk.size=l.length→∀(m:Nat) (os:Array Obj),
   P1 g w g (sortWorldK enc k w b ((g.ow q.id).o+q.pre.length*k) m dk os)∧Rl g (upd H q.id (some (.arr k (q.pre++dk.toList.map (fun i=>f l[i.val])++q.rest)))) (sortWorldK enc k w b ((g.ow q.id).o+q.pre.length*k) m dk os):=by
   intro dk hdk m os
   have hgd:∀i (hi:i<dk.size),(dk.toList.map (fun i=>f l[i.val])).getD i .bad=f l[(dk[i]!).val]:=fun i hi=>by
    have e:dk[i]! =dk[i]:=getElem!_pos dk i hi;rw[List.getD_eq_getElem?_getD,List.getElem?_map,Array.getElem?_toList,Array.getElem?_eq_getElem hi];simp only[e,Option.map_some,Option.getD_some]
   have hml:(dk.toList.map (fun i=>f l[i.val])).length=dk.size:=by simp
   exact SK hR hk e1 (by rw[hml,List.length_map,hdk]) (by simpa using hn) k2 k3 k4 e9 (flatK enc k dk) (by rw[size_flatK,hdk,List.length_map])
    (fun i hi=>by rw[hml]at hi;rw[hgd i hi,hf];exact hsz _)
    (fun i j hi hj=>by
     rw[hml]at hi
     rw[YJ hi hj,hgd i hi,hf]
     exact hcell _ j hj) m os
  have hH:HoldsK enc k w b ((g.ow q.id).o+q.pre.length*k) d0:=by
   intro t ht
   rw[size_flatK,hd0]at ht
   have hkp:0<k:=by
    rcases Nat.eq_zero_or_pos k with h0|h0
    ·rw[h0,Nat.mul_zero]at ht;omega
    exact h0
   have hi:t / k<l.length:=(Nat.div_lt_iff_lt_mul hkp).2 ht;have hj:t % k<k:=Nat.mod_lt _ hkp
   have e3:t=t / k*k+t % k:=by have:=Nat.div_add_mod t k;rw[Nat.mul_comm]at this;omega
   have hb:(t / k+1)*k≤l.length*k:=Nat.mul_le_mul_right k hi
   rw[add_mul,Nat.one_mul]at hb
   have hb2:(q.pre.length+l.length)*k≤(q.pre++l.map f++q.rest).length*k:=Nat.mul_le_mul_right k (by rw[hxl];omega)
   rw[add_mul]at hb2
   have hval:(flatK enc k d0)[t]! =c.getD ((g.ow q.id).o+q.pre.length*k+t) undef:=by
    have hg:d0[t / k]! =⟨t / k,hi⟩:=by rw[getElem!_pos _ _ (by rw[hd0];exact hi)];simp[d0]
    rw[get_flatK _ _ _ _ (by rw[hd0];exact ht),hg,hencj _ _ hj]
    congr 1
    rw[add_mul];show _+(_+t / k*k)+t % k=_;omega
   refine⟨?_,by simp[World.frozen?,k2]⟩
   have hlt:(g.ow q.id).o+q.pre.length*k+t<c.size:=by omega
   rw[show(id (flatK enc k d0)[t]! :Value)=(flatK enc k d0)[t]! from rfl,hval];simp[World.cell?,k2,Array.getD,hlt]
  have hcmp:CmpLays P gf cb enc k cf b ((g.ow q.id).o+q.pre.length*k) d0.size w:=by
   intro m os dk hs x y;obtain⟨s,R⟩:=hW dk (hs.trans hd0) m os;obtain⟨n,hxy⟩:=hdef x y
   have ecf:cf x y=n:=by simp[cf,hxy]
   rw[ecf]
   have hagg:∀z:Fin l.length,VR g (sortWorldK enc k w b ((g.ow q.id).o+q.pre.length*k) m dk os) (.agg (enc z).toArray) (.agg (va l[z.val])):=fun z=>by
    have hg:∀i,i<k→(enc z).toArray.getD i undef=(enc z)[i]! :=fun i hi=>by
     rw[getElem!_pos _ _ (by rw[henc];exact hi)];simp[Array.getD,henc,hi]
    refine VR.agg (by simp[henc,hsz]) (fun i hi=>?_) (fun i hi=>?_)
    ·rw[hsz]at hi;rw[hg i hi];exact(hcell z i hi).1
    rw[hsz]at hi;rw[hg i hi];exact(hcell z i hi).2.mono s
   refine Ab4 (hc _ _ _ hxy) eg R (Args.append (x:=[.agg (va l[x.val]),.agg (va l[y.val])]) ⟨rfl,fun i hi=>?_⟩ ⟨hcb.1,fun i hi=>(hcb.2 i hi).mono s⟩)
   match i,hi with
   |0,_=>exact hagg x
   |1,_=>exact hagg y
  have hblk:b<w.heap.size:=by
   rcases Nat.lt_or_ge b w.heap.size with h'|h'
   ·exact h'
   rw[Array.getElem?_eq_none h']at k2;cases k2
  have hfin:=hS.pos _ enc henc h1 cf hO gf cb b ((g.ow q.id).o+q.pre.length*k) ((q.pre++l.map f++q.rest).length - q.pre.length) d0 w eg hcmp hH hblk (by omega) hT;clear hcmp hH hO hT
  rw[hd0]at hfin
  rw[hnn,hlo];refine hfin.mono ?_;rintro e w' ⟨rfl,n',os,rfl⟩
  let s:=d0.toList.mergeSort fun x y=> !(ltOf cf) y x
  have hsl:s.toArray.size=l.length:=by simp[s,List.length_mergeSort,d0]
  obtain⟨st,R⟩:=hW s.toArray hsl n' os;refine⟨_,rfl,g,.tup [],_,st,R,VR.und _ _,rfl,?_⟩
  have hsp:s.Perm (List.finRange l.length):=by simpa[d0]using List.mergeSort_perm d0.toList fun x y=> !(ltOf cf) y x
  have hsr:s.map (fun i=>l[i.val])=r:=by
   refine HM hst ?_ ?_
   ·have h2:=hsp.map (fun i:Fin l.length=>l[i.val])
    have h3:(List.finRange l.length).map (fun i:Fin l.length=>l[i.val])=l:=by
     apply List.ext_getElem
     ·simp
     intro i h1 h2;simp
    rw[h3]at h2
    exact h2.trans hp.symm
   rw[List.pairwise_map];have h2:=List.pairwise_mergeSort (le:=fun x y=> !(ltOf cf) y x) (fun a b c=>by simp only[hltp];simp;omega) (fun a b=>by simp only[hltp];simp;omega) d0.toList;refine h2.imp fun{a b} hab=>?_;obtain⟨a1,a2⟩:=hpos' a;obtain⟨b1,b2⟩:=hpos' b
   rw[hltp]at hab
   rw[←a2,←b2,Y1 hst b1 a1]
   simpa using hab
  have:s.toArray.toList.map (fun i=>f l[i.val])=r.map f:=by rw[←hsr,List.map_map];rfl
  rw[this]
section
variable [Ar]{P:Program}{nt:Nat}{rd:Option Nat}{E:CV}(hE:E=E9 P nt rd)
include hE
theorem Ml {Φ:A2→A2→Prop}{H0 H:A2}{L:List En}{fid:FuncId}{fv:V}{q:OG}{sz:Nat}{α:Type}{f:α→V}{l:List α}{k:V→A2→Prop}{R:Type}{m:Option (List α)}{F:List α→Option R}{r:R}
 (hO:B7 Φ H0 L H) (hq:CN q (Ar.len l)) (i:Nat) (hi:L[i]? =some (.blk q.id (.arr sz (q.pre++lst f l++q.rest)))) (h:m.bind F=some r) (hc:∀x,m=some x→PV P fid fv sz (lst f l) (lst f x))
 (hk:∀x H',CN q (Ar.len x)→B7 Φ H0 (L.set i (.blk q.id (.arr sz (q.pre++lst f x++q.rest)))) H'→F x=some r→k (.tup []) H'):
 E.call (.func (.func fid) [] []) [.own q.id q.lo q.n,fv] H k:=by
 subst hE;obtain⟨x,h1,h2⟩:=bind_some h;obtain⟨c1,c2⟩:=hc x h1;refine H6.value (F:=[]) (C:=[]) ?_;simp only[List.nil_append,List.append_nil];refine(c1 H q ⟨hq.1,by rw[hq.2,len_eq,J4]⟩ (hO.get i hi)).mono fun v H' ⟨e1,e2⟩=>?_;subst e1;subst e2;refine hk x _ ⟨hq.1,?_⟩ (hO.set i hi) h2;rw[hq.2,len_eq,len_eq]
 rw[J4,J4]at c2
 omega
end
end Go.Ab
namespace Go.Ab
open Go.RowKit Go.MapKept
variable [G7][Ar]
section
variable {K X:Type}
end
section
variable {P:Program}{nt:Nat}{rd:Option Nat}{T:Et}{E:CV}
variable (hE:E=E9 P nt rd)
include hE
variable {K X R S:Type}{kf:K→V}{vf:X→V}{d:TypeDesc}{Φ:A2→A2→Prop}{H0 H:A2}{L:List En}{r:R}{fid:FuncId}{args args':List V}{k:V→A2→Prop}
end
theorem B7.ne {Φ:A2→A2→Prop}{F H:A2}{L:List En}{a b:Nat}{x y:Eu}(h:B7 Φ F L H)(i j:Nat)(hi:L[i]? =some (.blk a x))(hj:L[j]? =some (.blk b y))(hij:i≠j):a≠b:=fun e=>by
 obtain⟨hs,F',H1,h0,h1,h2⟩:=h;subst e;exact hij (h0.inj i j _ _ a x y hi hj rfl rfl)
section
variable {P:Program}{T:Et}{f:FuncId}{fn:Func}{c:Code}{n:Nat}{rs:List ResultVar}{args:List V}{K X:Type}{kf:K→V}{vf:X→V}{d:TypeDesc}
end
section
variable {K X:Type}
end
section
variable {P:Program}{nt:Nat}{rd:Option Nat}{T:Et}{E:CV}
variable (hE:E=E9 P nt rd)
include hE
variable {K X:Type}{kf:K→V}{vf:X→V}{d:TypeDesc}{Φ:A2→A2→Prop}{H0 H:A2}{L:List En}{k:V→A2→Prop}{m left:List (K×X)}{o:Obj}{mid it:Nat}{b:Eu}{p:K×X}
end
end Go.Ab
namespace Go.Ab
variable [G7]
theorem XZ {E:CV}{t:Nat}{H:A2}{m y y':V}{ok:Bool}{k:V→Prop}(hy:y'=y)(h:E.mget t H m y' ok k):E.mget t H m y ok k:=hy▸h
theorem Ux {E:CV}{t:Nat}{H:A2}{m y y' v:V}{k:A2→Prop}(hy:y'=y)(h:E.mset t H m y' v k):E.mset t H m y v k:=hy▸h
end Go.Ab
namespace Go.Ab
variable [G7][Ar]
section
variable {P:Program}{nt:Nat}{rd:Option Nat}{E:CV}(hE:E=E9 P nt rd){Φ:A2→A2→Prop}{H0 H:A2}{L:List En}
include hE
theorem Uu (hO:B7 Φ H0 L H)(i:Nat){tl:E3}(hi:L[i]? =some (.tl tl))(ha:BF tl){k:E3→A2→Prop}
 (hk:∀H',B7 Φ H0 (L.set i (.tl .nil)) H'→k tl H'):E.takeT H k:=by
 subst hE;exact⟨tl,hO.appOk i hi ha,hk _ (hO.untok i hi rfl)⟩
theorem Uw (hO:B7 Φ H0 L H)(i:Nat)(hi:L[i]? =some (.tl .nil)){k:E3→A2→Prop}
 (hk:∀tl H',B7 Φ H0 (L.set i (.tl tl)) H'→BF tl→k tl H'):E.nameT H k:=by
 subst hE;refine⟨fun tl htl=>?_,fun t ht=>hk _ _ (hO.tok i hi ht) trivial⟩
 rcases htl with rfl|rfl
 ·exact hk _ _ (hO.untok i hi rfl) trivial
 exact hk _ _ (hO.untok i hi rfl) trivial
end
end Go.Ab
namespace Go.Ab
end Go.Ab
namespace Go.Ab
open Go.RowKit
variable [G7]
section
variable [Ar]{P:Program}{nt:Nat}{rd:Option Nat}{E:CV}(hE:E=E9 P nt rd)
include hE
end
end Go.Ab
namespace Go.Ab
open Go.RowKit
variable [G7]
theorem H6.thaw {P:Program} {f:FuncId} {args:List V} {H:A2} {K K':V→A2→Prop} (h:H6 P f args H K)
 (hk:∀x H',K x H'→K' x H'∨∃id sz row lo n,x= .own id lo n∧H' id=some (.arr sz row)∧K' (.sl (K4 row lo n) .ro) (upd H' id none)):H6 P f args H K':=
 fun g w vals hR hA=>(h g w vals hR hA).mono fun v w' ⟨g',x,H',s,hR',hv,hK⟩=>by
  rcases hk x H' hK with hK|⟨id,sz,row,lo,n,rfl,h1,h2⟩
  ·exact⟨g',x,H',s,hR',hv,hK⟩
  obtain⟨g2,s2,R2,hv2⟩:=hR'.freezeArr h1;exact⟨g2,_,_,s.trans s2,R2,hv2 _ _ _ (hv.mono s2),h2⟩
section
variable [Ar]{P:Program}{T:Et}
theorem MX {f:FuncId} {fn:Func} {c:Code} {n:Nat} {rs:List ResultVar} {args:List V} {r:V} (cf:Cf) (hP:RX P T) (hf:P.funcs[f]? =some fn) (hb:fn.body=some c) (hd:G4 cf c=true)
 (hcall:∀vals w,(callFunc f vals).run P w= .ok (.enter f vals) w) (hnt:fn.ntmps=n) (hrs:fn.results.toList=rs) (hn:Nat.ble args.length n=true)
 (h:∀(E:CV) (H:A2) (K:V→A2→Prop),E=E9 P n none→(∀x L H',B7 Eq H L H'→AW x r→K x H')→
  (∀(q:OG) (sz:Nat) (xs:List V) (i:Nat) (L:List En) H',B7 Eq H L H'→L[i]? =some (.blk q.id (.arr sz (q.pre++xs++q.rest)))→CN q (xs.length:Nat)→AW (.sl xs .ro) r→K (.own q.id q.lo q.n) H')→run E T n cf c ⟨BM args 0,[]⟩ H (MI E T rs K)):B2 P f args r:=fun H=>by
 refine H6.le ?_
 refine(W7 (K:=fun x H'=>(∃y H2,AW x y∧Gq H2 H'∧y=r∧H2=H)∨∃(q:OG) (sz:Nat) (xs:List V) (i:Nat) (L:List En),x= .own q.id q.lo q.n∧B7 Eq H L H'∧L[i]? =some (.blk q.id (.arr sz (q.pre++xs++q.rest)))∧CN q (xs.length:Nat)∧AW (.sl xs .ro) r)
  cf hP.1 hP.2 hf hb hd hcall hnt hrs hn fun E hE=>?_).thaw ?_
 ·exact h E H _ hE (fun x L H' hO hx=>.inl ⟨r,H,hx,hO.ext,rfl,rfl⟩) fun q sz xs i L H' hO hi hq hr=>.inr ⟨q,sz,xs,i,L,rfl,hO,hi,hq,hr⟩
 rintro x H' (h|⟨q,sz,xs,i,L,rfl,hO,hi,hq,hr⟩)
 ·exact .inl h
 refine .inr ⟨q.id,sz,_,q.lo,q.n,rfl,hO.get i hi,r,H,?_,(hO.del i hi).ext,rfl,rfl⟩;rw[Xq rfl hq.1 hq.2];exact hr
end
end Go.Ab
namespace Go.Ab
open Go.RowKit
variable [G7][Ar]
def An7 (e e':En):Prop:=∀id b b',e.id=some (id,b)→e'.id=some (id,b')→False
theorem Z2.perm {H0 H:A2} {L L':List En} (h:Z2 H0 L H) (p:L.Perm L'):Z2 H0 L' H:=by
 have hp:L.Pairwise An7:=by
  rw[List.pairwise_iff_getElem];intro i j hi hj hlt id b b' e1 e2;have:=h.inj i j _ _ id b b' (List.getElem?_eq_getElem hi) (List.getElem?_eq_getElem hj) e1 e2;omega
 have hp':L'.Pairwise An7:=(p.pairwise_iff (fun{x y} (h:An7 x y) id b b' e1 e2=>h id b' b e2 e1)).1 hp
 rw[List.pairwise_iff_getElem]at hp'
 refine⟨h.ext,fun i e id b hi he=>?_,fun i j e e' id b b' hi hj he he'=>?_,fun x b hx=>(h.only x b hx).imp (fun h=>h) fun⟨i,e,h1,h2⟩=>?_⟩
 ·obtain⟨j,hj⟩:=List.getElem?_of_mem (p.mem_iff.2 (List.mem_of_getElem? hi));exact h.has j e id b hj he
 ·obtain⟨hi',ei⟩:=List.getElem?_eq_some_iff.1 hi;obtain⟨hj',ej⟩:=List.getElem?_eq_some_iff.1 hj
  rcases Nat.lt_trichotomy i j with hlt|heq|hlt
  ·exact(hp' i j hi' hj' hlt id b b' (by rw[ei];exact he) (by rw[ej];exact he')).elim
  ·exact heq
  exact(hp' j i hj' hi' hlt id b' b (by rw[ej];exact he') (by rw[ei];exact he)).elim
 obtain⟨j,hj⟩:=List.getElem?_of_mem (p.mem_iff.1 (List.mem_of_getElem? h1));exact⟨j,e,hj,h2⟩
theorem B7.perm {Φ:A2→A2→Prop}{F H:A2}{L L':List En}(h:B7 Φ F L H)(p:L.Perm L'):B7 Φ F L' H:=
 let⟨hs,F',H1,h0,h1,h2⟩:=h;⟨hs,F',H1,h0.perm p,h1,h2⟩
structure Rw (α:Type) where
 q:OG
 row:List (List α×E3)
variable {α:Type}(f:α→V)
def DD (c:List α×E3):V:=.sl (lst f c.1) c.2
def Uh (w:Rw α):En:=.blk w.q.id (.arr 1 (w.q.pre++lst (DD f) w.row++w.q.rest))
def rwL (w:Rw α):List En:=Uh f w::w.row.map fun c=>.tl c.2
def fo :List (Rw α)→List En
 |[]=>[]
 |w::F=>rwL f w++fo F
def RwA (w:Rw α):Prop:=∀c∈w.row,BF c.2
variable {f}
theorem YF :∀(F G:List (Rw α)),fo f (F++G)=fo f F++fo f G
 |[],_=>rfl
 |w::F,G=>by rw[List.cons_append,fo,fo,YF F G,append_assoc]
theorem Rt :∀{F:List (Rw α)} {c:Nat} {w:Rw α},F[c]? =some w→∃R,(fo f F).Perm (rwL f w++R)∧∀w',(fo f (F.set c w')).Perm (rwL f w'++R)
 |[],_,_,h=>by simp at h
 |v::F,0,w,h=>by
  simp at h;subst h
  exact⟨fo f F,.refl _,fun w'=>.refl _⟩
 | v::F,c+1,w,h=>by
  obtain⟨R,h1,h2⟩:=Rt (F:=F) (c:=c) (w:=w) (by simpa using h)
  have key:∀(X Y:List En),X.Perm (Y++R)→(rwL f v++X).Perm (Y++(rwL f v++R)):=fun X Y hX=>
   (hX.append_left _).trans (by
    rw[←append_assoc,←append_assoc]
    exact List.perm_append_comm.append_right R)
  exact⟨rwL f v++R,key _ _ h1,fun w'=>key _ _ (h2 w')⟩
theorem JM :∀{row:List (List α×E3)} {i:Nat} {c:List α×E3},row[i]? =some c→∃R,(row.map fun c=>En.tl c.2).Perm (.tl c.2::R)∧∀c',((row.set i c').map fun c=>En.tl c.2).Perm (.tl c'.2::R)
 |[],_,_,h=>by simp at h
 |v::F,0,w,h=>by
  simp at h;subst h
  exact⟨F.map fun c=>.tl c.2,.refl _,fun w'=>.refl _⟩
 |v::F,i+1,w,h=>by
  obtain⟨R,h1,h2⟩:=JM (row:=F) (i:=i) (c:=w) (by simpa using h);exact⟨.tl v.2::R,(h1.cons _).trans (.swap ..),fun w'=>((h2 w').cons _).trans (.swap ..)⟩
theorem TH {F:List (Rw α)} {c i:Nat} {w:Rw α} {x:List α×E3} (hc:F[c]? =some w) (hi:w.row[i]? =some x):
 ∃R,(fo f F).Perm (.tl x.2::Uh f w::R)∧∀x',(fo f (F.set c ⟨w.q,w.row.set i x'⟩)).Perm (.tl x'.2::Uh f ⟨w.q,w.row.set i x'⟩::R):=by
 obtain⟨R,h1,h2⟩:=Rt (f:=f) hc;obtain⟨S,k1,k2⟩:=JM hi
 have key:∀(b:En) (X:List En) (t:En),X.Perm (t::S)→(b::(X++R)).Perm (t::b::(S++R)):=fun b X t hX=>
  ((hX.append_right R).cons b).trans (.swap ..)
 exact⟨S++R,h1.trans (key _ _ _ k1),fun x'=>(h2 _).trans (key _ _ _ (k2 x'))⟩
theorem B7.cell {Φ:A2→A2→Prop} {H0 H:A2} {b:En} {L:List En} {F:List (Rw α)} {c i:Nat} {w:Rw α} {x:List α×E3} (hO:B7 Φ H0 (b::(fo f F++L)) H) (hc:F[c]? =some w) (hi:w.row[i]? =some x):
 ∃R,B7 Φ H0 (.tl x.2::Uh f w::b::R) H∧∀x' H',B7 Φ H0 (.tl x'.2::Uh f ⟨w.q,w.row.set i x'⟩::b::R) H'→B7 Φ H0 (b::(fo f (F.set c ⟨w.q,w.row.set i x'⟩)++L)) H':=by
 obtain⟨R,h1,h2⟩:=TH (f:=f) hc hi
 have key:∀(X:List En) (t r:En),X.Perm (t::r::R)→(b::(X++L)).Perm (t::r::b::(R++L)):=fun X t r h=>
  ((h.append_right L).cons b).trans ((List.Perm.swap t b _).trans ((List.Perm.swap r b _).cons t))
 exact⟨R++L,hO.perm (key _ _ _ h1),fun x' H' h=>h.perm (key _ _ _ (h2 x')).symm⟩
theorem B7.row {Φ:A2→A2→Prop} {H0 H:A2} {b b':En} {L:List En} {F:List (Rw α)} {w:Rw α} (hO:B7 Φ H0 (Uh f w::b::b'::(fo f F++L)) H) (hw:∀c∈w.row,(En.tl c.2).id=none):B7 Φ H0 (b'::(fo f (F++[w])++(b::L))) H:=by
 have h1:∀(row:List (List α×E3)) (M:List En),(∀c∈row,(En.tl c.2).id=none)→B7 Φ H0 M H→B7 Φ H0 ((row.map fun c=>.tl c.2)++M) H:=by
  intro row
  induction row with
  |nil=>exact fun _ _ h=>h
  |cons c row ih=>exact fun M hr h=>(ih M (fun c hc=>hr c (by simp[hc])) h).tl0 (hr c (by simp))
 have h2:=h1 w.row _ hw hO;refine h2.perm ?_;rw[YF];simp only[fo,rwL,List.append_nil];generalize w.row.map (fun c=>En.tl c.2)=X;generalize fo f F=Y;have p1:(X++Uh f w::b::b'::(Y++L)).Perm (Uh f w::X++(b::b'::(Y++L))):=List.perm_middle
 have p2:(Uh f w::X++(b::b'::(Y++L))).Perm (b'::(Uh f w::X++(b::(Y++L)))):=
  ((List.Perm.swap b' b (Y++L)).append_left (Uh f w::X)).trans List.perm_middle
 refine p1.trans (p2.trans (.cons b' ?_));have p3:(Uh f w::X++(b::(Y++L))).Perm (Uh f w::X++(Y++b::L)):=(List.perm_middle.symm).append_left _;refine p3.trans ?_;rw[←append_assoc];exact(List.perm_append_comm (l₁:=Uh f w::X) (l₂:=Y)).append_right _
end Go.Ab
namespace Go.Ab
open Go.RowKit
variable [G7]
def Gst (H:A2)(v:V)(H':A2)(v':V):Prop:=∀g w,Rl g H w→∃g',P1 g w g' w∧Rl g' H' w∧∀u,VR g w u v→VR g' w u v'
theorem Gst.refl (H:A2)(v:V):Gst H v H v:=fun g w h=>⟨g,P1.refl _ _,h,fun _ h=>h⟩
theorem Gst.trans {H H1 H2:A2}{v v1 v2:V}(a:Gst H v H1 v1)(b:Gst H1 v1 H2 v2):Gst H v H2 v2:=fun g w h=>by
 obtain⟨g1,s1,R1,k1⟩:=a g w h;obtain⟨g2,s2,R2,k2⟩:=b g1 w R1;exact⟨g2,s1.trans s2,R2,fun u hu=>k2 u (k1 u hu)⟩
theorem Gst.tup2 {H H':A2} {v v' c:V} (a:Gst H v H' v'):Gst H (.tup [v,c]) H' (.tup [v',c]):=fun g w h=>by
 obtain⟨g1,s1,R1,k1⟩:=a g w h;refine⟨g1,s1,R1,fun u hu=>?_⟩
 cases hu with
 |tup hl hv=>
  refine .tup hl fun i hi=>?_;have:=hv i hi
  match i,hi with
  |0,_=>exact k1 _ this
  |1,_=>exact this.mono s1
section
variable [Ar]{α:Type}{f:α→V}
end
end Go.Ab
namespace Go.Ab
open Go.RowKit
variable [G7][Ar]
section
variable {P:Program}{nt:Nat}{rd:Option Nat}{E:CV}(hE:E=E9 P nt rd)
include hE
variable {α:Type}{f:α→V}{Φ:A2→A2→Prop}{H0 H:A2}{L:List En}{sz:Nat}{q:OG}{l:List α}
theorem YP (hO:B7 Φ H0 L H)(hq:CN q (Ar.len l))(i:Nat){j:Int}{k:Int→Prop}(hi:L[i]? =some (.blk q.id (.arr sz (q.pre++lst f l++q.rest))))(hj:0≤j∧j<(l.length:Nat))(hk:k (ofs q.lo j)):E.oidx H q.id sz q.lo q.n j k:=
 SY hE hO hq i hi (F:=fun _=>some ()) (r:=()) (by unfold Uj inR;rw[if_pos];rfl;exact decide_eq_true hj) fun _=>hk
theorem Ac7 {g:α→V} (hf:∀x,f x=g x) (hO:B7 Φ H0 L H) (hq:CN q (Ar.len l)) (i:Nat) {j:Int} {x:α} {k:V→Prop} (hi:L[i]? =some (.blk q.id (.arr sz (q.pre++lst f l++q.rest)))) (hj:0≤j) (hx:l[j.toNat]? =some x) (hk:k (g x)):
 E.oload H q.id (ofs q.lo j) k:=by
 have hlt:j<(l.length:Nat):=by
  rcases Nat.lt_or_ge j.toNat l.length with h|h
  ·omega
  rw[List.getElem?_eq_none h]at hx;cases hx
 exact Uv hE hf hO hq i hi (F:=fun y=>some y) (r:=x) (by unfold B9;rw[if_pos hj,hx];rfl) fun y hy=>by cases hy;exact hk
theorem YO {esz tz off:Nat}{y:V}{x':α}(hu:∀x,∃y',AW y y'∧y'.one=true∧y'.cells.length=tz∧Pf (f x) esz tz off y'=f x')(hle:off+tz≤esz)(hO:B7 Φ H0 L H)(hq:CN q (Ar.len l))(i:Nat){j:Int}{k:A2→Prop}
 (hi:L[i]? =some (.blk q.id (.arr esz (q.pre++lst f l++q.rest)))) (hj:0≤j∧j<(l.length:Nat))
 (hk:∀H',B7 Φ H0 (L.set i (.blk q.id (.arr esz (q.pre++lst f (l.set j.toNat x')++q.rest)))) H'→k H'):E.ostore H q.id (ofs q.lo j) esz tz off y k:=by
 obtain⟨x,hx⟩:∃x,l[j.toNat]? =some x:=⟨l[j.toNat],List.getElem?_eq_getElem (by omega)⟩
 exact Rd hE (u:=fun _=>x') hu hle hO hq i hi (F:=fun l=>some l) (r:=l.set j.toNat x') (by unfold HG B9;rw[if_pos hj.1,hx];rfl) fun l' H' hq' e hO'=>by cases e;exact hk H' hO'
end
theorem Yg {α:Type}{n m:Int}{z:α}{l:List α}(h:WQ n m z=some l):l=List.replicate n.toNat z:=by
 unfold WQ at h
 split at h
 ·cases h;rfl
 cases h
theorem Ac3 {α:Type} {l:List α} {i:Int} {x:α} (h:B9 l i=some x):(0≤i∧i<(l.length:Nat))∧l[i.toNat]? =some x:=by
 unfold B9 at h
 split at h
 ·rename_i h0;refine⟨⟨h0,?_⟩,h⟩
  rcases Nat.lt_or_ge i.toNat l.length with h'|h'
  ·omega
  rw[List.getElem?_eq_none h']at h;cases h
 cases h
end Go.Ab
namespace Go.Ab
open Go.RowKit
variable [G7][Ar]
end Go.Ab
namespace Go.Ab
open Go.RowKit
variable [G7][Ar]
def HJ {α:Type}(w:Rw α):List En:=w.row.map fun c=>.tl c.2
structure CM {α:Type} (w:Rw α) (l:List (List α)):Prop where
 ok:CN w.q (Ar.len w.row)
 ap:RwA w
 eq:w.row.map (·.1)=l
section
variable {α:Type}{f:α→V}{w:Rw α}{l:List (List α)}
theorem CM.len (h:CM w l):Ar.len l=Ar.len w.row:=by rw[len_eq,len_eq,←h.eq,List.length_map]
theorem CM.at (h:CM w l) {i:Int} {x:List α} (hx:B9 l i=some x):(0≤i∧i<(w.row.length:Nat))∧∃t,w.row[i.toNat]? =some (x,t)∧BF t:=by
 obtain⟨h1,h2⟩:=Ac3 hx
 rw[←h.eq]at h1 h2
 rw[List.length_map]at h1
 rw[List.getElem?_map]at h2
 cases hr:w.row[i.toNat]? with
 |none=>rw[hr]at h2;cases h2
 |some c=>
  rw[hr]at h2
  simp only[Option.map_some,Option.some.injEq]at h2
  refine⟨h1,c.2,by rw[←h2],h.ap c (List.mem_of_getElem? hr)⟩
theorem CM.put (h:CM w l) (i:Nat) {y:List α} {t:E3} (ht:BF t):CM ⟨w.q,w.row.set i (y,t)⟩ (l.set i y):=by
 refine⟨?_,fun c hc=>?_,?_⟩
 ·have:=h.ok
  rw[len_eq]at this ⊢
  rw[List.length_set];exact this
 ·rcases List.mem_or_eq_of_mem_set hc with hc|rfl
  ·exact h.ap c hc
  exact ht
 rw[List.map_set,h.eq]
theorem SJ {i:Nat}{c:List α×E3}(hi:w.row[i]? =some c):∃R,(HJ w).Perm (.tl c.2::R)∧∀c',(HJ ⟨w.q,w.row.set i c'⟩).Perm (.tl c'.2::R):=JM hi
theorem B7.rtake {Φ:A2→A2→Prop} {H0 H:A2} {L T1 T2:List En} (hO:B7 Φ H0 L H) (n:Nat) (hL:L=L.take n++(T1++(HJ w++T2))) {i:Nat} {c:List α×E3} (hi:w.row[i]? =some c):
 ∃R,B7 Φ H0 (.tl c.2::(L.take n++R)) H∧∀c' H' (L2:List En),B7 Φ H0 (.tl c'.2::(L2++R)) H'→B7 Φ H0 (L2++(T1++(HJ ⟨w.q,w.row.set i c'⟩++T2))) H':=by
 obtain⟨R,h1,h2⟩:=SJ hi
 have key:∀(L2 X:List En) (t:En),X.Perm (t::R)→(L2++(T1++(X++T2))).Perm (t::(L2++(T1++(R++T2)))):=fun L2 X t h=>
  ((((h.append_right T2).append_left T1).append_left L2).trans ((List.perm_middle (l₁:=T1)).append_left L2)).trans List.perm_middle
 refine⟨T1++(R++T2),?_,fun c' H' L2 h=>h.perm (key _ _ _ (h2 c')).symm⟩
 rw[hL]at hO
 exact hO.perm (key _ _ _ h1)
theorem B7.radd {Φ:A2→A2→Prop} {H0 H:A2} {L:List En} (hO:B7 Φ H0 L H) (n:Nat) (w:Rw α) (hw:∀c∈w.row,(En.tl c.2).id=none):B7 Φ H0 (L.take n++(HJ w++L.drop n)) H:=by
 have h1:∀(row:List (List α×E3)) (M:List En),(∀c∈row,(En.tl c.2).id=none)→B7 Φ H0 M H→B7 Φ H0 ((row.map fun c=>.tl c.2)++M) H:=by
  intro row
  induction row with
  |nil=>exact fun _ _ h=>h
  |cons c row ih=>exact fun M hr h=>(ih M (fun c hc=>hr c (by simp[hc])) h).tl0 (hr c (by simp))
 refine(h1 w.row L hw hO).perm ?_
 show(HJ w++L).Perm _
 have e:HJ w++L=HJ w++(L.take n++L.drop n):=by rw[List.take_append_drop]
 rw[e,←append_assoc,←append_assoc];exact List.perm_append_comm.append_right _
theorem B7.drops {Φ:A2→A2→Prop}{H0 H:A2}:∀{X L:List En},B7 Φ H0 (X++L) H→B7 Φ H0 L H
 |[],_,h=>h
 |_::X,_,h=>B7.drops (X:=X) h.tail
theorem B7.rdrop {Φ:A2→A2→Prop}{H0 H:A2}{L T1 T2:List En}(hO:B7 Φ H0 L H)(n:Nat)(hL:L=L.take n++(T1++(HJ w++T2))):B7 Φ H0 (L.take n++(T1++T2)) H:=by
 rw[hL]at hO
 refine(hO.perm (L':=HJ w++(L.take n++(T1++T2))) ?_).drops;refine(((List.perm_append_comm_assoc T1 (HJ w) T2).append_left _)).trans ?_;exact List.perm_append_comm_assoc _ _ _
theorem Xm {α:Type}{l r:List α}{i:Int}{y:α}(h:HG l i (fun _=>y)=some r):r=l.set i.toNat y:=by
 unfold HG at h
 cases hx:B9 l i with
 |none=>rw[hx]at h;cases h
 |some x=>rw[hx]at h;simp only[Option.map_some,Option.some.injEq]at h;exact h.symm
theorem ZM {e:List α→V} (he:∀x,e x= .sl (lst f x) .ro) (h:CM w l):G3 (lst (DD f) w.row) (lst e l):=by
 rw[lst_eq,lst_eq,←h.eq]
 have:∀row:List (List α×E3),G3 (row.map (DD f)) ((row.map (·.1)).map e):=by
  intro row
  induction row with
  |nil=>exact .nil
  |cons c row ih=>exact .cons (by rw[he];exact .ro _ _) ih
 exact this _
end
section
variable {P:Program}{nt:Nat}{rd:Option Nat}{T:Et}{E:CV}
variable (hE:E=E9 P nt rd)
include hE
variable {α R:Type}{f:α→V}{Φ:A2→A2→Prop}{H0 H:A2}{L:List En}{w:Rw α}{l:List (List α)}{r:R}
theorem Ap2 {by_:Nat} (hby:by_≤131072) (hO:B7 Φ H0 L H) (c:Nat) {n m:Int} {k:V→A2→Prop} {F:List (List α)→Option R} (h:(WQ n m ([]:List α)).bind F=some r)
 (hk:∀l (w:Rw α) H',CM w l→F l=some r→B7 Φ H0 (.blk w.q.id (.arr 1 (w.q.pre++lst (DD f) w.row++w.q.rest))::(L.take c++(HJ w++L.drop c))) H'→k (.own w.q.id w.q.lo w.q.n) H'):E.omk 1 by_ (.sl [] .nil) n m H k:=by
 obtain⟨l,h1,h2⟩:=bind_some h;have hl:=Yg h1
 have h3:WQ n m (([]:List α),E3.nil)=some (List.replicate n.toNat (([]:List α),E3.nil)):=by
  unfold WQ at h1 ⊢
  split at h1
  ·rename_i hc;rw[if_pos hc]
  cases h1
 refine Ag0 hE (f:=DD f) hby (z0:=(([]:List α),E3.nil)) (.slt _ .lst0) hO (F:=fun l=>some l) (r:=List.replicate n.toNat (([]:List α),E3.nil)) (by rw[h3];rfl) fun row q H' hq hr hO'=>?_;cases hr;refine hk l ⟨q,List.replicate n.toNat (([]:List α),E3.nil)⟩ H' ⟨hq,fun c hc=>by rw[List.eq_of_mem_replicate hc];trivial,by rw[hl];simp⟩ h2 ?_
 exact hO'.radd (c+1) ⟨q,List.replicate n.toNat (([]:List α),E3.nil)⟩ fun c hc=>by rw[List.eq_of_mem_replicate hc];rfl
theorem XW {e:List α→V}(he:∀x,e x= .sl (lst f x) .ro)(hO:B7 Φ H0 L H)(hw:CM w l)(i m:Nat){id j:Nat}{cs:List V}{k:A2→Prop}(hi:L[i]? =some (.blk id (.cells cs)))(hm:L[m]? =some (.blk w.q.id (.arr 1 (w.q.pre++lst (DD f) w.row++w.q.rest))))(hj:cs[j]? =some (.own w.q.id w.q.lo w.q.n))(him:i≠m)
 (hk:∀H',B7 Φ H0 ((L.set i (.blk id (.cells (cs.set j (.sl (lst e l) .ro))))).eraseIdx m) H'→k H'):E.frzIn H id j k:=by
 subst hE;have h1:=hO.get i hi;have h2:=hO.get m hm
 have hne:w.q.id≠id:=fun e=>by rw[e,h1]at h2;cases h2
 refine⟨cs,w.q.id,w.q.lo,w.q.n,1,_,lst e l,h1,hj,h2,?_,?_⟩
 ·rw[IV hw.ok.1 (by rw[hw.ok.2,len_eq,J4])];exact ZM he hw
 have h3:=(hO.set i (b':=.cells (cs.set j (.sl (lst e l) .ro))) hi).del m (id:=w.q.id) (b:=.arr 1 (w.q.pre++lst (DD f) w.row++w.q.rest)) (by rw[List.getElem?_set,if_neg him];exact hm);rw[Ls _ _ _ hne];exact hk _ h3
end
end Go.Ab
namespace Go.Ab
variable [G7][Ar]
variable {P:Program}{nt:Nat}{rd:Option Nat}{T:Et}{E:CV}
end Go.Ab
namespace Go.Ab
open Go.RowKit
variable [G7]
theorem H6.thawG {P:Program} {f:FuncId} {args:List V} {H:A2} {K K':V→A2→Prop} (h:H6 P f args H K)
 (hk:∀x H',K x H'→K' x H'∨∃(mk:V→V) (id sz:Nat) (row:List V) (lo n:Int),CP mk∧x=mk (.own id lo n)∧H' id=some (.arr sz row)∧K' (mk (.sl (K4 row lo n) .ro)) (upd H' id none)):H6 P f args H K':=
 fun g w vals hR hA=>(h g w vals hR hA).mono fun v w' ⟨g',x,H',s,hR',hv,hK⟩=>by
  rcases hk x H' hK with hK|⟨mk,id,sz,row,lo,n,hm,rfl,h1,h2⟩
  ·exact⟨g',x,H',s,hR',hv,hK⟩
  obtain⟨g2,s2,R2,hv2⟩:=hR'.freezeArr h1;obtain⟨v1,hv1,hb⟩:=hm g' w' v _ hv;exact⟨g2,_,_,s.trans s2,R2,hb _ _ _ s2 (hv2 _ _ _ (hv1.mono s2)),h2⟩
section
variable [Ar]{P:Program}{T:Et}
theorem MW {f:FuncId} {fn:Func} {c:Code} {n:Nat} {rs:List ResultVar} {args:List V} {r:V} (cf:Cf) (hP:RX P T) (hf:P.funcs[f]? =some fn) (hb:fn.body=some c) (hd:G4 cf c=true)
 (hcall:∀vals w,(callFunc f vals).run P w= .ok (.enter f vals) w) (hnt:fn.ntmps=n) (hrs:fn.results.toList=rs) (hn:Nat.ble args.length n=true)
 (h:∀(E:CV) (H:A2) (K:V→A2→Prop),E=E9 P n none→(∀x L H',B7 Eq H L H'→AW x r→K x H')→
  (∀(mk:V→V) (_:CP mk) (q:OG) (sz:Nat) (xs:List V) (i:Nat) (L:List En) H',B7 Eq H L H'→L[i]? =some (.blk q.id (.arr sz (q.pre++xs++q.rest)))→CN q (xs.length:Nat)→AW (mk (.sl xs .ro)) r→K (mk (.own q.id q.lo q.n)) H')→run E T n cf c ⟨BM args 0,[]⟩ H (MI E T rs K)):B2 P f args r:=fun H=>by
 refine H6.le ?_
 refine(W7 (K:=fun x H'=>(∃y H2,AW x y∧Gq H2 H'∧y=r∧H2=H)∨∃(mk:V→V) (q:OG) (sz:Nat) (xs:List V) (i:Nat) (L:List En),CP mk∧x=mk (.own q.id q.lo q.n)∧B7 Eq H L H'∧L[i]? =some (.blk q.id (.arr sz (q.pre++xs++q.rest)))∧CN q (xs.length:Nat)∧AW (mk (.sl xs .ro)) r)
  cf hP.1 hP.2 hf hb hd hcall hnt hrs hn fun E hE=>?_).thawG ?_
 ·exact h E H _ hE (fun x L H' hO hx=>.inl ⟨r,H,hx,hO.ext,rfl,rfl⟩) fun mk hm q sz xs i L H' hO hi hq hr=>.inr ⟨mk,q,sz,xs,i,L,hm,rfl,hO,hi,hq,hr⟩
 rintro x H' (h|⟨mk,q,sz,xs,i,L,hm,rfl,hO,hi,hq,hr⟩)
 ·exact .inl h
 refine .inr ⟨mk,q.id,sz,_,q.lo,q.n,hm,rfl,hO.get i hi,r,H,?_,(hO.del i hi).ext,rfl,rfl⟩;rw[Xq rfl hq.1 hq.2];exact hr
end
end Go.Ab
namespace Go.Ab
end Go.Ab
namespace Go.Ab
open Go.RowKit
variable [G7][Ar]
section
variable {P:Program}{nt:Nat}{rd:Option Nat}{E:CV}(hE:E=E9 P nt rd)
include hE
variable {α R:Type}{f:α→V}{Φ:A2→A2→Prop}{H0 H:A2}{L:List En}{sz:Nat}{q:OG}{l:List α}{r:R}
theorem Wc (hO:B7 Φ H0 L H) (hq:CN q (Ar.len l)) (i:Nat) (hi:L[i]? =some (.blk q.id (.arr sz (q.pre++lst f l++q.rest)))) {lo:Option Int} {k:V→Prop} {F:List α→Option R}
 (h:(Y2 l lo none none).bind F=some r) (hk:∀x (q':OG),q'.id=q.id∧q'.lo=q.lo+lo.getD 0∧q'.n=q.n - lo.getD 0→F x=some r→k (.own q'.id q'.lo q'.n)):
 E.oslice sz H q.id q.lo q.n lo none none k:=by
 have hE':=hE;subst hE;obtain⟨x,h1,h2⟩:=bind_some h
 have hn:q.n=(l.length:Nat):=by rw[hq.2,len_eq]
 have el:=J4 (f:=f) l
 unfold Y2 at h1
 split at h1
 ·rename_i hc;cases h1;obtain⟨c1,c2,c3,c4,c5⟩:=hc
  simp only[Option.getD_none]at c2 c3 c4
  refine⟨_,hO.get i hi,?_,?_⟩
  ·rw[hn,hq.1];simp only[List.length_append,el,Option.getD_none];refine⟨c1,c2,by omega,by omega,fun h=>by cases h⟩
  exact hk _ ⟨q.id,q.lo+lo.getD 0,q.n - lo.getD 0,[],[]⟩ ⟨rfl,rfl,rfl⟩ h2
 cases h1
end
end Go.Ab
namespace Go.Ab
open Go.RowKit
variable [G7][Ar]
section
variable {P:Program}{nt:Nat}{rd:Option Nat}{E:CV}(hE:E=E9 P nt rd)
include hE
variable {α R:Type}{f:α→V}{Φ:A2→A2→Prop}{H0 H:A2}{L:List En}{sz:Nat}{q:OG}{l:List α}{r:R}
theorem Wd (hO:B7 Φ H0 L H) (hq:CN q (Ar.len l)) (i:Nat) (hi:L[i]? =some (.blk q.id (.arr sz (q.pre++lst f l++q.rest)))) {q':OG} {a:Int} (hd:q'.id=q.id∧q'.lo=q.lo+a∧q'.n=q.n - a) {z:V} {k:A2→Prop} {F:List α→Option R}
 (h:(Y2 l none (some a) none).bind F=some r)
 (hk:∀x (q2:OG) H',(q2.id=q.id∧q2.lo=q.lo∧0≤a∧q2.n=a∧a≤q.n)→CN q2 (Ar.len x)→B7 Φ H0 (L.set i (.blk q2.id (.arr sz (q2.pre++lst f x++q2.rest)))) H'→F x=some r→k H'):E.oclear sz z H (.own q'.id q'.lo q'.n) k:=by
 have hn:q.n=(l.length:Nat):=by rw[hq.2,len_eq]
 have el:=J4 (f:=f) l;obtain⟨x,h1,h2⟩:=bind_some h
 unfold Y2 at h1
 split at h1
 ·rename_i hc;cases h1;obtain⟨c1,c2,c3,c4,c5⟩:=hc
  simp only[Option.getD_none,Option.getD_some]at c1 c2 c3 c4
  rw[hd.1,hd.2.1,hd.2.2];refine XJ hE (hO.get i hi) fun row' hrow=>?_
  have ea:(q.lo+a).toNat=q.pre.length+a.toNat:=by rw[hq.1];omega
  have e2:row'=q.pre++lst f (l.take a.toNat)++(List.replicate (q.n - a).toNat z++q.rest):=by
   rw[hrow,ea,lst_eq,lst_eq];rw[ZW (A:=q.pre++(l.take a.toNat).map f) (B:=(l.drop a.toNat).map f) (C:=q.rest) ?_ ?_ ?_]
   ·simp only[append_assoc]
   ·have:l=l.take a.toNat++l.drop a.toNat:=(List.take_append_drop _ _).symm
    conv=>lhs;rw[this]
    simp only[List.map_append,append_assoc]
   ·simp;omega
   simp;omega
  have et:((l.drop (0:Int).toNat).take (a.toNat - (0:Int).toNat))=l.take a.toNat:=by simp
  refine hk (l.take a.toNat) ⟨q.id,q.lo,a,q.pre,List.replicate (q.n - a).toNat z++q.rest⟩ _ ⟨rfl,rfl,c2,rfl,by omega⟩ ⟨hq.1,?_⟩ ?_ ?_
  ·rw[len_eq,List.length_take]
   show a=_
   omega
  ·rw[e2];exact hO.set i hi
  have:=h2
  simp only[Option.getD_none,Option.getD_some]at this
  rw[et]at this
  exact this
 cases h1
theorem Wb {x:List α}{q2:OG}(hO:B7 Φ H0 L H)(hq:CN q2 (Ar.len x))(i:Nat)(hi:L[i]? =some (.blk q2.id (.arr sz (q2.pre++lst f x++q2.rest)))){id:Nat}{lo n a:Int}(hx:q2.id=id∧q2.lo=lo∧0≤a∧q2.n=a∧a≤n){k:V→Prop}
 (hk:k (.own q2.id q2.lo q2.n)):E.oslice sz H id lo n none (some a) none k:=by
 subst hE;obtain⟨e1,e2,e3,e4,e5⟩:=hx;have el:=J4 (f:=f) x
 have hn:q2.n=(x.length:Nat):=by rw[hq.2,len_eq]
 refine⟨_,by rw[←e1];exact hO.get i hi,?_,?_⟩
 ·simp only[List.length_append,el,Option.getD_none,Option.getD_some];have:=hq.1;exact⟨Int.le_refl _,e3,by omega,Int.le_refl _,fun h=>by cases h⟩
 show k (.own id (lo+0) (a - 0))
 rw[Int.add_zero,Int.sub_zero,←e1,←e2,←e4];exact hk
end
end Go.Ab
namespace Go.Ab
open Go.RowKit
variable [G7][Ar]
theorem TJ {P:Program}{T:Et}{f:FuncId}{fn:Func}{c:Code}{n:Nat}{rs:List ResultVar}{args:List V}{F H:A2}{sz:Nat}{xs:List V}{mk:V→V}(hmk:CP mk)(cf:Cf)(hP:RX P T)(hf:P.funcs[f]? =some fn)(hb:fn.body=some c)(hd:G4 cf c=true)
 (hcall:∀vals w,(callFunc f vals).run P w= .ok (.enter f vals) w) (hnt:fn.ntmps=n) (hrs:fn.results.toList=rs) (hn:Nat.ble args.length n=true)
 (h:∀(E:CV) (K:V→A2→Prop),E=E9 P n none→(∀(q:OG) (L:List En) (i:Nat) H' x,CN q (xs.length:Nat)→L[i]? =some (.blk q.id (.arr sz (q.pre++xs++q.rest)))→B7 Eq F L H'→AW x (mk (.own q.id q.lo q.n))→K x H')→(xs=[]→∀L H' x,B7 Eq F L H'→AW x (mk (.sl [] .nil))→K x H')→run E T n cf c ⟨BM args 0,[]⟩ H (MI E T rs K)):
 H6 P f args H (Ad9 F sz xs mk):=by
 refine H6.adoptG (sz:=sz) hmk (H6.le (W7 (K:=fun x H'=>∃y H2,AW x y∧Gq H2 H'∧(Ad9 F sz xs mk y H2∨(y=mk (.sl [] .nil)∧∀t,H2 t=none→Ad9 F sz xs mk (mk (.own t 0 0)) (upd H2 t (some (.arr sz [])))))) cf hP.1 hP.2 hf hb hd hcall hnt hrs hn fun E hE=>?_));refine h E _ hE (fun q L i H' x hq hi hO hx=>?_) fun hx L H' x hO hl=>?_
 ·obtain⟨h1,h2⟩:=(hO.only i hi).last;exact⟨_,_,hx,h2,.inl ⟨q,rfl,hq,h1,rfl⟩⟩
 exact⟨_,F,hl,hO.ext,.inr ⟨rfl,fun t ht=>⟨⟨t,0,0,[],[]⟩,rfl,⟨rfl,by rw[hx];rfl⟩,ht,by rw[hx];rfl⟩⟩⟩
end Go.Ab
