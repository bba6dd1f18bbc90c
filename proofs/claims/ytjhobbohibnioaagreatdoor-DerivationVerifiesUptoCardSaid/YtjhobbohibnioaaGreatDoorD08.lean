/- AbS7 AbC1 AbS3 AbC2 AbC3 AbT1 AbB14 AbB11 AbH1 AbH4 AbK2 AbC4 AbE1 AbB16 AbB20 -/
import Derived.Test.YtjhobbohibnioaaGreatDoorD07
import Derived.Sort.Grow
import Derived.Shelf.Sort.Plain
import Derived.Shelf.Slices.In.SortNone
import Derived.Shelf.Slices.CompactI
import Derived.KernelRfl
import Derived.Shelf.SlSortCmp.NoneTotal
set_option linter.all false
open List (Nodup append_assoc append_nil)
open Nat (add_mul)
open Bool (and_eq_true)
open Go.Ab.Ar (len_eq lst lst_eq)
namespace Go.Ab
variable {α:Type}
def Rb (cmp:α→α→Option Int)(a b:α):Bool:=match cmp a b with|some c=>decide (c<0)|none=>false
def geC (cmp:α→α→Option Int)(a b:α):Bool:=match cmp a b with|some c=>decide (0≤c)|none=>false
def UP (lt:α→α→Bool)(x:α):List α→List α
 |[]=>[x]
 |y::l=>if lt x y then x::y::l else y::UP lt x l
def JQ (lt:α→α→Bool):List α→List α
 |[]=>[]
 |x::l=>UP lt x (JQ lt l)
def AL (cmp:α→α→Option Int):List α→Bool
 |[]=>true
 |a::r=>geC cmp a a&&r.all (fun b=>Rb cmp a b&&geC cmp b a)&&AL cmp r
def IY (cmp:α→α→Option Int)(l:List α):Option (List α):=
 if decide (l.length<4611686018427387904)&&AL cmp (JQ (Rb cmp) l)then some (JQ (Rb cmp) l)else none
theorem Lo (lt:α→α→Bool) (x:α):∀l,(UP lt x l).Perm (x::l)
 |[]=>.refl _
 |y::l=>by
  unfold UP
  split
  ·exact .refl _
  exact((Lo lt x l).cons y).trans (.swap _ _ _)
theorem Ft (lt:α→α→Bool):∀l,(JQ lt l).Perm l
 |[]=>.refl _
 |x::l=>(Lo lt x _).trans ((Ft lt l).cons x)
variable {cmp:α→α→Option Int}
theorem Uc {l r:List α} (h:IY cmp l=some r):r.Perm l∧AL cmp r=true∧l.length<4611686018427387904:=by
 unfold IY at h
 split at h
 ·rename_i hc;cases h
  simp only[and_eq_true,decide_eq_true_eq]at hc
  exact⟨Ft _ l,hc.2,hc.1⟩
 cases h
def Rel (cmp:α→α→Option Int)(a b:α):Prop:=Rb cmp a b=true∧geC cmp b a=true
theorem Dz :∀{r:List α},AL cmp r=true↔(∀a∈r,geC cmp a a=true)∧r.Pairwise (Rel cmp)
 |[]=>by simp[AL]
 |a::r=>by
  simp only[AL,and_eq_true,List.all_eq_true,List.pairwise_cons,List.mem_cons,Dz (r:=r),Rel]
  constructor
  ·rintro⟨⟨h1,h2⟩,h3,h4⟩;exact⟨fun x hx=>hx.elim (fun e=>e▸h1) (h3 x),h2,h4⟩
  rintro⟨h1,h2,h3⟩;exact⟨⟨h1 a (.inl rfl),h2⟩,fun x hx=>h1 x (.inr hx),h3⟩
theorem Zs {a b:α}(h:geC cmp a b=true):Rb cmp a b=false:=by
 unfold geC at h;unfold Rb
 split at h
 ·rename_i c e;simp at h ⊢;omega
 cases h
theorem An6 {a b:α}(h:Rb cmp a b=true):∃c,cmp a b=some c:=by
 unfold Rb at h
 split at h
 ·exact⟨_,by assumption⟩
 cases h
theorem Zt {a b:α}(h:geC cmp a b=true):∃c,cmp a b=some c:=by
 unfold geC at h
 split at h
 ·exact⟨_,by assumption⟩
 cases h
theorem Z1 {r:List α}(h:AL cmp r=true){i j:Nat}(hi:i<r.length)(hj:j<r.length):Rb cmp r[i] r[j]=decide (i<j):=by
 obtain⟨h1,h2⟩:=Dz.1 h
 rw[List.pairwise_iff_getElem]at h2
 by_cases hij:i<j
 ·rw[(h2 i j hi hj hij).1];simp[hij]
 simp only[hij,decide_false]
 by_cases e:i=j
 ·subst e;exact Zs (h1 _ (List.getElem_mem hi))
 exact Zs (h2 j i hj hi (by omega)).2
theorem TZ {r:List α}(h:AL cmp r=true){a b:α}(ha:a∈r)(hb:b∈r):∃c,cmp a b=some c:=by
 obtain⟨h1,h2⟩:=Dz.1 h
 rw[List.pairwise_iff_getElem]at h2
 obtain⟨i,hi,rfl⟩:=List.getElem_of_mem ha;obtain⟨j,hj,rfl⟩:=List.getElem_of_mem hb
 rcases Nat.lt_trichotomy i j with e|e|e
 ·exact An6 (h2 i j hi hj e).1
 ·subst e;exact Zt (h1 _ ha)
 exact Zt (h2 j i hj hi e).2
theorem MO {r:List α}(h:AL cmp r=true){i j:Nat}(hi:i<r.length)(hj:j<r.length)(e:r[i]=r[j]):i=j:=by
 have a:=Z1 h hi hj;have b:=Z1 h hj hi;have c:=Z1 h hi hi
 rw[e]at a b c
 rw[Z1 h hj hj]at a b c
 simp at a b c
 omega
theorem PW {r:List α}(h:AL cmp r=true):r.Nodup:=by
 rw[Nodup,List.pairwise_iff_getElem];intro i j hi hj hij e;have:=MO h hi hj e;omega
theorem IX {r s:List α} (h:AL cmp r=true) (hp:s.Perm r) (hs:s.Pairwise fun a b=>Rb cmp b a=false):s=r:=by
 refine List.Perm.eq_of_pairwise (le:=fun a b=>Rb cmp b a=false) (fun a b ha hb h1 h2=>?_) hs ?_ hp
 ·obtain⟨i,hi,rfl⟩:=List.getElem_of_mem (hp.mem_iff.1 ha);obtain⟨j,hj,rfl⟩:=List.getElem_of_mem hb
  rw[Z1 h hj hi]at h1
  rw[Z1 h hi hj]at h2
  simp at h1 h2
  have:i=j:=by omega
  subst this;rfl
 exact(Dz.1 h).2.imp fun h=>Zs h.2
theorem VW {r:List α} (h:AL cmp r=true) {x:α} (hx:x∈r):∀{l:List α},(∀y∈l,y∈r)→l.Pairwise (fun a b=>Rb cmp b a=false)→(UP (Rb cmp) x l).Pairwise (fun a b=>Rb cmp b a=false)
 |[],_,_=>by simp[UP]
 | y::l,hm,hp=>by
  rw[List.pairwise_cons]at hp
  unfold UP;obtain⟨i,hi,rfl⟩:=List.getElem_of_mem hx;obtain⟨j,hj,e⟩:=List.getElem_of_mem (hm y (by simp))
  split
  ·rename_i hlt;refine List.pairwise_cons.2 ⟨fun z hz=>?_,List.pairwise_cons.2 hp⟩;obtain⟨k,hk,rfl⟩:=List.getElem_of_mem (hm z hz)
   rw[←e,Z1 h hi hj]at hlt
   rw[Z1 h hk hi]
   rcases List.mem_cons.1 hz with hz|hz
   ·have:=MO h hk hj (hz.trans e.symm)
    simp at hlt ⊢;omega
   have:=hp.1 _ hz
   rw[←e,Z1 h hk hj]at this
   simp at this hlt ⊢;omega
  rename_i hlt;refine List.pairwise_cons.2 ⟨fun z hz=>?_,VW h hx (fun z hz=>hm z (by simp[hz])) hp.2⟩
  rcases List.mem_cons.1 ((Lo _ _ _).mem_iff.1 hz)with hz|hz
  ·subst hz;simpa using hlt
  exact hp.1 _ hz
theorem Pm {r:List α}(h:AL cmp r=true):∀{l:List α},(∀y∈l,y∈r)→(JQ (Rb cmp) l).Pairwise (fun a b=>Rb cmp b a=false)
 |[],_=>by simp[JQ]
 |x::l,hm=>VW h (hm x (by simp)) (fun y hy=>hm y (by simp[(Ft _ l).mem_iff.1 hy])) (Pm h fun y hy=>hm y (by simp[hy]))
theorem Yi {l r:List α}(hp:r.Perm l)(h:AL cmp r=true)(hl:l.length<4611686018427387904):IY cmp l=some r:=by
 have e:JQ (Rb cmp) l=r:=IX h ((Ft _ l).trans hp.symm) (Pm h fun y hy=>hp.mem_iff.2 hy);unfold IY;rw[e,if_pos];simp[h,hl]
end Go.Ab
namespace Go.Ab
open Go.RowKit Go.Sort
variable [J9]
theorem Rl.more {g:Gh}{H:A2}{w w':World}(h:Rl g H w)(hb:Below g.base w w')(hs:∀b,b<w.heap.size→w'.heap[b]? =w.heap[b]?)(hd:w.drawn≤w'.drawn:=by first|exact Nat.le_refl _|exact Nat.le_succ _|exact Nat.le_add_right _ _):T4 g w g w'∧Rl g H w':=by
 have s:T4 g w g w':=⟨fun _ _ e=>e,fun _ _ e=>e,fun _ _ e=>e,rfl,fun b o hf=>by simp only[World.cell?,hs b (h.fz_lt hf)],hb,fun _ _ _=>rfl,hd⟩;exact⟨s,fun x k hx=>(h.blk x k hx).mono hx s fun y hy=>⟨hs y (h.lt hy),fun _ ho=>ho⟩,h.inj,fun b o hf=>by obtain⟨v,hv⟩:=h.frz b o hf;exact⟨v,(s.cell b o hf).trans hv⟩,h.nxt,Nat.le_trans h.bnd hb.size,fun n=>(h.glb n).mono s⟩
def Lk (q:OG)(zs:List Int):List V:=q.pre++zs.map (V.int .i64)++q.rest
theorem Ey (q:OG)(zs:List Int):(Lk q zs).length=q.pre.length+zs.length+q.rest.length:=by simp[Lk];omega
theorem MZ {q:OG}{zs:List Int}{j:Nat}(hj:j<zs.length):(Lk q zs).getD (q.pre.length+j) .bad= .int .i64 zs[j]:=by
 unfold Lk;rw[append_assoc,List.getD_eq_getElem?_getD,List.getElem?_append_right (by omega),Nat.add_sub_cancel_left,List.getElem?_append_left (by simpa using hj),List.getElem?_map,List.getElem?_eq_getElem hj];rfl
theorem RU {q:OG} {zs ds:List Int} (hl:ds.length=zs.length) {i:Nat} (hi:i<q.pre.length∨q.pre.length+ds.length≤i):(Lk q ds).getD i .bad=(Lk q zs).getD i .bad:=by
 unfold Lk;simp only[append_assoc,List.getD_eq_getElem?_getD]
 rcases hi with hi|hi
 ·rw[List.getElem?_append_left hi,List.getElem?_append_left hi]
 have key:∀l:List V,l.length=zs.length→(q.pre++(l++q.rest))[i]? =q.rest[i - q.pre.length - zs.length]? :=fun l h=>by
  rw[List.getElem?_append_right (by omega),List.getElem?_append_right (by omega),h]
 rw[key _ (by simp[hl]),key _ (by simp)]
theorem Ad3 {off:Nat}{ds:List Int}{c:Array Value}{k:Nat}(hk:k<c.size):(putCells (Value.int .i64) off ds.toArray c).getD k undef=if off≤k∧k<off+ds.length then .int .i64 (ds.toArray[k - off]!)else c.getD k undef:=by
 unfold putCells;simp only[Array.getD,Array.size_mapIdx,hk,dif_pos,Array.getInternal_eq_getElem,Array.getElem_mapIdx,List.size_toArray]
def ZZ (P:Program)(f:FuncId)(zs ds:List Int)(r:OG→V):Prop:=
 ∀H (q:OG),Aa q (zs.length:Nat)→H q.id=some (.arr 1 (Lk q zs))→I0 P f [.own q.id q.lo q.n] H fun x H'=>x=r q∧H'=upd H q.id (some (.arr 1 (Lk q ds)))
theorem Tr {P:Program} {f:FuncId} {zs ds:List Int} {r:OG→V} {m:Nat} (hl:ds.length=zs.length)
 (hrun:∀vals w,(callFunc f vals).run P w= .ok (.enter f vals) w)
 (h0:zs=[]→∀p cap w,Calls P f #[.slice p 0 cap] w fun e w'=>∃v,e= .returned v∧w'=w∧(v= .slice p 0 cap∧(∀q,Aa q (zs.length:Nat)→r q= .own q.id q.lo q.n)∨v= .tuple #[]∧∀q,r q= .tup []))
 (h1:∀blk off cap w,0<zs.length→zs.length≤cap→Holds (Value.int .i64) w blk off zs.toArray→blk<w.heap.size→
  Calls P f #[.slice (some ⟨blk,off,none⟩) zs.length cap] w fun e w'=>∃v,e= .returned v∧(v= .slice (some ⟨blk,off,none⟩) m cap∧m≤zs.length∧(∀q,r q= .own q.id q.lo (m:Nat))∨v= .tuple #[]∧∀q,r q= .tup [])∧
   ∃n os,w'=grow (putRow (Value.int .i64) (Sort.ahead w n) blk off ds.toArray) os):ZZ P f zs ds r:=by
 intro H q hq hk g w vals hR hA;obtain⟨hlen,hv⟩:=hA;obtain⟨vals⟩:=vals
 match vals,hlen with
 | [v],_=>
  have hv1:=hv 0 (by simp)
  simp at hv1
  rw[hrun]
  show CallsIn Fence.wide 0 P f #[v] w _
  rw[callsIn_wide];have hq0:=hq;obtain⟨hlo,hn⟩:=hq;obtain⟨b,p,e1,e2,e3,e4,e5,e6,e7,e8,e9,e10⟩:=Dv hR hk hv1
  rw[Ey]at e2 e5 e7 e8 e10
  subst e2
  have hnn:q.n.toNat=zs.length:=by omega
  by_cases hz:zs=[]
  ·subst hz;have hd:ds=[]:=List.length_eq_zero_iff.1 hl;subst hd;rw[hnn];refine(h0 rfl p _ w).mono ?_;rintro e w' ⟨v,rfl,rfl,hcase⟩;refine⟨v,rfl,g,r q,H,T4.refl _ _,hR,?_,rfl,?_⟩
   ·rcases hcase with⟨rfl,hr⟩|⟨rfl,hr⟩
    ·rw[hr q hq0];rw[hnn]at hv1;exact hv1
    rw[hr];exact VR.und g w'
   funext x
   by_cases hx:x=q.id
   ·subst hx;rw[B7];exact hk
   rw[A7 _ _ hx]
  have hzl:0<zs.length:=List.length_pos_iff.2 hz
  rcases e10 with e10|⟨c,T,k1,k2,k3,k4,k5,k6⟩
  ·omega
  have hp:=e8 (by omega);subst hp
  have hoff:(g.ow q.id).o+q.lo.toNat*1=(g.ow q.id).o+q.pre.length:=by rw[hlo];simp
  rw[hnn,hoff]
  have hblt:b<w.heap.size:=by
   rcases Nat.lt_or_ge b w.heap.size with h|h
   ·exact h
   rw[Array.getElem?_eq_none h]at k2;cases k2
  have hcell:∀o,w.cell? ⟨b,o,none⟩=c[o]? :=fun o=>by simp[World.cell?,k2]
  have hH:Holds (Value.int .i64) w b ((g.ow q.id).o+q.pre.length) zs.toArray:=fun j hj=>by
   have hj':j<zs.length:=by simpa using hj
   refine⟨?_,by simp[World.frozen?,k2]⟩;have h:=(k4 (q.pre.length+j) 0 (by omega) (by omega)).2
   rw[MZ hj']at h
   have h:=VR.int_inv h;rw[hcell]
   have hlt:(g.ow q.id).o+q.pre.length+j<c.size:=by omega
   rw[show(g.ow q.id).o+(q.pre.length+j)*1+0=(g.ow q.id).o+q.pre.length+j by omega]at h
   simp only[Array.getD,hlt,dif_pos,Array.getInternal_eq_getElem]at h
   rw[Array.getElem?_eq_getElem hlt,h];simp[hj']
  refine(h1 b _ _ w hzl (by omega) hH hblt).mono ?_;rintro e w' ⟨v,rfl,hcase,n,os,rfl⟩
  have hs:=Rl.setArr hR (ys:=Lk q ds) (c':=putCells (Value.int .i64) ((g.ow q.id).o+q.pre.length) ds.toArray c) hk e1 (by rw[Ey];omega) k2 (by simp[putCells])
   (fun o ho=>by
    simp only[putCells,Array.getElem?_mapIdx]
    cases c[o]? with
    |none=>rfl
    |some x=>simp only[Option.map_some];rw[if_neg (by omega)])
   (by rw[Ey,Ey,hl])
   (fun i hi=>by
    rw[Ey]at hi
    by_cases hm:i<q.pre.length∨q.pre.length+ds.length≤i
    ·rw[RU hl hm];exact e9 i (by rw[Ey];omega)
    obtain⟨j,rfl⟩:∃j,i=q.pre.length+j:=⟨i - q.pre.length,by omega⟩
    rw[MZ (show j<ds.length by omega)];rfl)
   (fun i j hi hj=>by
    rw[Ey]at hi
    have hj0:j=0:=by omega
    subst hj0;rw[Ad3 (by omega)]
    by_cases hm:i<q.pre.length∨q.pre.length+ds.length≤i
    ·rw[if_neg (by omega),RU hl hm];exact k4 i 0 (by omega) (by omega)
    obtain⟨j,rfl⟩:∃j,i=q.pre.length+j:=⟨i - q.pre.length,by omega⟩
    have hj:j<ds.length:=by omega
    rw[if_pos (by omega),MZ hj,show(g.ow q.id).o+(q.pre.length+j)*1+0 - ((g.ow q.id).o+q.pre.length)=j by omega]
    have:ds.toArray[j]! =ds[j]:=by simp[hj]
    rw[this]
    exact⟨rfl,VR.int _ _⟩)
  obtain⟨s1,R1⟩:=hs
  generalize hw1:w.setRow b (putCells (Value.int .i64) ((g.ow q.id).o+q.pre.length) ds.toArray c)=w1 at s1 R1
  have hsz1:w1.heap.size=w.heap.size:=by rw[←hw1];simp[World.setRow]
  have hheap:∀x,x<w1.heap.size→(grow (putRow (Value.int .i64) (Sort.ahead w n) b ((g.ow q.id).o+q.pre.length) ds.toArray) os).heap[x]? =w1.heap[x]? :=fun x hx=>by
   have hx':x<w.heap.size:=by omega
   simp only[grow,putRow,mapBlock,Sort.ahead];rw[Array.getElem?_append_left (by simpa using hx'),Array.getElem?_modify]
   by_cases hxb:b=x
   ·subst hxb;rw[if_pos rfl,k2,←hw1,setRow_heap w b c _ T (0,0) k2];rfl
   rw[if_neg hxb,←hw1,P6 w b _ x (fun e=>hxb e.symm)]
  have hbel:Below g.base w1 (grow (putRow (Value.int .i64) (Sort.ahead w n) b ((g.ow q.id).o+q.pre.length) ds.toArray) os):=by
   refine⟨by rw[←hw1];rfl,by rw[←hw1];rfl,by rw[←hw1];rfl,?_,fun k hk'=>?_⟩
   ·rw[hsz1];simp[grow,putRow,mapBlock,Sort.ahead]
   exact hheap k (by have:=hR.bnd;omega)
  obtain⟨s2,R2⟩:=R1.more hbel hheap (by rw[←hw1];exact Nat.le_add_right _ _);refine⟨v,rfl,g,r q,_,s1.trans s2,R2,?_,rfl,rfl⟩
  rcases hcase with⟨rfl,hm,hr⟩|⟨rfl,hr⟩
  ·rw[hr]
   have hcap:(g.ow q.id).cap=q.pre.length+zs.length+q.rest.length:=by rw[e7]
   have:=VR.own (g:=g) (w:=grow (putRow (Value.int .i64) (Sort.ahead w n) b ((g.ow q.id).o+q.pre.length) ds.toArray) os) (id:=q.id) (b:=b) (lo:=q.lo) (n:=(m:Nat)) (p:=some ⟨b,(g.ow q.id).o+q.pre.length,none⟩) e1 e3 (by omega) (by omega) (fun _=>by rw[e6,hoff])
   rw[hcap]at this
   simpa using this
  rw[hr];exact VR.und _ _
end Go.Ab
namespace Go.Ab
def Zn (x:Int):List Int→List Int
 |[]=>[x]
 |y::r=>if x≤y then x::y::r else y::Zn x r
def NA :List Int→List Int
 |[]=>[]
 |x::r=>Zn x (NA r)
theorem VV (a:Int):∀(l m:List Int),(∀b∈l,¬a≤b)→(∀b∈m,a≤b)→Zn a (l++m)=l++a::m
 |[],[],_,_=>rfl
 |[],y::m,_,h=>by simp only[List.nil_append,Zn];rw[if_pos (h y (by simp))]
 |y::l,m,h,k=>by
  simp only[List.cons_append,Zn];rw[if_neg (h y (by simp)),VV a l m (fun b hb=>h b (by simp[hb])) k]
theorem Pl :∀l:List Int,NA l=l.mergeSort fun x y=>decide (x≤y)
 |[]=>by simp[NA]
 |a::l=>by
  have ht:∀x y z:Int,decide (x≤y)=true→decide (y≤z)=true→decide (x≤z)=true:=fun x y z h k=>by simp at *;omega
  have hc:∀x y:Int,(decide (x≤y)||decide (y≤x))=true:=fun x y=>by simp;omega
  obtain⟨l1,l2,h1,h2,h3⟩:=List.mergeSort_cons ht hc a l;have hs:=List.pairwise_mergeSort ht hc (a::l)
  rw[h1]at hs
  rw[NA,Pl l,h1,h2];refine VV a l1 l2 (fun b hb=>?_) fun b hb=>?_
  ·have:=h3 b hb;simpa using this
  have:=(List.pairwise_cons.1 (List.pairwise_append.1 hs).2.1).1 b hb
  simpa using this
def Vy (l:List Int):Option (List Int):=if l.length<4611686018427387904 then some (NA l)else none
theorem Ub {l r:List Int}(h:Vy l=some r):l.length<4611686018427387904∧r=l.mergeSort fun x y=>decide (x≤y):=by
 unfold Vy at h
 split at h
 ·rename_i hc;cases h;exact⟨hc,Pl l⟩
 cases h
end Go.Ab
namespace Go.Ab
open Go.RowKit
variable [J9]
def ZY (P:Program)(f:FuncId)(zs ds:List Int):Prop:=ZZ P f zs ds (fun _=>.tup [])∧ds.length=zs.length
theorem RW [Ar](q:OG)(zs:List Int):q.pre++lst (V.int .i64) zs++q.rest=Lk q zs:=by rw[lst_eq];rfl
section
variable [Ar]{P:Program}{nt:Nat}{rd:Option Nat}{E:CU}(hE:E=G0 P nt rd)
include hE
theorem Ae9 {Φ:A2→A2→Prop}{H0 H:A2}{L:List En}{fid:FuncId}{q:OG}{k:V→A2→Prop}{R:Type}{m:Option (List Int)}{F:List Int→Option R}{r:R}
 {l:List Int} (hO:C3 Φ H0 L H) (hq:Aa q (Ar.len l)) (i:Nat) (hi:L[i]? =some (.blk q.id (.arr 1 (q.pre++lst (V.int .i64) l++q.rest)))) (h:m.bind F=some r) (hc:∀x,m=some x→ZY P fid l x)
 (hk:∀x H',Aa q (Ar.len x)→C3 Φ H0 (L.set i (.blk q.id (.arr 1 (q.pre++lst (V.int .i64) x++q.rest)))) H'→F x=some r→k (.tup []) H'):
 E.call (.func (.func fid) [] []) [.own q.id q.lo q.n] H k:=by
 subst hE;obtain⟨x,h1,h2⟩:=bind_some h;obtain⟨c1,c2⟩:=hc x h1;refine I0.value (F:=[]) (C:=[]) ?_;simp only[List.nil_append,append_nil]
 rw[RW]at hi
 refine(c1 H q (by rw[←len_eq];exact hq) (hO.get i hi)).mono fun v H' ⟨e1,e2⟩=>?_;subst e1;subst e2;refine hk x _ ?_ ?_ h2
 ·rw[len_eq]at hq ⊢;rw[c2];exact hq
 rw[RW];exact hO.set i hi
end
end Go.Ab
namespace Go.Ab
open Go.RowKit Go.Shelf Go.Sort
variable [J9]
theorem Vh {P:Program}{ρ:Ren}(Ly:Go.Proofs.Lays.n189 P ρ)(hrun:∀vals w,(callFunc (ρ.f 189) vals).run P w= .ok (.enter (ρ.f 189) vals) w){zs r:List Int}(h:Vy zs=some r):ZY P (ρ.f 189) zs r:=by
 obtain⟨hlt,rfl⟩:=Ub h;have hl:(zs.mergeSort fun x y=>decide (x≤y)).length=zs.length:=List.length_mergeSort ..;refine⟨Tr (m:=0) hl hrun ?_ ?_,hl⟩
 ·intro _ p cap w;exact(Go.Proofs.Any.slices_Sort_int_none Ly p cap w).mono fun e w' ⟨a,b⟩=>⟨_,a,b,.inr ⟨rfl,fun _=>rfl⟩⟩
 intro blk off cap w _ _ hH hb;exact(Go.Proofs.Any.slices_Sort_int Ly blk off cap zs w hH hb hlt).mono fun e w' ⟨a,n,os,b⟩=>⟨_,a,.inr ⟨rfl,fun _=>rfl⟩,n,os,b⟩
def NV (l:List Int):Option (List Int):=if l.length≤9223372036854775807 then some (Lib.compact l)else none
theorem LW (zs:List Int):(Lib.compact zs).length≤zs.length:=by
 unfold Lib.compact Lib.compactUpTo;rw[List.length_map];exact Nat.le_trans (List.length_filter_le ..) (by simp)
theorem Ob [Ar] {P:Program} {ρ:Ren} (Ly:Go.Proofs.Lays2.n20 P ρ) (hrun:∀vals w,(callFunc (ρ.f 20) vals).run P w= .ok (.enter (ρ.f 20) vals) w) {zs r:List Int} (h:NV zs=some r):
 Vl P (ρ.f 20) [] 1 (lst (V.int .i64) zs) (lst (V.int .i64) r):=by
 unfold NV at h
 split at h
 case isFalse=>cases h
 rename_i hlt;cases h;have hle:(Lib.compact zs).length≤zs.length:=LW zs
 have key:ZZ P (ρ.f 20) zs (Lib.compact zs++List.replicate (zs.length - (Lib.compact zs).length) 0) (fun q=>.own q.id q.lo ((Lib.compact zs).length:Nat)):=by
  refine Tr (m:=(Lib.compact zs).length) (by simp;omega) hrun ?_ ?_
  ·rintro rfl p cap w;refine(Go.Proofs.Any.slices_Compact_int_empty Ly p cap w).mono fun e w' ⟨a,b⟩=>⟨_,a,b,.inl ⟨rfl,fun q hq=>?_⟩⟩;rw[hq.2]
   have:(Lib.compact ([]:List Int)).length=0:=by have:=LW [];simp only[List.length_nil]at this;omega
   rw[this];rfl
  intro blk off cap w _ hc hH hb;refine(Go.Proofs.Any.slices_Compact_int Ly blk off cap zs w hH hlt hc).mono fun e w' ⟨a,n,b⟩=>⟨_,a,.inl ⟨rfl,hle,fun _=>rfl⟩,n, #[],by rw[b,grow_empty]⟩
 intro H q hq hk
 rw[lst_eq]at hk hq
 refine(key H q (by simpa using hq) (by unfold Lk;exact hk)).mono fun v H' ⟨e1,e2⟩=>?_;subst e1;subst e2;refine⟨⟨q.id,q.lo,((Lib.compact zs).length:Nat),q.pre,(List.replicate (zs.length - (Lib.compact zs).length) 0).map (V.int .i64)++q.rest⟩,rfl,⟨hq.1,by rw[lst_eq];simp⟩,by rw[B7],?_⟩
 funext x
 rw[lst_eq]
 by_cases hx:x=q.id
 ·subst hx;rw[B7,B7];simp[Lk]
 rw[A7 _ _ hx,A7 _ _ hx,A7 _ _ hx]
end Go.Ab
namespace Go.Ab
open Go.RowKit
variable [J9][Ar]
theorem FQ {L:List En} {i j:Nat} {e' e:En} (hj:(L.set i e')[j]? =some e):(j=i∧e=e')∨(j≠i∧L[j]? =some e):=by
 rw[List.getElem?_set]at hj
 split at hj
 ·rename_i hij;subst hij
  split at hj
  ·exact .inl ⟨rfl,(Option.some.inj hj).symm⟩
  cases hj
 rename_i hij;exact .inr ⟨fun e=>hij e.symm,hj⟩
theorem OO {L:List En}{i j:Nat}{e':En}(h:j≠i):(L.set i e')[j]? =L[j]? :=by
 rw[List.getElem?_set,if_neg (fun e=>h e.symm)]
theorem Z9.setNone {H0 H:A2} {L:List En} (h:Z9 H0 L H) (i:Nat) {e e':En} (hi:L[i]? =some e) (he:e.id=none) (he':e'.id=none):Z9 H0 (L.set i e') H:=by
 refine⟨h.ext,fun j x id b hj hx=>?_,fun j k x x' id b b' hj hk hx hx'=>?_,fun x b hx=>?_⟩
 ·rcases FQ hj with⟨_,rfl⟩|⟨_,hj⟩
  ·rw[he']at hx;cases hx
  exact h.has j x id b hj hx
 ·rcases FQ hj with⟨_,rfl⟩|⟨_,hj⟩
  ·rw[he']at hx;cases hx
  rcases FQ hk with⟨_,rfl⟩|⟨_,hk⟩
  ·rw[he']at hx';cases hx'
  exact h.inj j k x x' id b b' hj hk hx hx'
 refine(h.only x b hx).imp (fun h=>h) fun⟨j,y,h1,h2⟩=>⟨j,y,?_,h2⟩;rw[OO fun e=>by subst e;rw[hi]at h1;cases h1;rw[he]at h2;cases h2];exact h1
theorem Z9.drop {H0 H:A2} {L:List En} (h:Z9 H0 L H) (i:Nat) {e e':En} {id:Nat} {b0:Fa} (hi:L[i]? =some e) (he:e.id=some (id,b0)) (he':e'.id=none):Z9 H0 (L.set i e') (upd H id none):=by
 have hid:=h.has i e id b0 hi he;refine⟨fun x b hx=>?_,fun j x y b hj hx=>?_,fun j k x x' y b b' hj hk hx hx'=>?_,fun x b hx=>?_⟩
 ·rw[A7 _ _ (P4 hid.1 hx)];exact h.ext x b hx
 ·rcases FQ hj with⟨_,rfl⟩|⟨hne,hj⟩
  ·rw[he']at hx;cases hx
  have:=h.has j x y b hj hx;refine⟨this.1,?_⟩;rw[A7 _ _ (fun eq=>by subst eq;exact hne (h.inj j i x e y b b0 hj hi hx he))];exact this.2
 ·rcases FQ hj with⟨_,rfl⟩|⟨_,hj⟩
  ·rw[he']at hx;cases hx
  rcases FQ hk with⟨_,rfl⟩|⟨_,hk⟩
  ·rw[he']at hx';cases hx'
  exact h.inj j k x x' y b b' hj hk hx hx'
 by_cases hxi:x=id
 ·subst hxi;rw[B7]at hx;cases hx
 rw[A7 _ _ hxi]at hx
 refine(h.only x b hx).imp (fun h=>h) fun⟨j,y,h1,h2⟩=>⟨j,y,?_,h2⟩;rw[OO fun ej=>by subst ej;rw[hi]at h1;cases h1;rw[he]at h2;cases h2;exact hxi rfl];exact h1
theorem C3.untok {Φ:A2→A2→Prop} {F H:A2} {L:List En} (h:C3 Φ F L H) (i:Nat) {tl tl':E4} (hi:L[i]? =some (.tl tl)) (ht:(En.tl tl').id=none):C3 Φ F (L.set i (.tl tl')) (G7 H tl):=by
 obtain⟨hs,F',H1,h0,h1,h2⟩:=h
 cases tl with
 |tok t=>
  have e:=(h0.has i _ t _ hi rfl).2;exact⟨hs,_,_,h0.drop i hi rfl ht,hs.chg t none h1 (by rw[e,hs.le h1 _ _ e]),h2.upd t none⟩
 |nil=>exact⟨hs,_,_,h0.setNone i hi rfl ht,h1,h2⟩
 |full=>exact⟨hs,_,_,h0.setNone i hi rfl ht,h1,h2⟩
 |ro=>exact⟨hs,_,_,h0.setNone i hi rfl ht,h1,h2⟩
section
variable {P:Program}{T:EZ}{f:FuncId}{fn:Func}{c:Code}{n:Nat}{rs:List ResultVar}{args:List V}
end
section
variable {P:Program}{nt:Nat}{rd:Option Nat}{T:EZ}{E:CU}
variable (hE:E=G0 P nt rd)
include hE
variable {α R:Type}{f:α→V}{Φ:A2→A2→Prop}{H0 H:A2}{L:List En}{r:R}{m:Option (List α)}{F:List α→Option R}{fid:FuncId}{args args':List V}{k:V→A2→Prop}
end
end Go.Ab
namespace Go.Ab
open Go.RowKit
variable [J9][Ar]
def Gh.lend (g:Gh)(w:World):Gh:={g with fz:=fun b o=>∃v,w.cell? ⟨b,o,none⟩=some v,base:=w.heap.size}
theorem VR.lend {g:Gh}{w:World}{B:Nat}{F:Nat→Nat→Prop}(hB:g.base≤B)(hF:∀b o,g.fz b o→F b o){v:Value}{x:V}(h:VR g w v x):VR {g with fz:=F,base:=B} w v x:=by
 induction h with
 |bad v=>exact .bad v
 |bool b=>exact .bool b
 |int k n=>exact .int k n
 |str s=>exact .str s
 |nilp=>exact .nilp
 |nilf=>exact .nilf
 |nili=>exact .nili
 |nilmap=>exact .nilmap
 |map h=>exact .map h
 |fmap hb hw hk hn hl hv ih=>exact VR.fmap (g:={g with fz:=F,base:=B}) (Nat.lt_of_lt_of_le hb hB) hw hk hn hl ih
 |ref h=>exact .ref h
 |own h h0 h1 h2 hp=>exact VR.own (g:={g with fz:=F,base:=B}) h h0 h1 h2 hp
 |elem h hs=>exact VR.elem (g:={g with fz:=F,base:=B}) h hs
 |eref vs hf hw h1 hv ih=>exact .eref vs (fun j hj=>hF _ _ (hf j hj)) hw h1 ih
 |sl0 ht=>exact .sl0 ht
 |sle ht=>exact .sle ht
 |sl vs hn hc hz hf hw h1 hv ht ih=>exact .sl vs hn hc hz (fun i j hi hj=>hF _ _ (hf i j hi hj)) hw h1 ih (ht.mono fun _ _ e=>e)
 |func hl hv hl' hv' ih ih'=>exact .func hl ih hl' ih'
 |yield h=>exact .yield h
 |iface h ih=>exact .iface ih
 |agg hl h1 hv ih=>exact .agg hl h1 ih
 |tup hl hv ih=>exact .tup hl ih
theorem Rl.lend {g:Gh}{H:A2}{w:World}(h:Rl g H w):Rl (g.lend w) (fun _=>none) w:=by
 refine⟨fun id b hb=>(by cases hb),fun id id' b h1 _=>(by simp[Gh.at]at h1),fun b o hf=>hf,fun id hi=>⟨(h.nxt id hi).1,(h.nxt id hi).2.1,rfl⟩,Nat.le_refl _,fun n=>(h.glb n).lend h.bnd fun b o hf=>h.frz b o hf⟩
theorem Rl.lendOwn {g:Gh} {H:A2} {w:World} (h:Rl g H w) {id sz:Nat} {xs:List V} (hk:H id=some (.arr sz xs)) {v:Value} {lo n:Int} (hv:VR g w v (.own id lo n)):VR (g.lend w) w v (.sl (L7 xs lo n) .ro):=by
 obtain⟨g',⟨e1,e2,e3⟩,s,hR,hw⟩:=h.freezeArr' hk;have:=(hw v lo n (hv.mono s)).lend (F:=fun b o=>∃v,w.cell? ⟨b,o,none⟩=some v) (B:=w.heap.size) hR.bnd fun b o hf=>hR.frz b o hf
 have e:({g' with fz:=fun b o=>∃v,w.cell? ⟨b,o,none⟩=some v,base:=w.heap.size}:Gh)={(g.lend w)with nx:=g'.nx}:=by
  simp only[Gh.lend,Gh.mk.injEq,and_true];exact⟨e1,e3,e2⟩
 rw[e]at this
 exact VR.nxt this
where
 VR.nxt {g:Gh} {w:World} {n:Nat} {v:Value} {x:V} (h:VR {g with nx:=n} w v x):VR g w v x:=by
  generalize hg:({g with nx:=n}:Gh)=g1 at h
  have hmu:g1.mu=g.mu:=by rw[←hg]
  have htk:g1.tk=g.tk:=by rw[←hg]
  have hfz:g1.fz=g.fz:=by rw[←hg]
  have how:g1.ow=g.ow:=by rw[←hg]
  have hba:g1.base=g.base:=by rw[←hg]
  clear hg
  induction h with
  |bad v=>exact .bad v
  |bool b=>exact .bool b
  |int k n=>exact .int k n
  |str s=>exact .str s
  |nilp=>exact .nilp
  |nilf=>exact .nilf
  |nili=>exact .nili
  |nilmap=>exact .nilmap
  |map h=>exact .map (hmu▸h)
  |fmap hb hw hk hn hl hv ih=>exact .fmap (hba▸hb) hw hk hn hl ih
  |ref h=>exact .ref (hmu▸h)
  |own h h0 h1 h2 hp=>rw[how]at h2 hp ⊢;exact VR.own (hmu▸h) h0 h1 h2 hp
  |elem h hs=>rw[how]at hs ⊢;exact VR.elem (hmu▸h) hs
  |eref vs hf hw h1 hv ih=>exact .eref vs (fun j hj=>hfz▸hf j hj) hw h1 ih
  |sl0 ht=>exact .sl0 ht
  |sle ht=>exact .sle ht
  |sl vs hn hc hz hf hw h1 hv ht ih=>exact .sl vs hn hc hz (fun i j hi hj=>hfz▸hf i j hi hj) hw h1 ih (ht.mono fun _ _ e=>htk▸e)
  |func hl hv hl' hv' ih ih'=>exact .func hl ih hl' ih'
  |yield h=>exact .yield (hmu▸h)
  |iface h ih=>exact .iface ih
  |agg hl h1 hv ih=>exact .agg hl h1 ih
  |tup hl hv ih=>exact .tup hl ih
def YF :V→Bool
 | .bool _=>true
 | .int _ _=>true
 | .str _=>true
 |_=>false
inductive Kb :V→Prop
 |bool (b:Bool):Kb (.bool b)
 |int (k:IntKind) (n:Int):Kb (.int k n)
 |str (s:ByteArray):Kb (.str s)
 |agg {cs:List V} (h:cs.all YF=true):Kb (.agg cs)
 |tup2 {x y:V} (h:Kb x) (k:Kb y):Kb (.tup [x,y])
 |tup3 {x y z:V} (h:Kb x) (k:Kb y) (m:Kb z):Kb (.tup [x,y,z])
theorem Kb.any {x:V} (h:Kb x):∀{g g':Gh} {w w':World} {v:Value},VR g w v x→VR g' w' v x:=by
 induction h with
 |bool b=>intro g g' w w' v h;cases h;exact .bool b
 |int k n=>intro g g' w w' v h;cases h;exact .int k n
 |str s=>intro g g' w w' v h;cases h;exact .str s
 | @agg cs hp=>
  intro g g' w w' v h
  cases h with
  |agg hl h1 hv=>
   refine .agg hl h1 fun i hi=>?_;have hvi:=hv i hi;have hm:=List.all_eq_true.1 hp _ (List.getElem_mem hi)
   rw[show cs.getD i .bad=cs[i] by rw[List.getD_eq_getElem?_getD,List.getElem?_eq_getElem hi];rfl]at hvi ⊢
   generalize cs[i]=c at hvi hm ⊢
   generalize Array.getD _ i undef=u at hvi ⊢
   cases c<;>simp only[YF,Bool.false_eq_true]at hm<;>cases hvi<;>constructor
 | tup2 _ _ ih1 ih2=>
  intro g g' w w' v h
  cases h with
  |tup hl hv=>
   refine .tup hl fun i hi=>?_
   match i with
   |0=>exact ih1 (hv 0 hi)
   |1=>exact ih2 (hv 1 hi)
   |i+2=>simp at hi;omega
 | tup3 _ _ _ ih1 ih2 ih3=>
  intro g g' w w' v h
  cases h with
  |tup hl hv=>
   refine .tup hl fun i hi=>?_
   match i with
   |0=>exact ih1 (hv 0 hi)
   |1=>exact ih2 (hv 1 hi)
   |2=>exact ih3 (hv 2 hi)
   |i+3=>simp at hi;omega
inductive IV (H:A2):List V→List V→Prop
 |nil:IV H [] []
 |le {x y:V} {xs ys:List V} (h:BG x y) (k:IV H xs ys):IV H (x::xs) (y::ys)
 |fm {id:Nat} {ks:List Int} {zs xs ys:List V} (h:H id=some (.fm ks zs)) (k:IV H xs ys):IV H (.map id::xs) (.fmap ks zs::ys)
 |agg {us ws xs ys:List V} (h:IV H us ws) (k:IV H xs ys):IV H (.agg us::xs) (.agg ws::ys)
 |own {id sz:Nat} {zs:List V} {lo n:Int} {xs ys:List V} (h:H id=some (.arr sz zs)) (k:IV H xs ys):IV H (.own id lo n::xs) (.sl (L7 zs lo n) .ro::ys)
theorem IV.length {H:A2}{xs ys:List V}(h:IV H xs ys):xs.length=ys.length:=by
 induction h with
 |nil=>rfl
 |le _ _ ih=>simp[ih]
 |fm _ _ ih=>simp[ih]
 |agg _ _ _ ih=>simp[ih]
 |own _ _ ih=>simp[ih]
theorem IV.at {g:Gh} {H:A2} {w:World} (hR:Rl g H w) {xs ys:List V} (h:IV H xs ys):∀(vals:Nat→Value),(∀i,i<xs.length→VR g w (vals i) (xs.getD i .bad))→∀i,i<ys.length→VR (g.lend w) w (vals i) (ys.getD i .bad):=by
 induction h with
 |nil=>intro _ _ i hi;simp at hi
 |le h k ih=>
  intro vals hv i hi
  cases i with
  |zero=>exact((hv 0 (by simp)).le h).lend hR.bnd fun b o hf=>hR.frz b o hf
  |succ i=>exact ih (fun i=>vals (i+1)) (fun i hi=>by simpa using hv (i+1) (by simpa using hi)) i (by simpa using hi)
 | fm h k ih=>
  intro vals hv i hi
  cases i with
  | zero=>
   have h0:=hv 0 (by simp)
   simp only[List.getD_cons_zero]at h0 ⊢
   generalize vals 0=u at h0
   cases h0 with
   |map hm=>
    obtain⟨b,es,clock,k1,k2,k3,k4,k5,k6,k7⟩:=hR.blk _ _ h
    rw[hm]at k1;cases k1
    exact VR.fmap (g:=Gh.lend _ _) (Qw k3) k3 k4 k5 k6 fun i e hi=>(k7 i e hi).lend hR.bnd fun b o hf=>hR.frz b o hf
  |succ i=>exact ih (fun i=>vals (i+1)) (fun i hi=>by simpa using hv (i+1) (by simpa using hi)) i (by simpa using hi)
 | agg h k ih1 ih=>
  intro vals hv i hi
  cases i with
  | zero=>
   have h0:=hv 0 (by simp)
   simp only[List.getD_cons_zero]at h0 ⊢
   generalize vals 0=u at h0
   cases h0 with
   |agg hl h1 hv1=>
    have e:=h.length;exact .agg (hl.trans e) (fun i hi=>h1 i (by omega)) fun i hi=>ih1 (fun i=>Array.getD _ i undef) hv1 i hi
  |succ i=>exact ih (fun i=>vals (i+1)) (fun i hi=>by simpa using hv (i+1) (by simpa using hi)) i (by simpa using hi)
 |own h k ih=>
  intro vals hv i hi
  cases i with
  |zero=>exact hR.lendOwn h (hv 0 (by simp))
  |succ i=>exact ih (fun i=>vals (i+1)) (fun i hi=>by simpa using hv (i+1) (by simpa using hi)) i (by simpa using hi)
theorem B6.lent {P:Program}{f:FuncId}{ys:List V}{r:V}(c:B6 P f ys r)(hr:Kb r){H:A2}{xs:List V}(hl:IV H xs ys):I0 P f xs H fun x H'=>x=r∧H'=H:=by
 intro g w vals hR hA;have hA2:Args (g.lend w) w vals ys:=⟨hA.1.trans hl.length,hl.at hR (fun i=>vals.getD i undef) hA.2⟩;refine(c _ _ w vals hR.lend hA2).mono fun v w' ⟨g',x,H',s,hR',hv,e1,e2⟩=>?_;subst e1;have hb:Below w.heap.size w w':=s.low;have sg:T4 g w g w':=⟨fun _ _ e=>e,fun _ _ e=>e,fun _ _ e=>e,rfl,fun b o hf=>hb.cell (hR.fz_lt hf),hb.mono hR.bnd,fun _ _ _=>rfl,s.dr⟩;refine⟨g,x,H,sg,⟨fun id b hk=>(hR.blk id b hk).mono hk sg fun y hy=>⟨hb.block _ (hR.lt hy),fun _ ho=>ho⟩,hR.inj,fun b o hf=>?_,hR.nxt,Nat.le_trans hR.bnd hb.size,fun n=>(hR.glb n).mono sg⟩,hr.any hv,rfl,rfl⟩;obtain⟨u,hu⟩:=hR.frz b o hf;exact⟨u,(hb.cell (hR.fz_lt hf)).trans hu⟩
section
variable {P:Program}{nt:Nat}{rd:Option Nat}{T:EZ}{E:CU}
variable (hE:E=G0 P nt rd)
include hE
theorem Af0 {R S:Type}{m:Option S}{F:S→Option R}{r:R}{f:FuncId}{args args':List V}{g:S→V}{H:A2}{k:V→A2→Prop}(h:m.bind F=some r)(hc:∀x,m=some x→B6 P f args' (g x))(hs:∀x,Kb (g x))(hl:IV H args args')
 (hk:∀x,F x=some r→k (g x) H):E.call (.func (.func f) [] []) args H k:=by
 subst hE;obtain⟨x,h1,h2⟩:=bind_some h;refine I0.value (F:=[]) (C:=[]) ?_;simp only[List.nil_append,append_nil]
 exact((hc x h1).lent (hs x) hl).mono fun v H' ⟨e1,e2⟩=>by subst e1;subst e2;exact hk x h2
end
end Go.Ab
namespace Go.Ab
open Go.RowKit Go.MapKept
variable [J9][Ar]
def Mok {K X:Type}(d:TypeDesc)(kf:K→V)(vf:X→V)(o:Obj)(m:List (K×X)):Prop:=∃m':List (K×X),AW d o (m'.map fun p=>(kf p.1,vf p.2))∧m'.Perm m
theorem Mok.perm {K X:Type}{d:TypeDesc}{kf:K→V}{vf:X→V}{o:Obj}{m l:List (K×X)}(h:Mok d kf vf o m)(hp:m.Perm l):Mok d kf vf o l:=
 let⟨m',h1,h2⟩:=h;⟨m',h1,h2.trans hp⟩
theorem Ag1 {K X:Type}{m:List (K×X)}(hn:(m.map (·.1)).Nodup){p q:K×X}(hp:p∈m)(hq:q∈m)(e:p.1=q.1):p=q:=by
 obtain⟨i,hi,rfl⟩:=List.getElem_of_mem hp;obtain⟨j,hj,rfl⟩:=List.getElem_of_mem hq;have:i=j:=Gc hn (by simpa using hi) (by simpa using hj) (by simpa using e);subst this;rfl
theorem Xr {K X:Type} [DecidableEq K] {m m':List (K×X)} (hp:m'.Perm m) (hn:(m'.map (·.1)).Nodup) (k:K) (z:X):Lr m' k z=Lr m k z:=by
 unfold Lr
 cases hf:m.find? (fun p=>decide (p.1=k))with
 |none=>
  have:m'.find? (fun p=>decide (p.1=k))=none:=List.find?_eq_none.2 fun p hm=>List.find?_eq_none.1 hf p (hp.mem_iff.1 hm);rw[this]
 | some p=>
  have h1:p.1=k:=by simpa using List.find?_some hf
  have h2:=hp.mem_iff.2 (List.mem_of_find?_eq_some hf)
  cases hg:m'.find? (fun p=>decide (p.1=k))with
  |none=>exact absurd h1 (by simpa using List.find?_eq_none.1 hg p h2)
  |some q=>
   have h3:q.1=k:=by simpa using List.find?_some hg
   rw[Ag1 hn (List.mem_of_find?_eq_some hg) h2 (h3.trans h1.symm)]
theorem WQ {K X:Type} [DecidableEq K] {m m' r:List (K×X)} (hp:m'.Perm m) {k:K} {v:X} (h:Kn m k v=some r):∃r',Kn m' k v=some r'∧r'.Perm r:=by
 unfold Kn at h
 cases h;refine⟨_,rfl,?_⟩
 have e:m'.any (fun p=>decide (p.1=k))=m.any (fun p=>decide (p.1=k)):=by
  rw[Bool.eq_iff_iff,List.any_eq_true,List.any_eq_true];exact⟨fun⟨p,h1,h2⟩=>⟨p,hp.mem_iff.1 h1,h2⟩,fun⟨p,h1,h2⟩=>⟨p,hp.mem_iff.2 h1,h2⟩⟩
 rw[e]
 split
 ·exact hp.map _
 exact hp.append_right _
theorem UI {K X:Type}{d:TypeDesc}{kf:K→V}{vf:X→V}{o:Obj}{m:List (K×X)}(h:AW d o (m.map fun p=>(kf p.1,vf p.2))):(m.map (·.1)).Nodup:=by
 have:=h.nodup
 rw[List.map_map]at this
 have e:(m.map ((·.1)∘fun p=>(kf p.1,vf p.2)))=(m.map (·.1)).map kf:=by rw[List.map_map];rfl
 rw[e]at this
 exact List.Pairwise.imp (fun h e=>h (by rw[e])) (List.pairwise_map.1 this)
def WB (P:Program)(kt:TypeId)(d:TypeDesc):Bool:=match d with| .struct _=> !P.stoodInHeld kt|_=>true
structure Oj {K:Type} (P:Program) (d:TypeDesc) (kf:K→V):Prop where
 raw:∀x,∃v,Al (kf x)=some v∧CR d v
 inj:∀x y,kf x=kf y→x=y
 kg:∀kt,P.underlying kt=some d→WB P kt d=true→KG P kt (CR d)
theorem OV :∀l:List Int,GB (l.map (V.int .i64))=some (l.map (Value.int .i64))
 |[]=>rfl
 |x::l=>by simp[GB,HA,OV l]
def Al3 (P:Program)(fs:Array Field):Bool:=
 fs.toList.all (fun f=>f.name != "_" &&(match P.underlying f.type with|some (.int .i64)=>true|_=>false)&&decide (f.offset<fs.size))&&(List.range fs.size).all (fun i=>fs.toList.any fun f=>f.offset==i)
theorem Pc {K:Type} {P:Program} {fs:Array Field} {g:K→List Int} {kf:K→V} (hk:∀x,kf x= .agg ((g x).map (V.int .i64))) (hn:∀x,(g x).length=fs.size) (hg:∀x y,g x=g y→x=y)
 (hf:Al3 P fs=true):Oj P (.struct fs) kf where
 raw:=fun x=>⟨.agg ((g x).map (Value.int .i64)).toArray,by rw[hk];simp[Al,OV],g x,hn x,rfl⟩
 inj:=fun x y h=>hg x y (by
  rw[hk,hk]at h
  have h2:=V.agg.inj h
  exact(List.map_inj_right (fun a b h=>by cases h;rfl)).1 h2)
 kg:=fun kt h hs=>by
  unfold Al3 at hf
  simp only[and_eq_true,List.all_eq_true,List.any_eq_true,decide_eq_true_eq,bne_iff_ne,beq_iff_eq,List.mem_range]at hf
  obtain⟨h1,h2⟩:=hf
  have e:P.fieldsOf kt=fs:=by simp[Program.fieldsOf,h]
  refine KG.flds (by rw[e];exact h) (by simpa[WB]using hs) ⟨fun f hf=>?_,fun i hi=>?_⟩
  ·rw[e]at hf
   obtain⟨⟨a,b⟩,c⟩:=h1 f hf;refine⟨a,?_,c⟩
   revert b
   split
   ·rename_i h;exact fun _=>h
   intro h;cases h
  rw[e];obtain⟨f,hf,he⟩:=h2 i hi;exact⟨f,hf,he⟩
def MvOk {X:Type}(vf:X→V):Prop:=∀x,∃v,Al (vf x)=some v
theorem Pa :MvOk V.bool:=fun _=>⟨_,rfl⟩
theorem C3.startO {H0:A2}{id:Nat}{b:Fa}(hk:H0 id=some b):C3 Eq (upd H0 id none) [.blk id b] H0:=by
 have h:C3 Eq (upd H0 id none) [.blk id b] (upd (upd H0 id none) id (some b)):=(C3.start H5 rfl).push (B7 _ _ _) rfl
 rwa[Bu,Rp H0 id (some b) hk]at h
theorem VG {α:Type}{f:α→V}{q:OG}{l:List α}(h:Aa q ((lst f l).length:Nat)):Aa q (Ar.len l):=⟨h.1,by rw[h.2,len_eq,I3]⟩
section
variable {P:Program}{nt:Nat}{rd:Option Nat}{T:EZ}{E:CU}
variable (hE:E=G0 P nt rd)
include hE
variable {α R:Type}{f:α→V}{Φ:A2→A2→Prop}{H0 H:A2}{L:List En}{sz:Nat}{q:OG}{l:List α}{r:R}
theorem Uz (hO:C3 Φ H0 L H){k:V→A2→Prop}(hk:∀(q:OG) H',Aa q (Ar.len ([]:List α))→C3 Φ H0 (.blk q.id (.arr sz (q.pre++lst f []++q.rest))::L) H'→k (.own q.id q.lo q.n) H'):E.onil sz H k:=by
 subst hE;intro t ht
 have e:([]:List V)++lst f []++[]=[]:=by rw[←D5 (f:=f)];rfl
 refine hk ⟨t,0,0,[],[]⟩ _ ⟨rfl,by rw[len_eq];rfl⟩ ?_
 show C3 Φ H0 (.blk t (.arr sz (([]:List V)++lst f []++[]))::L) _
 rw[e];exact hO.push ht rfl
theorem YT {xs:List V}(hx:H9 xs (lst f l))(hO:C3 Φ H0 L H){k:V→A2→Prop}(hk:∀(q:OG) H',Aa q (Ar.len l)→C3 Φ H0 (.blk q.id (.arr sz (q.pre++lst f l++q.rest))::L) H'→k (.own q.id q.lo q.n) H'):E.olit sz H xs k:=by
 subst hE
 have el:xs.length=l.length:=by rw[hx.length,I3]
 refine⟨_,hx,fun t ht=>?_⟩;refine hk ⟨t,0,(xs.length:Nat),[],[]⟩ _ ⟨rfl,by rw[len_eq,el]⟩ ?_
 show C3 Φ H0 (.blk t (.arr sz (([]:List V)++lst f l++[]))::L) _
 rw[List.nil_append,append_nil];exact hO.push ht rfl
section
variable {K X:Type}{kf:K→V}{vf:X→V}{t kt et:Nat}{d:TypeDesc}{m:List (K×X)}{o:Obj}{id:Nat}
theorem As1 (d:TypeDesc)(kf:K→V)(vf:X→V)(hO:C3 Φ H0 L H){k:V→A2→Prop}(hk:∀id o H',Mok d kf vf o []→C3 Φ H0 (.blk id (.obj o)::L) H'→k (.map id) H'):E.mmk H k:=by
 subst hE;exact .inl fun id hid=>hk id _ _ ⟨[],AW.empty d,.refl _⟩ (hO.push hid rfl)
theorem At6 [DecidableEq K] (hK:Oj P d kf) {z:V} {z0:X} (hz:Gt P et=some z) (hvz:z=vf z0) {key:K} {x:X×Bool} (hx:Lr m key z0=some x) (ok:Bool):
 Am1 P et (m.map fun p=>(kf p.1,vf p.2)) (kf key) ok (if ok=true then .tup [vf x.1,.bool x.2]else vf x.1):=by
 unfold Lr at hx
 cases hx
 cases hf:m.find? (fun p=>decide (p.1=key))with
 |none=>
  refine .inl ⟨fun p hp=>?_,z,hz,by simp only[hvz]⟩;obtain⟨q,hq,rfl⟩:=List.mem_map.1 hp;have:=List.find?_eq_none.1 hf q hq;exact fun e=>this (by simpa using hK.inj _ _ e)
 |some p=>
  have h1:=List.find?_some hf;have h2:=List.mem_of_find?_eq_some hf;refine .inr ⟨vf p.2,List.mem_map.2 ⟨p,h2,?_⟩,rfl⟩;rw[show p.1=key by simpa using h1]
theorem YV [DecidableEq K](hm:P.underlying t=some (.map kt et))(hd:P.underlying kt=some d)(hK:Oj P d kf){z:V}(z0:X)(hz:Gt P et=some z)(hvz:z=vf z0)(hO:C3 Φ H0 L H)(hq:Mok d kf vf o m)(i:Nat)(hi:L[i]? =some (.blk id (.obj o)))
 {key:K} {k:V→Prop} {F:X×Bool→Option R} (h:(Lr m key z0).bind F=some r) (hk:∀x,F x=some r→k (vf x.1)) (hst:WB P kt d=true:=by kernel_rfl):E.mget t H (.map id) (kf key) false k:=by
 obtain⟨x,h1,h2⟩:=bind_some h;obtain⟨m',hq,hp⟩:=hq
 rw[←Xr hp (UI hq)]at h1
 have ha:=At6 (P:=P) (vf:=vf) hE hK hz hvz h1 false;subst hE;obtain⟨v,hv1,hv2⟩:=hK.raw key;exact⟨_,.inl ⟨kt,et,d,v,id,o,_,hm,hK.kg _ hd hst,hv1,hv2,rfl,hO.get i hi,hq,ha⟩,hk x h2⟩
theorem Ab9 [DecidableEq K] (hK:Oj P d kf) (hn:((m.map fun p=>(kf p.1,vf p.2)).map (·.1)).Nodup) {key:K} {v:X} {m':List (K×X)} (hx:Kn m key v=some m'):Ap6 (m.map fun p=>(kf p.1,vf p.2)) (kf key) (vf v) (m'.map fun p=>(kf p.1,vf p.2)):=by
 unfold Kn at hx
 cases hx
 split
 ·rename_i h;obtain⟨p,hp,he⟩:=List.any_eq_true.1 h
  have he:p.1=key:=by simpa using he
  obtain⟨a,b,hab⟩:=List.append_of_mem hp;subst hab;refine .inr ⟨a.map fun p=>(kf p.1,vf p.2),vf p.2,b.map fun p=>(kf p.1,vf p.2),by simp[he],?_⟩
  have hna:∀l:List (K×X),(∀q∈l,q.1≠key)→(l.map (fun p=>if p.1=key then(key,v)else p))=l:=fun l hl=>by
   induction l with
   |nil=>rfl
   |cons y l ih=>rw[List.map_cons,if_neg (hl y (by simp)),ih fun q hq=>hl q (by simp[hq])]
  rw[List.map_map,List.map_append,List.map_cons,List.nodup_append]at hn
  obtain⟨_,n2,n3⟩:=hn
  rw[List.nodup_cons]at n2
  have ha:∀q∈a,q.1≠key:=fun q hq e=>n3 (kf q.1) (List.mem_map.2 ⟨q,hq,rfl⟩) (kf p.1) (by simp) (by rw[e,he]);have hb:∀q∈b,q.1≠key:=fun q hq e=>n2.1 (List.mem_map.2 ⟨q,hq,by simp[e,he]⟩);rw[List.map_append,List.map_cons,hna a ha,hna b hb,if_pos he];simp
 rename_i h;refine .inl ⟨fun p hp=>?_,by simp⟩;obtain⟨q,hq,rfl⟩:=List.mem_map.1 hp;exact fun e=>h (List.any_eq_true.2 ⟨q,hq,by simpa using hK.inj _ _ e⟩)
theorem YU [DecidableEq K](hm:P.underlying t=some (.map kt et))(hd:P.underlying kt=some d)(hK:Oj P d kf)(hV:MvOk vf)(hO:C3 Φ H0 L H)(hq:Mok d kf vf o m)(i:Nat)(hi:L[i]? =some (.blk id (.obj o)))
 {key:K} {v:X} {k:A2→Prop} {F:List (K×X)→Option R} (h:(Kn m key v).bind F=some r) (hk:∀m' o' H',Mok d kf vf o' m'→F m'=some r→C3 Φ H0 (L.set i (.blk id (.obj o'))) H'→k H') (hst:WB P kt d=true:=by kernel_rfl):E.mset t H (.map id) (kf key) (vf v) k:=by
 obtain⟨m',h1,h2⟩:=bind_some h;obtain⟨m0,hq,hp⟩:=hq;obtain⟨r',h3,hp'⟩:=WQ hp h1;have hs:=Ab9 (d:=d) hE hK hq.nodup h3;subst hE;obtain⟨kv,hv1,hv2⟩:=hK.raw key;obtain⟨vv,hv3⟩:=hV v;exact .inl ⟨kt,et,d,kv,vv,id,o,_,_,hm,hK.kg _ hd hst,hv1,hv2,hv3,rfl,hO.get i hi,hq,hs,fun o' ho=>hk m' o' _ ⟨r',ho,hp'⟩ h2 (hO.set i hi)⟩
end
end
end Go.Ab
namespace Go.Ab
open Go.RowKit
variable [J9][Ar]
def Vm (P:Program)(f:FuncId)(args:List V)(ks:List Int)(xs:List V):Prop:=∀H,I0 P f args H fun v H'=>∃id,H id=none∧v= .map id∧H'=upd H id (some (.fm ks xs))
def FG (E:CU)(n:Int)(K:V→Prop)(z:V):List Int→List V→Prop
 |k::ks,x::xs=>E.br (Ar.cmp .eql n k) (fun _=>K x) (fun _=>FG E n K z ks xs)
 |_,_=>K z
def AG (E:CU)(i:Int)(K:Nat→Prop):List Int→Prop
 |m::ms=>E.br (Ar.cmp .eql i m) (fun _=>K m.toNat) (fun _=>AG E i K ms)
 |[]=>False
section
variable {P:Program}{nt:Nat}{rd:Option Nat}{T:EZ}{E:CU}
variable (hE:E=G0 P nt rd)
include hE
variable {Φ:A2→A2→Prop}{H0 H:A2}{L:List En}{t kt et id:Nat}{ks:List Int}{xs:List V}
theorem As3 (hO:C3 Φ H0 L H){k:V→A2→Prop}(hk:∀id H',C3 Φ H0 (.blk id (.fm [] [])::L) H'→k (.map id) H'):E.mmk H k:=by
 subst hE;exact .inr (.inl fun id hid=>hk id _ (hO.push hid rfl))
theorem JJ (hm:P.underlying t=some (.map kt et))(hd:P.underlying kt=some (.int .i64))(hO:C3 Φ H0 L H)(i:Nat)(hi:L[i]? =some (.blk id (.fm ks xs))){n:Int}{v:V}(hn:ks.all (fun k=> !(k==n))=true)
 {k:A2→Prop} (hk:∀H',C3 Φ H0 (L.set i (.blk id (.fm (ks++[n]) (xs++[v])))) H'→k H'):E.mset t H (.map id) (.int .i64 n) v k:=by
 subst hE;exact .inr (.inl ⟨kt,et,ks,xs,n,id,hm,hd,rfl,hO.get i hi,rfl,(fun x hx=>by have:=List.all_eq_true.1 hn x hx;simpa using this),hk _ (hO.set i hi)⟩)
theorem Wc {n:Int} {K:V→Prop} {z:V}:∀(ks:List Int) (xs:List V),xs.length=ks.length→FG E n K z ks xs→∃v,((∃i:Nat,ks[i]? =some n∧v=xs.getD i .bad)∨((∀k∈ks,k≠n)∧z=v))∧K v
 |[],[],_,h=>⟨z,.inr ⟨(fun _ h=>by cases h),rfl⟩,h⟩
 |[],_::_,hl,_=>by simp at hl
 |_::_,[],hl,_=>by simp at hl
 | k::ks,x::xs,hl,h=>by
  have ih:=Wc (n:=n) (K:=K) (z:=z) ks xs (by simpa using hl)
  unfold FG at h
  subst hE;obtain⟨h1,h2⟩:=h
  rw[Ar.cmp_eq]at h1 h2
  cases hb:JZ .eql n k with
  |true=>
   have e:n=k:=by simpa[JZ]using hb
   exact⟨x,.inl ⟨0,by simp[e],by simp⟩,h1 hb⟩
  |false=>
   have e:n≠k:=by simpa[JZ]using hb
   obtain⟨v,hv,hk⟩:=ih (h2 hb);refine⟨v,?_,hk⟩
   rcases hv with⟨i,q1,q2⟩|⟨q1,q2⟩
   ·exact .inl ⟨i+1,by simpa using q1,by simpa using q2⟩
   refine .inr ⟨fun y hy=>?_,q2⟩
   rcases List.mem_cons.1 hy with rfl|hy
   ·exact fun e'=>e e'.symm
   exact q1 y hy
theorem Wt {i:Int} {K:Nat→Prop}:∀ms:List Int,AG E i K ms→∃m∈ms,i=m∧K i.toNat
 |[],h=>h.elim
 | m::ms,h=>by
  have ih:=Wt (i:=i) (K:=K) ms
  unfold AG at h
  subst hE;obtain⟨h1,h2⟩:=h
  rw[Ar.cmp_eq]at h1 h2
  cases hb:JZ .eql i m with
  |true=>
   have e:i=m:=by simpa[JZ]using hb
   exact⟨m,by simp,e,by rw[e];exact h1 hb⟩
  |false=>
   obtain⟨m',q1,q2,q3⟩:=ih (h2 hb);exact⟨m',by simp[q1],q2,q3⟩
theorem An4 (hm:P.underlying t=some (.map kt et))(hd:P.underlying kt=some (.int .i64)){z:V}(hz:Gt P et=some z)(hl:xs.length=ks.length){n:Int}{k:V→Prop}(h:FG E n k z ks xs):E.mget t H (.fmap ks xs) (.int .i64 n) false k:=by
 obtain⟨v,hv,hk⟩:=Wc hE ks xs hl h;subst hE;exact⟨v,.inr (.inl ⟨kt,et,ks,xs,n,hm,hd,rfl,rfl,rfl,hv.imp (fun h=>h) fun⟨h1,h2⟩=>⟨h1,h2▸hz⟩⟩),hk⟩
theorem Ak7 (hO:C3 Φ H0 L H)(i:Nat){cs ds:List V}{k:A2→Prop}(hi:L[i]? =some (.blk id (.cells cs)))(hl:H9 cs ds)(hk:∀H',C3 Φ H0 (L.set i (.blk id (.cells ds))) H'→k H'):E.wkB H id k:=by
 subst hE;exact⟨cs,ds,hO.get i hi,hl,hk _ (hO.set i hi)⟩
theorem Af1 {n:Nat}{i:Int}{K:Nat→Prop}(ms:List Int)(hm:(ms.map Int.toNat==List.range n&&ms.all (fun m=>decide (0≤m)))=true)(h:AG E i K ms):E.aidx i n K:=by
 obtain⟨m,h1,h2,h3⟩:=Wt hE ms h;subst hE;subst h2
 simp only[and_eq_true,beq_iff_eq,List.all_eq_true,decide_eq_true_eq]at hm
 have hmem:i.toNat∈List.range n:=by rw[←hm.1];exact List.mem_map.2 ⟨_,h1,rfl⟩
 have h0:=hm.2 _ h1
 rw[List.mem_range]at hmem
 exact⟨⟨h0,by omega⟩,h3⟩
theorem YY {fid:FuncId}{args args':List V}(hc:Vm P fid args' ks xs)(hl:H9 args args')(hO:C3 Φ H0 L H){k:V→A2→Prop}(hk:∀id H',C3 Φ H0 (.blk id (.fm ks xs)::L) H'→k (.map id) H'):E.call (.func (.func fid) [] []) args H k:=by
 subst hE;refine I0.value (F:=[]) (C:=[]) ?_;simp only[List.nil_append,append_nil]
 exact((hc H).args hl).mono fun v H' ⟨id,e1,e2,e3⟩=>by subst e2;subst e3;exact hk id _ (hO.push e1 rfl)
end
theorem Vi {P:Program}{T:EZ}{f:FuncId}{fn:Func}{c:Code}{n:Nat}{rs:List ResultVar}{args:List V}{ks:List Int}{xs:List V}(cf:Cf)(hP:QV P T)(hf:P.funcs[f]? =some fn)(hb:fn.body=some c)(hd:I4 cf c=true)
 (hcall:∀vals w,(callFunc f vals).run P w= .ok (.enter f vals) w) (hnt:fn.ntmps=n) (hrs:fn.results.toList=rs) (hn:Nat.ble args.length n=true)
 (h:∀(E:CU) (H:A2) (k:V→A2→Prop),E=G0 P n none→(∀id (L:List En) (i:Nat) H',L[i]? =some (.blk id (.fm ks xs))→C3 Eq H L H'→k (.map id) H')→run E T n cf c ⟨Bp args 0,[]⟩ H (Lu E T rs k)):Vm P f args ks xs:=fun H=>by
 refine I0.le (S1 (K:=fun x H'=>∃y H2,BG x y∧Gr H2 H'∧∃id,H id=none∧y= .map id∧H2=upd H id (some (.fm ks xs))) cf hP.1 hP.2 hf hb hd hcall hnt hrs hn fun E hE=>?_);refine h E H _ hE fun id L i H' hi hO=>?_;obtain⟨h1,h2⟩:=(hO.only i hi).last;exact⟨_,_,.refl _,h2,id,h1,rfl,rfl⟩
end Go.Ab
namespace Go.Ab
open Go.RowKit
variable [J9][Ar]
theorem K7 {α:Type}{m:Option α}{x:α}(h:m=some x):(m.bind fun y=>some y)=some x:=by rw[h];rfl
inductive Vn {α β:Type} (R:α→β→Prop):List α→List β→Prop
 |nil:Vn R [] []
 |cons {x:α} {y:β} {xs:List α} {ys:List β} (h:R x y) (k:Vn R xs ys):Vn R (x::xs) (y::ys)
theorem Vn.get {α β:Type}{R:α→β→Prop}:∀{xs:List α} {ys:List β},Vn R xs ys→∀{i:Nat} {y:β},ys[i]? =some y→∃x,xs[i]? =some x∧R x y
 |_,_,.nil,i,y,h=>by simp at h
 |_,_,.cons h k,0,y,e=>by simp at e;subst e;exact⟨_,rfl,h⟩
 |_,_,.cons h k,i+1,y,e=>by simp at e ⊢;exact k.get e
theorem Vn.len {α β:Type}{R:α→β→Prop}:∀{xs:List α} {ys:List β},Vn R xs ys→xs.length=ys.length
 |_,_,.nil=>rfl
 |_,_,.cons _ k=>by simp[k.len]
def Aq5 (P:Program)(fv:V)(args:List V)(Q:V→Prop):Prop:=∀H,AX P fv args H fun x H'=>Q x∧H'=H
theorem Ij.value {P:Program}{f:FuncId}{F C args:List V}{Q:V→Prop}(h:Ij P f (F++args++C) Q):Aq5 P (.func (.func f) F C) args Q:=fun H=>(h H).value
section
variable {P:Program}{nt:Nat}{rd:Option Nat}{E:CU}(hE:E=G0 P nt rd)
include hE
end
end Go.Ab
namespace Go.Ab
open Go.RowKit Go.Sort Go.Shelf Go.Proofs
structure QU (P:Program) (f:FuncId) (k:Nat):Prop where
 zero:∀p cap fv w,Calls P f #[.slice p 0 cap,fv] w fun e w'=>e= .returned (.tuple #[])∧w'=w
 pos:∀(α:Type) [Inhabited α] (enc:α→List Value) (_:∀x,(enc x).length=k) (_:∀x,∀v∈enc x,v.oneCell'=true) (cf:α→α→Int) (_:SWO (ltOf cf)) (g:Nat) (cb:Array Value) (blk off cap:Nat) (d:Array α) (w:World)
  (_:∀args w,(callFunc g args).run P w= .ok (.enter g args) w) (_:CmpLays P g cb enc k cf blk off d.size w) (_:HoldsK enc k w blk off d) (_:blk<w.heap.size) (_:d.size<4611686018427387904) (_:∀x y,(ltOf cf) x y=false→(ltOf cf) y x=false→x=y),
  Calls P f #[.slice (some ⟨blk,off,none⟩) d.size cap,.func (.func g) #[] cb] w fun e w'=>e= .returned (.tuple #[])∧∃n os,w'=sortWorldK enc k w blk off n (d.toList.mergeSort fun x y=> !(ltOf cf) y x).toArray os
theorem OL {P:Program}{ρ:Ren}(Ly:SlLaysF0.n6 P ρ){k:Nat}(aE:∀w,(isAgg (ρ.t 24)).run P w= .ok true w)(zE:∀w,(Go.sizeOf (ρ.t 24)).run P w= .ok k w):QU P (ρ.f 6) k:=
 ⟨fun p cap fv w=>AnyF.slices_SortFunc_none Ly p cap fv w,fun α _ enc hk h1 cf hO g cb blk off cap d w eg hc hH hb hs hT=>AnyQ.slices_SortFunc_total Ly k aE zE enc hk h1 cf hO g cb blk off cap d w eg hc hH hb hs hT⟩
variable [J9]
theorem Qu {pre ds rest:List V}{j:Nat}(hj:j<ds.length):(pre++ds++rest).getD (pre.length+j) .bad=ds.getD j .bad:=by
 rw[append_assoc,List.getD_eq_getElem?_getD,List.getElem?_append_right (by omega),Nat.add_sub_cancel_left,List.getElem?_append_left hj,List.getD_eq_getElem?_getD]
theorem Qo {pre es ds rest:List V} (hl:ds.length=es.length) {i:Nat} (hi:i<pre.length∨pre.length+ds.length≤i):(pre++ds++rest).getD i .bad=(pre++es++rest).getD i .bad:=by
 simp only[append_assoc,List.getD_eq_getElem?_getD]
 rcases hi with hi|hi
 ·rw[List.getElem?_append_left hi,List.getElem?_append_left hi]
 have key:∀l:List V,l.length=es.length→(pre++(l++rest))[i]? =rest[i - pre.length - es.length]? :=fun l h=>by
  rw[List.getElem?_append_right (by omega),List.getElem?_append_right (by omega),h]
 rw[key _ hl,key _ rfl]
theorem YD {off:Nat}{d c:Array Value}{t:Nat}(ht:t<c.size):(putCells (fun v=>v) off d c).getD t undef=if off≤t∧t<off+d.size then d[t - off]! else c.getD t undef:=by
 unfold putCells;simp only[Array.getD,Array.size_mapIdx,ht,dif_pos,Array.getInternal_eq_getElem,Array.getElem_mapIdx]
theorem Um {g:Gh} {H:A2} {w:World} (hR:Rl g H w) {ix b k:Nat} {pre es ds rest:List V} {c:Array Value} {T:TypeId} (hk:H ix=some (.arr k (pre++es++rest))) (e1:g.mu ix=some b) (hl:ds.length=es.length) (hes:0<es.length)
 (k2:w.heap[b]? =some (.cells c T (0,0))) (k3:(g.ow ix).o+(pre++es++rest).length*k≤c.size)
 (k4:∀i j,i<(pre++es++rest).length→j<k→(c.getD ((g.ow ix).o+i*k+j) undef).oneCell'=true∧VR g w (c.getD ((g.ow ix).o+i*k+j) undef) (((pre++es++rest).getD i .bad).cells.getD j .bad))
 (e9:∀i,i<(pre++es++rest).length→((pre++es++rest).getD i .bad).cells.length=k)
 (d:Array Value) (hd:d.size=es.length*k) (hds:∀i,i<ds.length→(ds.getD i .bad).cells.length=k)
 (hdv:∀i j,i<ds.length→j<k→(d[i*k+j]!).oneCell'=true∧VR g w d[i*k+j]! ((ds.getD i .bad).cells.getD j .bad)) (m:Nat) (os:Array Obj):
 T4 g w g (grow (putRow (fun v=>v) (Sort.ahead w m) b ((g.ow ix).o+pre.length*k) d) os)∧
  Rl g (upd H ix (some (.arr k (pre++ds++rest)))) (grow (putRow (fun v=>v) (Sort.ahead w m) b ((g.ow ix).o+pre.length*k) d) os):=by
 have hlen:(pre++es++rest).length=pre.length+es.length+rest.length:=by simp;omega
 have hlen':(pre++ds++rest).length=pre.length+es.length+rest.length:=by simp;omega
 have hs:=Rl.setArr hR (ys:=pre++ds++rest) (c':=putCells (fun v=>v) ((g.ow ix).o+pre.length*k) d c) hk e1 (by omega) k2 (by simp[putCells])
  (fun o ho=>by
   simp only[putCells,Array.getElem?_mapIdx]
   cases c[o]? with
   |none=>rfl
   |some x=>simp only[Option.map_some];rw[if_neg (by omega)])
  (by omega)
  (fun i hi=>by
   by_cases hm:i<pre.length∨pre.length+ds.length≤i
   ·rw[Qo hl hm];exact e9 i (by omega)
   obtain⟨j,rfl⟩:∃j,i=pre.length+j:=⟨i - pre.length,by omega⟩
   rw[Qu (show j<ds.length by omega)];exact hds j (by omega))
  (fun i j hi hj=>by
   have hb:(i+1)*k≤(pre++es++rest).length*k:=Nat.mul_le_mul_right k (by omega)
   rw[add_mul,Nat.one_mul]at hb
   rw[YD (by omega)]
   by_cases h1:i<pre.length
   ·have hb1:(i+1)*k≤pre.length*k:=Nat.mul_le_mul_right k h1
    rw[add_mul,Nat.one_mul]at hb1
    rw[if_neg (by omega),Qo hl (.inl h1)];exact k4 i j (by omega) hj
   by_cases h2:pre.length+ds.length≤i
   ·have hb2:(pre.length+ds.length)*k≤i*k:=Nat.mul_le_mul_right k h2
    rw[add_mul]at hb2
    rw[if_neg (by rw[hd,←hl];omega),Qo hl (.inr h2)];exact k4 i j (by omega) hj
   obtain⟨u,rfl⟩:∃u,i=pre.length+u:=⟨i - pre.length,by omega⟩
   have hu:u<ds.length:=by omega
   have hb3:(u+1)*k≤es.length*k:=Nat.mul_le_mul_right k (by omega)
   rw[add_mul,Nat.one_mul]at hb3
   rw[if_pos (by rw[hd,add_mul];omega),Qu hu,show(g.ow ix).o+(pre.length+u)*k+j - ((g.ow ix).o+pre.length*k)=u*k+j by rw[add_mul];omega]
   exact hdv u j hu hj)
 obtain⟨s1,R1⟩:=hs
 generalize hw1:w.setRow b (putCells (fun v=>v) ((g.ow ix).o+pre.length*k) d c)=w1 at s1 R1
 have hsz1:w1.heap.size=w.heap.size:=by rw[←hw1];simp[World.setRow]
 have hheap:∀x,x<w1.heap.size→(grow (putRow (fun v=>v) (Sort.ahead w m) b ((g.ow ix).o+pre.length*k) d) os).heap[x]? =w1.heap[x]? :=fun x hx=>by
  have hx':x<w.heap.size:=by omega
  simp only[grow,putRow,mapBlock,Sort.ahead];rw[Array.getElem?_append_left (by simpa using hx'),Array.getElem?_modify]
  by_cases hxb:b=x
  ·subst hxb;rw[if_pos rfl,k2,←hw1,setRow_heap w b c _ T (0,0) k2];rfl
  rw[if_neg hxb,←hw1,P6 w b _ x (fun e=>hxb e.symm)]
 have hbel:Below g.base w1 (grow (putRow (fun v=>v) (Sort.ahead w m) b ((g.ow ix).o+pre.length*k) d) os):=by
  refine⟨by rw[←hw1];rfl,by rw[←hw1];rfl,by rw[←hw1];rfl,?_,fun k hk'=>?_⟩
  ·rw[hsz1];simp[grow,putRow,mapBlock,Sort.ahead]
  exact hheap k (by have:=hR.bnd;omega)
 obtain⟨s2,R2⟩:=R1.more hbel hheap (by rw[←hw1];exact Nat.le_add_right _ _);exact⟨s1.trans s2,R2⟩
theorem Zq {w w':World} (h:Below w.heap.size w w') (hd:w.drawn≤w'.drawn):∃q os',w'=grow (w.drewN q) os':=by
 refine⟨w'.drawn - w.drawn,w'.heap.extract w.heap.size w'.heap.size,?_⟩;obtain⟨h1,h2,h3,h4,h5⟩:=h
 cases w' with
 |mk heap tape drawn os output=>
  simp only at h1 h2 h3 h4 h5 hd ⊢
  subst h1;subst h2;subst h3;simp only[grow,World.drewN,World.mk.injEq,true_and,and_true];refine⟨?_,by omega⟩;apply Array.ext_getElem?;intro i;rw[Array.getElem?_append]
  split
  ·rename_i hi;exact h5 i hi
  rename_i hi;rw[Array.getElem?_extract]
  split
  ·rename_i h;rw[show w.heap.size+(i - w.heap.size)=i by omega]
  rename_i h;rw[Array.getElem?_eq_none (by omega)]
theorem VR.base_up {g:Gh}{w:World}{B:Nat}(hB:g.base≤B){v:Value}{x:V}(h:VR g w v x):VR {g with base:=B} w v x:=by
 induction h with
 |bad v=>exact .bad v
 |bool b=>exact .bool b
 |int k n=>exact .int k n
 |str s=>exact .str s
 |nilp=>exact .nilp
 |nilf=>exact .nilf
 |nili=>exact .nili
 |nilmap=>exact .nilmap
 |map h=>exact .map h
 |fmap hb hw hk hn hl hv ih=>exact .fmap (Nat.lt_of_lt_of_le hb hB) hw hk hn hl ih
 |ref h=>exact .ref h
 |own h h0 h1 h2 hp=>exact .own h h0 h1 h2 hp
 |elem h hs=>exact .elem h hs
 |eref vs hf hw h1 hv ih=>exact .eref vs hf hw h1 ih
 |sl0 ht=>exact .sl0 ht
 |sle ht=>exact .sle ht
 |sl vs hn hc hz hf hw h1 hv ht ih=>exact .sl vs hn hc hz hf hw h1 ih (by cases ‹E4› <;>exact ht)
 |func hl hv hl' hv' ih ih'=>exact .func hl ih hl' ih'
 |yield h=>exact .yield h
 |iface h ih=>exact .iface ih
 |agg hl h1 hv ih=>exact .agg hl h1 ih
 |tup hl hv ih=>exact .tup hl ih
theorem Af8 {P:Program}{f:FuncId}{args:List V}{n:Int}(hc:B6 P f args (.int .i64 n))(hrun:∀vals w,(callFunc f vals).run P w= .ok (.enter f vals) w){g:Gh}{H:A2}{w:World}(hR:Rl g H w){vals:Array Value}(hA:Args g w vals args):
 Calls P f vals w fun e w'=>e= .returned (.int .i64 n)∧∃q os',w'=grow (w.drewN q) os':=by
 let g2:Gh:={g with base:=w.heap.size,nx:=g.nx}
 have hR2:Rl g2 (fun _=>none) w:=⟨fun _ _ h=>(by cases h),fun id id' b h1 h2=>(by simp[Gh.at]at h1),hR.frz,fun id h=>⟨(hR.nxt id h).1,(hR.nxt id h).2.1,rfl⟩,Nat.le_refl _,fun n=>(hR.glb n).base_up hR.bnd⟩;have h:=hc (fun _=>none) g2 w vals hR2 ⟨hA.1,fun i hi=>(hA.2 i hi).base_up hR.bnd⟩
 rw[hrun]at h
 have h:CallsIn Fence.wide 0 P f vals w fun e w'=>∃v,e= .returned v∧J7 g2 w (fun x H'=>x= .int .i64 n∧H'=fun _=>none) v w':=h
 rw[callsIn_wide]at h
 refine h.mono ?_;rintro e w' ⟨v,rfl,g',x,H',s,R',hv,rfl,rfl⟩;exact⟨by rw[hv.int_inv],Zq s.low s.dr⟩
def QZ (P:Program)(f:FuncId)(fv:V)(k:Nat)(xs ys:List V):Prop:=
 (∀H (q:OG),Aa q (xs.length:Nat)→H q.id=some (.arr k (q.pre++xs++q.rest))→I0 P f [.own q.id q.lo q.n,fv] H fun x H'=>x= .tup []∧H'=upd H q.id (some (.arr k (q.pre++ys++q.rest))))∧ys.length=xs.length
theorem VR.funcN {g:Gh} {w:World} {v:Value} {fn:Fn} {C:List V} (h:VR g w v (.func fn [] C)):∃cb,v= .func fn #[] cb∧Args g w cb C:=by
 cases h with
 |@func _ fs cs _ _ hl hv hl' hv'=>
  have e1:fs= #[]:=Array.eq_empty_of_size_eq_zero hl;subst e1;exact⟨cs,rfl,hl',hv'⟩
theorem Zy {α:Type}[Inhabited α]{enc:α→List Value}{k:Nat}{d:Array α}{i j:Nat}(hi:i<d.size)(hj:j<k):(flatK enc k d)[i*k+j]! =(enc d[i]!)[j]! :=by
 have h1:(i+1)*k≤d.size*k:=Nat.mul_le_mul_right k hi
 rw[add_mul,Nat.one_mul]at h1
 rw[get_flatK _ _ _ _ (by omega)]
 have hk:0<k:=by omega
 rw[show(i*k+j) / k=i by rw[Nat.mul_comm,Nat.mul_add_div hk,Nat.div_eq_of_lt hj];rfl,show(i*k+j) % k=j by rw[Nat.mul_comm,Nat.mul_add_mod,Nat.mod_eq_of_lt hj]]
theorem LZ [Ar] {P:Program} {sf:FuncId} {k:Nat} (hS:QU P sf k)
 (hrun:∀vals w,(callFunc sf vals).run P w= .ok (.enter sf vals) w) {α:Type} {f:α→V} {va:α→List V} (hf:∀x,f x= .agg (va x)) (hsz:∀x,(va x).length=k)
 {cmp:α→α→Option Int} {gf:FuncId} {C:List V} (eg:∀vals w,(callFunc gf vals).run P w= .ok (.enter gf vals) w) (hc:∀a b n,cmp a b=some n→B6 P gf ([.agg (va a),.agg (va b)]++C) (.int .i64 n))
 {l r:List α} (h:IY cmp l=some r):QZ P sf (.func (.func gf) [] C) k (lst f l) (lst f r):=by
 obtain⟨hp,hst,hlt⟩:=Uc h;refine⟨?_,by rw[I3,I3];exact hp.length_eq⟩;rw[lst_eq,lst_eq];intro H q hq hk g w vals hR hA;obtain⟨hlen,hv⟩:=hA;obtain⟨vals⟩:=vals
 match vals,hlen with
 | [v,fvv],_=>
  have hv1:VR g w v (.own q.id q.lo q.n):=by have:=hv 0 (by simp);simpa using this
  have hv2:VR g w fvv (.func (.func gf) [] C):=by have:=hv 1 (by simp);simpa using this
  obtain⟨cb,rfl,hcb⟩:=hv2.funcN;rw[hrun]
  show CallsIn Fence.wide 0 P sf #[v,.func (.func gf) #[] cb] w _
  rw[callsIn_wide];obtain⟨b,p,e1,e2,e3,e4,e5,e6,e7,e8,e9,e10⟩:=Dv hR hk hv1
  have hxl:(q.pre++l.map f++q.rest).length=q.pre.length+l.length+q.rest.length:=by simp;omega
  have hn0:=hq.2
  rw[List.length_map]at hn0
  have hnn:q.n.toNat=l.length:=by omega
  by_cases hz:l=[]
  ·subst hz
   have hr:r=[]:=by simpa using hp.length_eq
   subst hr;subst e2;rw[hnn];refine(hS.zero p _ _ w).mono ?_;rintro e w' ⟨rfl,rfl⟩;refine⟨_,rfl,g,.tup [],H,T4.refl _ _,hR,VR.und _ _,rfl,?_⟩
   funext x
   by_cases hx:x=q.id
   ·subst hx;rw[B7];exact hk
   rw[A7 _ _ hx]
  have hn:0<l.length:=List.length_pos_iff.2 hz
  rcases e10 with e10|⟨c,T,k1,k2,k3,k4,k5,k6⟩
  ·omega
  have hp8:=e8 (by rw[hq.1];omega);subst hp8;subst e2
  haveI:Inhabited (Fin l.length):=⟨⟨0,hn⟩⟩
  have hlo:q.lo.toNat=q.pre.length:=by rw[hq.1];simp
  let enc:Fin l.length→List Value:=fun i=>(List.range k).map fun j=>c.getD ((g.ow q.id).o+(q.pre.length+i.val)*k+j) undef
  have henc:∀x,(enc x).length=k:=fun x=>by simp[enc]
  have hencj:∀(x:Fin l.length) (j:Nat),j<k→(enc x)[j]! =c.getD ((g.ow q.id).o+(q.pre.length+x.val)*k+j) undef:=fun x j hj=>by simp[enc,hj]
  have hcellV:∀(x:Fin l.length) (j:Nat),((q.pre++l.map f++q.rest).getD (q.pre.length+x.val) .bad).cells.getD j .bad=(va l[x.val]).getD j .bad:=fun x j=>by
   have e:(l.map f).getD x.val .bad=f l[x.val]:=by rw[List.getD_eq_getElem?_getD,List.getElem?_map,List.getElem?_eq_getElem x.isLt];rfl
   rw[Qu (by simp),e,hf];rfl
  have hcell:∀(x:Fin l.length) (j:Nat),j<k→((enc x)[j]!).oneCell'=true∧VR g w (enc x)[j]! ((va l[x.val]).getD j .bad):=fun x j hj=>by
   rw[hencj x j hj,←hcellV];exact k4 _ j (by rw[hxl];omega) hj
  have h1:∀x,∀v∈enc x,v.oneCell'=true:=fun x v hv=>by
   obtain⟨j,hj,rfl⟩:=List.getElem_of_mem hv
   rw[henc]at hj
   have:=(hcell x j hj).1
   rwa[getElem!_pos _ _ (by rw[henc];exact hj)]at this
  have hdef:∀i j:Fin l.length,∃n,cmp l[i.val] l[j.val]=some n:=fun i j=>TZ hst (hp.mem_iff.2 (List.getElem_mem _)) (hp.mem_iff.2 (List.getElem_mem _))
  let cf:Fin l.length→Fin l.length→Int:=fun i j=>(cmp l[i.val] l[j.val]).getD 0
  have hpos:∀i:Fin l.length,∃p:Nat,∃hh:p<r.length,r[p]=l[i.val]:=fun i=>by
   obtain⟨p,hh,e⟩:=List.getElem_of_mem (hp.mem_iff.2 (List.getElem_mem i.isLt));exact⟨p,hh,e⟩
  let pos:Fin l.length→Nat:=fun i=>Classical.choose (hpos i)
  have hpos':∀i:Fin l.length,∃hh:pos i<r.length,r[pos i]=l[i.val]:=fun i=>Classical.choose_spec (hpos i)
  have hltp:∀i j,ltOf cf i j=decide (pos i<pos j):=fun i j=>by
   obtain⟨n,hn⟩:=hdef i j;obtain⟨a1,a2⟩:=hpos' i;obtain⟨b1,b2⟩:=hpos' j;rw[←Z1 hst a1 b1,a2,b2];simp[ltOf,cf,Rb,hn]
  have hnd:=hp.nodup_iff.1 (PW hst)
  have hinj:∀i j:Fin l.length,pos i=pos j→i=j:=fun i j e=>by
   obtain⟨a1,a2⟩:=hpos' i;obtain⟨b1,b2⟩:=hpos' j
   have e2:l[i.val]=l[j.val]:=by rw[←a2,←b2];simp only[e]
   rw[Nodup,List.pairwise_iff_getElem]at hnd
   apply Fin.ext
   rcases Nat.lt_trichotomy i.val j.val with h'|h'|h'
   ·exact absurd e2 (hnd _ _ i.isLt j.isLt h')
   ·exact h'
   exact absurd e2.symm (hnd _ _ j.isLt i.isLt h')
  have hO:SWO (ltOf cf):=⟨fun x=>by rw[hltp];simp,fun x y z=>by rw[hltp,hltp,hltp];simp;omega,fun x y z=>by rw[hltp,hltp,hltp];simp;omega⟩
  have hT:∀x y,ltOf cf x y=false→ltOf cf y x=false→x=y:=fun x y=>by
   rw[hltp,hltp];intro a b;simp at a b;exact hinj _ _ (by omega)
  let d0:Array (Fin l.length):=(List.finRange l.length).toArray
  have hd0:d0.size=l.length:=by simp[d0]
  have hW:∀(dk:Array (Fin l.length)),dk.size=l.length→∀(m:Nat) (os:Array Obj),
   T4 g w g (sortWorldK enc k w b ((g.ow q.id).o+q.pre.length*k) m dk os)∧Rl g (upd H q.id (some (.arr k (q.pre++dk.toList.map (fun i=>f l[i.val])++q.rest)))) (sortWorldK enc k w b ((g.ow q.id).o+q.pre.length*k) m dk os):=by
   intro dk hdk m os
   have hgd:∀i (hi:i<dk.size),(dk.toList.map (fun i=>f l[i.val])).getD i .bad=f l[(dk[i]!).val]:=fun i hi=>by
    have e:dk[i]! =dk[i]:=getElem!_pos dk i hi;rw[List.getD_eq_getElem?_getD,List.getElem?_map,Array.getElem?_toList,Array.getElem?_eq_getElem hi];simp only[e,Option.map_some,Option.getD_some]
   have hml:(dk.toList.map (fun i=>f l[i.val])).length=dk.size:=by simp
   exact Um hR hk e1 (by rw[hml,List.length_map,hdk]) (by simpa using hn) k2 k3 k4 e9 (flatK enc k dk) (by rw[size_flatK,hdk,List.length_map])
    (fun i hi=>by rw[hml]at hi;rw[hgd i hi,hf];exact hsz _)
    (fun i j hi hj=>by
     rw[hml]at hi
     rw[Zy hi hj,hgd i hi,hf]
     exact hcell _ j hj) m os
  have hH:HoldsK enc k w b ((g.ow q.id).o+q.pre.length*k) d0:=by
   intro t ht
   rw[size_flatK,hd0]at ht
   have hkp:0<k:=by
    rcases Nat.eq_zero_or_pos k with h0|h0
    ·rw[h0,Nat.mul_zero]at ht;omega
    exact h0
   have hi:t / k<l.length:=(Nat.div_lt_iff_lt_mul hkp).2 ht;have hj:t % k<k:=Nat.mod_lt _ hkp
   have e3:t=t / k*k+t % k:=by have:=Nat.div_add_mod t k;rw[Nat.mul_comm]at this;omega
   have hb:(t / k+1)*k≤l.length*k:=Nat.mul_le_mul_right k hi
   rw[add_mul,Nat.one_mul]at hb
   have hb2:(q.pre.length+l.length)*k≤(q.pre++l.map f++q.rest).length*k:=Nat.mul_le_mul_right k (by rw[hxl];omega)
   rw[add_mul]at hb2
   have hval:(flatK enc k d0)[t]! =c.getD ((g.ow q.id).o+q.pre.length*k+t) undef:=by
    have hg:d0[t / k]! =⟨t / k,hi⟩:=by rw[getElem!_pos _ _ (by rw[hd0];exact hi)];simp[d0]
    rw[get_flatK _ _ _ _ (by rw[hd0];exact ht),hg,hencj _ _ hj]
    congr 1
    rw[add_mul];show _+(_+t / k*k)+t % k=_;omega
   refine⟨?_,by simp[World.frozen?,k2]⟩
   have hlt:(g.ow q.id).o+q.pre.length*k+t<c.size:=by omega
   rw[show(id (flatK enc k d0)[t]! :Value)=(flatK enc k d0)[t]! from rfl,hval];simp[World.cell?,k2,Array.getD,hlt]
  have hcmp:CmpLays P gf cb enc k cf b ((g.ow q.id).o+q.pre.length*k) d0.size w:=by
   intro m os dk hs x y;obtain⟨s,R⟩:=hW dk (hs.trans hd0) m os;obtain⟨n,hxy⟩:=hdef x y
   have ecf:cf x y=n:=by simp[cf,hxy]
   rw[ecf]
   have hagg:∀z:Fin l.length,VR g (sortWorldK enc k w b ((g.ow q.id).o+q.pre.length*k) m dk os) (.agg (enc z).toArray) (.agg (va l[z.val])):=fun z=>by
    have hg:∀i,i<k→(enc z).toArray.getD i undef=(enc z)[i]! :=fun i hi=>by
     rw[getElem!_pos _ _ (by rw[henc];exact hi)];simp[Array.getD,henc,hi]
    refine VR.agg (by simp[henc,hsz]) (fun i hi=>?_) (fun i hi=>?_)
    ·rw[hsz]at hi;rw[hg i hi];exact(hcell z i hi).1
    rw[hsz]at hi;rw[hg i hi];exact(hcell z i hi).2.mono s
   refine Af8 (hc _ _ _ hxy) eg R (Args.append (x:=[.agg (va l[x.val]),.agg (va l[y.val])]) ⟨rfl,fun i hi=>?_⟩ ⟨hcb.1,fun i hi=>(hcb.2 i hi).mono s⟩)
   match i,hi with
   |0,_=>exact hagg x
   |1,_=>exact hagg y
  have hblk:b<w.heap.size:=by
   rcases Nat.lt_or_ge b w.heap.size with h'|h'
   ·exact h'
   rw[Array.getElem?_eq_none h']at k2;cases k2
  have hfin:=hS.pos _ enc henc h1 cf hO gf cb b ((g.ow q.id).o+q.pre.length*k) ((q.pre++l.map f++q.rest).length - q.pre.length) d0 w eg hcmp hH hblk (by omega) hT;clear hcmp hH hO hT
  rw[hd0]at hfin
  rw[hnn,hlo];refine hfin.mono ?_;rintro e w' ⟨rfl,n',os,rfl⟩
  let s:=d0.toList.mergeSort fun x y=> !(ltOf cf) y x
  have hsl:s.toArray.size=l.length:=by simp[s,List.length_mergeSort,d0]
  obtain⟨st,R⟩:=hW s.toArray hsl n' os;refine⟨_,rfl,g,.tup [],_,st,R,VR.und _ _,rfl,?_⟩
  have hsp:s.Perm (List.finRange l.length):=by simpa[d0]using List.mergeSort_perm d0.toList fun x y=> !(ltOf cf) y x
  have hsr:s.map (fun i=>l[i.val])=r:=by
   refine IX hst ?_ ?_
   ·have h2:=hsp.map (fun i:Fin l.length=>l[i.val])
    have h3:(List.finRange l.length).map (fun i:Fin l.length=>l[i.val])=l:=by
     apply List.ext_getElem
     ·simp
     intro i h1 h2;simp
    rw[h3]at h2
    exact h2.trans hp.symm
   rw[List.pairwise_map];have h2:=List.pairwise_mergeSort (le:=fun x y=> !(ltOf cf) y x) (fun a b c=>by simp only[hltp];simp;omega) (fun a b=>by simp only[hltp];simp;omega) d0.toList;refine h2.imp fun{a b} hab=>?_;obtain⟨a1,a2⟩:=hpos' a;obtain⟨b1,b2⟩:=hpos' b
   rw[hltp]at hab
   rw[←a2,←b2,Z1 hst b1 a1]
   simpa using hab
  have:s.toArray.toList.map (fun i=>f l[i.val])=r.map f:=by rw[←hsr,List.map_map];rfl
  rw[this]
section
variable [Ar]{P:Program}{nt:Nat}{rd:Option Nat}{E:CU}(hE:E=G0 P nt rd)
include hE
theorem SA {Φ:A2→A2→Prop}{H0 H:A2}{L:List En}{fid:FuncId}{fv:V}{q:OG}{sz:Nat}{α:Type}{f:α→V}{l:List α}{k:V→A2→Prop}{R:Type}{m:Option (List α)}{F:List α→Option R}{r:R}
 (hO:C3 Φ H0 L H) (hq:Aa q (Ar.len l)) (i:Nat) (hi:L[i]? =some (.blk q.id (.arr sz (q.pre++lst f l++q.rest)))) (h:m.bind F=some r) (hc:∀x,m=some x→QZ P fid fv sz (lst f l) (lst f x))
 (hk:∀x H',Aa q (Ar.len x)→C3 Φ H0 (L.set i (.blk q.id (.arr sz (q.pre++lst f x++q.rest)))) H'→F x=some r→k (.tup []) H'):
 E.call (.func (.func fid) [] []) [.own q.id q.lo q.n,fv] H k:=by
 subst hE;obtain⟨x,h1,h2⟩:=bind_some h;obtain⟨c1,c2⟩:=hc x h1;refine I0.value (F:=[]) (C:=[]) ?_;simp only[List.nil_append,append_nil];refine(c1 H q ⟨hq.1,by rw[hq.2,len_eq,I3]⟩ (hO.get i hi)).mono fun v H' ⟨e1,e2⟩=>?_;subst e1;subst e2;refine hk x _ ⟨hq.1,?_⟩ (hO.set i hi) h2;rw[hq.2,len_eq,len_eq]
 rw[I3,I3]at c2
 omega
end
end Go.Ab
namespace Go.Ab
open Go.RowKit
variable [J9]
theorem I0.thaw {P:Program} {f:FuncId} {args:List V} {H:A2} {K K':V→A2→Prop} (h:I0 P f args H K)
 (hk:∀x H',K x H'→K' x H'∨∃id sz row lo n,x= .own id lo n∧H' id=some (.arr sz row)∧K' (.sl (L7 row lo n) .ro) (upd H' id none)):I0 P f args H K':=
 fun g w vals hR hA=>(h g w vals hR hA).mono fun v w' ⟨g',x,H',s,hR',hv,hK⟩=>by
  rcases hk x H' hK with hK|⟨id,sz,row,lo,n,rfl,h1,h2⟩
  ·exact⟨g',x,H',s,hR',hv,hK⟩
  obtain⟨g2,s2,R2,hv2⟩:=hR'.freezeArr h1;exact⟨g2,_,_,s.trans s2,R2,hv2 _ _ _ (hv.mono s2),h2⟩
section
variable [Ar]{P:Program}{T:EZ}
theorem CN {f:FuncId} {fn:Func} {c:Code} {n:Nat} {rs:List ResultVar} {args:List V} {r:V} (cf:Cf) (hP:QV P T) (hf:P.funcs[f]? =some fn) (hb:fn.body=some c) (hd:I4 cf c=true)
 (hcall:∀vals w,(callFunc f vals).run P w= .ok (.enter f vals) w) (hnt:fn.ntmps=n) (hrs:fn.results.toList=rs) (hn:Nat.ble args.length n=true)
 (h:∀(E:CU) (H:A2) (K:V→A2→Prop),E=G0 P n none→(∀x L H',C3 Eq H L H'→BG x r→K x H')→
  (∀(q:OG) (sz:Nat) (xs:List V) (i:Nat) (L:List En) H',C3 Eq H L H'→L[i]? =some (.blk q.id (.arr sz (q.pre++xs++q.rest)))→Aa q (xs.length:Nat)→BG (.sl xs .ro) r→K (.own q.id q.lo q.n) H')→run E T n cf c ⟨Bp args 0,[]⟩ H (Lu E T rs K)):B6 P f args r:=fun H=>by
 refine I0.le ?_
 refine(S1 (K:=fun x H'=>(∃y H2,BG x y∧Gr H2 H'∧y=r∧H2=H)∨∃(q:OG) (sz:Nat) (xs:List V) (i:Nat) (L:List En),x= .own q.id q.lo q.n∧C3 Eq H L H'∧L[i]? =some (.blk q.id (.arr sz (q.pre++xs++q.rest)))∧Aa q (xs.length:Nat)∧BG (.sl xs .ro) r)
  cf hP.1 hP.2 hf hb hd hcall hnt hrs hn fun E hE=>?_).thaw ?_
 ·exact h E H _ hE (fun x L H' hO hx=>.inl ⟨r,H,hx,hO.ext,rfl,rfl⟩) fun q sz xs i L H' hO hi hq hr=>.inr ⟨q,sz,xs,i,L,rfl,hO,hi,hq,hr⟩
 rintro x H' (h|⟨q,sz,xs,i,L,rfl,hO,hi,hq,hr⟩)
 ·exact .inl h
 refine .inr ⟨q.id,sz,_,q.lo,q.n,rfl,hO.get i hi,r,H,?_,(hO.del i hi).ext,rfl,rfl⟩;rw[TX rfl hq.1 hq.2];exact hr
end
end Go.Ab
namespace Go.Ab
open Go.RowKit
variable [J9][Ar]
section
variable {P:Program}{nt:Nat}{rd:Option Nat}{T:EZ}{E:CU}{I:List (List V)→A2→A2→Prop}{D:A2→A2→Prop}
theorem NE {α:Type}{c:Bool}{x:Option α}{r:α}(h:(if c=true then x else none)=some r):c=true∧x=some r:=by
 split at h
 ·rename_i hc;exact⟨hc,h⟩
 cases h
theorem E3.exL {D:A2→A2→Prop}(hD:E3 D):E3 fun F H=>∃L,C3 D F L H:=
 ⟨fun⟨L,h⟩=>(C3.stable hD L).le h,fun id b ⟨L,h⟩ e=>⟨L,(C3.stable hD L).chg id b h e⟩⟩
theorem C3.hle {Φ:A2→A2→Prop}{F H H':A2}{L:List En}(h:C3 Φ F L H)(hl:Gr H H'):C3 Φ F L H':=by
 obtain⟨hs,F',H1,h0,hi,hle⟩:=h;exact⟨hs,F',H1,h0,hi,hle.trans hl⟩
theorem YP (hE:E=G0 P nt rd) {α R:Type} {f:α→V} {sz:Nat} (hsz:∀x,(f x).cells.length=sz) {l:List α} {tl:E4} {lo:Option Int} {m:Int} {k:V→Prop} {F:List α→Option R} {r:R} (h:(N6 l lo (some m) (some m)).bind F=some r)
 (hk:∀x,F x=some r→k (.sl (lst f x) .full)):E.slice sz (lst f l) tl lo (some m) (some m) k:=by
 subst hE;obtain⟨x,h1,h2⟩:=bind_some h
 unfold N6 at h1
 split at h1
 ·rename_i hc;obtain⟨c1,c2,c3,c4,c5⟩:=hc;cases h1;refine⟨?_,?_⟩
  ·rw[I3];exact⟨c1,c2,c3,c4,c5,.inr (JL hsz l)⟩
  have hm:m=(m.toNat:Int):=by simp only[Option.getD_some]at c2;omega
  have hc:FB (lo.getD 0).toNat m.toNat l.length (some m) tl= .full:=if_pos hm;rw[I3,lst_eq,←List.map_drop,←List.map_take];simp only[Option.getD_some];rw[hc];have:=hk _ h2
  rwa[lst_eq]at this
 cases h1
theorem Oa {f:FuncId} {args:List V} {sz:Nat} {xs:List V} (h:PJ P f args sz xs):B6 P f args (.sl xs .ro):=fun H=>
 (h H).thaw fun x H' ⟨q,e,hq,hn,e2⟩=>by
  refine .inr ⟨q.id,sz,_,q.lo,q.n,e,by rw[e2,B7],?_,?_⟩
  ·rw[TX rfl hq.1 hq.2]
  rw[e2,Bu,Rp _ _ _ hn]
theorem Te {f:FuncId}{fn:Func}{c:Code}{n:Nat}{rs:List ResultVar}{args:List V}(cf:Cf)(hP:QV P T)(hf:P.funcs[f]? =some fn)(hb:fn.body=some c)(hd:I4 cf c=true)
 (hcall:∀vals w,(callFunc f vals).run P w= .ok (.enter f vals) w) (hnt:fn.ntmps=n) (hrs:fn.results.toList=rs) (hn:Nat.ble args.length n=true) {A:A2→Prop} {F H:A2}
 (h:∀(E:CU) (K:V→A2→Prop),E=G0 P n none→(∀x H',A H'→x= .bool true→K x H')→(∀x L H',C3 D F L H'→x= .bool false→K x H')→run E T n cf c ⟨Bp args 0,[]⟩ H (Lu E T rs K)):
 I0 P f args H fun r H'=>(r= .bool true∧A H')∨(r= .bool false∧∃L,C3 D F L H'):=by
 refine(S1 (K:=fun x H'=>∃y H2,BG x y∧Gr H2 H'∧((y= .bool true∧A H2)∨(y= .bool false∧∃L,C3 D F L H2))) cf hP.1 hP.2 hf hb hd hcall hnt hrs hn fun E hE=>?_).le.mono fun r H' hr=>hr;exact h E _ hE (fun x H' ha hx=>⟨x,H',.refl _,.refl _,.inl ⟨hx,ha⟩⟩) fun x L H' ho hx=>⟨x,H',.refl _,.refl _,.inr ⟨hx,L,ho⟩⟩
variable {α β σ:Type}
def ECI (enc:α→List V)(step:σ→α→Option (List β×(σ ⊕ Unit)))(s1:σ)(Inv:σ→List β→A2→A2→Prop)(w':List β)(l:List (List V))(F H:A2):Prop:=
 ∃q:σ×List α×List β,(l=q.2.1.map enc∧Am step q.2.1 q.1=some (q.2.2,.inl s1))∧Inv q.1 (q.2.2++w') F H
theorem Ae8 (hE:E=G0 P nt rd) (hI:∀l,E3 (I l)) (hD:E3 D) {f:FuncId} {args':V→List V} {rb:V→Bool→Prop} {enc:α→List V} {benc:β→List V} {step:σ→α→Option (List β×(σ ⊕ Unit))} {Ls:σ→List En} {cv:V}
 {xs:List α} {w w':List β} {tl:List (List V)} {s0 s1:σ} {F H:A2} {args:List V} {k:V→A2→Prop} (hcv:cv.one=true∧cv.cells=[cv]) (hc:KX P f args' (xs.map enc) rb) (h:Am step xs s0=some (w,.inl s1)) (hO:C3 (I (List.map benc (w++w')++tl)) F (Ls s0) H)
 (hl:H9 args (args' cv))
 (round:∀s y w1 w2 F H o,step s y=some (w1,o)→C3 (I (List.map benc (w1++w2)++tl)) F (Ls s) H→AX P cv (enc y) H fun r H'=>(r= .bool true∧∃s',o= .inl s'∧C3 (I (List.map benc w2++tl)) F (Ls s') H')∨(r= .bool false∧∃L,C3 D F L H'))
 (h1:∀v H',rb v true→C3 (I (List.map benc w'++tl)) F (Ls s1) H'→k v H') (h2:∀v L H',rb v false→C3 D F L H'→k v H'):E.call (.func (.func f) [] []) args H k:=by
 subst hE
 let Inv:σ→List β→A2→A2→Prop:=fun s w F H=>C3 (I (List.map benc w++tl)) F (Ls s) H
 have sI:∀l,E3 (ECI enc step s1 Inv w' l):=fun l=>E3.ex fun q=>C3.stable (hI _) _;have sD:E3 fun F H=>∃L,C3 D F L H:=E3.exL hD
 have hy:KV P cv (ECI enc step s1 Inv w') fun F H=>∃L,C3 D F L H:=by
  refine⟨hcv,fun x l F H ⟨⟨s,ys,w2⟩,⟨hl,hr⟩,hi⟩=>?_⟩
  cases ys with
  |nil=>cases hl
  | cons y ys=>
   simp only[List.map_cons,List.cons.injEq]at hl
   obtain⟨rfl,rfl⟩:=hl
   simp only[Am]at hr
   cases ho:step s y with
   |none=>rw[ho]at hr;cases hr
   | some p=>
    obtain⟨w1,o⟩:=p
    rw[ho]at hr
    cases o with
    |inr u=>cases hr
    | inl s'=>
     simp only at hr
     cases hx:Am step ys s' with
     |none=>rw[hx]at hr;cases hr
     |some p=>
      obtain⟨w3,x⟩:=p
      rw[hx]at hr
      cases hr
      have hi':C3 (I (List.map benc (w1++(w3++w'))++tl)) F (Ls s) H:=by rw[←append_assoc];exact hi
      refine(round s y w1 (w3++w') F H _ ho hi').mono fun r H' hr=>?_
      rcases hr with⟨rfl,s2,e,ho2⟩|⟨rfl,hd⟩
      ·cases e;exact .inl ⟨rfl,⟨s',ys,w3⟩,⟨rfl,hx⟩,ho2⟩
      exact .inr ⟨rfl,hd⟩
 have h3:I0 P f args H k:=((hc cv _ _ sI sD hy [] F H ⟨⟨s0,xs,w⟩,⟨append_nil _,h⟩,hO⟩).args hl).mono fun v H' hr=>by
  rcases hr with⟨hb,⟨s,ys,w2⟩,⟨hl,hr⟩,hi⟩|⟨hb,L,ho⟩
  ·cases ys with
   |cons _ _=>cases hl
   |nil=>cases hr;exact h1 v H' hb hi
  exact h2 v L H' hb ho
 exact I0.value (F:=[]) (C:=[]) (by simpa using h3)
end
end Go.Ab
namespace Go.Ab
open Go.RowKit Go.MapKept
variable [J9][Ar]
section
variable {K X:Type}
end
section
variable {P:Program}{nt:Nat}{rd:Option Nat}{T:EZ}{E:CU}
variable (hE:E=G0 P nt rd)
include hE
variable {K X R S:Type}{kf:K→V}{vf:X→V}{d:TypeDesc}{Φ:A2→A2→Prop}{H0 H:A2}{L:List En}{r:R}{fid:FuncId}{args args':List V}{k:V→A2→Prop}
end
theorem C3.ne {Φ:A2→A2→Prop}{F H:A2}{L:List En}{a b:Nat}{x y:Fa}(h:C3 Φ F L H)(i j:Nat)(hi:L[i]? =some (.blk a x))(hj:L[j]? =some (.blk b y))(hij:i≠j):a≠b:=fun e=>by
 obtain⟨hs,F',H1,h0,h1,h2⟩:=h;subst e;exact hij (h0.inj i j _ _ a x y hi hj rfl rfl)
section
variable {P:Program}{T:EZ}{f:FuncId}{fn:Func}{c:Code}{n:Nat}{rs:List ResultVar}{args:List V}{K X:Type}{kf:K→V}{vf:X→V}{d:TypeDesc}
end
section
variable {K X:Type}
end
section
variable {P:Program}{nt:Nat}{rd:Option Nat}{T:EZ}{E:CU}
variable (hE:E=G0 P nt rd)
include hE
variable {K X:Type}{kf:K→V}{vf:X→V}{d:TypeDesc}{Φ:A2→A2→Prop}{H0 H:A2}{L:List En}{k:V→A2→Prop}{m left:List (K×X)}{o:Obj}{mid it:Nat}{b:Fa}{p:K×X}
end
end Go.Ab
namespace Go.Ab
variable [J9]
theorem UA {E:CU}{t:Nat}{H:A2}{m y y':V}{ok:Bool}{k:V→Prop}(hy:y'=y)(h:E.mget t H m y' ok k):E.mget t H m y ok k:=hy▸h
theorem Qr {E:CU}{t:Nat}{H:A2}{m y y' v:V}{k:A2→Prop}(hy:y'=y)(h:E.mset t H m y' v k):E.mset t H m y v k:=hy▸h
end Go.Ab
