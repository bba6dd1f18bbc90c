/- . -/
import Derived.Test.YtjhobbohibnioaaGreatDoorG07
import Derived.Shelf.SlSortCmp.NoneTotal
set_option linter.all false
open Go.Ab.Ar (len_eq lst lst_eq ofs)
namespace Go.Ab
open Go.RowKit Go.Sort Go.Shelf Go.Proofs
structure XR (P:Program) (f:FuncId) (k:Nat):Prop where
 zero:∀p cap fv w,Calls P f #[.slice p 0 cap,fv] w fun e w'=>e= .returned (.tuple #[])∧w'=w
 pos:∀(α:Type) [Inhabited α] (enc:α→List Value) (_:∀x,(enc x).length=k) (_:∀x,∀v∈enc x,v.oneCell'=true) (cf:α→α→Int) (_:SWO (ltOf cf)) (g:Nat) (cb:Array Value) (blk off cap:Nat) (d:Array α) (w:World)
  (_:∀args w,(callFunc g args).run P w= .ok (.enter g args) w) (_:CmpLays P g cb enc k cf blk off d.size w) (_:HoldsK enc k w blk off d) (_:blk<w.heap.size) (_:d.size<4611686018427387904) (_:∀x y,(ltOf cf) x y=false→(ltOf cf) y x=false→x=y),
  Calls P f #[.slice (some ⟨blk,off,none⟩) d.size cap,.func (.func g) #[] cb] w fun e w'=>e= .returned (.tuple #[])∧∃n os,w'=sortWorldK enc k w blk off n (d.toList.mergeSort fun x y=> !(ltOf cf) y x).toArray os
def Vy {P:Program}{ρ:Ren}(Ly:SlLaysF0.n6 P ρ){k:Nat}(aE:∀w,(isAgg (ρ.t 24)).run P w= .ok true w)(zE:∀w,(Go.sizeOf (ρ.t 24)).run P w= .ok k w):XR P (ρ.f 6) k:=
 ⟨fun p cap fv w=>AnyF.slices_SortFunc_none Ly p cap fv w,fun α _ enc hk h1 cf hO g cb blk off cap d w eg hc hH hb hs hT=>AnyQ.slices_SortFunc_total Ly k aE zE enc hk h1 cf hO g cb blk off cap d w eg hc hH hb hs hT⟩
variable [O6]
def Ar2 {pre ds rest:List V}{j:Nat}(hj:j<ds.length):(pre++ds++rest).getD (pre.length+j) .bad=ds.getD j .bad:=by
 rw[E7,Z0,FU (by omega),Nat.add_sub_cancel_left,Jh hj,Z0]
def Ap4 {pre es ds rest:List V} (hl:ds.length=es.length) {i:Nat} (hi:i<pre.length∨pre.length+ds.length≤i):(pre++ds++rest).getD i .bad=(pre++es++rest).getD i .bad:=by
 simp only[E7,Z0]
 rcases hi with hi|hi
 ·rw[Jh hi,Jh hi]
 have key:∀l:List V,l.length=es.length→(pre++(l++rest))[i]? =rest[i-pre.length-es.length]? :=fun l h=>by
  rw[FU (by omega),FU (by omega),h]
 rw[key _ hl,key _ rfl]
def AI2 {off:Nat}{d c:Array Value}{t:Nat}(ht:t<c.size):(putCells (fun v=>v) off d c).getD t undef=if off≤t∧t<off+d.size then d[t-off]! else c.getD t undef:=by
 unfold putCells;simp only[Array.getD,Array.size_mapIdx,ht,dif_pos,Array.getInternal_eq_getElem,Array.getElem_mapIdx]
def Ag7 {g:Gh} {H:A5} {w:World} (hR:Rl g H w) {ix b k:Nat} {pre es ds rest:List V} {c:Array Value} {T:TypeId} (hk:H ix=some (.arr k (pre++es++rest))) (e1:g.mu ix=some b) (hl:ds.length=es.length) (hes:0<es.length)
 (k2:w.heap[b]? =some (.cells c T (0,0))) (k3:(g.ow ix).o+(pre++es++rest).length*k≤c.size)
 (k4:∀i j,i<(pre++es++rest).length→j<k→(c.getD ((g.ow ix).o+i*k+j) undef).oneCell'=true∧VR g w (c.getD ((g.ow ix).o+i*k+j) undef) (((pre++es++rest).getD i .bad).cells.getD j .bad))
 (e9:∀i,i<(pre++es++rest).length→((pre++es++rest).getD i .bad).cells.length=k)
 (d:Array Value) (hd:d.size=es.length*k) (hds:∀i,i<ds.length→(ds.getD i .bad).cells.length=k)
 (hdv:∀i j,i<ds.length→j<k→(d[i*k+j]!).oneCell'=true∧VR g w d[i*k+j]! ((ds.getD i .bad).cells.getD j .bad)) (m:Nat) (os:Array Obj):
 Af g w g (grow (putRow (fun v=>v) (Sort.ahead w m) b ((g.ow ix).o+pre.length*k) d) os)∧
  Rl g (upd H ix (some (.arr k (pre++ds++rest)))) (grow (putRow (fun v=>v) (Sort.ahead w m) b ((g.ow ix).o+pre.length*k) d) os):=by
 have hlen:(pre++es++rest).length=pre.length+es.length+rest.length:=by simp;omega
 have hlen':(pre++ds++rest).length=pre.length+es.length+rest.length:=by simp;omega
 have hs:=Rl.setArr hR (ys:=pre++ds++rest) (c':=putCells (fun v=>v) ((g.ow ix).o+pre.length*k) d c) hk e1 (by omega) k2 (by simp[putCells])
  (fun o ho=>by
   simp only[putCells,Rg]
   grind)
  (by omega)
  (fun i hi=>by
   grind)
  (fun i j hi hj=>by
   have hb:(i+1)*k≤(pre++es++rest).length*k:=G3 k (by omega)
   rw[E2,U0]at hb
   rw[AI2 (by omega)]
   by_cases h1:i<pre.length
   ·have hb1:(i+1)*k≤pre.length*k:=G3 k h1
    rw[E2,U0]at hb1
    rw[A0 (by omega),Ap4 hl (.inl h1)]
    grind
   by_cases h2:pre.length+ds.length≤i
   ·have hb2:(pre.length+ds.length)*k≤i*k:=G3 k h2
    rw[E2]at hb2
    rw[A0 (by rw[hd,←hl];omega),Ap4 hl (.inr h2)]
    grind
   obtain⟨u,rfl⟩:∃u,i=pre.length+u:=⟨i-pre.length,by omega⟩
   have hu:u<ds.length:=by omega
   have hb3:(u+1)*k≤es.length*k:=G3 k (by omega)
   rw[E2,U0]at hb3
   rw[A1 (by rw[hd,E2];omega),Ar2 hu,show(g.ow ix).o+(pre.length+u)*k+j-((g.ow ix).o+pre.length*k)=u*k+j by rw[E2];omega]
   simp_all)
 obtain⟨s1,R1⟩:=hs
 generalize hw1:w.setRow b (putCells (fun v=>v) ((g.ow ix).o+pre.length*k) d c)=w1 at s1 R1
 have hsz1:w1.heap.size=w.heap.size:=by rw[←hw1];simp
 have hheap:∀x,x<w1.heap.size→(grow (putRow (fun v=>v) (Sort.ahead w m) b ((g.ow ix).o+pre.length*k) d) os).heap[x]? =w1.heap[x]? :=fun x hx=>by
  have hx':x<w.heap.size:=by omega
  simp only[grow,putRow,mapBlock,Sort.ahead];rw[Rq (by simpa using hx'),GQ]
  by_cases hxb:b=x
  ·subst hxb;rw[A1 rfl,k2,←hw1,setRow_heap w b c _ T (0,0) k2];rfl
  rw[A0 hxb,←hw1,X6 w b _ x (fun e=>hxb e.symm)]
 have hbel:Below g.base w1 (grow (putRow (fun v=>v) (Sort.ahead w m) b ((g.ow ix).o+pre.length*k) d) os):=by
  refine⟨by rw[←hw1];rfl,by rw[←hw1];rfl,by rw[←hw1];rfl,?_,fun k hk'=>?_⟩
  ·rw[hsz1];simp
  exact hheap k (by have:=hR.bnd;omega)
 obtain⟨s2,R2⟩:=R1.more hbel hheap (by rw[←hw1];exact IU _ _);exact⟨s1.trans s2,R2⟩
def AN2 {w w':World} (h:Below w.heap.size w w') (hd:w.drawn≤w'.drawn):∃q os',w'=grow (w.drewN q) os':=by
 refine⟨w'.drawn-w.drawn,w'.heap.extract w.heap.size w'.heap.size,?_⟩;obtain⟨h1,h2,h3,h4,h5⟩:=h
 cases w' with
 |mk heap tape drawn os output=>
  simp only at h1 h2 h3 h4 h5 hd ⊢
  subst h1;subst h2;subst h3;simp only[grow,World.drewN,World.mk.injEq,true_and,O3];refine⟨?_,by omega⟩;apply Array.ext_getElem?;intro i;rw[Je]
  split
  ·rename_i hi;exact h5 i hi
  rename_i hi;rw[Mh]
  split
  ·rename_i h;rw[show w.heap.size+(i-w.heap.size)=i by omega]
  rename_i h;rw[Rj (by omega)]
def VR.base_up {g:Gh}{w:World}{B:Nat}(hB:g.base≤B){v:Value}{x:V}(h:VR g w v x):VR {g with base:=B} w v x:=by
 induction h with
 |bad v=>exact .bad v
 |bool b=>exact .bool b
 |int k n=>exact .int k n
 |str s=>exact .str s
 |nilp=>exact .nilp
 |nilf=>exact .nilf
 |nili=>exact .nili
 |nilmap=>exact .nilmap
 |map h=>exact .map h
 |fmap hb hw hk hn hl hv ih=>exact .fmap (LW hb hB) hw hk hn hl ih
 |ref h=>exact .ref h
 |own h h0 h1 h2 hp=>exact .own h h0 h1 h2 hp
 |elem h hs=>exact .elem h hs
 |eref vs hf hw h1 hv ih=>exact .eref vs hf hw h1 ih
 |sl0 ht=>exact .sl0 ht
 |sle ht=>exact .sle ht
 |sl vs hn hc hz hf hw h1 hv ht ih=>exact .sl vs hn hc hz hf hw h1 ih (by cases ‹K1› <;>exact ht)
 |func hl hv hl' hv' ih ih'=>exact .func hl ih hl' ih'
 |yield h=>exact .yield h
 |iface h ih=>exact .iface ih
 |agg hl h1 hv ih=>exact .agg hl h1 ih
 |tup hl hv ih=>exact .tup hl ih
def AX3 {P:Program}{f:FuncId}{args:List V}{n:Int}(hc:C2 P f args (.int .i64 n))(hrun:∀vals w,(callFunc f vals).run P w= .ok (.enter f vals) w){g:Gh}{H:A5}{w:World}(hR:Rl g H w){vals:Array Value}(hA:Args g w vals args):
 Calls P f vals w fun e w'=>e= .returned (.int .i64 n)∧∃q os',w'=grow (w.drewN q) os':=by
 let g2:Gh:={g with base:=w.heap.size,nx:=g.nx}
 have hR2:Rl g2 (fun _=>none) w:=⟨fun _ _ h=>(by cases h),fun id id' b h1 h2=>(by simp[Gh.at]at h1),hR.frz,fun id h=>⟨(hR.nxt id h).1,(hR.nxt id h).2.1,rfl⟩,B1 _,fun n=>(hR.glb n).base_up hR.bnd⟩;have h:=hc (fun _=>none) g2 w vals hR2 ⟨hA.1,fun i hi=>(hA.2 i hi).base_up hR.bnd⟩
 rw[hrun]at h
 have h:CallsIn Fence.wide 0 P f vals w fun e w'=>∃v,e= .returned v∧N5 g2 w (fun x H'=>x= .int .i64 n∧H'=fun _=>none) v w':=h
 rw[callsIn_wide]at h
 refine h.mono ?_;rintro e w' ⟨v,rfl,g',x,H',s,R',hv,rfl,rfl⟩;exact⟨by rw[hv.int_inv],AN2 s.low s.dr⟩
def XV (P:Program)(f:FuncId)(fv:V)(k:Nat)(xs ys:List V):Prop:=
 (∀H (q:OG),Cd q (xs.length:Nat)→H q.id=some (.arr k (q.pre++xs++q.rest))→M8 P f [.own q.id q.lo q.n,fv] H fun x H'=>x= .tup []∧H'=upd H q.id (some (.arr k (q.pre++ys++q.rest))))∧ys.length=xs.length
def VR.funcN {g:Gh} {w:World} {v:Value} {fn:Fn} {C:List V} (h:VR g w v (.func fn [] C)):∃cb,v= .func fn #[] cb∧Args g w cb C:=by
 cases h with
 |@func _ fs cs _ _ hl hv hl' hv'=>
  have e1:fs= #[]:=Rs hl
  simp_all[Args]
def AN8 {α:Type}[Inhabited α]{enc:α→List Value}{k:Nat}{d:Array α}{i j:Nat}(hi:i<d.size)(hj:j<k):(flatK enc k d)[i*k+j]! =(enc d[i]!)[j]! :=by
 have h1:(i+1)*k≤d.size*k:=G3 k hi
 rw[E2,U0]at h1
 rw[get_flatK _ _ _ _ (by omega)]
 have hk:0<k:=by omega
 rw[show(i*k+j) / k=i by rw[EH,Nat.mul_add_div hk,LQ hj];rfl,show(i*k+j) % k=j by rw[EH,Nat.mul_add_mod,Nat.mod_eq_of_lt hj]]
def RY [Ar] {P:Program} {sf:FuncId} {k:Nat} (hS:XR P sf k)
 (hrun:∀vals w,(callFunc sf vals).run P w= .ok (.enter sf vals) w) {α:Type} {f:α→V} {va:α→List V} (hf:∀x,f x= .agg (va x)) (hsz:∀x,(va x).length=k)
 {cmp:α→α→Option Int} {gf:FuncId} {C:List V} (eg:∀vals w,(callFunc gf vals).run P w= .ok (.enter gf vals) w) (hc:∀a b n,cmp a b=some n→C2 P gf ([.agg (va a),.agg (va b)]++C) (.int .i64 n))
 {l r:List α} (h:Mp cmp l=some r):XV P sf (.func (.func gf) [] C) k (lst f l) (lst f r):=by
 obtain⟨hp,hst,hlt⟩:=Af6 h;refine⟨?_,by rw[N3,N3];exact hp.length_eq⟩;rw[lst_eq,lst_eq];intro H q hq hk g w vals hR hA;obtain⟨hlen,hv⟩:=hA;obtain⟨vals⟩:=vals
 match vals,hlen with
 | [v,fvv],_=>
  have hv1:VR g w v (.own q.id q.lo q.n):=by have:=hv 0 (by simp);simpa using this
  have hv2:VR g w fvv (.func (.func gf) [] C):=by have:=hv 1 (by simp);simpa using this
  obtain⟨cb,rfl,hcb⟩:=hv2.funcN;rw[hrun]
  show CallsIn Fence.wide 0 P sf #[v,.func (.func gf) #[] cb] w _
  rw[callsIn_wide];obtain⟨b,p,e1,e2,e3,e4,e5,e6,e7,e8,e9,e10⟩:=Fh hR hk hv1
  have hxl:(q.pre++l.map f++q.rest).length=q.pre.length+l.length+q.rest.length:=by simp;omega
  have hn0:=hq.2
  rw[D4]at hn0
  have hnn:q.n.toNat=l.length:=by omega
  by_cases hz:l=[]
  ·subst hz
   have hr:r=[]:=by simpa using hp.length_eq
   subst hr;subst e2;rw[hnn];refine(hS.zero p _ _ w).mono ?_;rintro e w' ⟨rfl,rfl⟩;refine⟨_,rfl,g,.tup [],H,Af.refl _ _,hR,VR.und _ _,rfl,?_⟩
   funext x
   simp_all[upd]
  have hn:0<l.length:=List.length_pos_iff.2 hz
  rcases e10 with e10|⟨c,T,k1,k2,k3,k4,k5,k6⟩
  ·omega
  have hp8:=e8 (by rw[hq.1];omega);subst hp8;subst e2
  haveI:Inhabited (Fin l.length):=⟨⟨0,hn⟩⟩
  have hlo:q.lo.toNat=q.pre.length:=by rw[hq.1];simp
  let enc:Fin l.length→List Value:=fun i=>(List.range k).map fun j=>c.getD ((g.ow q.id).o+(q.pre.length+i.val)*k+j) undef
  have henc:∀x,(enc x).length=k:=fun x=>by simp[enc]
  have hencj:∀(x:Fin l.length) (j:Nat),j<k→(enc x)[j]! =c.getD ((g.ow q.id).o+(q.pre.length+x.val)*k+j) undef:=fun x j hj=>by simp[enc,hj]
  have hcellV:∀(x:Fin l.length) (j:Nat),((q.pre++l.map f++q.rest).getD (q.pre.length+x.val) .bad).cells.getD j .bad=(va l[x.val]).getD j .bad:=fun x j=>by
   have e:(l.map f).getD x.val .bad=f l[x.val]:=by rw[Z0,S5,C0 x.isLt];rfl
   rw[Ar2 (by simp),e,hf];rfl
  have hcell:∀(x:Fin l.length) (j:Nat),j<k→((enc x)[j]!).oneCell'=true∧VR g w (enc x)[j]! ((va l[x.val]).getD j .bad):=fun x j hj=>by
   rw[hencj x j hj,←hcellV]
   grind
  have h1:∀x,∀v∈enc x,v.oneCell'=true:=fun x v hv=>by
   obtain⟨j,hj,rfl⟩:=M4 hv
   rw[henc]at hj
   have:=(hcell x j hj).1
   rwa[getElem!_pos _ _ (by rw[henc];exact hj)]at this
  have hdef:∀i j:Fin l.length,∃n,cmp l[i.val] l[j.val]=some n:=fun i j=>Af3 hst (hp.mem_iff.2 (E4 _)) (hp.mem_iff.2 (E4 _))
  let cf:Fin l.length→Fin l.length→Int:=fun i j=>(cmp l[i.val] l[j.val]).getD 0
  have hpos:∀i:Fin l.length,∃p:Nat,∃hh:p<r.length,r[p]=l[i.val]:=fun i=>by
   obtain⟨p,hh,e⟩:=M4 (hp.mem_iff.2 (E4 i.isLt));exact⟨p,hh,e⟩
  let pos:Fin l.length→Nat:=fun i=>Classical.choose (hpos i)
  have hpos':∀i:Fin l.length,∃hh:pos i<r.length,r[pos i]=l[i.val]:=fun i=>Classical.choose_spec (hpos i)
  have hltp:∀i j,ltOf cf i j=decide (pos i<pos j):=fun i j=>by
   obtain⟨n,hn⟩:=hdef i j;obtain⟨a1,a2⟩:=hpos' i;obtain⟨b1,b2⟩:=hpos' j;rw[←BU hst a1 b1,a2,b2];simp[ltOf,cf,VQ,hn]
  have hnd:=hp.nodup_iff.1 (WN hst)
  have hinj:∀i j:Fin l.length,pos i=pos j→i=j:=fun i j e=>by
   obtain⟨a1,a2⟩:=hpos' i;obtain⟨b1,b2⟩:=hpos' j
   have e2:l[i.val]=l[j.val]:=by rw[←a2,←b2];simp only[e]
   rw[List.Nodup,Y9]at hnd
   apply Fin.ext
   rcases El i.val j.val with h'|h'|h'
   ·exact absurd e2 (hnd _ _ i.isLt j.isLt h')
   ·exact h'
   exact absurd e2.symm (hnd _ _ j.isLt i.isLt h')
  have hO:SWO (ltOf cf):=⟨fun x=>by rw[hltp];simp,fun x y z=>by rw[hltp,hltp,hltp];simp;omega,fun x y z=>by rw[hltp,hltp,hltp];simp;omega⟩
  have hT:∀x y,ltOf cf x y=false→ltOf cf y x=false→x=y:=fun x y=>by
   rw[hltp,hltp];intro a b;simp at a b;exact hinj _ _ (by omega)
  let d0:Array (Fin l.length):=(List.finRange l.length).toArray
  have hd0:d0.size=l.length:=by simp[d0]
  have hW:∀(dk:Array (Fin l.length)),dk.size=l.length→∀(m:Nat) (os:Array Obj),
   Af g w g (sortWorldK enc k w b ((g.ow q.id).o+q.pre.length*k) m dk os)∧Rl g (upd H q.id (some (.arr k (q.pre++dk.toList.map (fun i=>f l[i.val])++q.rest)))) (sortWorldK enc k w b ((g.ow q.id).o+q.pre.length*k) m dk os):=by
   intro dk hdk m os
   have hgd:∀i (hi:i<dk.size),(dk.toList.map (fun i=>f l[i.val])).getD i .bad=f l[(dk[i]!).val]:=fun i hi=>by
    have e:dk[i]! =dk[i]:=getElem!_pos dk i hi;rw[Z0,S5,Df,Dl hi];simp only[e,K2,U2]
   have hml:(dk.toList.map (fun i=>f l[i.val])).length=dk.size:=by simp
   exact Ag7 hR hk e1 (by rw[hml,D4,hdk]) (by simpa using hn) k2 k3 k4 e9 (flatK enc k dk) (by rw[size_flatK,hdk,D4])
    (fun i hi=>by rw[hml]at hi;rw[hgd i hi,hf];exact hsz _)
    (fun i j hi hj=>by
     rw[hml]at hi
     rw[AN8 hi hj,hgd i hi,hf]
     exact hcell _ j hj) m os
  have hH:HoldsK enc k w b ((g.ow q.id).o+q.pre.length*k) d0:=by
   intro t ht
   rw[size_flatK,hd0]at ht
   have hkp:0<k:=by
    rcases LV k with h0|h0
    ·rw[h0,Nat.mul_zero]at ht;omega
    exact h0
   have hi:t / k<l.length:=(Oj hkp).2 ht;have hj:t % k<k:=Ci _ hkp
   have e3:t=t / k*k+t % k:=by have:=Mc t k;rw[EH]at this;omega
   have hb:(t / k+1)*k≤l.length*k:=G3 k hi
   rw[E2,U0]at hb
   have hb2:(q.pre.length+l.length)*k≤(q.pre++l.map f++q.rest).length*k:=G3 k (by rw[hxl];omega)
   rw[E2]at hb2
   have hval:(flatK enc k d0)[t]! =c.getD ((g.ow q.id).o+q.pre.length*k+t) undef:=by
    have hg:d0[t / k]! =⟨t / k,hi⟩:=by rw[getElem!_pos _ _ (by rw[hd0];exact hi)];simp[d0]
    rw[get_flatK _ _ _ _ (by rw[hd0];exact ht),hg,hencj _ _ hj]
    congr 1
    rw[E2];show _+(_+t / k*k)+t % k=_;omega
   refine⟨?_,by simp[World.frozen?,k2]⟩
   have hlt:(g.ow q.id).o+q.pre.length*k+t<c.size:=by omega
   rw[show(id (flatK enc k d0)[t]! :Value)=(flatK enc k d0)[t]! from rfl,hval];simp[World.cell?,k2,Array.getD,hlt]
  have hcmp:CmpLays P gf cb enc k cf b ((g.ow q.id).o+q.pre.length*k) d0.size w:=by
   intro m os dk hs x y;obtain⟨s,R⟩:=hW dk (hs.trans hd0) m os;obtain⟨n,hxy⟩:=hdef x y
   have ecf:cf x y=n:=by simp[cf,hxy]
   rw[ecf]
   have hagg:∀z:Fin l.length,VR g (sortWorldK enc k w b ((g.ow q.id).o+q.pre.length*k) m dk os) (.agg (enc z).toArray) (.agg (va l[z.val])):=fun z=>by
    have hg:∀i,i<k→(enc z).toArray.getD i undef=(enc z)[i]! :=fun i hi=>by
     rw[getElem!_pos _ _ (by rw[henc];exact hi)];simp[Array.getD,henc,hi]
    refine VR.agg (by simp[henc,hsz]) (fun i hi=>?_) (fun i hi=>?_)
    ·rw[hsz]at hi;rw[hg i hi];exact(hcell z i hi).1
    rw[hsz]at hi;rw[hg i hi];exact(hcell z i hi).2.mono s
   refine AX3 (hc _ _ _ hxy) eg R (Args.append (x:=[.agg (va l[x.val]),.agg (va l[y.val])]) ⟨rfl,fun i hi=>?_⟩ ⟨hcb.1,fun i hi=>(hcb.2 i hi).mono s⟩)
   match i,hi with
   |0,_=>exact hagg x
   |1,_=>exact hagg y
  have hblk:b<w.heap.size:=by
   rcases Bn b w.heap.size with h'|h'
   ·exact h'
   rw[Rj h']at k2;cases k2
  have hfin:=hS.pos _ enc henc h1 cf hO gf cb b ((g.ow q.id).o+q.pre.length*k) ((q.pre++l.map f++q.rest).length-q.pre.length) d0 w eg hcmp hH hblk (by omega) hT;clear hcmp hH hO hT
  rw[hd0]at hfin
  rw[hnn,hlo];refine hfin.mono ?_;rintro e w' ⟨rfl,n',os,rfl⟩
  let s:=d0.toList.mergeSort fun x y=> !(ltOf cf) y x
  have hsl:s.toArray.size=l.length:=by simp[s,Rf,d0]
  obtain⟨st,R⟩:=hW s.toArray hsl n' os;refine⟨_,rfl,g,.tup [],_,st,R,VR.und _ _,rfl,?_⟩
  have hsp:s.Perm (List.finRange l.length):=by simpa[d0]using List.mergeSort_perm d0.toList fun x y=> !(ltOf cf) y x
  have hsr:s.map (fun i=>l[i.val])=r:=by
   refine NV hst ?_ ?_
   ·have h2:=hsp.map (fun i:Fin l.length=>l[i.val])
    have h3:(List.finRange l.length).map (fun i:Fin l.length=>l[i.val])=l:=by
     apply GG
     ·simp
     intro i h1 h2;simp
    rw[h3]at h2
    exact h2.trans hp.symm
   rw[R5];have h2:=Rm (le:=fun x y=> !(ltOf cf) y x) (fun a b c=>by simp only[hltp];simp;omega) (fun a b=>by simp only[hltp];simp;omega) d0.toList;refine h2.imp fun{a b} hab=>?_;obtain⟨a1,a2⟩:=hpos' a;obtain⟨b1,b2⟩:=hpos' b
   rw[hltp]at hab
   rw[←a2,←b2,BU hst b1 a1]
   simpa using hab
  have:s.toArray.toList.map (fun i=>f l[i.val])=r.map f:=by rw[←hsr,J0];rfl
  rw[this]
section
variable [Ar]{P:Program}{nt:Nat}{rd:Option Nat}{E:FN}(hE:E=I0 P nt rd)
include hE
theorem Zz {Φ:A5→A5→Prop}{H0 H:A5}{L:List En}{fid:FuncId}{fv:V}{q:OG}{sz:Nat}{α:Type}{f:α→V}{l:List α}{k:V→A5→Prop}{R:Type}{m:Option (List α)}{F:List α→Option R}{r:R}
 (hO:C8 Φ H0 L H) (hq:Cd q (Ar.len l)) (i:Nat) (hi:L[i]? =some (.blk q.id (.arr sz (q.pre++lst f l++q.rest)))) (h:m.bind F=some r) (hc:∀x,m=some x→XV P fid fv sz (lst f l) (lst f x))
 (hk:∀x H',Cd q (Ar.len x)→C8 Φ H0 (L.set i (.blk q.id (.arr sz (q.pre++lst f x++q.rest)))) H'→F x=some r→k (.tup []) H'):
 E.call (.func (.func fid) [] []) [.own q.id q.lo q.n,fv] H k:=by
 subst hE;obtain⟨x,h1,h2⟩:=bind_some h;obtain⟨c1,c2⟩:=hc x h1;refine M8.value (F:=[]) (C:=[]) ?_;simp only[I5,G4];refine(c1 H q ⟨hq.1,by rw[hq.2,len_eq,N3]⟩ (hO.get i hi)).mono fun v H' ⟨e1,e2⟩=>?_;subst e1;subst e2;refine hk x _ ⟨hq.1,?_⟩ (hO.set i hi) h2;rw[hq.2,len_eq,len_eq]
 rw[N3,N3]at c2
 omega
end
end Go.Ab
namespace Go.Ab
open Go.RowKit
variable [O6]
def M8.thaw {P:Program} {f:FuncId} {args:List V} {H:A5} {K K':V→A5→Prop} (h:M8 P f args H K)
 (hk:∀x H',K x H'→K' x H'∨∃id sz row lo n,x= .own id lo n∧H' id=some (.arr sz row)∧K' (.sl (Q3 row lo n) .ro) (upd H' id none)):M8 P f args H K':=
 fun g w vals hR hA=>(h g w vals hR hA).mono fun v w' ⟨g',x,H',s,hR',hv,hK⟩=>by
  rcases hk x H' hK with hK|⟨id,sz,row,lo,n,rfl,h1,h2⟩
  ·grind[N5]
  obtain⟨g2,s2,R2,hv2⟩:=hR'.freezeArr h1;exact⟨g2,_,_,s.trans s2,R2,hv2 _ _ _ (hv.mono s2),h2⟩
section
variable [Ar]{P:Program}{T:ID}
def FE {f:FuncId} {fn:Func} {c:Code} {n:Nat} {rs:List ResultVar} {args:List V} {r:V} (cf:Cf) (hP:Vm P T) (hf:P.funcs[f]? =some fn) (hb:fn.body=some c) (hd:M6 cf c=true)
 (hcall:∀vals w,(callFunc f vals).run P w= .ok (.enter f vals) w) (hnt:fn.ntmps=n) (hrs:fn.results.toList=rs) (hn:Nat.ble args.length n=true)
 (h:∀(E:FN) (H:A5) (K:V→A5→Prop),E=I0 P n none→(∀x L H',C8 Eq H L H'→DF x r→K x H')→
  (∀(q:OG) (sz:Nat) (xs:List V) (i:Nat) (L:List En) H',C8 Eq H L H'→L[i]? =some (.blk q.id (.arr sz (q.pre++xs++q.rest)))→Cd q (xs.length:Nat)→DF (.sl xs .ro) r→K (.own q.id q.lo q.n) H')→run E T n cf c ⟨CN args 0,[]⟩ H (Qe E T rs K)):C2 P f args r:=fun H=>by
 refine M8.le ?_
 refine(X8 (K:=fun x H'=>(∃y H2,DF x y∧HU H2 H'∧y=r∧H2=H)∨∃(q:OG) (sz:Nat) (xs:List V) (i:Nat) (L:List En),x= .own q.id q.lo q.n∧C8 Eq H L H'∧L[i]? =some (.blk q.id (.arr sz (q.pre++xs++q.rest)))∧Cd q (xs.length:Nat)∧DF (.sl xs .ro) r)
  cf hP.1 hP.2 hf hb hd hcall hnt hrs hn fun E hE=>?_).thaw ?_
 ·exact h E H _ hE (fun x L H' hO hx=>.inl ⟨r,H,hx,hO.ext,rfl,rfl⟩) fun q sz xs i L H' hO hi hq hr=>.inr ⟨q,sz,xs,i,L,rfl,hO,hi,hq,hr⟩
 rintro x H' (h|⟨q,sz,xs,i,L,rfl,hO,hi,hq,hr⟩)
 ·exact .inl h
 refine .inr ⟨q.id,sz,_,q.lo,q.n,rfl,hO.get i hi,r,H,?_,(hO.del i hi).ext,rfl,rfl⟩;rw[WM rfl hq.1 hq.2];exact hr
end
end Go.Ab
namespace Go.Ab
open Go.RowKit
variable [O6][Ar]
section
variable {P:Program}{nt:Nat}{rd:Option Nat}{T:ID}{E:FN}{I:List (List V)→A5→A5→Prop}{D:A5→A5→Prop}
def Io {α:Type}{c:Bool}{x:Option α}{r:α}(h:(if c=true then x else none)=some r):c=true∧x=some r:=by
 simp_all
def G5.exL {D:A5→A5→Prop}(hD:G5 D):G5 fun F H=>∃L,C8 D F L H:=
 ⟨fun⟨L,h⟩=>(C8.stable hD L).le h,fun id b ⟨L,h⟩ e=>⟨L,(C8.stable hD L).chg id b h e⟩⟩
def C8.hle {Φ:A5→A5→Prop}{F H H':A5}{L:List En}(h:C8 Φ F L H)(hl:HU H H'):C8 Φ F L H':=by
 grind[C8,HU]
def AJ8 (hE:E=I0 P nt rd) {α R:Type} {f:α→V} {sz:Nat} (hsz:∀x,(f x).cells.length=sz) {l:List α} {tl:K1} {lo:Option Int} {m:Int} {k:V→Prop} {F:List α→Option R} {r:R} (h:(O5 l lo (some m) (some m)).bind F=some r)
 (hk:∀x,F x=some r→k (.sl (lst f x) .full)):E.slice sz (lst f l) tl lo (some m) (some m) k:=by
 subst hE;obtain⟨x,h1,h2⟩:=bind_some h
 unfold O5 at h1
 split at h1
 ·rename_i hc;obtain⟨c1,c2,c3,c4,c5⟩:=hc;cases h1;refine⟨?_,?_⟩
  ·rw[N3]
   simp_all[OO]
  have hm:m=(m.toNat:Int):=by grind
  have hc:JP (lo.getD 0).toNat m.toNat l.length (some m) tl= .full:=A1 hm;rw[N3,lst_eq,←List.map_drop,←List.map_take]
  grind[lst_eq]
 cases h1
def UI {f:FuncId} {args:List V} {sz:Nat} {xs:List V} (h:US P f args sz xs):C2 P f args (.sl xs .ro):=fun H=>
 (h H).thaw fun x H' ⟨q,e,hq,hn,e2⟩=>by
  refine .inr ⟨q.id,sz,_,q.lo,q.n,e,by rw[e2,F5],?_,?_⟩
  ·rw[WM rfl hq.1 hq.2]
  grind[BP,Yp]
def Aa6 {f:FuncId}{fn:Func}{c:Code}{n:Nat}{rs:List ResultVar}{args:List V}(cf:Cf)(hP:Vm P T)(hf:P.funcs[f]? =some fn)(hb:fn.body=some c)(hd:M6 cf c=true)
 (hcall:∀vals w,(callFunc f vals).run P w= .ok (.enter f vals) w) (hnt:fn.ntmps=n) (hrs:fn.results.toList=rs) (hn:Nat.ble args.length n=true) {A:A5→Prop} {F H:A5}
 (h:∀(E:FN) (K:V→A5→Prop),E=I0 P n none→(∀x H',A H'→x= .bool true→K x H')→(∀x L H',C8 D F L H'→x= .bool false→K x H')→run E T n cf c ⟨CN args 0,[]⟩ H (Qe E T rs K)):
 M8 P f args H fun r H'=>(r= .bool true∧A H')∨(r= .bool false∧∃L,C8 D F L H'):=by
 refine(X8 (K:=fun x H'=>∃y H2,DF x y∧HU H2 H'∧((y= .bool true∧A H2)∨(y= .bool false∧∃L,C8 D F L H2))) cf hP.1 hP.2 hf hb hd hcall hnt hrs hn fun E hE=>?_).le.mono fun r H' hr=>hr;exact h E _ hE (fun x H' ha hx=>⟨x,H',.refl _,.refl _,.inl ⟨hx,ha⟩⟩) fun x L H' ho hx=>⟨x,H',.refl _,.refl _,.inr ⟨hx,L,ho⟩⟩
variable {α β σ:Type}
def ECI (enc:α→List V)(step:σ→α→Option (List β×(σ⊕Unit)))(s1:σ)(Inv:σ→List β→A5→A5→Prop)(w':List β)(l:List (List V))(F H:A5):Prop:=
 ∃q:σ×List α×List β,(l=q.2.1.map enc∧Ax step q.2.1 q.1=some (q.2.2,.inl s1))∧Inv q.1 (q.2.2++w') F H
def AW0 (hE:E=I0 P nt rd) (hI:∀l,G5 (I l)) (hD:G5 D) {f:FuncId} {args':V→List V} {rb:V→Bool→Prop} {enc:α→List V} {benc:β→List V} {step:σ→α→Option (List β×(σ⊕Unit))} {Ls:σ→List En} {cv:V}
 {xs:List α} {w w':List β} {tl:List (List V)} {s0 s1:σ} {F H:A5} {args:List V} {k:V→A5→Prop} (hcv:cv.one=true∧cv.cells=[cv]) (hc:Qv P f args' (xs.map enc) rb) (h:Ax step xs s0=some (w,.inl s1)) (hO:C8 (I (List.map benc (w++w')++tl)) F (Ls s0) H)
 (hl:M3 args (args' cv))
 (round:∀s y w1 w2 F H o,step s y=some (w1,o)→C8 (I (List.map benc (w1++w2)++tl)) F (Ls s) H→CW P cv (enc y) H fun r H'=>(r= .bool true∧∃s',o= .inl s'∧C8 (I (List.map benc w2++tl)) F (Ls s') H')∨(r= .bool false∧∃L,C8 D F L H'))
 (h1:∀v H',rb v true→C8 (I (List.map benc w'++tl)) F (Ls s1) H'→k v H') (h2:∀v L H',rb v false→C8 D F L H'→k v H'):E.call (.func (.func f) [] []) args H k:=by
 subst hE
 let Inv:σ→List β→A5→A5→Prop:=fun s w F H=>C8 (I (List.map benc w++tl)) F (Ls s) H
 have sI:∀l,G5 (ECI enc step s1 Inv w' l):=fun l=>G5.ex fun q=>C8.stable (hI _) _;have sD:G5 fun F H=>∃L,C8 D F L H:=G5.exL hD
 have hy:Qs P cv (ECI enc step s1 Inv w') fun F H=>∃L,C8 D F L H:=by
  refine⟨hcv,fun x l F H ⟨⟨s,ys,w2⟩,⟨hl,hr⟩,hi⟩=>?_⟩
  cases ys with
  |nil=>cases hl
  | cons y ys=>
   simp only[D9,U1]at hl
   obtain⟨rfl,rfl⟩:=hl
   simp only[Ax]at hr
   cases ho:step s y with
   |none=>rw[ho]at hr;cases hr
   | some p=>
    obtain⟨w1,o⟩:=p
    rw[ho]at hr
    cases o with
    |inr u=>cases hr
    | inl s'=>
     simp only at hr
     cases hx:Ax step ys s' with
     |none=>rw[hx]at hr;cases hr
     |some p=>
      obtain⟨w3,x⟩:=p
      rw[hx]at hr
      cases hr
      have hi':C8 (I (List.map benc (w1++(w3++w'))++tl)) F (Ls s) H:=by rw[←E7];exact hi
      refine(round s y w1 (w3++w') F H _ ho hi').mono fun r H' hr=>?_
      rcases hr with⟨rfl,s2,e,ho2⟩|⟨rfl,hd⟩
      ·cases e;exact .inl ⟨rfl,⟨s',ys,w3⟩,⟨rfl,hx⟩,ho2⟩
      simp_all
 have h3:M8 P f args H k:=((hc cv _ _ sI sD hy [] F H ⟨⟨s0,xs,w⟩,⟨G4 _,h⟩,hO⟩).args hl).mono fun v H' hr=>by
  rcases hr with⟨hb,⟨s,ys,w2⟩,⟨hl,hr⟩,hi⟩|⟨hb,L,ho⟩
  ·cases ys with
   |cons _ _=>cases hl
   |nil=>cases hr;grind
  grind
 exact M8.value (F:=[]) (C:=[]) (by grind)
end
end Go.Ab
namespace Go.Ab
open Go.RowKit Go.MapKept
variable [O6][Ar]
section
variable {K X:Type}
end
section
variable {P:Program}{nt:Nat}{rd:Option Nat}{T:ID}{E:FN}
variable (hE:E=I0 P nt rd)
include hE
variable {K X R S:Type}{kf:K→V}{vf:X→V}{d:TypeDesc}{Φ:A5→A5→Prop}{H0 H:A5}{L:List En}{r:R}{fid:FuncId}{args args':List V}{k:V→A5→Prop}
end
def C8.ne {Φ:A5→A5→Prop}{F H:A5}{L:List En}{a b:Nat}{x y:IF}(h:C8 Φ F L H)(i j:Nat)(hi:L[i]? =some (.blk a x))(hj:L[j]? =some (.blk b y))(hij:i≠j):a≠b:=fun e=>by
 obtain⟨hs,F',H1,h0,h1,h2⟩:=h;subst e;exact hij (h0.inj i j _ _ a x y hi hj rfl rfl)
section
variable {P:Program}{T:ID}{f:FuncId}{fn:Func}{c:Code}{n:Nat}{rs:List ResultVar}{args:List V}{K X:Type}{kf:K→V}{vf:X→V}{d:TypeDesc}
end
section
variable {K X:Type}
end
section
variable {P:Program}{nt:Nat}{rd:Option Nat}{T:ID}{E:FN}
variable (hE:E=I0 P nt rd)
include hE
variable {K X:Type}{kf:K→V}{vf:X→V}{d:TypeDesc}{Φ:A5→A5→Prop}{H0 H:A5}{L:List En}{k:V→A5→Prop}{m left:List (K×X)}{o:Obj}{mid it:Nat}{b:IF}{p:K×X}
end
end Go.Ab
namespace Go.Ab
variable [O6]
def Ai7 {E:FN}{t:Nat}{H:A5}{m y y':V}{ok:Bool}{k:V→Prop}(hy:y'=y)(h:E.mget t H m y' ok k):E.mget t H m y ok k:=hy▸h
def Xj {E:FN}{t:Nat}{H:A5}{m y y' v:V}{k:A5→Prop}(hy:y'=y)(h:E.mset t H m y' v k):E.mset t H m y v k:=hy▸h
end Go.Ab
namespace Go.Ab
open Go.RowKit
variable [O6][Ar]
section
variable {K X:Type}{P:Program}{d:TypeDesc}{kf:K→V}{vf:X→V}{o:List Value×List V}{m:List (K×X)}
def Sb (kf:K→V)(vf:X→V)(o:List Value×List V)(m:List (K×X)):Prop:=
 o.1.map some=m.map (fun p=>Cu (kf p.1))∧o.2=m.map (fun p=>vf p.2)∧o.1.Nodup
theorem Sb.at (h:Sb kf vf o m){i:Nat}{kv:Value}:o.1[i]? =some kv↔∃p,m[i]? =some p∧Cu (kf p.1)=some kv:=by
 have:=I4 (fun l=>l[i]?) h.1
 grind
def Sb.keys (h:Sb kf vf o m)(hK:UQ P d kf):∀k∈o.1,FH d k:=by
 intro k hk;obtain⟨i,hi,e⟩:=M4 hk
 obtain⟨p,_,e2⟩:=h.at.1 (List.getElem?_eq_some_iff.2 ⟨hi,e⟩)
 obtain⟨v,e3,e4⟩:=hK.raw p.1
 rw[e2]at e3;simp_all
def Sb.find (h:Sb kf vf o m) (hK:UQ P d kf) {key:K} {kv:Value} (hkv:Cu (kf key)=some kv):
 ((∀k∈o.1,k≠kv)∧∀p∈m,p.1≠key)∨∃(i:Nat) (p:K×X),o.1[i]? =some kv∧m[i]? =some p∧p.1=key∧∀(j:Nat) q,m[j]? =some q→q.1=key→j=i:=by
 by_cases hx:∃p∈m,p.1=key
 ·obtain⟨p,hp,hpk⟩:=hx;obtain⟨i,hi,e⟩:=M4 hp;have e':m[i]? =some p:=List.getElem?_eq_some_iff.2 ⟨hi,e⟩
  have e2:=h.at.2 ⟨p,e',by rw[hpk];exact hkv⟩
  refine .inr ⟨i,p,e2,e',hpk,fun j q hj hq=>?_⟩
  have e3:=h.at.2 ⟨q,hj,by rw[hq];exact hkv⟩
  exact Af0 h.2.2 e3 e2
 refine .inl ⟨fun k hk he=>?_,fun p hp he=>hx ⟨p,hp,he⟩⟩;obtain⟨i,hi,e⟩:=M4 hk
 obtain⟨p,e1,e2⟩:=h.at.1 (List.getElem?_eq_some_iff.2 ⟨hi,e⟩)
 refine hx ⟨p,Dd e1,hK.inj _ _ (Tw e2 ?_)⟩
 rw[←he]at hkv;exact hkv
def As9 [DecidableEq K] {key:K}:∀{m:List (K×X)} {i:Nat} {p:K×X},m[i]? =some p→p.1=key→(∀(j:Nat) q,m[j]? =some q→q.1=key→j=i)→m.find? (fun p=>decide (p.1=key))=some p
 |[],_,_,h,_,_=>by simp at h
 |q::m,0,p,h,hk,_=>by simp_all
 |q::m,i+1,p,h,hk,hu=>by
  have hq:q.1≠key:=fun e=>by have:=hu 0 q rfl e;omega
  simp only[List.find?_cons,hq,IL]
  exact As9 (by simpa using h) hk fun j r hj hr=>by have:=hu (j+1) r (by grind) hr;omega
def AY5 [DecidableEq K]{key:K}{m:List (K×X)}(h:∀p∈m,p.1≠key):m.find? (fun p=>decide (p.1=key))=none:=
 List.find?_eq_none.2 fun p hp=>by grind
variable {E:FN}{nt:Nat}{rd:Option Nat}{Φ:A5→A5→Prop}{H0 H:A5}{L:List En}{t kt et mid:Nat}
def Bl2 (hE:E=I0 P nt rd)(kf:K→V)(vf:X→V)(hO:C8 Φ H0 L H){k:V→A5→Prop}(hk:∀id o H',Sb kf vf o []→C8 Φ H0 (.blk id (.vm o.1 o.2)::L) H'→k (.map id) H'):E.mmk H k:=by
 subst hE;exact .inr (.inr fun id hid=>hk id ([],[]) _ ⟨rfl,rfl,LI⟩ (hO.push hid rfl))
def AV8 [DecidableEq K] {R:Type} {r:R} {g:X→V} (hE:E=I0 P nt rd) (hg:∀x,vf x=g x) (hm:P.underlying t=some (.map kt et)) (hd:P.underlying kt=some d) (hK:UQ P d kf) {z:V} (z0:X) (hz:Kc P et=some z) (hvz:DF z (vf z0)) (hO:C8 Φ H0 L H) (hq:Sb kf vf o m) (i:Nat) (hi:L[i]? =some (.blk mid (.vm o.1 o.2)))
 {key:K} {k:V→Prop} {F:X×Bool→Option R} (h:(QO m key z0).bind F=some r) (hk:∀x,F x=some r→k (.tup [g x.1,.bool x.2])) (hst:Av8 P kt d=true:=by kernel_rfl):E.mget t H (.map mid) (kf key) true k:=by
 subst hE;obtain⟨x,h1,h2⟩:=bind_some h;obtain⟨v,hv1,hv2⟩:=hK.raw key;refine⟨_,.inr (.inr ⟨kt,et,_,v,mid,o.1,o.2,hm,hK.kg _ hd hst,hv1,hv2,rfl,hO.get i hi,hq.keys hK,?_⟩),hk x h2⟩
 unfold QO at h1
 rw[←hg]
 rcases hq.find hK hv1 with⟨a,b⟩|⟨j,p,a,b,c,u⟩
 ·rw[AY5 b]at h1
  grind
 rw[As9 b c u]at h1
 cases h1;refine .inr ⟨j,a,?_⟩;rw[hq.2.1]
 simp_all
def Bg1 [DecidableEq K] {R:Type} {r:R} {y:V} {v:X} (hE:E=I0 P nt rd) (hy:y=vf v) (hm:P.underlying t=some (.map kt et)) (hd:P.underlying kt=some d) (hK:UQ P d kf) (hO:C8 Φ H0 L H) (hq:Sb kf vf o m) (i:Nat) (hi:L[i]? =some (.blk mid (.vm o.1 o.2)))
 {key:K} {k:A5→Prop} {F:List (K×X)→Option R} (h:(PF m key v).bind F=some r) (hk:∀m' o' H',Sb kf vf o' m'→F m'=some r→C8 Φ H0 (L.set i (.blk mid (.vm o'.1 o'.2))) H'→k H') (hst:Av8 P kt d=true:=by kernel_rfl):E.mset t H (.map mid) (kf key) y k:=by
 subst hE;subst hy;obtain⟨m',h1,h2⟩:=bind_some h;obtain⟨kv,hv1,hv2⟩:=hK.raw key;refine .inr (.inr ⟨kt,et,_,kv,mid,o.1,o.2,hm,hK.kg _ hd hst,hv1,hv2,rfl,hO.get i hi,hq.keys hK,?_⟩)
 unfold PF at h1
 rcases hq.find hK hv1 with⟨a,b⟩|⟨j,p,a,b,c,u⟩
 ·have hn:m.any (fun p=>decide (p.1=key))=false:=by
   rw[GK];grind
  rw[hn]at h1
  cases h1;refine .inl ⟨a,hk _ (o.1++[kv],o.2++[vf v]) _ ⟨?_,?_,?_⟩ h2 (hO.set i hi)⟩
  ·simp[hq.1,hv1]
  ·simp[hq.2.1]
  rw[IW];exact⟨hq.2.2,by simp,fun x hx y hy=>by simp_all⟩
 have hy:m.any (fun p=>decide (p.1=key))=true:=List.any_eq_true.2 ⟨p,Dd b,by grind⟩
 rw[hy]at h1
 cases h1;refine .inr ⟨j,a,hk _ (o.1,o.2.set j (vf v)) _ ⟨?_,?_,hq.2.2⟩ h2 (hO.set i hi)⟩
 ·show o.1.map some=_
  rw[hq.1,A1 rfl,J0];refine X3 fun q _=>?_
  grind
 show o.2.set j (vf v)=_
 rw[hq.2.1,A1 rfl];apply BD
 grind
def Na (P:Program)(f:FuncId)(args:Nat→List V)(kf:K→V)(vf:X→V)(m:List (K×X))(x:V)(m':List (K×X)):Prop:=
 ∀H id o,Sb kf vf o m→H id=some (.vm o.1 o.2)→M8 P f (args id) H fun v H'=>v=x∧∃o',Sb kf vf o' m'∧H'=upd H id (some (.vm o'.1 o'.2))
def Fj {fid:FuncId}{args:List V}{args':Nat→List V}{S R:Type}{r:R}{k:V→A5→Prop}{m:Option (S×List (K×X))}{F:S×List (K×X)→Option R}{g:S→V}{l:List (K×X)}{id:Nat}(hE:E=I0 P nt rd)(hO:C8 Φ H0 L H)(hq:Sb kf vf o l)(i:Nat)(hi:L[i]? =some (.blk id (.vm o.1 o.2)))(h:m.bind F=some r)
 (hc:∀x,m=some x→Na P fid args' kf vf l (g x.1) x.2) (hl:M3 args (args' id))
 (hk:∀x o' H',Sb kf vf o' x.2→C8 Φ H0 (L.set i (.blk id (.vm o'.1 o'.2))) H'→F x=some r→k (g x.1) H'):E.call (.func (.func fid) [] []) args H k:=by
 subst hE;obtain⟨x,h1,h2⟩:=bind_some h;refine M8.value (F:=[]) (C:=[]) ?_;simp only[I5,G4]
 exact((hc x h1 H id o hq (hO.get i hi)).args hl).mono fun v H' ⟨e3,o',e2,e4⟩=>by subst e3;subst e4;exact hk x o' _ e2 (hO.set i hi) h2
def Iy {f:FuncId}{fn:Func}{c:Code}{n:Nat}{rs:List ResultVar}{T:ID}{args:Nat→List V}{m':List (K×X)}{x:V}(cf:Cf)(hP:Vm P T)(hf:P.funcs[f]? =some fn)(hb:fn.body=some c)(hd:M6 cf c=true)
 (hcall:∀vals w,(callFunc f vals).run P w= .ok (.enter f vals) w) (hnt:fn.ntmps=n) (hrs:fn.results.toList=rs) (hn:∀id,Nat.ble (args id).length n=true)
 (h:∀(E:FN) (H:A5) (id:Nat) (o:List Value×List V) (k:V→A5→Prop),E=I0 P n none→Sb kf vf o m→C8 Eq (upd H id none) [.blk id (.vm o.1 o.2)] H→(∀v o' (L:List En) (i:Nat) H',Sb kf vf o' m'→L[i]? =some (.blk id (.vm o'.1 o'.2))→C8 Eq (upd H id none) L H'→DF v x→k v H')→run E T n cf c ⟨CN (args id) 0,[]⟩ H (Qe E T rs k)):Na P f args kf vf m x m':=fun H id o hq hk=>by
 refine M8.le (X8 (K:=fun v H'=>∃y H2,DF v y∧HU H2 H'∧y=x∧∃o',Sb kf vf o' m'∧H2=upd H id (some (.vm o'.1 o'.2))) cf hP.1 hP.2 hf hb hd hcall hnt hrs (hn id) fun E hE=>?_);refine h E H id o _ hE hq (C8.startO hk) fun v o' L i H' hq' hi hO hv=>?_;obtain⟨h1,h2⟩:=(hO.only i hi).last
 rw[BP]at h2
 grind
end
end Go.Ab
namespace Go.Ab
variable [O6][Ar]
section
variable {P:Program}{nt:Nat}{rd:Option Nat}{E:FN}(hE:E=I0 P nt rd){Φ:A5→A5→Prop}{H0 H:A5}{L:List En}
include hE
theorem Aq2 (hO:C8 Φ H0 L H)(i:Nat){tl:K1}(hi:L[i]? =some (.tl tl))(ha:FI tl){k:K1→A5→Prop}
 (hk:∀H',C8 Φ H0 (L.set i (.tl .nil)) H'→k tl H'):E.takeT H k:=by
 subst hE;exact⟨tl,hO.appOk i hi ha,hk _ (hO.untok i hi rfl)⟩
theorem Aq6 (hO:C8 Φ H0 L H)(i:Nat)(hi:L[i]? =some (.tl .nil)){k:K1→A5→Prop}
 (hk:∀tl H',C8 Φ H0 (L.set i (.tl tl)) H'→FI tl→k tl H'):E.nameT H k:=by
 subst hE;refine⟨fun tl htl=>?_,fun t ht=>hk _ _ (hO.tok i hi ht) trivial⟩
 rcases htl with rfl|rfl
 ·exact hk _ _ (hO.untok i hi rfl) trivial
 exact hk _ _ (hO.untok i hi rfl) trivial
end
end Go.Ab
namespace Go.Ab
open Go.RowKit
variable [O6][Ar]
def Bb5 (e e':En):Prop:=∀id b b',e.id=some (id,b)→e'.id=some (id,b')→False
def Ce.perm {H0 H:A5} {L L':List En} (h:Ce H0 L H) (p:L.Perm L'):Ce H0 L' H:=by
 have hp:L.Pairwise Bb5:=by
  rw[Y9];intro i j hi hj hlt id b b' e1 e2;have:=h.inj i j _ _ id b b' (C0 hi) (C0 hj) e1 e2;omega
 have hp':L'.Pairwise Bb5:=(p.pairwise_iff (fun{x y} (h:Bb5 x y) id b b' e1 e2=>h id b' b e2 e1)).1 hp
 rw[Y9]at hp'
 refine⟨h.ext,fun i e id b hi he=>?_,fun i j e e' id b b' hi hj he he'=>?_,fun x b hx=>(h.only x b hx).imp (fun h=>h) fun⟨i,e,h1,h2⟩=>?_⟩
 ·obtain⟨j,hj⟩:=List.getElem?_of_mem (p.mem_iff.2 (Dd hi));exact h.has j e id b hj he
 ·grind[Bb5]
 obtain⟨j,hj⟩:=List.getElem?_of_mem (p.mem_iff.1 (Dd h1))
 grind
def C8.perm {Φ:A5→A5→Prop}{F H:A5}{L L':List En}(h:C8 Φ F L H)(p:L.Perm L'):C8 Φ F L' H:=
 let⟨hs,F',H1,h0,h1,h2⟩:=h;⟨hs,F',H1,h0.perm p,h1,h2⟩
structure Rw (α:Type) where
 q:OG
 row:List (List α×K1)
variable {α:Type}(f:α→V)
def Hu (c:List α×K1):V:=.sl (lst f c.1) c.2
def rwB (w:Rw α):En:=.blk w.q.id (.arr 1 (w.q.pre++lst (Hu f) w.row++w.q.rest))
def rwL (w:Rw α):List En:=rwB f w::w.row.map fun c=>.tl c.2
def fo:List (Rw α)→List En
 |[]=>[]
 |w::F=>rwL f w++fo F
def RwA (w:Rw α):Prop:=∀c∈w.row,FI c.2
variable {f}
def AN6:∀(F G:List (Rw α)),fo f (F++G)=fo f F++fo f G
 |[],_=>rfl
 |w::F,G=>by rw[Y8,fo,fo,AN6 F G,E7]
def ZX:∀{F:List (Rw α)} {c:Nat} {w:Rw α},F[c]? =some w→∃R,(fo f F).Perm (rwL f w++R)∧∀w',(fo f (F.set c w')).Perm (rwL f w'++R)
 |[],_,_,h=>by simp at h
 |v::F,0,w,h=>by
  simp at h;subst h
  exact⟨fo f F,.refl _,fun w'=>.refl _⟩
 | v::F,c+1,w,h=>by
  obtain⟨R,h1,h2⟩:=ZX (F:=F) (c:=c) (w:=w) (by grind)
  have key:∀(X Y:List En),X.Perm (Y++R)→(rwL f v++X).Perm (Y++(rwL f v++R)):=fun X Y hX=>
   (hX.append_left _).trans (by
    rw[←E7,←E7]
    exact List.perm_append_comm.append_right R)
  grind[fo]
def QE:∀{row:List (List α×K1)} {i:Nat} {c:List α×K1},row[i]? =some c→∃R,(row.map fun c=>En.tl c.2).Perm (.tl c.2::R)∧∀c',((row.set i c').map fun c=>En.tl c.2).Perm (.tl c'.2::R)
 |[],_,_,h=>by simp at h
 |v::F,0,w,h=>by
  simp at h;subst h
  exact⟨F.map fun c=>.tl c.2,.refl _,fun w'=>.refl _⟩
 |v::F,i+1,w,h=>by
  obtain⟨R,h1,h2⟩:=QE (row:=F) (i:=i) (c:=w) (by grind);exact⟨.tl v.2::R,(h1.cons _).trans (.swap ..),fun w'=>((h2 w').cons _).trans (.swap ..)⟩
def Am1 {F:List (Rw α)} {c i:Nat} {w:Rw α} {x:List α×K1} (hc:F[c]? =some w) (hi:w.row[i]? =some x):
 ∃R,(fo f F).Perm (.tl x.2::rwB f w::R)∧∀x',(fo f (F.set c ⟨w.q,w.row.set i x'⟩)).Perm (.tl x'.2::rwB f ⟨w.q,w.row.set i x'⟩::R):=by
 obtain⟨R,h1,h2⟩:=ZX (f:=f) hc;obtain⟨S,k1,k2⟩:=QE hi
 have key:∀(b:En) (X:List En) (t:En),X.Perm (t::S)→(b::(X++R)).Perm (t::b::(S++R)):=fun b X t hX=>
  ((hX.append_right R).cons b).trans (.swap ..)
 exact⟨S++R,h1.trans (key _ _ _ k1),fun x'=>(h2 _).trans (key _ _ _ (k2 x'))⟩
def C8.cell {Φ:A5→A5→Prop} {H0 H:A5} {b:En} {L:List En} {F:List (Rw α)} {c i:Nat} {w:Rw α} {x:List α×K1} (hO:C8 Φ H0 (b::(fo f F++L)) H) (hc:F[c]? =some w) (hi:w.row[i]? =some x):
 ∃R,C8 Φ H0 (.tl x.2::rwB f w::b::R) H∧∀x' H',C8 Φ H0 (.tl x'.2::rwB f ⟨w.q,w.row.set i x'⟩::b::R) H'→C8 Φ H0 (b::(fo f (F.set c ⟨w.q,w.row.set i x'⟩)++L)) H':=by
 obtain⟨R,h1,h2⟩:=Am1 (f:=f) hc hi
 have key:∀(X:List En) (t r:En),X.Perm (t::r::R)→(b::(X++L)).Perm (t::r::b::(R++L)):=fun X t r h=>
  ((h.append_right L).cons b).trans ((List.Perm.swap t b _).trans ((List.Perm.swap r b _).cons t))
 exact⟨R++L,hO.perm (key _ _ _ h1),fun x' H' h=>h.perm (key _ _ _ (h2 x')).symm⟩
def C8.row {Φ:A5→A5→Prop} {H0 H:A5} {b b':En} {L:List En} {F:List (Rw α)} {w:Rw α} (hO:C8 Φ H0 (rwB f w::b::b'::(fo f F++L)) H) (hw:∀c∈w.row,(En.tl c.2).id=none):C8 Φ H0 (b'::(fo f (F++[w])++(b::L))) H:=by
 have h1:∀(row:List (List α×K1)) (M:List En),(∀c∈row,(En.tl c.2).id=none)→C8 Φ H0 M H→C8 Φ H0 ((row.map fun c=>.tl c.2)++M) H:=by
  intro row
  induction row with
  |nil=>simp_all
  |cons c row ih=>grind[tl0]
 have h2:=h1 w.row _ hw hO;refine h2.perm ?_;rw[AN6];simp only[fo,rwL,G4];generalize w.row.map (fun c=>En.tl c.2)=X;generalize fo f F=Y;have p1:(X++rwB f w::b::b'::(Y++L)).Perm (rwB f w::X++(b::b'::(Y++L))):=IR
 have p2:(rwB f w::X++(b::b'::(Y++L))).Perm (b'::(rwB f w::X++(b::(Y++L)))):=
  ((List.Perm.swap b' b (Y++L)).append_left (rwB f w::X)).trans IR
 refine p1.trans (p2.trans (.cons b' ?_));have p3:(rwB f w::X++(b::(Y++L))).Perm (rwB f w::X++(Y++b::L)):=(List.perm_middle.symm).append_left _;refine p3.trans ?_;rw[←E7];exact(List.perm_append_comm (l₁:=rwB f w::X) (l₂:=Y)).append_right _
end Go.Ab
namespace Go.Ab
open Go.RowKit
variable [O6]
def Gst (H:A5)(v:V)(H':A5)(v':V):Prop:=∀g w,Rl g H w→∃g',Af g w g' w∧Rl g' H' w∧∀u,VR g w u v→VR g' w u v'
theorem Gst.refl (H:A5)(v:V):Gst H v H v:=fun g w h=>⟨g,Af.refl _ _,h,fun _ h=>h⟩
def Gst.trans {H H1 H2:A5}{v v1 v2:V}(a:Gst H v H1 v1)(b:Gst H1 v1 H2 v2):Gst H v H2 v2:=fun g w h=>by
 obtain⟨g1,s1,R1,k1⟩:=a g w h;obtain⟨g2,s2,R2,k2⟩:=b g1 w R1;exact⟨g2,s1.trans s2,R2,fun u hu=>k2 u (k1 u hu)⟩
def Gst.tup2 {H H':A5} {v v' c:V} (a:Gst H v H' v'):Gst H (.tup [v,c]) H' (.tup [v',c]):=fun g w h=>by
 obtain⟨g1,s1,R1,k1⟩:=a g w h;refine⟨g1,s1,R1,fun u hu=>?_⟩
 cases hu with
 |tup hl hv=>
  refine .tup hl fun i hi=>?_;have:=hv i hi
  match i,hi with
  |0,_=>grind
  |1,_=>exact this.mono s1
section
variable [Ar]{α:Type}{f:α→V}
end
end Go.Ab
namespace Go.Ab
open Go.RowKit
variable [O6][Ar]
section
variable {P:Program}{nt:Nat}{rd:Option Nat}{E:FN}(hE:E=I0 P nt rd)
include hE
variable {α:Type}{f:α→V}{Φ:A5→A5→Prop}{H0 H:A5}{L:List En}{sz:Nat}{q:OG}{l:List α}
theorem AO1 (hO:C8 Φ H0 L H)(hq:Cd q (Ar.len l))(i:Nat){j:Int}{k:Int→Prop}(hi:L[i]? =some (.blk q.id (.arr sz (q.pre++lst f l++q.rest))))(hj:0≤j∧j<(l.length:Nat))(hk:k (ofs q.lo j)):E.oidx H q.id sz q.lo q.n j k:=
 BK hE hO hq i hi (F:=fun _=>some ()) (r:=()) (by grind[FL,Lu]) fun _=>hk
theorem AY7 {g:α→V} (hf:∀x,f x=g x) (hO:C8 Φ H0 L H) (hq:Cd q (Ar.len l)) (i:Nat) {j:Int} {x:α} {k:V→Prop} (hi:L[i]? =some (.blk q.id (.arr sz (q.pre++lst f l++q.rest)))) (hj:0≤j) (hx:l[j.toNat]? =some x) (hk:k (g x)):
 E.oload H q.id (ofs q.lo j) k:=by
 have hlt:j<(l.length:Nat):=by
  grind
 exact CT hE hf hO hq i hi (F:=fun y=>some y) (r:=x) (by simp_all[B9]) fun y hy=>by simp_all
theorem AO0 {esz tz off:Nat}{y:V}{x':α}(hu:∀x,∃y',DF y y'∧y'.one=true∧y'.cells.length=tz∧Xf (f x) esz tz off y'=f x')(hle:off+tz≤esz)(hO:C8 Φ H0 L H)(hq:Cd q (Ar.len l))(i:Nat){j:Int}{k:A5→Prop}
 (hi:L[i]? =some (.blk q.id (.arr esz (q.pre++lst f l++q.rest)))) (hj:0≤j∧j<(l.length:Nat))
 (hk:∀H',C8 Φ H0 (L.set i (.blk q.id (.arr esz (q.pre++lst f (l.set j.toNat x')++q.rest)))) H'→k H'):E.ostore H q.id (ofs q.lo j) esz tz off y k:=by
 obtain⟨x,hx⟩:∃x,l[j.toNat]? =some x:=⟨l[j.toNat],C0 (by omega)⟩
 exact Hb hE (u:=fun _=>x') hu hle hO hq i hi (F:=fun l=>some l) (r:=l.set j.toNat x') (by simp_all[FJ,B9]) fun l' H' hq' e hO'=>by simp_all
end
def AL2 {α:Type}{n m:Int}{z:α}{l:List α}(h:mkL n m z=some l):l=List.replicate n.toNat z:=by
 simp_all[mkL]
def AY1 {α:Type}{l:List α}{i:Int}{x:α}(h:B9 l i=some x):(0≤i∧i<(l.length:Nat))∧l[i.toNat]? =some x:=by
 grind[B9]
def NK {α:Type}(w:Rw α):List En:=w.row.map fun c=>.tl c.2
structure Gp {α:Type} (w:Rw α) (l:List (List α)):Prop where
 ok:Cd w.q (Ar.len w.row)
 ap:RwA w
 eq:w.row.map (·.1)=l
section
variable {α:Type}{f:α→V}{w:Rw α}{l:List (List α)}
def Gp.len (h:Gp w l):Ar.len l=Ar.len w.row:=by rw[len_eq,len_eq,←h.eq,List.length_map]
theorem Gp.at (h:Gp w l) {i:Int} {x:List α} (hx:B9 l i=some x):(0≤i∧i<(w.row.length:Nat))∧∃t,w.row[i.toNat]? =some (x,t)∧FI t:=by
 obtain⟨h1,h2⟩:=AY1 hx
 rw[←h.eq]at h1 h2
 rw[D4]at h1
 rw[S5]at h2
 cases hr:w.row[i.toNat]? with
 |none=>rw[hr]at h2;cases h2
 |some c=>
  rw[hr]at h2
  simp only[K2,E3]at h2
  refine⟨h1,c.2,by rw[←h2],h.ap c (Dd hr)⟩
theorem Gp.put (h:Gp w l) (i:Nat) {y:List α} {t:K1} (ht:FI t):Gp ⟨w.q,w.row.set i (y,t)⟩ (l.set i y):=by
 refine⟨?_,fun c hc=>?_,?_⟩
 ·have:=h.ok
  rw[len_eq]at this ⊢
  rw[List.length_set];exact this
 ·rcases List.mem_or_eq_of_mem_set hc with hc|rfl
  ·exact h.ap c hc
  exact ht
 rw[List.map_set,h.eq]
def Ag6 {i:Nat}{c:List α×K1}(hi:w.row[i]? =some c):∃R,(NK w).Perm (.tl c.2::R)∧∀c',(NK ⟨w.q,w.row.set i c'⟩).Perm (.tl c'.2::R):=QE hi
def C8.rtake {Φ:A5→A5→Prop} {H0 H:A5} {L T1 T2:List En} (hO:C8 Φ H0 L H) (n:Nat) (hL:L=L.take n++(T1++(NK w++T2))) {i:Nat} {c:List α×K1} (hi:w.row[i]? =some c):
 ∃R,C8 Φ H0 (.tl c.2::(L.take n++R)) H∧∀c' H' (L2:List En),C8 Φ H0 (.tl c'.2::(L2++R)) H'→C8 Φ H0 (L2++(T1++(NK ⟨w.q,w.row.set i c'⟩++T2))) H':=by
 obtain⟨R,h1,h2⟩:=Ag6 hi
 have key:∀(L2 X:List En) (t:En),X.Perm (t::R)→(L2++(T1++(X++T2))).Perm (t::(L2++(T1++(R++T2)))):=fun L2 X t h=>
  ((((h.append_right T2).append_left T1).append_left L2).trans ((IR (l₁:=T1)).append_left L2)).trans IR
 refine⟨T1++(R++T2),?_,fun c' H' L2 h=>h.perm (key _ _ _ (h2 c')).symm⟩
 rw[hL]at hO
 exact hO.perm (key _ _ _ h1)
def C8.radd {Φ:A5→A5→Prop} {H0 H:A5} {L:List En} (hO:C8 Φ H0 L H) (n:Nat) (w:Rw α) (hw:∀c∈w.row,(En.tl c.2).id=none):C8 Φ H0 (L.take n++(NK w++L.drop n)) H:=by
 have h1:∀(row:List (List α×K1)) (M:List En),(∀c∈row,(En.tl c.2).id=none)→C8 Φ H0 M H→C8 Φ H0 ((row.map fun c=>.tl c.2)++M) H:=by
  intro row
  induction row with
  |nil=>simp
  |cons c row ih=>exact fun M hr h=>(ih M (fun c hc=>hr c (by simp[hc])) h).tl0 (hr c (by simp))
 refine(h1 w.row L hw hO).perm ?_
 show(NK w++L).Perm _
 have e:NK w++L=NK w++(L.take n++L.drop n):=by rw[BF]
 rw[e,←E7,←E7];exact List.perm_append_comm.append_right _
def C8.drops {Φ:A5→A5→Prop}{H0 H:A5}:∀{X L:List En},C8 Φ H0 (X++L) H→C8 Φ H0 L H
 |[],_,h=>h
 |_::X,_,h=>C8.drops (X:=X) h.tail
def C8.rdrop {Φ:A5→A5→Prop}{H0 H:A5}{L T1 T2:List En}(hO:C8 Φ H0 L H)(n:Nat)(hL:L=L.take n++(T1++(NK w++T2))):C8 Φ H0 (L.take n++(T1++T2)) H:=by
 rw[hL]at hO
 refine(hO.perm (L':=NK w++(L.take n++(T1++T2))) ?_).drops;refine(((Rr T1 (NK w) T2).append_left _)).trans ?_;exact Rr _ _ _
def AF1 {α:Type}{l r:List α}{i:Int}{y:α}(h:FJ l i (fun _=>y)=some r):r=l.set i.toNat y:=by
 simp_all[FJ]
def AT5 {e:List α→V} (he:∀x,e x= .sl (lst f x) .ro) (h:Gp w l):M3 (lst (Hu f) w.row) (lst e l):=by
 rw[lst_eq,lst_eq,←h.eq]
 have:∀row:List (List α×K1),M3 (row.map (Hu f)) ((row.map (·.1)).map e):=by
  intro row
  induction row with
  |nil=>exact .nil
  |cons c row ih=>exact .cons (by rw[he];exact .ro _ _) ih
 exact this _
end
section
variable {P:Program}{nt:Nat}{rd:Option Nat}{T:ID}{E:FN}
variable (hE:E=I0 P nt rd)
include hE
variable {α R:Type}{f:α→V}{Φ:A5→A5→Prop}{H0 H:A5}{L:List En}{w:Rw α}{l:List (List α)}{r:R}
theorem Bl3 {by_:Nat} (hby:by_≤131072) (hO:C8 Φ H0 L H) (c:Nat) {n m:Int} {k:V→A5→Prop} {F:List (List α)→Option R} (h:(mkL n m ([]:List α)).bind F=some r)
 (hk:∀l (w:Rw α) H',Gp w l→F l=some r→C8 Φ H0 (.blk w.q.id (.arr 1 (w.q.pre++lst (Hu f) w.row++w.q.rest))::(L.take c++(NK w++L.drop c))) H'→k (.own w.q.id w.q.lo w.q.n) H'):E.omk 1 by_ (.sl [] .nil) n m H k:=by
 obtain⟨l,h1,h2⟩:=bind_some h;have hl:=AL2 h1
 have h3:mkL n m (([]:List α),K1.nil)=some (List.replicate n.toNat (([]:List α),K1.nil)):=by
  simp_all[mkL]
 refine Aq3 hE (f:=Hu f) hby (z0:=(([]:List α),K1.nil)) (.slt _ .lst0) hO (F:=fun l=>some l) (r:=List.replicate n.toNat (([]:List α),K1.nil)) (by rw[h3];rfl) fun row q H' hq hr hO'=>?_;cases hr;refine hk l ⟨q,List.replicate n.toNat (([]:List α),K1.nil)⟩ H' ⟨hq,fun c hc=>by rw[Ro hc];trivial,by rw[hl];simp⟩ h2 ?_
 exact hO'.radd (c+1) ⟨q,List.replicate n.toNat (([]:List α),K1.nil)⟩ fun c hc=>by rw[Ro hc];rfl
theorem AJ9 {e:List α→V}(he:∀x,e x= .sl (lst f x) .ro)(hO:C8 Φ H0 L H)(hw:Gp w l)(i m:Nat){id j:Nat}{cs:List V}{k:A5→Prop}(hi:L[i]? =some (.blk id (.cells cs)))(hm:L[m]? =some (.blk w.q.id (.arr 1 (w.q.pre++lst (Hu f) w.row++w.q.rest))))(hj:cs[j]? =some (.own w.q.id w.q.lo w.q.n))(him:i≠m)
 (hk:∀H',C8 Φ H0 ((L.set i (.blk id (.cells (cs.set j (.sl (lst e l) .ro))))).eraseIdx m) H'→k H'):E.frzIn H id j k:=by
 subst hE;have h1:=hO.get i hi;have h2:=hO.get m hm
 have hne:w.q.id≠id:=fun e=>by rw[e,h1]at h2;cases h2
 refine⟨cs,w.q.id,w.q.lo,w.q.n,1,_,lst e l,h1,hj,h2,?_,?_⟩
 ·rw[Sr hw.ok.1 (by rw[hw.ok.2,len_eq,N3])];exact AT5 he hw
 have h3:=(hO.set i (b':=.cells (cs.set j (.sl (lst e l) .ro))) hi).del m (id:=w.q.id) (b:=.arr 1 (w.q.pre++lst (Hu f) w.row++w.q.rest)) (by rw[Au,A0 him];exact hm);rw[SV _ _ _ hne];exact hk _ h3
end
section
variable {P:Program}{nt:Nat}{rd:Option Nat}{E:FN}(hE:E=I0 P nt rd)
include hE
variable {α R:Type}{f:α→V}{Φ:A5→A5→Prop}{H0 H:A5}{L:List En}{sz:Nat}{q:OG}{l:List α}{r:R}
theorem Az3 (hO:C8 Φ H0 L H) (hq:Cd q (Ar.len l)) (i:Nat) (hi:L[i]? =some (.blk q.id (.arr sz (q.pre++lst f l++q.rest)))) {lo:Option Int} {k:V→Prop} {F:List α→Option R}
 (h:(O5 l lo none none).bind F=some r) (hk:∀x (q':OG),q'.id=q.id∧q'.lo=q.lo+lo.getD 0∧q'.n=q.n-lo.getD 0→F x=some r→k (.own q'.id q'.lo q'.n)):
 E.oslice sz H q.id q.lo q.n lo none none k:=by
 have hE':=hE;subst hE;obtain⟨x,h1,h2⟩:=bind_some h
 have hn:q.n=(l.length:Nat):=by rw[hq.2,len_eq]
 have el:=N3 (f:=f) l
 unfold O5 at h1
 split at h1
 ·rename_i hc;cases h1;obtain⟨c1,c2,c3,c4,c5⟩:=hc
  simp only[Ds]at c2 c3 c4
  refine⟨_,hO.get i hi,?_,?_⟩
  ·rw[hn,hq.1]
   grind
  exact hk _ ⟨q.id,q.lo+lo.getD 0,q.n-lo.getD 0,[],[]⟩ ⟨rfl,rfl,rfl⟩ h2
 cases h1
theorem Zx (hO:C8 Φ H0 L H) (hq:Cd q (Ar.len l)) (i:Nat) (hi:L[i]? =some (.blk q.id (.arr sz (q.pre++lst f l++q.rest)))) {q':OG} {a:Int} (hd:q'.id=q.id∧q'.lo=q.lo+a∧q'.n=q.n-a) {y:V} {m:List α} {k:V→A5→Prop} {F:List α×Int→Option R}
 (hs:So sz H y (lst f m)) (h:(Uz l a m).bind F=some r) (hk:∀p H',Cd q (Ar.len p.1)→C8 Φ H0 (L.set i (.blk q.id (.arr sz (q.pre++lst f p.1++q.rest)))) H'→F p=some r→k (.int .i64 p.2) H'):E.ocopy sz H (.own q'.id q'.lo q'.n) y k:=by
 have hn:q.n=(l.length:Nat):=by rw[hq.2,len_eq]
 have el:=N3 (f:=f) l;have em:=N3 (f:=f) m;obtain⟨p,h1,h2⟩:=bind_some h
 unfold Uz at h1
 split at h1
 ·rename_i hc;cases h1;rw[hd.1,hd.2.1,hd.2.2];refine AU5 hE (hO.get i hi) hs (YL:=(m.length:Nat)) (by rw[em]) fun n row' hm hrow=>?_
  have e1:n=(if(l.length:Int)-a<(m.length:Nat)then(l.length:Int)-a else(m.length:Nat)):=by rw[hm,hn]
  have ea:(q.lo+a).toNat=q.pre.length+a.toNat:=by rw[hq.1];omega
  have en:(q.n-a).toNat=l.length-a.toNat:=by rw[hn];omega
  have e2:row'=q.pre++lst f (l.take a.toNat++m.take (l.length-a.toNat)++l.drop (a.toNat+m.length))++q.rest:=by
   rw[hrow,ea,en,lst_eq,lst_eq,lst_eq];rw[Xh (A:=q.pre++(l.take a.toNat).map f) (B:=((l.drop a.toNat).take m.length).map f) (C:=(l.drop (a.toNat+m.length)).map f++q.rest) ?_ ?_ ?_]
   ·simp_all
   ·have:l=l.take a.toNat++((l.drop a.toNat).take m.length++l.drop (a.toNat+m.length)):=by
     rw[←IP,BF,BF]
    grind
   ·simp;omega
   grind
  rw[e1,e2];refine hk _ _ ⟨hq.1,?_⟩ (hO.set i hi) h2;rw[hn,len_eq]
  grind
 cases h1
theorem AV9 (hO:C8 Φ H0 L H)(hq:Cd q (Ar.len l))(i:Nat)(hi:L[i]? =some (.blk q.id (.arr sz (q.pre++lst f l++q.rest)))){y:V}{m:List α}{k:V→A5→Prop}{F:List α×Int→Option R}
 (hs:So sz H y (lst f m)) (h:(Uz l 0 m).bind F=some r) (hk:∀p H',Cd q (Ar.len p.1)→C8 Φ H0 (L.set i (.blk q.id (.arr sz (q.pre++lst f p.1++q.rest)))) H'→F p=some r→k (.int .i64 p.2) H'):E.ocopy sz H (.own q.id q.lo q.n) y k:=
 Zx hE hO hq i hi (a:=0) ⟨rfl,by omega,by omega⟩ hs h hk
end
section
variable {P:Program}{nt:Nat}{rd:Option Nat}{T:ID}{E:FN}
variable (hE:E=I0 P nt rd)
include hE
end
def Ad8 (P:Program)(f:FuncId)(A:OG→List V)(sz:Nat)(xs ys:List V):Prop:=
 ∀H (q:OG),Cd q (xs.length:Nat)→H q.id=some (.arr sz (q.pre++xs++q.rest))→M8 P f (A q) H fun v H'=>v= .tup []∧Cd q (ys.length:Nat)∧H'=upd H q.id (some (.arr sz (q.pre++ys++q.rest)))
structure OGq (q:OG) extends OG where
 eq:toOG=q
instance {q:OG}:CoeOut (OGq q) OG:=⟨OGq.toOG⟩
instance {q:OG}:CoeDep OG q (OGq q):=⟨⟨q,rfl⟩⟩
section
variable {P:Program}{nt:Nat}{rd:Option Nat}{T:ID}{E:FN}
variable (hE:E=I0 P nt rd)
include hE
theorem Xl {α R:Type} {f:α→V} {Φ:A5→A5→Prop} {H0 H:A5} {L:List En} {sz:Nat} {q:OG} {l:List α} {r:R} {m:Option (List α)} {F:List α→Option R} {fid:FuncId} {args:List V} {A:OG→List V} {k:V→A5→Prop}
 (hO:C8 Φ H0 L H) (hq:Cd q (Ar.len l)) (i:Nat) (hi:L[i]? =some (.blk q.id (.arr sz (q.pre++lst f l++q.rest)))) (h:m.bind F=some r) (hc:∀x,m=some x→Ad8 P fid A sz (lst f l) (lst f x)) (hl:M3 args (A q))
 (hk:∀x H',Cd q (Ar.len x)→C8 Φ H0 (L.set i (.blk q.id (.arr sz (q.pre++lst f x++q.rest)))) H'→F x=some r→k (.tup []) H'):E.call (.func (.func fid) [] []) args H k:=by
 subst hE;obtain⟨x,h1,h2⟩:=bind_some h;refine M8.value (F:=[]) (C:=[]) ?_;simp only[I5,G4]
 exact((hc x h1 H q (by rw[N3,←len_eq];exact hq) (hO.get i hi)).args hl).mono fun v H' ⟨e1,e0,e2⟩=>by
  subst e1;subst e2;exact hk x _ (Ap7 e0) (hO.set i hi) h2
end
def QW {P:Program} {T:ID} {f:FuncId} {fn:Func} {c:Code} {n m:Nat} {rs:List ResultVar} {α:Type} {fe:α→V} {l r:List α} {sz:Nat} {A:OG→List V} (cf:Cf) (hP:Vm P T) (hf:P.funcs[f]? =some fn) (hb:fn.body=some c) (hd:M6 cf c=true)
 (hcall:∀vals w,(callFunc f vals).run P w= .ok (.enter f vals) w) (hnt:fn.ntmps=n) (hrs:fn.results.toList=rs) (hm:∀q,(A q).length=m) (hn:Nat.ble m n=true)
 (h:∀(E:FN) (H:A5) (q:OG) (k:V→A5→Prop),E=I0 P n none→Cd q (Ar.len l)→C8 Eq (upd H q.id none) [.blk q.id (.arr sz (q.pre++lst fe l++q.rest))] H→
  (∀(L:List En) (i:Nat) H',Cd q (Ar.len r)→L[i]? =some (.blk q.id (.arr sz (q.pre++lst fe r++q.rest)))→C8 Eq (upd H q.id none) L H'→k (.tup []) H')→run E T n cf c ⟨CN (A q) 0,[]⟩ H (Qe E T rs k)):Ad8 P f A sz (lst fe l) (lst fe r):=by
 intro H q hq hk;refine M8.le (X8 (K:=fun v H'=>∃y H2,DF v y∧HU H2 H'∧y= .tup []∧Cd q ((lst fe r).length:Nat)∧H2=upd H q.id (some (.arr sz (q.pre++lst fe r++q.rest)))) cf hP.1 hP.2 hf hb hd hcall hnt hrs (by rw[hm];exact hn) fun E hE=>?_);refine h E H q _ hE (Ap7 hq) (C8.startO hk) fun L i H' hr hi hO=>?_;obtain⟨h1,h2⟩:=(hO.only i hi).last
 rw[BP]at h2
 exact⟨_,_,.refl _,h2,rfl,by rw[N3,←len_eq];exact hr,rfl⟩
end Go.Ab
namespace Go.Ab
open Go.RowKit
variable [O6]
def M8.thawG {P:Program} {f:FuncId} {args:List V} {H:A5} {K K':V→A5→Prop} (h:M8 P f args H K)
 (hk:∀x H',K x H'→K' x H'∨∃(mk:V→V) (id sz:Nat) (row:List V) (lo n:Int),EG mk∧x=mk (.own id lo n)∧H' id=some (.arr sz row)∧K' (mk (.sl (Q3 row lo n) .ro)) (upd H' id none)):M8 P f args H K':=
 fun g w vals hR hA=>(h g w vals hR hA).mono fun v w' ⟨g',x,H',s,hR',hv,hK⟩=>by
  rcases hk x H' hK with hK|⟨mk,id,sz,row,lo,n,hm,rfl,h1,h2⟩
  ·grind[N5]
  obtain⟨g2,s2,R2,hv2⟩:=hR'.freezeArr h1;obtain⟨v1,hv1,hb⟩:=hm g' w' v _ hv;exact⟨g2,_,_,s.trans s2,R2,hb _ _ _ s2 (hv2 _ _ _ (hv1.mono s2)),h2⟩
section
variable [Ar]{P:Program}{T:ID}
def UH {f:FuncId} {fn:Func} {c:Code} {n:Nat} {rs:List ResultVar} {args:List V} {r:V} (cf:Cf) (hP:Vm P T) (hf:P.funcs[f]? =some fn) (hb:fn.body=some c) (hd:M6 cf c=true)
 (hcall:∀vals w,(callFunc f vals).run P w= .ok (.enter f vals) w) (hnt:fn.ntmps=n) (hrs:fn.results.toList=rs) (hn:Nat.ble args.length n=true)
 (h:∀(E:FN) (H:A5) (K:V→A5→Prop),E=I0 P n none→(∀x L H',C8 Eq H L H'→DF x r→K x H')→
  (∀(mk:V→V) (_:EG mk) (q:OG) (sz:Nat) (xs:List V) (i:Nat) (L:List En) H',C8 Eq H L H'→L[i]? =some (.blk q.id (.arr sz (q.pre++xs++q.rest)))→Cd q (xs.length:Nat)→DF (mk (.sl xs .ro)) r→K (mk (.own q.id q.lo q.n)) H')→run E T n cf c ⟨CN args 0,[]⟩ H (Qe E T rs K)):C2 P f args r:=fun H=>by
 refine M8.le ?_
 refine(X8 (K:=fun x H'=>(∃y H2,DF x y∧HU H2 H'∧y=r∧H2=H)∨∃(mk:V→V) (q:OG) (sz:Nat) (xs:List V) (i:Nat) (L:List En),EG mk∧x=mk (.own q.id q.lo q.n)∧C8 Eq H L H'∧L[i]? =some (.blk q.id (.arr sz (q.pre++xs++q.rest)))∧Cd q (xs.length:Nat)∧DF (mk (.sl xs .ro)) r)
  cf hP.1 hP.2 hf hb hd hcall hnt hrs hn fun E hE=>?_).thawG ?_
 ·exact h E H _ hE (fun x L H' hO hx=>.inl ⟨r,H,hx,hO.ext,rfl,rfl⟩) fun mk hm q sz xs i L H' hO hi hq hr=>.inr ⟨mk,q,sz,xs,i,L,hm,rfl,hO,hi,hq,hr⟩
 rintro x H' (h|⟨mk,q,sz,xs,i,L,hm,rfl,hO,hi,hq,hr⟩)
 ·exact .inl h
 refine .inr ⟨mk,q.id,sz,_,q.lo,q.n,hm,rfl,hO.get i hi,r,H,?_,(hO.del i hi).ext,rfl,rfl⟩;rw[WM rfl hq.1 hq.2];exact hr
end
end Go.Ab
