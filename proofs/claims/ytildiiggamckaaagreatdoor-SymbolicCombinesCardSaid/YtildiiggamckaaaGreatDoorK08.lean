/- . -/
import Derived.Test.YtildiiggamckaaaGreatDoorK07
import Derived.Sort.Grow
import Derived.Shelf.Sort.Plain
import Derived.Shelf.Slices.In.SortNone
import Derived.Shelf.Slices.CompactI
import Derived.KernelRfl
set_option linter.all false
open Go.Ab.Ar (len_eq lst lst_eq)
namespace Go.Ab
open Go.RowKit
def Ap8 [L6][Ar]{pre xs rest row vs row1:List V}{lo n mm m:Int}(hr:row=pre++xs++rest)(e1:lo=(pre.length:Nat))(e2:n=(xs.length:Nat))(e3:mm=(vs.length:Nat))(q5:m=n+mm)(hr1:row1=Ax row (lo+n).toNat vs):
 row1=pre++(xs++vs)++rest.drop vs.length∧m=((xs++vs).length:Nat):=by
 grind[Um]
def Af6 {pre xs rest row vs row1:List V}{z:V}{j:Nat}{lo n mm m:Int}(hr:row=pre++xs++rest)(e1:lo=(pre.length:Nat))(e2:n=(xs.length:Nat))(e3:mm=(vs.length:Nat))(q5:m=n+mm)(hr1:row1=L9 row lo n++vs++List.replicate j z):
 row1=[]++(xs++vs)++List.replicate j z∧m=((xs++vs).length:Nat):=by
 simp_all[L9]
def Ap7 {pre xs rest row vs row2 row3 row4:List V} {z:V} {jz:Nat} {lo n i mm d m l1 n1 l2 n2 l3 n3:Int} (hr:row=pre++xs++rest) (e1:lo=(pre.length:Nat)) (e2:n=(xs.length:Nat)) (e3:mm=(vs.length:Nat)) (h0:0≤i) (h1:i≤(xs.length:Nat))
 (qd:d=n+mm-i) (qm:m=i+d) (hr2:row2=L9 row lo i++List.replicate d.toNat z++List.replicate jz z) (q1:l1=i) (q2:n1=m-i) (hr3:row3=Ax row2 l1.toNat (vs.take n1.toNat)) (q3:l2=i+mm) (q4:n2=m-(i+mm))
 (q5:l3=lo+i) (q6:n3=n-i) (hr4:row4=Ax row3 l2.toNat ((L9 row l3 n3).take n2.toNat)):
 row4=[]++(xs.take i.toNat++vs++xs.drop i.toNat)++List.replicate jz z∧m=((xs.take i.toNat++vs++xs.drop i.toNat).length:Nat):=by
 have s1:L9 row lo i=xs.take i.toNat:=Pf (A:=pre) (C:=xs.drop i.toNat++rest) (by rw[hr];grind[List.take_append_drop]) e1 (by simp;omega);have s2:L9 row l3 n3=xs.drop i.toNat:=Pf (A:=pre++xs.take i.toNat) (C:=rest) (by rw[hr];simp_all) (by simp;omega) (by simp;omega);have hvt:vs.take n1.toNat=vs:=P2 (by omega);have hxt:(xs.drop i.toNat).take n2.toNat=xs.drop i.toNat:=P2 (by simp;omega)
 rw[s1]at hr2
 rw[hvt]at hr3
 rw[s2,hxt]at hr4
 have hz:List.replicate d.toNat z=List.replicate vs.length z++List.replicate (xs.drop i.toNat).length z:=by
  rw[NU];grind
 rw[hz]at hr2
 have hr3':row3=xs.take i.toNat++vs++(List.replicate (xs.drop i.toNat).length z++List.replicate jz z):=by
  rw[hr3];exact IF (B:=List.replicate vs.length z) (by rw[hr2];grind) (by simp;omega) (by simp)
 refine⟨?_,by simp;omega⟩;rw[hr4,N1];rw[IF (A:=xs.take i.toNat++vs) (B:=List.replicate (xs.drop i.toNat).length z) (C:=List.replicate jz z) (by rw[hr3'];simp_all) (by simp;omega) (by simp)]
def Ax2 {pre xs rest row vs row1 row2:List V} {lo n i mm m l0 l1 n1 l2 n2 l3 n3:Int} (hr:row=pre++xs++rest) (e1:lo=(pre.length:Nat)) (e2:n=(xs.length:Nat)) (e3:mm=(vs.length:Nat)) (h0:0≤i) (h1:i≤(xs.length:Nat)) {RL:Int} (hRL:RL=(row.length:Nat)) (hfit:lo+n+mm≤RL)
 (qm:m=n+mm) (ql:l0=lo) (q1:l1=l0+(i+mm)) (q2:n1=m-(i+mm)) (q3:l2=l0+i) (q4:n2=m-i) (hr1:row1=Ax row l1.toNat ((L9 row l2 n2).take n1.toNat)) (q5:l3=l0+i) (q6:n3=m-i) (hr2:row2=Ax row1 l3.toNat (vs.take n3.toNat)):
 row2=pre++(xs.take i.toNat++vs++xs.drop i.toNat)++rest.drop vs.length∧m=((xs.take i.toNat++vs++xs.drop i.toNat).length:Nat):=by
 have hrl:vs.length≤rest.length:=by grind
 have hvt:vs.take n3.toNat=vs:=P2 (by omega)
 have s2:(L9 row l2 n2).take n1.toNat=xs.drop i.toNat:=by
  have:L9 row l2 n2=xs.drop i.toNat++rest.take vs.length:=Pf (A:=pre++xs.take i.toNat) (C:=rest.drop vs.length) (by
   rw[hr];grind[List.take_append_drop]) (by simp;omega) (by simp;omega)
  rw[this];rw[Iv (by simp;omega),P2 (by simp;omega)]
 rw[s2]at hr1
 rw[hvt]at hr2
 have hr1':row1=(pre++xs.take i.toNat++(xs.drop i.toNat++rest.take vs.length).take vs.length)++xs.drop i.toNat++rest.drop vs.length:=by
  rw[hr1];refine IF (B:=(xs.drop i.toNat++rest.take vs.length).drop vs.length) ?_ ?_ ?_
  ·rw[hr]
   grind[List.take_append_drop]
  ·simp;omega
  grind
 refine⟨?_,by simp;omega⟩;rw[hr2];rw[IF (A:=pre++xs.take i.toNat) (B:=(xs.drop i.toNat++rest.take vs.length).take vs.length) (C:=xs.drop i.toNat++rest.drop vs.length) (by rw[hr1'];simp_all) (by simp;omega) (by simp;omega)]
 simp_all
end Go.Ab
namespace Go.Ab
def Ay {K X:Type}[DecidableEq K](m:List (K×X))(k:K)(z:X):Option (X×Bool):=some (match m.find? (fun p=>decide (p.1=k))with|some p=>(p.2,true)|none=>(z,false))
def BC {K X:Type}[DecidableEq K](m:List (K×X))(k:K)(v:X):Option (List (K×X)):=some (if m.any (fun p=>decide (p.1=k))=true then m.map (fun p=>if p.1=k then(k,v)else p)else m++[(k,v)])
def Vd {α:Type}(l:List α)(a:Int)(m:List α):Option (List α×Int):=
 if 0≤a∧a≤(l.length:Nat)then some (l.take a.toNat++m.take (l.length-a.toNat)++l.drop (a.toNat+m.length),if(l.length:Int)-a<(m.length:Nat)then(l.length:Int)-a else(m.length:Nat))else none
def Nm {α:Type}(x:α):List α→List (List α)
 |[]=>[[x]]
 |y::l=>(x::y::l)::(Nm x l).map (y:: ·)
def PE {α:Type}:List α→List (List α)
 |[]=>[[]]
 |x::l=>(PE l).flatMap (Nm x)
def PY {α:Type} (x:α):∀(a b:List α),a++x::b∈Nm x (a++b)
 |[],[]=>by simp[Nm]
 |[],y::b=>by simp[Nm]
 |y::a,b=>by
  simp only[DT,Nm,FC,FA];exact .inr ⟨_,PY x a b,rfl⟩
def PD {α:Type}:∀{l m:List α},m.Perm l→m∈PE l
 |[],m,h=>by simp[PE,h.eq_nil]
 |x::l,m,h=>by
  have hx:x∈m:=h.mem_iff.2 (by simp);obtain⟨a,b,rfl⟩:=JE hx;have h2:(a++b).Perm l:=(List.perm_cons x).1 (List.perm_middle.symm.trans h);simp only[PE,DQ];exact⟨a++b,PD h2,PY x a b⟩
def Aq2 {σ R:Type}(fin:σ→R):σ⊕R→R
 | .inl s=>fin s
 | .inr y=>y
def LI {α σ R ρ:Type}[DecidableEq ρ](step:σ→α→Option (σ⊕R))(fin:σ→R)(nrm:R→ρ)(l:List α)(s:σ):Option ρ:=
 match(J2 step l s).map fun q=>nrm (Aq2 fin q)with
 |none=>none
 |some r=>if(PE l).all (fun m=>decide ((J2 step m s).map (fun q=>nrm (Aq2 fin q))=some r))=true then some r else none
def Uh {α σ R ρ:Type} [DecidableEq ρ] {step:σ→α→Option (σ⊕R)} {fin:σ→R} {nrm:R→ρ} {l:List α} {s:σ} {r:ρ} (h:LI step fin nrm l s=some r) {m:List α} (hp:m.Perm l):
 ∃q,J2 step m s=some q∧nrm (Aq2 fin q)=r:=by
 unfold LI at h
 split at h
 ·cases h
 split at h
 ·rename_i r' _ hall;cases h;have:=List.all_eq_true.1 hall m (PD hp);have:=Dw this
  cases hq:J2 step m s with
  |none=>rw[hq]at this;cases this
  |some q=>rw[hq]at this;exact⟨q,rfl,by simpa using this⟩
 cases h
def Ap9 {X:Type}(p:Int×X):List (Int×X)→List (Int×X)
 |[]=>[p]
 |q::l=>if p.1≤q.1 then p::q::l else q::Ap9 p l
def TE {X:Type}:List (Int×X)→List (Int×X)
 |[]=>[]
 |p::l=>Ap9 p (TE l)
def Rz {X:Type} (p:Int×X):∀l,(Ap9 p l).Perm (p::l)
 |[]=>.refl _
 |q::l=>by
  unfold Ap9
  split
  ·exact .refl _
  exact((Rz p l).cons q).trans (List.Perm.swap p q l)
def Pj {X:Type}:∀l:List (Int×X),(TE l).Perm l
 |[]=>.refl _
 |p::l=>(Rz p _).trans ((Pj l).cons p)
end Go.Ab
namespace Go.Ab
open Go.RowKit Go.Sort
variable [L6]
def Rl.more {g:Gh}{H:A4}{w w':World}(h:Rl g H w)(hb:Below g.base w w')(hs:∀b,b<w.heap.size→w'.heap[b]? =w.heap[b]?)(hd:w.drawn≤w'.drawn:=by first|exact Nat.le_refl _|exact Nat.le_succ _|exact Nat.le_add_right _ _):U3 g w g w'∧Rl g H w':=by
 have s:U3 g w g w':=⟨fun _ _ e=>e,fun _ _ e=>e,fun _ _ e=>e,rfl,fun b o hf=>by simp only[World.cell?,hs b (h.fz_lt hf)],hb,fun _ _ _=>rfl,hd⟩;exact⟨s,fun x k hx=>(h.blk x k hx).mono hx s fun y hy=>⟨hs y (h.lt hy),fun _ ho=>ho⟩,h.inj,fun b o hf=>by obtain⟨v,hv⟩:=h.frz b o hf;exact⟨v,(s.cell b o hf).trans hv⟩,h.nxt,V2 h.bnd hb.size,fun n=>(h.glb n).mono s⟩
def LF (q:OG)(zs:List Int):List V:=q.pre++zs.map (V.int .i64)++q.rest
def Ij (q:OG)(zs:List Int):(LF q zs).length=q.pre.length+zs.length+q.rest.length:=by grind[LF]
def TV {q:OG}{zs:List Int}{j:Nat}(hj:j<zs.length):(LF q zs).getD (q.pre.length+j) .bad= .int .i64 zs[j]:=by
 grind[LF]
def TU {q:OG}{zs ds:List Int}(hl:ds.length=zs.length){i:Nat}(hi:i<q.pre.length∨q.pre.length+ds.length≤i):(LF q ds).getD i .bad=(LF q zs).getD i .bad:=by
 grind[LF]
def An0 {off:Nat}{ds:List Int}{c:Array Value}{k:Nat}(hk:k<c.size):(putCells (Value.int .i64) off ds.toArray c).getD k undef=if off≤k∧k<off+ds.length then .int .i64 (ds.toArray[k-off]!)else c.getD k undef:=by
 unfold putCells
 simp_all
def Aj4 (P:Program)(f:FuncId)(zs ds:List Int)(r:OG→V):Prop:=
 ∀H (q:OG),Z0 q (zs.length:Nat)→H q.id=some (.arr 1 (LF q zs))→J1 P f [.own q.id q.lo q.n] H fun x H'=>x=r q∧H'=upd H q.id (some (.arr 1 (LF q ds)))
def Vj {P:Program} {f:FuncId} {zs ds:List Int} {r:OG→V} {m:Nat} (hl:ds.length=zs.length)
 (hrun:∀vals w,(callFunc f vals).run P w= .ok (.enter f vals) w)
 (h0:zs=[]→∀p cap w,Calls P f #[.slice p 0 cap] w fun e w'=>∃v,e= .returned v∧w'=w∧(v= .slice p 0 cap∧(∀q,Z0 q (zs.length:Nat)→r q= .own q.id q.lo q.n)∨v= .tuple #[]∧∀q,r q= .tup []))
 (h1:∀blk off cap w,0<zs.length→zs.length≤cap→Holds (Value.int .i64) w blk off zs.toArray→blk<w.heap.size→
  Calls P f #[.slice (some ⟨blk,off,none⟩) zs.length cap] w fun e w'=>∃v,e= .returned v∧(v= .slice (some ⟨blk,off,none⟩) m cap∧m≤zs.length∧(∀q,r q= .own q.id q.lo (m:Nat))∨v= .tuple #[]∧∀q,r q= .tup [])∧
   ∃n os,w'=grow (putRow (Value.int .i64) (Sort.ahead w n) blk off ds.toArray) os):Aj4 P f zs ds r:=by
 intro H q hq hk g w vals hR hA;obtain⟨hlen,hv⟩:=hA;obtain⟨vals⟩:=vals
 match vals,hlen with
 | [v],_=>
  have hv1:=hv 0 (by simp)
  simp at hv1
  rw[hrun]
  show CallsIn Fence.wide 0 P f #[v] w _
  rw[callsIn_wide];have hq0:=hq;obtain⟨hlo,hn⟩:=hq;obtain⟨b,p,e1,e2,e3,e4,e5,e6,e7,e8,e9,e10⟩:=Ex hR hk hv1
  rw[Ij]at e2 e5 e7 e8 e10
  subst e2
  have hnn:q.n.toNat=zs.length:=by omega
  by_cases hz:zs=[]
  ·subst hz;have hd:ds=[]:=List.length_eq_zero_iff.1 hl;subst hd;rw[hnn];refine(h0 rfl p _ w).mono ?_;rintro e w' ⟨v,rfl,rfl,hcase⟩;refine⟨v,rfl,g,r q,H,U3.refl _ _,hR,?_,rfl,?_⟩
   ·rcases hcase with⟨rfl,hr⟩|⟨rfl,hr⟩
    ·rw[hr q hq0];rw[hnn]at hv1;exact hv1
    rw[hr];exact VR.und g w'
   grind[upd]
  have hzl:0<zs.length:=List.length_pos_iff.2 hz
  rcases e10 with e10|⟨c,T,k1,k2,k3,k4,k5,k6⟩
  ·omega
  have hp:=e8 (by omega);subst hp
  have hoff:(g.ow q.id).o+q.lo.toNat*1=(g.ow q.id).o+q.pre.length:=by rw[hlo];simp
  rw[hnn,hoff]
  have hblt:b<w.heap.size:=by
   grind
  have hcell:∀o,w.cell? ⟨b,o,none⟩=c[o]? :=fun o=>by simp[World.cell?,k2]
  have hH:Holds (Value.int .i64) w b ((g.ow q.id).o+q.pre.length) zs.toArray:=fun j hj=>by
   have hj':j<zs.length:=by omega
   refine⟨?_,by simp[World.frozen?,k2]⟩;have h:=(k4 (q.pre.length+j) 0 (by omega) (by omega)).2
   rw[TV hj']at h
   have h:=VR.int_inv h;rw[hcell]
   have hlt:(g.ow q.id).o+q.pre.length+j<c.size:=by omega
   rw[show(g.ow q.id).o+(q.pre.length+j)*1+0=(g.ow q.id).o+q.pre.length+j by omega]at h
   simp_all
  refine(h1 b _ _ w hzl (by omega) hH hblt).mono ?_;rintro e w' ⟨v,rfl,hcase,n,os,rfl⟩
  have hs:=Rl.setArr hR (ys:=LF q ds) (c':=putCells (Value.int .i64) ((g.ow q.id).o+q.pre.length) ds.toArray c) hk e1 (by rw[Ij];omega) k2 (by simp[putCells])
   (fun o ho=>by
    simp only[putCells,Array.getElem?_mapIdx]
    grind)
   (by rw[Ij,Ij,hl])
   (fun i hi=>by
    rw[Ij]at hi
    by_cases hm:i<q.pre.length∨q.pre.length+ds.length≤i
    ·rw[TU hl hm];grind[LF]
    grind[V.cells,LF])
   (fun i j hi hj=>by
    rw[Ij]at hi
    have hj0:j=0:=by omega
    subst hj0;rw[An0 (by omega)]
    by_cases hm:i<q.pre.length∨q.pre.length+ds.length≤i
    ·rw[A3 (by omega),TU hl hm]
     simp_all
    obtain⟨j,rfl⟩:∃j,i=q.pre.length+j:=⟨i-q.pre.length,by omega⟩
    have hj:j<ds.length:=by omega
    rw[A1 (by omega),TV hj,show(g.ow q.id).o+(q.pre.length+j)*1+0-((g.ow q.id).o+q.pre.length)=j by omega]
    have:ds.toArray[j]! =ds[j]:=by simp[hj]
    rw[this]
    exact⟨rfl,VR.int _ _⟩)
  obtain⟨s1,R1⟩:=hs
  generalize hw1:w.setRow b (putCells (Value.int .i64) ((g.ow q.id).o+q.pre.length) ds.toArray c)=w1 at s1 R1
  have hsz1:w1.heap.size=w.heap.size:=by rw[←hw1];simp[World.setRow]
  have hheap:∀x,x<w1.heap.size→(grow (putRow (Value.int .i64) (Sort.ahead w n) b ((g.ow q.id).o+q.pre.length) ds.toArray) os).heap[x]? =w1.heap[x]? :=fun x hx=>by
   have hx':x<w.heap.size:=by omega
   simp only[grow,putRow,mapBlock,Sort.ahead];rw[Array.getElem?_append_left (by grind),Hz]
   by_cases hxb:b=x
   ·subst hxb;rw[A1 rfl,k2,←hw1,setRow_heap w b c _ T (0,0) k2];rfl
   rw[A3 hxb,←hw1,P1 w b _ x (fun e=>hxb e.symm)]
  have hbel:Below g.base w1 (grow (putRow (Value.int .i64) (Sort.ahead w n) b ((g.ow q.id).o+q.pre.length) ds.toArray) os):=by
   refine⟨by rw[←hw1];rfl,by rw[←hw1];rfl,by rw[←hw1];rfl,?_,fun k hk'=>?_⟩
   ·rw[hsz1];simp_all
   grind
  obtain⟨s2,R2⟩:=R1.more hbel hheap (by rw[←hw1];exact Jz _ _);refine⟨v,rfl,g,r q,_,s1.trans s2,R2,?_,rfl,rfl⟩
  rcases hcase with⟨rfl,hm,hr⟩|⟨rfl,hr⟩
  ·rw[hr]
   have hcap:(g.ow q.id).cap=q.pre.length+zs.length+q.rest.length:=by rw[e7]
   have:=VR.own (g:=g) (w:=grow (putRow (Value.int .i64) (Sort.ahead w n) b ((g.ow q.id).o+q.pre.length) ds.toArray) os) (id:=q.id) (b:=b) (lo:=q.lo) (n:=(m:Nat)) (p:=some ⟨b,(g.ow q.id).o+q.pre.length,none⟩) e1 e3 (by omega) (by omega) (fun _=>by rw[e6,hoff])
   rw[hcap]at this
   simp_all
  rw[hr];exact VR.und _ _
end Go.Ab
namespace Go.Ab
def Af7 (x:Int):List Int→List Int
 |[]=>[x]
 |y::r=>if x≤y then x::y::r else y::Af7 x r
def PV:List Int→List Int
 |[]=>[]
 |x::r=>Af7 x (PV r)
theorem XA (a:Int):∀(l m:List Int),(∀b∈l,¬a≤b)→(∀b∈m,a≤b)→Af7 a (l++m)=l++a::m
 |[],[],_,_=>rfl
 |[],y::m,_,h=>by simp_all[Af7]
 |y::l,m,h,k=>by
  simp only[DT,Af7];rw[A3 (h y (by simp)),XA a l m (fun b hb=>h b (by simp[hb])) k]
theorem Rv:∀l:List Int,PV l=l.mergeSort fun x y=>decide (x≤y)
 |[]=>by simp[PV]
 |a::l=>by
  have ht:∀x y z:Int,decide (x≤y)=true→decide (y≤z)=true→decide (x≤z)=true:=fun x y z h k=>by grind
  have hc:∀x y:Int,(decide (x≤y)||decide (y≤x))=true:=fun x y=>by simp;omega
  obtain⟨l1,l2,h1,h2,h3⟩:=List.mergeSort_cons ht hc a l;have hs:=NP ht hc (a::l)
  rw[h1]at hs
  rw[PV,Rv l,h1,h2]
  grind[XA,List.pairwise_cons]
def NZ (l:List Int):Option (List Int):=if l.length<4611686018427387904 then some (PV l)else none
def LB {l r:List Int}(h:NZ l=some r):l.length<4611686018427387904∧r=l.mergeSort fun x y=>decide (x≤y):=by
 grind[NZ,Rv]
end Go.Ab
namespace Go.Ab
open Go.RowKit
variable [L6]
def Aj3 (P:Program)(f:FuncId)(zs ds:List Int):Prop:=Aj4 P f zs ds (fun _=>.tup [])∧ds.length=zs.length
def TW [Ar](q:OG)(zs:List Int):q.pre++lst (V.int .i64) zs++q.rest=LF q zs:=by rw[lst_eq];rfl
section
variable [Ar]{P:Program}{nt:Nat}{rd:Option Nat}{E:Eg}(hE:E=H5 P nt rd)
include hE
theorem Ao4 {Φ:A4→A4→Prop}{H0 H:A4}{L:List En}{fid:FuncId}{q:OG}{k:V→A4→Prop}{R:Type}{m:Option (List Int)}{F:List Int→Option R}{r:R}
 {l:List Int} (hO:B6 Φ H0 L H) (hq:Z0 q (Ar.len l)) (i:Nat) (hi:L[i]? =some (.blk q.id (.arr 1 (q.pre++lst (V.int .i64) l++q.rest)))) (h:m.bind F=some r) (hc:∀x,m=some x→Aj3 P fid l x)
 (hk:∀x H',Z0 q (Ar.len x)→B6 Φ H0 (L.set i (.blk q.id (.arr 1 (q.pre++lst (V.int .i64) x++q.rest)))) H'→F x=some r→k (.tup []) H'):
 E.call (.func (.func fid) [] []) [.own q.id q.lo q.n] H k:=by
 subst hE;obtain⟨x,h1,h2⟩:=bind_some h;obtain⟨c1,c2⟩:=hc x h1;refine J1.value (F:=[]) (C:=[]) ?_;simp only[N1,G9]
 rw[TW]at hi
 refine(c1 H q (by rw[←len_eq];exact hq) (hO.get i hi)).mono fun v H' ⟨e1,e2⟩=>?_;subst e1;subst e2;refine hk x _ ?_ ?_ h2
 ·rw[len_eq]at hq ⊢;rw[c2];exact hq
 rw[TW];exact hO.set i hi
end
end Go.Ab
namespace Go.Ab
open Go.RowKit Go.Shelf Go.Sort
variable [L6]
def WF {P:Program}{ρ:Ren}(Ly:Go.Proofs.Lays.n189 P ρ)(hrun:∀vals w,(callFunc (ρ.f 189) vals).run P w= .ok (.enter (ρ.f 189) vals) w){zs r:List Int}(h:NZ zs=some r):Aj3 P (ρ.f 189) zs r:=by
 obtain⟨hlt,rfl⟩:=LB h;have hl:(zs.mergeSort fun x y=>decide (x≤y)).length=zs.length:=NI ..;refine⟨Vj (m:=0) hl hrun ?_ ?_,hl⟩
 ·intro _ p cap w;exact(Go.Proofs.Any.slices_Sort_int_none Ly p cap w).mono fun e w' ⟨a,b⟩=>⟨_,a,b,.inr ⟨rfl,fun _=>rfl⟩⟩
 intro blk off cap w _ _ hH hb;exact(Go.Proofs.Any.slices_Sort_int Ly blk off cap zs w hH hb hlt).mono fun e w' ⟨a,n,os,b⟩=>⟨_,a,.inr ⟨rfl,fun _=>rfl⟩,n,os,b⟩
def KH (l:List Int):Option (List Int):=if l.length≤9223372036854775807 then some (Lib.compact l)else none
def Ou (zs:List Int):(Lib.compact zs).length≤zs.length:=by
 unfold Lib.compact Lib.compactUpTo;rw[N2]
 grind
def Qt [Ar] {P:Program} {ρ:Ren} (Ly:Go.Proofs.Lays2.n20 P ρ) (hrun:∀vals w,(callFunc (ρ.f 20) vals).run P w= .ok (.enter (ρ.f 20) vals) w) {zs r:List Int} (h:KH zs=some r):
 NE P (ρ.f 20) [] 1 (lst (V.int .i64) zs) (lst (V.int .i64) r):=by
 unfold KH at h
 split at h
 case isFalse=>cases h
 rename_i hlt;cases h;have hle:(Lib.compact zs).length≤zs.length:=Ou zs
 have key:Aj4 P (ρ.f 20) zs (Lib.compact zs++List.replicate (zs.length-(Lib.compact zs).length) 0) (fun q=>.own q.id q.lo ((Lib.compact zs).length:Nat)):=by
  refine Vj (m:=(Lib.compact zs).length) (by simp;omega) hrun ?_ ?_
  ·rintro rfl p cap w;refine(Go.Proofs.Any.slices_Compact_int_empty Ly p cap w).mono fun e w' ⟨a,b⟩=>⟨_,a,b,.inl ⟨rfl,fun q hq=>?_⟩⟩;rw[hq.2]
   have:(Lib.compact ([]:List Int)).length=0:=by have:=Ou [];simp_all
   rw[this];rfl
  intro blk off cap w _ hc hH hb;refine(Go.Proofs.Any.slices_Compact_int Ly blk off cap zs w hH hlt hc).mono fun e w' ⟨a,n,b⟩=>⟨_,a,.inl ⟨rfl,hle,fun _=>rfl⟩,n, #[],by rw[b,grow_empty]⟩
 intro H q hq hk
 rw[lst_eq]at hk hq
 refine(key H q (by grind) (by simp_all[LF])).mono fun v H' ⟨e1,e2⟩=>?_;subst e1;subst e2;refine⟨⟨q.id,q.lo,((Lib.compact zs).length:Nat),q.pre,(List.replicate (zs.length-(Lib.compact zs).length) 0).map (V.int .i64)++q.rest⟩,rfl,⟨hq.1,by rw[lst_eq];simp⟩,by rw[D6],?_⟩
 funext x
 rw[lst_eq]
 grind[upd,LF]
end Go.Ab
namespace Go.Ab
open Go.RowKit
variable [L6][Ar]
def Ih {L:List En}{i j:Nat}{e' e:En}(hj:(L.set i e')[j]? =some e):(j=i∧e=e')∨(j≠i∧L[j]? =some e):=by
 rw[O0]at hj
 grind
def Ri {L:List En}{i j:Nat}{e':En}(h:j≠i):(L.set i e')[j]? =L[j]? :=by
 rw[O0,A3 (fun e=>h e.symm)]
def AU.setNone {H0 H:A4} {L:List En} (h:AU H0 L H) (i:Nat) {e e':En} (hi:L[i]? =some e) (he:e.id=none) (he':e'.id=none):AU H0 (L.set i e') H:=by
 refine⟨h.ext,fun j x id b hj hx=>?_,fun j k x x' id b b' hj hk hx hx'=>?_,fun x b hx=>?_⟩
 ·rcases Ih hj with⟨_,rfl⟩|⟨_,hj⟩
  ·rw[he']at hx;cases hx
  exact h.has j x id b hj hx
 ·rcases Ih hj with⟨_,rfl⟩|⟨_,hj⟩
  ·rw[he']at hx;cases hx
  rcases Ih hk with⟨_,rfl⟩|⟨_,hk⟩
  ·rw[he']at hx';cases hx'
  exact h.inj j k x x' id b b' hj hk hx hx'
 refine(h.only x b hx).imp (fun h=>h) fun⟨j,y,h1,h2⟩=>⟨j,y,?_,h2⟩;rw[Ri fun e=>by simp_all];exact h1
def AU.drop {H0 H:A4} {L:List En} (h:AU H0 L H) (i:Nat) {e e':En} {id:Nat} {b0:Dh} (hi:L[i]? =some e) (he:e.id=some (id,b0)) (he':e'.id=none):AU H0 (L.set i e') (upd H id none):=by
 have hid:=h.has i e id b0 hi he;refine⟨fun x b hx=>?_,fun j x y b hj hx=>?_,fun j k x x' y b b' hj hk hx hx'=>?_,fun x b hx=>?_⟩
 ·rw[C3 _ _ (Ap hid.1 hx)];exact h.ext x b hx
 ·rcases Ih hj with⟨_,rfl⟩|⟨hne,hj⟩
  ·rw[he']at hx;cases hx
  have:=h.has j x y b hj hx;refine⟨this.1,?_⟩;rw[C3 _ _ (fun eq=>by subst eq;exact hne (h.inj j i x e y b b0 hj hi hx he))];exact this.2
 ·rcases Ih hj with⟨_,rfl⟩|⟨_,hj⟩
  ·rw[he']at hx;cases hx
  rcases Ih hk with⟨_,rfl⟩|⟨_,hk⟩
  ·rw[he']at hx';cases hx'
  exact h.inj j k x x' y b b' hj hk hx hx'
 by_cases hxi:x=id
 ·simp_all[upd]
 rw[C3 _ _ hxi]at hx
 refine(h.only x b hx).imp (fun h=>h) fun⟨j,y,h1,h2⟩=>⟨j,y,?_,h2⟩;rw[Ri fun ej=>by simp_all];exact h1
def B6.untok {Φ:A4→A4→Prop} {F H:A4} {L:List En} (h:B6 Φ F L H) (i:Nat) {tl tl':D2} (hi:L[i]? =some (.tl tl)) (ht:(En.tl tl').id=none):B6 Φ F (L.set i (.tl tl')) (G0 H tl):=by
 obtain⟨hs,F',H1,h0,h1,h2⟩:=h
 cases tl with
 |tok t=>
  have e:=(h0.has i _ t _ hi rfl).2;exact⟨hs,_,_,h0.drop i hi rfl ht,hs.chg t none h1 (by rw[e,hs.le h1 _ _ e]),h2.upd t none⟩
 |nil=>exact⟨hs,_,_,h0.setNone i hi rfl ht,h1,h2⟩
 |full=>exact⟨hs,_,_,h0.setNone i hi rfl ht,h1,h2⟩
 |ro=>exact⟨hs,_,_,h0.setNone i hi rfl ht,h1,h2⟩
def As1 (F:A4)(xs:List V)(v:V)(H':A4):Prop:=∃tl,v= .sl xs tl∧G3 tl∧(((En.tl tl).id=none∧H'=F)∨∃t,tl= .tok t∧F t=none∧H'=upd F t (some .spare))
def Au7 (P:Program)(f:FuncId)(args:List V)(xs:List V):Prop:=∀H,J1 P f args H (As1 H xs)
def B6.startT {H:A4} {tl:D2} (ha:EN H tl):B6 Eq (G0 H tl) [.tl tl] H:=by
 cases tl with
 |tok t=>
  refine⟨C5,_,_,(AU.start (upd H t none)).push (en:=.tl (.tok t)) (D6 _ _ _) rfl,rfl,fun x b hx=>?_⟩
  grind[EN,upd]
 |nil=>exact⟨C5,_,_,(AU.start H).tl0 rfl,rfl,Ei.refl _⟩
 |full=>exact⟨C5,_,_,(AU.start H).tl0 rfl,rfl,Ei.refl _⟩
 |ro=>exact ha.elim
def B6.outT {F H:A4} {L:List En} (h:B6 Eq F L H) (i:Nat) {tl:D2} (hi:L[i]? =some (.tl tl)) (ha:G3 tl) (xs:List V):∃H2,Ei H2 H∧As1 F xs (.sl xs tl) H2:=by
 obtain⟨hs,F',H1,h0,h1,h2⟩:=h;subst h1
 cases tl with
 |tok t=>
  have h3:=h0.has i _ t _ hi rfl;refine⟨upd F t (some .spare),fun x b hx=>?_,_,rfl,ha,.inr ⟨t,rfl,h3.1,rfl⟩⟩
  by_cases e:x=t
  ·grind[Ei,upd]
  rw[C3 _ _ e]at hx;exact h2 _ _ (h0.ext x b hx)
 |nil=>exact⟨F,h0.ext.trans h2,_,rfl,ha,.inl ⟨rfl,rfl⟩⟩
 |full=>exact⟨F,h0.ext.trans h2,_,rfl,ha,.inl ⟨rfl,rfl⟩⟩
 |ro=>exact ha.elim
section
variable {P:Program}{T:FY}{f:FuncId}{fn:Func}{c:Code}{n:Nat}{rs:List ResultVar}{args:List V}
def Zf {F H:A4}{xs:List V}(cf:Cf)(hP:OE P T)(hf:P.funcs[f]? =some fn)(hb:fn.body=some c)(hd:J5 cf c=true)
 (hcall:∀vals w,(callFunc f vals).run P w= .ok (.enter f vals) w) (hnt:fn.ntmps=n) (hrs:fn.results.toList=rs) (hn:Nat.ble args.length n=true)
 (h:∀(E:Eg) (K:V→A4→Prop),E=H5 P n none→(∀ys (tl:D2) L (i:Nat) H',L5 ys xs→L[i]? =some (.tl tl)→G3 tl→B6 Eq F L H'→K (.sl ys tl) H')→run E T n cf c ⟨BF args 0,[]⟩ H (LR E T rs K)):
 J1 P f args H (As1 F xs):=by
 refine J1.le (R4 (K:=fun x H'=>∃y H2,BV x y∧Ei H2 H'∧As1 F xs y H2) cf hP.1 hP.2 hf hb hd hcall hnt hrs hn fun E hE=>?_);refine h E _ hE fun ys tl L i H' hl hi ha hO=>?_;obtain⟨H2,h1,h2⟩:=hO.outT i hi ha xs;exact⟨_,H2,.slt _ hl,h1,h2⟩
end
section
variable {P:Program}{nt:Nat}{rd:Option Nat}{T:FY}{E:Eg}
variable (hE:E=H5 P nt rd)
include hE
variable {α R:Type}{f:α→V}{Φ:A4→A4→Prop}{H0 H:A4}{L:List En}{r:R}{m:Option (List α)}{F:List α→Option R}{fid:FuncId}{args args':List V}{k:V→A4→Prop}
theorem Xo (hO:B6 Φ H0 L H) (h:m.bind F=some r) (hc:∀x,m=some x→Au7 P fid args' (lst f x)) (hl:L5 args args')
 (hk:∀x tl' H',B6 Φ H0 (.tl tl'::L) H'→G3 tl'→F x=some r→k (.sl (lst f x) tl') H'):
 E.call (.func (.func fid) [] []) args H k:=by
 subst hE;obtain⟨x,h1,h2⟩:=bind_some h;refine J1.value (F:=[]) (C:=[]) ?_;have:=((hc x h1) H).args hl;simp only[N1,G9]
 exact this.mono fun v H' ⟨tl',e1,ha',e2⟩=>by
  subst e1
  rcases e2 with⟨e2,rfl⟩|⟨t,rfl,e2,rfl⟩
  ·exact hk x tl' _ (hO.tl0 e2) ha' h2
  exact hk x _ _ (hO.push e2 rfl) trivial h2
end
def Gh.lend (g:Gh)(w:World):Gh:={g with fz:=fun b o=>∃v,w.cell? ⟨b,o,none⟩=some v,base:=w.heap.size}
def VR.lend {g:Gh}{w:World}{B:Nat}{F:Nat→Nat→Prop}(hB:g.base≤B)(hF:∀b o,g.fz b o→F b o){v:Value}{x:V}(h:VR g w v x):VR {g with fz:=F,base:=B} w v x:=by
 induction h with
 |bad v=>exact .bad v
 |bool b=>exact .bool b
 |int k n=>exact .int k n
 |str s=>exact .str s
 |nilp=>exact .nilp
 |nilf=>exact .nilf
 |nili=>exact .nili
 |nilmap=>exact .nilmap
 |map h=>exact .map h
 |fmap hb hw hk hn hl hv ih=>exact VR.fmap (g:={g with fz:=F,base:=B}) (Nat.lt_of_lt_of_le hb hB) hw hk hn hl ih
 |ref h=>exact .ref h
 |own h h0 h1 h2 hp=>exact VR.own (g:={g with fz:=F,base:=B}) h h0 h1 h2 hp
 |elem h hs=>exact VR.elem (g:={g with fz:=F,base:=B}) h hs
 |eref vs hf hw h1 hv ih=>exact .eref vs (fun j hj=>hF _ _ (hf j hj)) hw h1 ih
 |sl0 ht=>exact .sl0 ht
 |sle ht=>exact .sle ht
 |sl vs hn hc hz hf hw h1 hv ht ih=>exact .sl vs hn hc hz (fun i j hi hj=>hF _ _ (hf i j hi hj)) hw h1 ih (ht.mono fun _ _ e=>e)
 |func hl hv hl' hv' ih ih'=>exact .func hl ih hl' ih'
 |yield h=>exact .yield h
 |iface h ih=>exact .iface ih
 |agg hl h1 hv ih=>exact .agg hl h1 ih
 |tup hl hv ih=>exact .tup hl ih
def Rl.lend {g:Gh}{H:A4}{w:World}(h:Rl g H w):Rl (g.lend w) (fun _=>none) w:=by
 refine⟨fun id b hb=>(by cases hb),fun id id' b h1 _=>(by simp[Gh.at]at h1),fun b o hf=>hf,fun id hi=>⟨(h.nxt id hi).1,(h.nxt id hi).2.1,rfl⟩,D3 _,fun n=>(h.glb n).lend h.bnd fun b o hf=>h.frz b o hf⟩
def Rl.lendOwn {g:Gh} {H:A4} {w:World} (h:Rl g H w) {id sz:Nat} {xs:List V} (hk:H id=some (.arr sz xs)) {v:Value} {lo n:Int} (hv:VR g w v (.own id lo n)):VR (g.lend w) w v (.sl (L9 xs lo n) .ro):=by
 obtain⟨g',⟨e1,e2,e3⟩,s,hR,hw⟩:=h.freezeArr' hk;have:=(hw v lo n (hv.mono s)).lend (F:=fun b o=>∃v,w.cell? ⟨b,o,none⟩=some v) (B:=w.heap.size) hR.bnd fun b o hf=>hR.frz b o hf
 have e:({g' with fz:=fun b o=>∃v,w.cell? ⟨b,o,none⟩=some v,base:=w.heap.size}:Gh)={(g.lend w)with nx:=g'.nx}:=by
  simp_all[Gh.lend]
 rw[e]at this
 exact VR.nxt this
where
 VR.nxt {g:Gh} {w:World} {n:Nat} {v:Value} {x:V} (h:VR {g with nx:=n} w v x):VR g w v x:=by
  generalize hg:({g with nx:=n}:Gh)=g1 at h
  have hmu:g1.mu=g.mu:=by rw[←hg]
  have htk:g1.tk=g.tk:=by rw[←hg]
  have hfz:g1.fz=g.fz:=by rw[←hg]
  have how:g1.ow=g.ow:=by rw[←hg]
  have hba:g1.base=g.base:=by rw[←hg]
  clear hg
  induction h with
  |bad v=>exact .bad v
  |bool b=>exact .bool b
  |int k n=>exact .int k n
  |str s=>exact .str s
  |nilp=>exact .nilp
  |nilf=>exact .nilf
  |nili=>exact .nili
  |nilmap=>exact .nilmap
  |map h=>exact .map (hmu▸h)
  |fmap hb hw hk hn hl hv ih=>exact .fmap (hba▸hb) hw hk hn hl ih
  |ref h=>exact .ref (hmu▸h)
  |own h h0 h1 h2 hp=>rw[how]at h2 hp ⊢;exact VR.own (hmu▸h) h0 h1 h2 hp
  |elem h hs=>rw[how]at hs ⊢;exact VR.elem (hmu▸h) hs
  |eref vs hf hw h1 hv ih=>exact .eref vs (fun j hj=>hfz▸hf j hj) hw h1 ih
  |sl0 ht=>exact .sl0 ht
  |sle ht=>exact .sle ht
  |sl vs hn hc hz hf hw h1 hv ht ih=>exact .sl vs hn hc hz (fun i j hi hj=>hfz▸hf i j hi hj) hw h1 ih (ht.mono fun _ _ e=>htk▸e)
  |func hl hv hl' hv' ih ih'=>exact .func hl ih hl' ih'
  |yield h=>exact .yield (hmu▸h)
  |iface h ih=>exact .iface ih
  |agg hl h1 hv ih=>exact .agg hl h1 ih
  |tup hl hv ih=>exact .tup hl ih
def Ab7:V→Bool
 | .bool _=>true
 | .int _ _=>true
 | .str _=>true
 |_=>false
inductive Ma :V→Prop
 |bool (b:Bool):Ma (.bool b)
 |int (k:IntKind) (n:Int):Ma (.int k n)
 |str (s:ByteArray):Ma (.str s)
 |agg {cs:List V} (h:cs.all Ab7=true):Ma (.agg cs)
 |tup2 {x y:V} (h:Ma x) (k:Ma y):Ma (.tup [x,y])
 |tup3 {x y z:V} (h:Ma x) (k:Ma y) (m:Ma z):Ma (.tup [x,y,z])
def Ma.any {x:V} (h:Ma x):∀{g g':Gh} {w w':World} {v:Value},VR g w v x→VR g' w' v x:=by
 induction h with
 |bool b=>intro g g' w w' v h;cases h;exact .bool b
 |int k n=>intro g g' w w' v h;cases h;exact .int k n
 |str s=>intro g g' w w' v h;cases h;exact .str s
 | @agg cs hp=>
  intro g g' w w' v h
  cases h with
  |agg hl h1 hv=>
   refine .agg hl h1 fun i hi=>?_;have hvi:=hv i hi;have hm:=List.all_eq_true.1 hp _ (Bt hi)
   rw[show cs.getD i .bad=cs[i] by rw[GM,D5 hi];rfl]at hvi ⊢
   generalize cs[i]=c at hvi hm ⊢
   generalize Array.getD _ i undef=u at hvi ⊢
   cases c<;>simp only[Ab7,E2]at hm<;>cases hvi<;>constructor
 | tup2 _ _ ih1 ih2=>
  intro g g' w w' v h
  cases h with
  |tup hl hv=>
   refine .tup hl fun i hi=>?_
   match i with
   |0=>grind
   |1=>grind
   |i+2=>grind
 | tup3 _ _ _ ih1 ih2 ih3=>
  intro g g' w w' v h
  cases h with
  |tup hl hv=>
   refine .tup hl fun i hi=>?_
   match i with
   |0=>grind
   |1=>grind
   |2=>grind
   |i+3=>grind
inductive IV (H:A4):List V→List V→Prop
 |nil:IV H [] []
 |le {x y:V} {xs ys:List V} (h:BV x y) (k:IV H xs ys):IV H (x::xs) (y::ys)
 |fm {id:Nat} {ks:List Int} {zs xs ys:List V} (h:H id=some (.fm ks zs)) (k:IV H xs ys):IV H (.map id::xs) (.fmap ks zs::ys)
 |agg {us ws xs ys:List V} (h:IV H us ws) (k:IV H xs ys):IV H (.agg us::xs) (.agg ws::ys)
 |own {id sz:Nat} {zs:List V} {lo n:Int} {xs ys:List V} (h:H id=some (.arr sz zs)) (k:IV H xs ys):IV H (.own id lo n::xs) (.sl (L9 zs lo n) .ro::ys)
def IV.length {H:A4}{xs ys:List V}(h:IV H xs ys):xs.length=ys.length:=by
 induction h with
 |nil=>rfl
 |le _ _ ih=>simp[ih]
 |fm _ _ ih=>simp[ih]
 |agg _ _ _ ih=>simp[ih]
 |own _ _ ih=>simp[ih]
theorem IV.at {g:Gh} {H:A4} {w:World} (hR:Rl g H w) {xs ys:List V} (h:IV H xs ys):∀(vals:Nat→Value),(∀i,i<xs.length→VR g w (vals i) (xs.getD i .bad))→∀i,i<ys.length→VR (g.lend w) w (vals i) (ys.getD i .bad):=by
 induction h with
 |nil=>simp_all
 |le h k ih=>
  intro vals hv i hi
  cases i with
  |zero=>exact((hv 0 (by simp)).le h).lend hR.bnd fun b o hf=>hR.frz b o hf
  |succ i=>exact ih (fun i=>vals (i+1)) (fun i hi=>by grind) i (by grind)
 | fm h k ih=>
  intro vals hv i hi
  cases i with
  | zero=>
   have h0:=hv 0 (by simp)
   simp only[JG]at h0 ⊢
   generalize vals 0=u at h0
   cases h0 with
   |map hm=>
    obtain⟨b,es,clock,k1,k2,k3,k4,k5,k6,k7⟩:=hR.blk _ _ h
    rw[hm]at k1;cases k1
    exact VR.fmap (g:=Gh.lend _ _) (SL k3) k3 k4 k5 k6 fun i e hi=>(k7 i e hi).lend hR.bnd fun b o hf=>hR.frz b o hf
  |succ i=>exact ih (fun i=>vals (i+1)) (fun i hi=>by grind) i (by grind)
 | agg h k ih1 ih=>
  intro vals hv i hi
  cases i with
  | zero=>
   have h0:=hv 0 (by simp)
   simp only[JG]at h0 ⊢
   generalize vals 0=u at h0
   cases h0 with
   |agg hl h1 hv1=>
    have e:=h.length;exact .agg (hl.trans e) (fun i hi=>h1 i (by omega)) fun i hi=>ih1 (fun i=>Array.getD _ i undef) hv1 i hi
  |succ i=>exact ih (fun i=>vals (i+1)) (fun i hi=>by grind) i (by grind)
 |own h k ih=>
  intro vals hv i hi
  cases i with
  |zero=>exact hR.lendOwn h (hv 0 (by simp))
  |succ i=>exact ih (fun i=>vals (i+1)) (fun i hi=>by grind) i (by grind)
def C7.lent {P:Program}{f:FuncId}{ys:List V}{r:V}(c:C7 P f ys r)(hr:Ma r){H:A4}{xs:List V}(hl:IV H xs ys):J1 P f xs H fun x H'=>x=r∧H'=H:=by
 intro g w vals hR hA;have hA2:Args (g.lend w) w vals ys:=⟨hA.1.trans hl.length,hl.at hR (fun i=>vals.getD i undef) hA.2⟩;refine(c _ _ w vals hR.lend hA2).mono fun v w' ⟨g',x,H',s,hR',hv,e1,e2⟩=>?_;subst e1;have hb:Below w.heap.size w w':=s.low;have sg:U3 g w g w':=⟨fun _ _ e=>e,fun _ _ e=>e,fun _ _ e=>e,rfl,fun b o hf=>hb.cell (hR.fz_lt hf),hb.mono hR.bnd,fun _ _ _=>rfl,s.dr⟩;refine⟨g,x,H,sg,⟨fun id b hk=>(hR.blk id b hk).mono hk sg fun y hy=>⟨hb.block _ (hR.lt hy),fun _ ho=>ho⟩,hR.inj,fun b o hf=>?_,hR.nxt,V2 hR.bnd hb.size,fun n=>(hR.glb n).mono sg⟩,hr.any hv,rfl,rfl⟩;obtain⟨u,hu⟩:=hR.frz b o hf;exact⟨u,(hb.cell (hR.fz_lt hf)).trans hu⟩
section
variable {P:Program}{nt:Nat}{rd:Option Nat}{T:FY}{E:Eg}
variable (hE:E=H5 P nt rd)
include hE
theorem Ao5 {R S:Type}{m:Option S}{F:S→Option R}{r:R}{f:FuncId}{args args':List V}{g:S→V}{H:A4}{k:V→A4→Prop}(h:m.bind F=some r)(hc:∀x,m=some x→C7 P f args' (g x))(hs:∀x,Ma (g x))(hl:IV H args args')
 (hk:∀x,F x=some r→k (g x) H):E.call (.func (.func f) [] []) args H k:=by
 subst hE;obtain⟨x,h1,h2⟩:=bind_some h;refine J1.value (F:=[]) (C:=[]) ?_;simp only[N1,G9]
 exact((hc x h1).lent (hs x) hl).mono fun v H' ⟨e1,e2⟩=>by simp_all
theorem Ae8 {α:Type}{f:α→V}{Φ:A4→A4→Prop}{H0 H:A4}{L:List En}{sz:Nat}{q:OG}{l:List α}(hO:B6 Φ H0 L H)(hq:Z0 q (Ar.len l))(i:Nat)(hi:L[i]? =some (.blk q.id (.arr sz (q.pre++lst f l++q.rest)))){xs ys:List V}(k:IV H xs ys):
 IV H (.own q.id q.lo q.n::xs) (.sl (lst f l) .ro::ys):=by
 have:=IV.own (lo:=q.lo) (n:=q.n) (hO.get i hi) k
 rwa[KM hq.1 (by rw[hq.2,len_eq,M2])]at this
end
end Go.Ab
namespace Go.Ab
open Go.RowKit Go.MapKept
variable [L6][Ar]
def Da {K X:Type}(d:TypeDesc)(kf:K→V)(vf:X→V)(o:Obj)(m:List (K×X)):Prop:=∃m':List (K×X),Cg d o (m'.map fun p=>(kf p.1,vf p.2))∧m'.Perm m
def Da.perm {K X:Type}{d:TypeDesc}{kf:K→V}{vf:X→V}{o:Obj}{m l:List (K×X)}(h:Da d kf vf o m)(hp:m.Perm l):Da d kf vf o l:=
 let⟨m',h1,h2⟩:=h;⟨m',h1,h2.trans hp⟩
theorem Ap3 {K X:Type}{m:List (K×X)}(hn:(m.map (·.1)).Nodup){p q:K×X}(hp:p∈m)(hq:q∈m)(e:p.1=q.1):p=q:=by
 obtain⟨i,hi,rfl⟩:=AM hp;obtain⟨j,hj,rfl⟩:=AM hq;have:i=j:=KU hn (by grind) (by grind) (by grind)
 grind
def RD {K X:Type}[DecidableEq K]{m m':List (K×X)}(hp:m'.Perm m)(hn:(m'.map (·.1)).Nodup)(k:K)(z:X):Ay m' k z=Ay m k z:=by
 grind[Ay,Ap3]
def Yo {K X:Type} [DecidableEq K] {m m' r:List (K×X)} (hp:m'.Perm m) {k:K} {v:X} (h:BC m k v=some r):∃r',BC m' k v=some r'∧r'.Perm r:=by
 unfold BC at h
 cases h;refine⟨_,rfl,?_⟩
 have e:m'.any (fun p=>decide (p.1=k))=m.any (fun p=>decide (p.1=k)):=by
  rw[Bs,DP,DP]
  grind
 rw[e]
 split
 ·grind
 exact hp.append_right _
def PT {K X:Type}{d:TypeDesc}{kf:K→V}{vf:X→V}{o:Obj}{m:List (K×X)}(h:Cg d o (m.map fun p=>(kf p.1,vf p.2))):(m.map (·.1)).Nodup:=by
 have:=h.nodup
 rw[Hj]at this
 have e:(m.map ((·.1)∘fun p=>(kf p.1,vf p.2)))=(m.map (·.1)).map kf:=by rw[Hj];rfl
 rw[e]at this
 grind
def Al2 (P:Program)(kt:TypeId)(d:TypeDesc):Bool:=match d with| .struct _=> !P.stoodInHeld kt|_=>true
structure Th {K:Type} (P:Program) (d:TypeDesc) (kf:K→V):Prop where
 raw:∀x,∃v,Bk (kf x)=some v∧Fk d v
 inj:∀x y,kf x=kf y→x=y
 kg:∀kt,P.underlying kt=some d→Al2 P kt d=true→KG P kt (Fk d)
def S4 {P:Program}(k:IntKind):Th P (.int k) (V.int k):=⟨fun _=>⟨_,rfl,rfl⟩,fun x y h=>by cases h;rfl,fun _ h _=>KG.scalar h⟩
def Mx {P:Program}:Th P .string V.str:=⟨fun _=>⟨_,rfl,trivial⟩,fun x y h=>by cases h;rfl,fun _ h _=>KG.scalar h⟩
theorem Ro:∀l:List Int,ID (l.map (V.int .i64))=some (l.map (Value.int .i64))
 |[]=>rfl
 |x::l=>by simp[ID,Kf,Ro l]
def Ae2 {K:Type} {P:Program} {n e:Nat} {g:K→List Int} {kf:K→V} (hk:∀x,kf x= .agg ((g x).map (V.int .i64))) (hn:∀x,(g x).length=n) (hg:∀x y,g x=g y→x=y)
 (he:P.underlying e=some (.int .i64)) (hc:P.cellsOf e=1):Th P (.array n e) kf where
 raw:=fun x=>⟨.agg ((g x).map (Value.int .i64)).toArray,by rw[hk];grind[Bk,Ro],g x,hn x,rfl⟩
 inj:=fun x y h=>hg x y (by
  rw[hk,hk]at h
  have h2:=V.agg.inj h
  grind[List.map_inj_right])
 kg:=fun kt h _=>KG.ints h he hc
def Ay7 {X:Type}(vf:X→V):Prop:=∀x,∃v,Bk (vf x)=some v
def GW (k:IntKind):Ay7 (V.int k):=fun _=>⟨_,rfl⟩
def Eb:Ay7 V.bool:=fun _=>⟨_,rfl⟩
abbrev OneV (v:V):Prop:=v.one=true∧v.cells=[v]
def B6.startO {H0:A4}{id:Nat}{b:Dh}(hk:H0 id=some b):B6 Eq (upd H0 id none) [.blk id b] H0:=by
 have h:B6 Eq (upd H0 id none) [.blk id b] (upd (upd H0 id none) id (some b)):=(B6.start C5 rfl).push (D6 _ _ _) rfl
 rwa[Z1,ZG H0 id (some b) hk]at h
def Ao2 {α:Type}{f:α→V}{q:OG}{l:List α}(h:Z0 q ((lst f l).length:Nat)):Z0 q (Ar.len l):=⟨h.1,by rw[h.2,len_eq,M2]⟩
section
variable {P:Program}{nt:Nat}{rd:Option Nat}{T:FY}{E:Eg}
variable (hE:E=H5 P nt rd)
include hE
variable {α R:Type}{f:α→V}{Φ:A4→A4→Prop}{H0 H:A4}{L:List En}{sz:Nat}{q:OG}{l:List α}{r:R}
theorem LL (hO:B6 Φ H0 L H){k:V→A4→Prop}(hk:∀(q:OG) H',Z0 q (Ar.len ([]:List α))→B6 Φ H0 (.blk q.id (.arr sz (q.pre++lst f []++q.rest))::L) H'→k (.own q.id q.lo q.n) H'):E.onil sz H k:=by
 subst hE;intro t ht
 have e:([]:List V)++lst f []++[]=[]:=by rw[←B4 (f:=f)];rfl
 refine hk ⟨t,0,0,[],[]⟩ _ ⟨rfl,by rw[len_eq];rfl⟩ ?_
 show B6 Φ H0 (.blk t (.arr sz (([]:List V)++lst f []++[]))::L) _
 rw[e];exact hO.push ht rfl
section
variable {K X:Type}{kf:K→V}{vf:X→V}{t kt et:Nat}{d:TypeDesc}{m:List (K×X)}{o:Obj}{id:Nat}
theorem Lo (d:TypeDesc)(kf:K→V)(vf:X→V)(hO:B6 Φ H0 L H){k:V→A4→Prop}(hk:∀id o H',Da d kf vf o []→B6 Φ H0 (.blk id (.obj o)::L) H'→k (.map id) H'):E.mmk H k:=by
 subst hE;exact .inl fun id hid=>hk id _ _ ⟨[],Cg.empty d,.refl _⟩ (hO.push hid rfl)
theorem Au3 [DecidableEq K] (hK:Th P d kf) {z:V} {z0:X} (hz:HA P et=some z) (hvz:z=vf z0) {key:K} {x:X×Bool} (hx:Ay m key z0=some x) (ok:Bool):
 Au8 P et (m.map fun p=>(kf p.1,vf p.2)) (kf key) ok (if ok=true then .tup [vf x.1,.bool x.2]else vf x.1):=by
 unfold Ay at hx
 cases hx
 cases hf:m.find? (fun p=>decide (p.1=key))with
 |none=>
  refine .inl ⟨fun p hp=>?_,z,hz,by grind⟩;obtain⟨q,hq,rfl⟩:=List.mem_map.1 hp;have:=List.find?_eq_none.1 hf q hq;exact fun e=>this (by simpa using hK.inj _ _ e)
 |some p=>
  have h1:=FF hf;have h2:=EU hf;refine .inr ⟨vf p.2,List.mem_map.2 ⟨p,h2,?_⟩,rfl⟩;rw[show p.1=key by grind]
theorem Kl [DecidableEq K](hm:P.underlying t=some (.map kt et))(hd:P.underlying kt=some d)(hK:Th P d kf){z:V}(z0:X)(hz:HA P et=some z)(hvz:z=vf z0)(hO:B6 Φ H0 L H)(hq:Da d kf vf o m)(i:Nat)(hi:L[i]? =some (.blk id (.obj o)))
 {key:K} {k:V→Prop} {F:X×Bool→Option R} (h:(Ay m key z0).bind F=some r) (hk:∀x,F x=some r→k (vf x.1)) (hst:Al2 P kt d=true:=by kernel_rfl):E.mget t H (.map id) (kf key) false k:=by
 obtain⟨x,h1,h2⟩:=bind_some h;obtain⟨m',hq,hp⟩:=hq
 rw[←RD hp (PT hq)]at h1
 have ha:=Au3 (P:=P) (vf:=vf) hE hK hz hvz h1 false;subst hE;obtain⟨v,hv1,hv2⟩:=hK.raw key;exact⟨_,.inl ⟨kt,et,d,v,id,o,_,hm,hK.kg _ hd hst,hv1,hv2,rfl,hO.get i hi,hq,ha⟩,hk x h2⟩
theorem KW [DecidableEq K](hm:P.underlying t=some (.map kt et))(hd:P.underlying kt=some d)(hK:Th P d kf){z:V}(z0:X)(hz:HA P et=some z)(hvz:z=vf z0)(hO:B6 Φ H0 L H)(hq:Da d kf vf o m)(i:Nat)(hi:L[i]? =some (.blk id (.obj o)))
 {key:K} {k:V→Prop} {F:X×Bool→Option R} (h:(Ay m key z0).bind F=some r) (hk:∀x,F x=some r→k (.tup [vf x.1,.bool x.2])) (hst:Al2 P kt d=true:=by kernel_rfl):E.mget t H (.map id) (kf key) true k:=by
 obtain⟨x,h1,h2⟩:=bind_some h;obtain⟨m',hq,hp⟩:=hq
 rw[←RD hp (PT hq)]at h1
 have ha:=Au3 (P:=P) (vf:=vf) hE hK hz hvz h1 true;subst hE;obtain⟨v,hv1,hv2⟩:=hK.raw key;exact⟨_,.inl ⟨kt,et,d,v,id,o,_,hm,hK.kg _ hd hst,hv1,hv2,rfl,hO.get i hi,hq,ha⟩,hk x h2⟩
theorem Al7 [DecidableEq K] (hK:Th P d kf) (hn:((m.map fun p=>(kf p.1,vf p.2)).map (·.1)).Nodup) {key:K} {v:X} {m':List (K×X)} (hx:BC m key v=some m'):Ay4 (m.map fun p=>(kf p.1,vf p.2)) (kf key) (vf v) (m'.map fun p=>(kf p.1,vf p.2)):=by
 unfold BC at hx
 cases hx
 split
 ·rename_i h;obtain⟨p,hp,he⟩:=List.any_eq_true.1 h
  have he:p.1=key:=by grind
  obtain⟨a,b,hab⟩:=JE hp;subst hab;refine .inr ⟨a.map fun p=>(kf p.1,vf p.2),vf p.2,b.map fun p=>(kf p.1,vf p.2),by simp[he],?_⟩
  have hna:∀l:List (K×X),(∀q∈l,q.1≠key)→(l.map (fun p=>if p.1=key then(key,v)else p))=l:=fun l hl=>by
   induction l with
   |nil=>rfl
   |cons y l ih=>rw[G2,A3 (hl y (by simp)),ih fun q hq=>hl q (by simp[hq])]
  rw[Hj,AL,G2,DU]at hn
  obtain⟨_,n2,n3⟩:=hn
  rw[Ho]at n2
  have ha:∀q∈a,q.1≠key:=fun q hq e=>n3 (kf q.1) (List.mem_map.2 ⟨q,hq,rfl⟩) (kf p.1) (by simp) (by rw[e,he]);have hb:∀q∈b,q.1≠key:=fun q hq e=>n2.1 (List.mem_map.2 ⟨q,hq,by simp[e,he]⟩);rw[AL,G2,hna a ha,hna b hb,A1 he];simp
 rename_i h;refine .inl ⟨fun p hp=>?_,by simp⟩;obtain⟨q,hq,rfl⟩:=List.mem_map.1 hp;exact fun e=>h (List.any_eq_true.2 ⟨q,hq,by simpa using hK.inj _ _ e⟩)
theorem DF [DecidableEq K](hm:P.underlying t=some (.map kt et))(hd:P.underlying kt=some d)(hK:Th P d kf)(hV:Ay7 vf)(hO:B6 Φ H0 L H)(hq:Da d kf vf o m)(i:Nat)(hi:L[i]? =some (.blk id (.obj o)))
 {key:K} {v:X} {k:A4→Prop} {F:List (K×X)→Option R} (h:(BC m key v).bind F=some r) (hk:∀m' o' H',Da d kf vf o' m'→F m'=some r→B6 Φ H0 (L.set i (.blk id (.obj o'))) H'→k H') (hst:Al2 P kt d=true:=by kernel_rfl):E.mset t H (.map id) (kf key) (vf v) k:=by
 obtain⟨m',h1,h2⟩:=bind_some h;obtain⟨m0,hq,hp⟩:=hq;obtain⟨r',h3,hp'⟩:=Yo hp h1;have hs:=Al7 (d:=d) hE hK hq.nodup h3;subst hE;obtain⟨kv,hv1,hv2⟩:=hK.raw key;obtain⟨vv,hv3⟩:=hV v;exact .inl ⟨kt,et,d,kv,vv,id,o,_,_,hm,hK.kg _ hd hst,hv1,hv2,hv3,rfl,hO.get i hi,hq,hs,fun o' ho=>hk m' o' _ ⟨r',ho,hp'⟩ h2 (hO.set i hi)⟩
end
end
end Go.Ab
namespace Go.Ab
open Go.RowKit
variable [L6][Ar]
section
variable {P:Program}{nt:Nat}{rd:Option Nat}{T:FY}{E:Eg}
variable (hE:E=H5 P nt rd)
include hE
variable {Φ:A4→A4→Prop}{H0 H:A4}{L:List En}{t kt et id:Nat}{ks:List Int}{xs:List V}
end
def CP {α:Type}{m:Option α}{x:α}(h:m=some x):(m.bind fun y=>some y)=some x:=by rw[h];rfl
inductive WK {α β:Type} (R:α→β→Prop):List α→List β→Prop
 |nil:WK R [] []
 |cons {x:α} {y:β} {xs:List α} {ys:List β} (h:R x y) (k:WK R xs ys):WK R (x::xs) (y::ys)
def WK.get {α β:Type}{R:α→β→Prop}:∀{xs:List α} {ys:List β},WK R xs ys→∀{i:Nat} {y:β},ys[i]? =some y→∃x,xs[i]? =some x∧R x y
 |_,_,.nil,i,y,h=>by simp at h
 |_,_,.cons h k,0,y,e=>by simp at e;subst e;exact⟨_,rfl,h⟩
 |_,_,.cons h k,i+1,y,e=>by simp at e ⊢;exact k.get e
def WK.len {α β:Type}{R:α→β→Prop}:∀{xs:List α} {ys:List β},WK R xs ys→xs.length=ys.length
 |_,_,.nil=>rfl
 |_,_,.cons _ k=>by simp[k.len]
def Az4 (P:Program)(fv:V)(args:List V)(Q:V→Prop):Prop:=∀H,CR P fv args H fun x H'=>Q x∧H'=H
def EP.value {P:Program}{f:FuncId}{F C args:List V}{Q:V→Prop}(h:EP P f (F++args++C) Q):Az4 P (.func (.func f) F C) args Q:=fun H=>(h H).value
section
variable {P:Program}{nt:Nat}{rd:Option Nat}{E:Eg}(hE:E=H5 P nt rd)
include hE
end
end Go.Ab
namespace Go.Ab
open Go.RowKit
variable [L6]
def J1.thaw {P:Program} {f:FuncId} {args:List V} {H:A4} {K K':V→A4→Prop} (h:J1 P f args H K)
 (hk:∀x H',K x H'→K' x H'∨∃id sz row lo n,x= .own id lo n∧H' id=some (.arr sz row)∧K' (.sl (L9 row lo n) .ro) (upd H' id none)):J1 P f args H K':=
 fun g w vals hR hA=>(h g w vals hR hA).mono fun v w' ⟨g',x,H',s,hR',hv,hK⟩=>by
  rcases hk x H' hK with hK|⟨id,sz,row,lo,n,rfl,h1,h2⟩
  ·grind[L4]
  obtain⟨g2,s2,R2,hv2⟩:=hR'.freezeArr h1;exact⟨g2,_,_,s.trans s2,R2,hv2 _ _ _ (hv.mono s2),h2⟩
section
variable [Ar]{P:Program}{T:FY}
def Q9 {f:FuncId} {fn:Func} {c:Code} {n:Nat} {rs:List ResultVar} {args:List V} {r:V} (cf:Cf) (hP:OE P T) (hf:P.funcs[f]? =some fn) (hb:fn.body=some c) (hd:J5 cf c=true)
 (hcall:∀vals w,(callFunc f vals).run P w= .ok (.enter f vals) w) (hnt:fn.ntmps=n) (hrs:fn.results.toList=rs) (hn:Nat.ble args.length n=true)
 (h:∀(E:Eg) (H:A4) (K:V→A4→Prop),E=H5 P n none→(∀x L H',B6 Eq H L H'→BV x r→K x H')→
  (∀(q:OG) (sz:Nat) (xs:List V) (i:Nat) (L:List En) H',B6 Eq H L H'→L[i]? =some (.blk q.id (.arr sz (q.pre++xs++q.rest)))→Z0 q (xs.length:Nat)→BV (.sl xs .ro) r→K (.own q.id q.lo q.n) H')→run E T n cf c ⟨BF args 0,[]⟩ H (LR E T rs K)):C7 P f args r:=fun H=>by
 refine J1.le ?_
 refine(R4 (K:=fun x H'=>(∃y H2,BV x y∧Ei H2 H'∧y=r∧H2=H)∨∃(q:OG) (sz:Nat) (xs:List V) (i:Nat) (L:List En),x= .own q.id q.lo q.n∧B6 Eq H L H'∧L[i]? =some (.blk q.id (.arr sz (q.pre++xs++q.rest)))∧Z0 q (xs.length:Nat)∧BV (.sl xs .ro) r)
  cf hP.1 hP.2 hf hb hd hcall hnt hrs hn fun E hE=>?_).thaw ?_
 ·exact h E H _ hE (fun x L H' hO hx=>.inl ⟨r,H,hx,hO.ext,rfl,rfl⟩) fun q sz xs i L H' hO hi hq hr=>.inr ⟨q,sz,xs,i,L,rfl,hO,hi,hq,hr⟩
 rintro x H' (h|⟨q,sz,xs,i,L,rfl,hO,hi,hq,hr⟩)
 ·exact .inl h
 refine .inr ⟨q.id,sz,_,q.lo,q.n,rfl,hO.get i hi,r,H,?_,(hO.del i hi).ext,rfl,rfl⟩;rw[Pf rfl hq.1 hq.2];exact hr
end
end Go.Ab
namespace Go.Ab
open Go.RowKit
variable [L6][Ar]
section
variable {P:Program}{nt:Nat}{rd:Option Nat}{T:FY}{E:Eg}{I:List (List V)→A4→A4→Prop}{D:A4→A4→Prop}
def B6.hle {Φ:A4→A4→Prop}{F H H':A4}{L:List En}(h:B6 Φ F L H)(hl:Ei H H'):B6 Φ F L H':=by
 grind[B6,Ei]
def Ad2 (hE:E=H5 P nt rd) {α R:Type} {f:α→V} {sz:Nat} (hsz:∀x,(f x).cells.length=sz) {l:List α} {tl:D2} {lo:Option Int} {m:Int} {k:V→Prop} {F:List α→Option R} {r:R} (h:(S8 l lo (some m) (some m)).bind F=some r)
 (hk:∀x,F x=some r→k (.sl (lst f x) .full)):E.slice sz (lst f l) tl lo (some m) (some m) k:=by
 subst hE;obtain⟨x,h1,h2⟩:=bind_some h
 unfold S8 at h1
 split at h1
 ·rename_i hc;obtain⟨c1,c2,c3,c4,c5⟩:=hc;cases h1;refine⟨?_,?_⟩
  ·rw[M2]
   simp_all[II]
  have hm:m=(m.toNat:Int):=by grind
  have hc:Fy (lo.getD 0).toNat m.toNat l.length (some m) tl= .full:=A1 hm;rw[M2,lst_eq,←Jn,←Jm]
  grind[lst_eq]
 cases h1
variable {α β σ:Type}
end
end Go.Ab
namespace Go.Ab
open Go.RowKit Go.MapKept
variable [L6][Ar]
section
variable {K X:Type}
def Tl (P:Program)(f:FuncId)(args:List V)(d:TypeDesc)(kf:K→V)(vf:X→V)(m:List (K×X)):Prop:=
 ∀H,J1 P f args H fun v H'=>∃id o,H id=none∧Da d kf vf o m∧v= .map id∧H'=upd H id (some (.obj o))
end
section
variable {P:Program}{nt:Nat}{rd:Option Nat}{T:FY}{E:Eg}
variable (hE:E=H5 P nt rd)
include hE
variable {K X R S:Type}{kf:K→V}{vf:X→V}{d:TypeDesc}{Φ:A4→A4→Prop}{H0 H:A4}{L:List En}{r:R}{fid:FuncId}{args args':List V}{k:V→A4→Prop}
theorem PN {m:Option (List (K×X))}{F:List (K×X)→Option R}(h:m.bind F=some r)(hc:∀x,m=some x→Tl P fid args' d kf vf x)(hl:L5 args args')(hO:B6 Φ H0 L H)
 (hk:∀x id o H',Da d kf vf o x→B6 Φ H0 (.blk id (.obj o)::L) H'→F x=some r→k (.map id) H'):E.call (.func (.func fid) [] []) args H k:=by
 subst hE;obtain⟨x,h1,h2⟩:=bind_some h;refine J1.value (F:=[]) (C:=[]) ?_;simp only[N1,G9]
 exact((hc x h1 H).args hl).mono fun v H' ⟨id,o,e1,e2,e3,e4⟩=>by subst e3;subst e4;exact hk x id o _ e2 (hO.push e1 rfl) h2
end
def B6.ne {Φ:A4→A4→Prop}{F H:A4}{L:List En}{a b:Nat}{x y:Dh}(h:B6 Φ F L H)(i j:Nat)(hi:L[i]? =some (.blk a x))(hj:L[j]? =some (.blk b y))(hij:i≠j):a≠b:=fun e=>by
 obtain⟨hs,F',H1,h0,h1,h2⟩:=h;subst e;exact hij (h0.inj i j _ _ a x y hi hj rfl rfl)
section
variable {P:Program}{T:FY}{f:FuncId}{fn:Func}{c:Code}{n:Nat}{rs:List ResultVar}{args:List V}{K X:Type}{kf:K→V}{vf:X→V}{d:TypeDesc}
def Qu {m:List (K×X)}(cf:Cf)(hP:OE P T)(hf:P.funcs[f]? =some fn)(hb:fn.body=some c)(hd:J5 cf c=true)
 (hcall:∀vals w,(callFunc f vals).run P w= .ok (.enter f vals) w) (hnt:fn.ntmps=n) (hrs:fn.results.toList=rs) (hn:Nat.ble args.length n=true)
 (h:∀(E:Eg) (H:A4) (k:V→A4→Prop),E=H5 P n none→(∀id o (L:List En) (i:Nat) H',Da d kf vf o m→L[i]? =some (.blk id (.obj o))→B6 Eq H L H'→k (.map id) H')→run E T n cf c ⟨BF args 0,[]⟩ H (LR E T rs k)):Tl P f args d kf vf m:=fun H=>by
 refine J1.le (R4 (K:=fun x H'=>∃y H2,BV x y∧Ei H2 H'∧∃id o,H id=none∧Da d kf vf o m∧y= .map id∧H2=upd H id (some (.obj o))) cf hP.1 hP.2 hf hb hd hcall hnt hrs hn fun E hE=>?_);refine h E H _ hE fun id o L i H' hq hi hO=>?_;obtain⟨h1,h2⟩:=(hO.only i hi).last;exact⟨_,_,.refl _,h2,id,o,h1,hq,rfl,rfl⟩
end
section
variable {K X:Type}
def Vs (kf:K→V) (vf:X→V) (o:Obj) (mid:Nat) (b:Dh) (left:List (K×X)):Prop:=
 ∃(es:Array MapEntry) (clock:Nat) (seen:Array Nat) (zs:List (MapEntry×(K×X))),o= .map es clock∧b= .iter mid clock seen clock∧Je es clock∧zs.map (·.1)=(leftOf es seen).toList∧
  (∀z∈zs,Bk (kf z.2.1)=some z.1.key∧Bk (vf z.2.2)=some z.1.val)∧(zs.map (·.2)).Perm left
def ItAt (kf:K→V)(vf:X→V)(o:Obj)(mid:Nat)(b:Dh)(left:List (K×X))(p:K×X):Prop:=
 Vs kf vf o mid b left∧∃(es:Array MapEntry) (clock:Nat) (seen:Array Nat) (e:MapEntry),o= .map es clock∧b= .iter mid clock (seen.push e.born) clock∧e∈es.toList∧Bk (kf p.1)=some e.key∧Bk (vf p.2)=some e.val
def Rr {α:Type} (key:α→Nat):∀{l:List α} {x:α},(l.map key).Nodup→x∈l→l.Perm (x::l.filter fun y=> !(key y==key x))
 | a::l,x,hn,hx=>by
  rw[G2,Ho]at hn
  rcases List.mem_cons.1 hx with rfl|hx
  ·have:l.filter (fun y=> !(key y==key x))=l:=List.filter_eq_self.2 fun y hy=>by
    have:key y≠key x:=fun e=>hn.1 (List.mem_map.2 ⟨y,hy,e⟩);simp[this]
   rw[FG,A3 (by simp),this]
  have hne:key a≠key x:=fun e=>hn.1 (List.mem_map.2 ⟨x,hx,e.symm⟩);rw[FG,A1 (by simp[hne])];exact((Rr key hn.2 hx).cons a).trans (List.Perm.swap _ _ _)
def YO (es:Array MapEntry)(seen:Array Nat)(b:Nat):(leftOf es (seen.push b)).toList=(leftOf es seen).toList.filter fun y=> !(y.born==b):=by
 unfold leftOf;rw[Hx,Hx,List.filter_filter]
 grind
def Wl {d:TypeDesc} {kf:K→V} {vf:X→V} {es:Array MapEntry} {clock:Nat} {m:List (K×X)} (h:Da d kf vf (.map es clock) m) (mid:Nat):Vs kf vf (.map es clock) mid (.iter mid clock #[] clock) m:=by
 obtain⟨m',⟨⟨es',c',e1,e2⟩,hk,hn,hst⟩,hp⟩:=h;cases e1
 have hlen:es.toList.length=m'.length:=by have:=Q0 List.length e2;grind
 refine⟨es,clock, #[],es.toList.zip m',rfl,rfl,hst _ _ rfl,?_,fun z hz=>?_,?_⟩
 ·have:(leftOf es #[]).toList=es.toList:=by
   unfold leftOf;rw[Hx]
   simp_all
  rw[this,List.map_fst_zip (by omega)]
 ·obtain⟨i,hi,e⟩:=AM hz
  have hi':i<min es.toList.length m'.length:=by grind
  have h1:i<es.toList.length:=by omega
  have h2:i<m'.length:=by omega
  have:=Q0 (fun l=>l[i]?) e2
  grind
 grind[List.map_snd_zip]
end
section
variable {P:Program}{nt:Nat}{rd:Option Nat}{T:FY}{E:Eg}
variable (hE:E=H5 P nt rd)
include hE
variable {K X:Type}{kf:K→V}{vf:X→V}{d:TypeDesc}{Φ:A4→A4→Prop}{H0 H:A4}{L:List En}{k:V→A4→Prop}{m left:List (K×X)}{o:Obj}{mid it:Nat}{b:Dh}{p:K×X}
theorem Xl {t kt et:Nat}(hm:P.underlying t=some (.map kt et))(hO:B6 Φ H0 L H)(h1:H mid=some (.obj o))(hq:Da d kf vf o m)
 (hk:∀it b H',Vs kf vf o mid b m→B6 Φ H0 (.blk it b::L) H'→k (.ref it 0) H'):E.mrg t H (.map mid) k:=by
 subst hE
 obtain⟨es,clock,e⟩:∃es clock,o= .map es clock:=by obtain⟨_,⟨⟨es,c,e,_⟩,_⟩,_⟩:=hq;simp_all
 subst e;exact⟨kt,et,mid,es,clock,hm,rfl,h1,fun id hid=>hk id _ _ (Wl hq mid) (hO.push hid rfl)⟩
theorem Xm (hO:B6 Φ H0 L H) (hI:Vs kf vf o mid b left) (i:Nat) (hi:L[i]? =some (.blk it b)) (h1:H mid=some (.obj o)) (h0:left=[]→k (.tup [.bool false]) H)
 (hk:∀p left' b' H',left.Perm (p::left')→ItAt kf vf o mid b' left' p→B6 Φ H0 (L.set i (.blk it b')) H'→k (.tup [.bool true,.bad,.bad]) H'):E.mnx H (.ref it 0) k:=by
 subst hE;obtain⟨es,clock,seen,zs,rfl,rfl,hst,z1,z2,z3⟩:=hI
 have hlen:zs.length=(leftOf es seen).size:=by have:=Q0 List.length z1;grind
 refine⟨it,mid,clock,seen,clock,es,clock,rfl,hO.get i hi,h1,hst.1,D3 _,fun hs=>h0 ?_,fun e he=>?_⟩
 ·have:zs=[]:=Iu (by omega)
  simp_all
 have he':e∈zs.map (·.1):=by rw[z1];exact he
 obtain⟨z,hz,rfl⟩:=List.mem_map.1 he'
 have hnd:(zs.map fun z=>z.1.born).Nodup:=by
  have e0:(zs.map fun z=>z.1.born)=(leftOf es seen).toList.map (·.born):=by rw[←z1,Hj];rfl
  rw[e0]
  have hs:(leftOf es seen).toList.Sublist es.toList:=by unfold leftOf;rw[Hx];simp_all
  exact(hs.map _).nodup hst.2
 have hp:=Rr (fun z:MapEntry×(K×X)=>z.1.born) hnd hz;refine hk z.2 ((zs.filter fun y=> !(y.1.born==z.1.born)).map (·.2)) _ _ (z3.symm.trans (hp.map (·.2))) ⟨⟨es,clock,_,zs.filter fun y=> !(y.1.born==z.1.born),rfl,rfl,hst,?_,fun y hy=>z2 y (List.mem_filter.1 hy).1,.refl _⟩,es,clock,seen,z.1,rfl,rfl,?_,(z2 z hz).1,(z2 z hz).2⟩ (hO.set i hi)
 ·rw[YO,←z1,List.filter_map];rfl
 exact(mem_left he).1
theorem Xn (hO:B6 Φ H0 L H)(hI:ItAt kf vf o mid b left p)(i:Nat)(hi:L[i]? =some (.blk it b))(h1:H mid=some (.obj o))(hk:k (.tup [kf p.1,vf p.2]) H):E.men H (.ref it 0) k:=by
 subst hE;obtain⟨⟨es0,c0,_,_,e0,_,hst,_⟩,es,clock,seen,e,rfl,rfl,he,h3,h4⟩:=hI;cases e0;exact⟨it,mid,c0,seen,c0,es0,c0,e,_,_,rfl,hO.get i hi,rfl,h1,he,hst.2,h3,h4,hk⟩
end
end Go.Ab
namespace Go.Ab
variable [L6]
def Ad5 {E:Eg}{t:Nat}{H:A4}{m y y':V}{ok:Bool}{k:V→Prop}(hy:y'=y)(h:E.mget t H m y' ok k):E.mget t H m y ok k:=hy▸h
def SH {E:Eg}{t:Nat}{H:A4}{m y y' v:V}{k:A4→Prop}(hy:y'=y)(h:E.mset t H m y' v k):E.mset t H m y v k:=hy▸h
end Go.Ab
namespace Go.Ab
open Go.RowKit
variable [L6][Ar]
def Da.srt {X:Type}{d:TypeDesc}{kf:Int→V}{vf:X→V}{o:Obj}{m:List (Int×X)}(h:Da d kf vf o m):Da d kf vf o (TE m):=h.perm (Pj m).symm
section
variable {P:Program}{nt:Nat}{rd:Option Nat}{T:FY}{E:Eg}
def OO (cf:Cf) (hE:E=H5 P nt rd) (hP:OE P T) {K X σ γ R ρ:Type} [DecidableEq ρ] {kf:K→V} {vf:X→V} {o:Obj} {mid:Nat} {step:σ→K×X→Option (σ⊕R)} {fin:σ→R} {nrm:R→ρ} {c:Code} {st:St} {H:A4} {Kc:Exit→St→A4→Prop}
 (fm:σ→γ→Fl) (Inv:σ→γ→List Nat→Dh→A4→Prop) (Xr:ρ→Exit→Fl→List Nat→A4→Prop) (hd:J5 cf c=true)
 (round:∀s g ds left b H,Vs kf vf o mid b left→Inv s g ds b H→(∀p left',left.Perm (p::left')→∃o,step s p=some o)→run E T nt cf c ⟨fm s g,ds⟩ H fun e st' H'=>match e with
  | .normal=>∃p left' s' g' b' ds',left.Perm (p::left')∧step s p=some (.inl s')∧Gp st'.l (fm s' g')∧st'.df=ds'∧Vs kf vf o mid b' left'∧Inv s' g' ds' b' H'
  |e=>∃x l ds',(left=[]∧x=fin s∨∃p left',left.Perm (p::left')∧step s p=some (.inr x))∧Xr (nrm x) e l ds' H'∧Gp st'.l l∧st'.df=ds')
 {m:List (K×X)} {s0:σ} (g0:γ) {b0:Dh} {r:ρ} (h:LI step fin nrm m s0=some r) (hf:Gp st.l (fm s0 g0)) (hb:Vs kf vf o mid b0 m) (hI:Inv s0 g0 st.df b0 H) (after:∀e l ds H',Xr r e l ds H'→Kc e ⟨l,ds⟩ H'):E.sim (.loop c) st H Kc:=by
 subst hE
 refine T4.loopN (fun n fr' H'=>∃s g left b ds,left.length=n∧(∀m',m'.Perm left→∃q,J2 step m' s=some q∧nrm (Aq2 fin q)=r)∧Dn fr' ⟨fm s g,ds⟩∧Vs kf vf o mid b left∧Inv s g ds b H') m.length
  ⟨s0,g0,m,b0,st.df,rfl,fun m' hm=>Uh h hm,⟨fun t=>hf.wk t,rfl⟩,hb,hI⟩ fun n fr' H' ⟨s,g,left,b,ds,hn,hr,hle,hit,hi⟩=>?_
 have stp:∀p left',left.Perm (p::left')→∃o,step s p=some o:=fun p left' hp=>by
  obtain⟨q,h1,_⟩:=hr _ hp.symm
  simp only[J2]at h1
  cases ho:step s p with
  |none=>rw[ho]at h1;cases h1
  |some o=>exact⟨o,rfl⟩
 refine T4.frLe hle ((M0 hP.1 hP.2 c _ _ _ hd (round s g ds left b H' hit hi stp)).mono fun e fr2 H2 ⟨st',hle',hq⟩=>?_)
 cases e with
 | normal=>
  obtain⟨p,left',s',g',b',ds',h0,h1,h2,h3,h4,h5⟩:=hq;refine⟨left'.length,?_,s',g',left',b',ds',rfl,fun m' hm=>?_,⟨fun t=>(hle'.s t).trans (h2.wk t),hle'.df.trans h3⟩,h4,h5⟩
  ·have:=h0.length_eq
   simp only[N3]at this
   omega
  obtain⟨q,q1,q2⟩:=hr (p::m') ((hm.cons p).trans h0.symm)
  simp only[J2,h1]at q1
  exact⟨q,q1,q2⟩
 | _=>
  obtain⟨x,l,ds',h1,h4,h2,h3⟩:=hq;refine⟨⟨l,ds'⟩,⟨fun t=>(hle'.s t).trans (h2.wk t),hle'.df.trans h3⟩,after _ _ _ _ ?_⟩
  have:nrm x=r:=by
   rcases h1 with⟨e1,e2⟩|⟨p,left',hp,e2⟩
   ·subst e1;subst e2;obtain⟨q,q1,q2⟩:=hr [] (.refl _)
    simp only[J2,E8]at q1
    subst q1;exact q2
   obtain⟨q,q1,q2⟩:=hr _ hp.symm
   simp only[J2,e2,E8]at q1
   subst q1;exact q2
  rw[←this];exact h4
def Mv (cf:Cf) (hE:E=H5 P nt rd) (hP:OE P T) {σ γ R:Type} {step:σ→Option (σ⊕R)} {c:Code} {st:St} {H:A4} {K:Exit→St→A4→Prop} (fm:σ→γ→Fl) (Inv:σ→γ→List Nat→A4→Prop) (X:R→Exit→Fl→List Nat→A4→Prop) (hd:J5 cf c=true)
 (round:∀s g ds H o,Inv s g ds H→step s=some o→run E T nt cf c ⟨fm s g,ds⟩ H fun e st' H'=>match e with
  | .normal=>∃s' g' ds',o= .inl s'∧Gp st'.l (fm s' g')∧st'.df=ds'∧Inv s' g' ds' H'
  |e=>∃x l ds',o= .inr x∧X x e l ds' H'∧Gp st'.l l∧st'.df=ds')
 {N:Nat} {s0:σ} (g0:γ) {r:R} (h:loopN step N s0=some r) (hf:Gp st.l (fm s0 g0)) (hI:Inv s0 g0 st.df H) (after:∀e l ds H',X r e l ds H'→K e ⟨l,ds⟩ H'):E.sim (.loop c) st H K:=by
 subst hE;refine T4.loopN (fun n fr' H'=>∃s g ds,loopN step n s=some r∧Dn fr' ⟨fm s g,ds⟩∧Inv s g ds H') N ⟨s0,g0,st.df,h,⟨fun t=>hf.wk t,rfl⟩,hI⟩ fun n fr' H' ⟨s,g,ds,hs,hle,hi⟩=>?_
 cases n with
 |zero=>cases hs
 | succ n=>
  simp only[loopN]at hs
  cases ho:step s with
  |none=>rw[ho]at hs;cases hs
  | some o=>
   rw[ho]at hs
   refine T4.frLe hle ((M0 hP.1 hP.2 c _ _ _ hd (round s g ds H' o hi ho)).mono fun e fr2 H2 ⟨st',hle',hq⟩=>?_)
   cases e with
   |normal=>
    obtain⟨s',g',ds',h1,h2,h3,h4⟩:=hq;subst h1;exact⟨n,FH n,s',g',ds',hs,⟨fun t=>(hle'.s t).trans (h2.wk t),hle'.df.trans h3⟩,h4⟩
   |_=>
    obtain⟨x,l,ds',h1,h4,h2,h3⟩:=hq;subst h1;cases hs;exact⟨⟨l,ds'⟩,⟨fun t=>(hle'.s t).trans (h2.wk t),hle'.df.trans h3⟩,after _ _ _ _ h4⟩
end
def Hf (H:A4):List (Nat×Dh)→A4
 |[]=>H
 |p::r=>upd (Hf H r) p.1 none
def LY:List (Nat×Dh)→List En
 |[]=>[]
 |p::r=>.blk p.1 p.2::LY r
def apart:List Nat→Prop
 |[]=>True
 |a::l=>(∀b∈l,a≠b)∧apart l
def QD (a:Nat):apart [a]:=⟨fun _ h=>(nomatch h),trivial⟩
def QC {a:Nat}{l:List Nat}(h:∀b∈l,a≠b)(k:apart l):apart (a::l):=⟨h,k⟩
def ne0 {a:Nat}:∀b∈([]:List Nat),a≠b:=fun _ h=>(nomatch h)
def neC {a b:Nat}{l:List Nat}(h:a≠b)(k:∀c∈l,a≠c):∀c∈b::l,a≠c:=fun c hc=>by
 rcases List.mem_cons.1 hc with rfl|hc
 ·exact h
 exact k c hc
def at0 {H:A4}:∀p∈([]:List (Nat×Dh)),H p.1=some p.2:=fun _ h=>(nomatch h)
def atC {H:A4}{a:Nat}{b:Dh}{l:List (Nat×Dh)}(h:H a=some b)(k:∀p∈l,H p.1=some p.2):∀p∈(a,b)::l,H p.1=some p.2:=fun p hp=>by
 rcases List.mem_cons.1 hp with rfl|hp
 ·exact h
 exact k p hp
def Tj (P:Program)(f:FuncId)(args:List V)(bs:List (Nat×Dh))(x:V):Prop:=
 ∀H,apart (bs.map (·.1))→(∀p∈bs,H p.1=some p.2)→J1 P f args H fun v H'=>v=x∧H'=H
def Ox {H:A4}:∀{bs:List (Nat×Dh)} {p:Nat×Dh},p∈bs→Hf H bs p.1=none
 |q::bs,p,h=>by
  unfold Hf
  by_cases e:p.1=q.1
  ·rw[e,D6]
  rw[C3 _ _ e]
  rcases List.mem_cons.1 h with rfl|h
  ·exact absurd rfl e
  exact Ox h
def PF {F:A4}:∀{bs:List (Nat×Dh)},apart (bs.map (·.1))→(∀p∈bs,F p.1=none)→∃H,B6 Eq F (LY bs) H∧(∀p∈bs,H p.1=some p.2)∧∀x,(∀p∈bs,p.1≠x)→H x=F x
 |[],_,_=>⟨F,B6.start C5 rfl,fun _ h=>(nomatch h),fun _ _=>rfl⟩
 | p::bs,ha,hn=>by
  obtain⟨H,h1,h2,h3⟩:=PF (F:=F) (bs:=bs) ha.2 fun q hq=>hn q (Y5 _ hq)
  have hp:H p.1=none:=by
   rw[h3 p.1 fun q hq e=>ha.1 q.1 (List.mem_map.2 ⟨q,hq,rfl⟩) e.symm];exact hn p (by simp)
  refine⟨upd H p.1 (some p.2),h1.push hp rfl,fun q hq=>?_,fun x hx=>?_⟩
  ·rcases List.mem_cons.1 hq with rfl|hq
   ·exact D6 _ _ _
   rw[C3 _ _ fun e=>ha.1 q.1 (List.mem_map.2 ⟨q,hq,rfl⟩) e.symm];exact h2 q hq
  rw[C3 _ _ fun e=>hx p (by simp) e.symm];exact h3 x fun q hq=>hx q (Y5 _ hq)
def An3 {H:A4} {bs:List (Nat×Dh)} (ha:apart (bs.map (·.1))) (hH:∀p∈bs,H p.1=some p.2):B6 Eq (Hf H bs) (LY bs) H:=by
 obtain⟨H',h1,h2,h3⟩:=PF (F:=Hf H bs) ha fun p hp=>Ox hp
 have:H'=H:=by
  funext x
  by_cases hx:∃p∈bs,p.1=x
  ·obtain⟨p,hp,rfl⟩:=hx;rw[h2 p hp,hH p hp]
  have hx':∀p∈bs,p.1≠x:=fun p hp e=>hx ⟨p,hp,e⟩;rw[h3 x hx'];clear h1 h2 h3 ha hH hx
  induction bs with
  |nil=>rfl
  |cons q bs ih=>
   unfold Hf;rw[C3 _ _ fun e=>hx' q (by simp) e.symm];exact ih fun p hp=>hx' p (Y5 _ hp)
 rwa[this]at h1
def RT:∀{bs:List (Nat×Dh)} {p:Nat×Dh},p∈bs→∃i:Nat,(LY bs)[i]? =some (En.blk p.1 p.2)
 |q::bs,p,h=>by
  rcases List.mem_cons.1 h with rfl|h
  ·exact⟨0,rfl⟩
  obtain⟨i,hi⟩:=RT h;exact⟨i+1,by simpa[LY]using hi⟩
section
variable {P:Program}{T:FY}{f:FuncId}{fn:Func}{c:Code}{n:Nat}{rs:List ResultVar}{args:List V}
def Qq {bs:List (Nat×Dh)} {x:V} (cf:Cf) (hP:OE P T) (hf:P.funcs[f]? =some fn) (hb:fn.body=some c) (hd:J5 cf c=true)
 (hcall:∀vals w,(callFunc f vals).run P w= .ok (.enter f vals) w) (hnt:fn.ntmps=n) (hrs:fn.results.toList=rs) (hn:Nat.ble args.length n=true)
 (h:∀(E:Eg) (H:A4) (k:V→A4→Prop),E=H5 P n none→B6 Eq (Hf H bs) (LY bs) H→(∀v H',B6 Eq (Hf H bs) (LY bs) H'→BV v x→k v H')→run E T n cf c ⟨BF args 0,[]⟩ H (LR E T rs k)):Tj P f args bs x:=fun H ha hH=>by
 refine J1.le (R4 (K:=fun v H'=>∃y H2,BV v y∧Ei H2 H'∧y=x∧H2=H) cf hP.1 hP.2 hf hb hd hcall hnt hrs hn fun E hE=>?_);refine h E H _ hE (An3 ha hH) fun v H' hO hv=>⟨_,_,hv,?_,rfl,rfl⟩;intro y b hy
 by_cases hx:∃p∈bs,p.1=y
 ·obtain⟨p,hp,rfl⟩:=hx;obtain⟨i,hi⟩:=RT hp
  rw[hH p hp]at hy;cases hy
  exact hO.get i hi
 refine hO.ext _ _ ?_;rw[←hy];have hx':∀p∈bs,p.1≠y:=fun p hp e=>hx ⟨p,hp,e⟩;clear hy hO hH ha hx h
 induction bs with
 |nil=>rfl
 |cons q bs ih=>
  unfold Hf;rw[C3 _ _ fun e=>hx' q (by simp) e.symm];exact ih fun p hp=>hx' p (Y5 _ hp)
end
section
variable {P:Program}{nt:Nat}{rd:Option Nat}{T:FY}{E:Eg}
def Km (hE:E=H5 P nt rd){R α:Type}{fid:FuncId}{F0 C0 args args':List V}{bs:List (Nat×Dh)}{m:Option α}{g:α→V}{F:α→Option R}{r:R}{H:A4}{k:V→A4→Prop}(h:m.bind F=some r)(hc:∀x,m=some x→Tj P fid (F0++args'++C0) bs (g x))(hl:L5 (F0++args++C0) (F0++args'++C0))
 (ha:apart (bs.map (·.1))) (hH:∀p∈bs,H p.1=some p.2) (hk:∀x,F x=some r→k (g x) H):E.call (.func (.func fid) F0 C0) args H k:=by
 subst hE;obtain⟨x,h2,h3⟩:=bind_some h;refine J1.value (F:=F0) (C:=C0) ?_
 refine J1.mono (J1.args (hc x h2 H ha hH) hl) fun v H' ⟨e1,e2⟩=>by subst e1;subst e2;exact hk x h3
end
end Go.Ab
namespace Go.Ab
variable [L6][Ar]
section
variable {P:Program}{nt:Nat}{rd:Option Nat}{E:Eg}(hE:E=H5 P nt rd){Φ:A4→A4→Prop}{H0 H:A4}{L:List En}
include hE
theorem Xi (hO:B6 Φ H0 L H)(i:Nat){tl:D2}(hi:L[i]? =some (.tl tl))(ha:G3 tl){k:D2→A4→Prop}
 (hk:∀H',B6 Φ H0 (L.set i (.tl .nil)) H'→k tl H'):E.takeT H k:=by
 subst hE;exact⟨tl,hO.appOk i hi ha,hk _ (hO.untok i hi rfl)⟩
theorem Xk (hO:B6 Φ H0 L H)(i:Nat)(hi:L[i]? =some (.tl .nil)){k:D2→A4→Prop}
 (hk:∀tl H',B6 Φ H0 (L.set i (.tl tl)) H'→G3 tl→k tl H'):E.nameT H k:=by
 subst hE;refine⟨fun tl htl=>?_,fun t ht=>hk _ _ (hO.tok i hi ht) trivial⟩
 rcases htl with rfl|rfl
 ·exact hk _ _ (hO.untok i hi rfl) trivial
 exact hk _ _ (hO.untok i hi rfl) trivial
end
end Go.Ab
namespace Go.Ab
open Go.RowKit
variable [L6][Ar]
def As4 (e e':En):Prop:=∀id b b',e.id=some (id,b)→e'.id=some (id,b')→False
def AU.perm {H0 H:A4} {L L':List En} (h:AU H0 L H) (p:L.Perm L'):AU H0 L' H:=by
 have hp:L.Pairwise As4:=by
  rw[JL];intro i j hi hj hlt id b b' e1 e2;have:=h.inj i j _ _ id b b' (D5 hi) (D5 hj) e1 e2;omega
 have hp':L'.Pairwise As4:=(p.pairwise_iff (fun{x y} (h:As4 x y) id b b' e1 e2=>h id b' b e2 e1)).1 hp
 rw[JL]at hp'
 refine⟨h.ext,fun i e id b hi he=>?_,fun i j e e' id b b' hi hj he he'=>?_,fun x b hx=>(h.only x b hx).imp (fun h=>h) fun⟨i,e,h1,h2⟩=>?_⟩
 ·obtain⟨j,hj⟩:=L8 (p.mem_iff.2 (G1 hi));exact h.has j e id b hj he
 ·grind[As4]
 obtain⟨j,hj⟩:=L8 (p.mem_iff.1 (G1 h1))
 grind
def B6.perm {Φ:A4→A4→Prop}{F H:A4}{L L':List En}(h:B6 Φ F L H)(p:L.Perm L'):B6 Φ F L' H:=
 let⟨hs,F',H1,h0,h1,h2⟩:=h;⟨hs,F',H1,h0.perm p,h1,h2⟩
structure Rw (α:Type) where
 q:OG
 row:List (List α×D2)
variable {α:Type}(f:α→V)
def AC6 (c:List α×D2):V:=.sl (lst f c.1) c.2
def WV (w:Rw α):En:=.blk w.q.id (.arr 1 (w.q.pre++lst (AC6 f) w.row++w.q.rest))
def rwL (w:Rw α):List En:=WV f w::w.row.map fun c=>.tl c.2
def fo:List (Rw α)→List En
 |[]=>[]
 |w::F=>rwL f w++fo F
variable {f}
def Ag5:∀(F G:List (Rw α)),fo f (F++G)=fo f F++fo f G
 |[],_=>rfl
 |w::F,G=>by rw[DT,fo,fo,Ag5 F G,F6]
def UQ:∀{F:List (Rw α)} {c:Nat} {w:Rw α},F[c]? =some w→∃R,(fo f F).Perm (rwL f w++R)∧∀w',(fo f (F.set c w')).Perm (rwL f w'++R)
 |[],_,_,h=>by simp at h
 |v::F,0,w,h=>by
  simp at h;subst h
  exact⟨fo f F,.refl _,fun w'=>.refl _⟩
 | v::F,c+1,w,h=>by
  obtain⟨R,h1,h2⟩:=UQ (F:=F) (c:=c) (w:=w) (by grind)
  have key:∀(X Y:List En),X.Perm (Y++R)→(rwL f v++X).Perm (Y++(rwL f v++R)):=fun X Y hX=>
   (hX.append_left _).trans (by
    rw[←F6,←F6]
    exact List.perm_append_comm.append_right R)
  grind[fo]
def Rk:∀{row:List (List α×D2)} {i:Nat} {c:List α×D2},row[i]? =some c→∃R,(row.map fun c=>En.tl c.2).Perm (.tl c.2::R)∧∀c',((row.set i c').map fun c=>En.tl c.2).Perm (.tl c'.2::R)
 |[],_,_,h=>by simp at h
 |v::F,0,w,h=>by
  simp at h;subst h
  exact⟨F.map fun c=>.tl c.2,.refl _,fun w'=>.refl _⟩
 |v::F,i+1,w,h=>by
  obtain⟨R,h1,h2⟩:=Rk (row:=F) (i:=i) (c:=w) (by grind);exact⟨.tl v.2::R,(h1.cons _).trans (.swap ..),fun w'=>((h2 w').cons _).trans (.swap ..)⟩
def WC {F:List (Rw α)} {c i:Nat} {w:Rw α} {x:List α×D2} (hc:F[c]? =some w) (hi:w.row[i]? =some x):
 ∃R,(fo f F).Perm (.tl x.2::WV f w::R)∧∀x',(fo f (F.set c ⟨w.q,w.row.set i x'⟩)).Perm (.tl x'.2::WV f ⟨w.q,w.row.set i x'⟩::R):=by
 obtain⟨R,h1,h2⟩:=UQ (f:=f) hc;obtain⟨S,k1,k2⟩:=Rk hi
 have key:∀(b:En) (X:List En) (t:En),X.Perm (t::S)→(b::(X++R)).Perm (t::b::(S++R)):=fun b X t hX=>
  ((hX.append_right R).cons b).trans (.swap ..)
 exact⟨S++R,h1.trans (key _ _ _ k1),fun x'=>(h2 _).trans (key _ _ _ (k2 x'))⟩
def B6.cell {Φ:A4→A4→Prop} {H0 H:A4} {b:En} {L:List En} {F:List (Rw α)} {c i:Nat} {w:Rw α} {x:List α×D2} (hO:B6 Φ H0 (b::(fo f F++L)) H) (hc:F[c]? =some w) (hi:w.row[i]? =some x):
 ∃R,B6 Φ H0 (.tl x.2::WV f w::b::R) H∧∀x' H',B6 Φ H0 (.tl x'.2::WV f ⟨w.q,w.row.set i x'⟩::b::R) H'→B6 Φ H0 (b::(fo f (F.set c ⟨w.q,w.row.set i x'⟩)++L)) H':=by
 obtain⟨R,h1,h2⟩:=WC (f:=f) hc hi
 have key:∀(X:List En) (t r:En),X.Perm (t::r::R)→(b::(X++L)).Perm (t::r::b::(R++L)):=fun X t r h=>
  ((h.append_right L).cons b).trans ((List.Perm.swap t b _).trans ((List.Perm.swap r b _).cons t))
 exact⟨R++L,hO.perm (key _ _ _ h1),fun x' H' h=>h.perm (key _ _ _ (h2 x')).symm⟩
def B6.row {Φ:A4→A4→Prop} {H0 H:A4} {b b':En} {L:List En} {F:List (Rw α)} {w:Rw α} (hO:B6 Φ H0 (WV f w::b::b'::(fo f F++L)) H) (hw:∀c∈w.row,(En.tl c.2).id=none):B6 Φ H0 (b'::(fo f (F++[w])++(b::L))) H:=by
 have h1:∀(row:List (List α×D2)) (M:List En),(∀c∈row,(En.tl c.2).id=none)→B6 Φ H0 M H→B6 Φ H0 ((row.map fun c=>.tl c.2)++M) H:=by
  intro row
  induction row with
  |nil=>simp_all
  |cons c row ih=>grind[tl0]
 have h2:=h1 w.row _ hw hO;refine h2.perm ?_;rw[Ag5];simp only[fo,rwL,G9];generalize w.row.map (fun c=>En.tl c.2)=X;generalize fo f F=Y;have p1:(X++WV f w::b::b'::(Y++L)).Perm (WV f w::X++(b::b'::(Y++L))):=Jv
 have p2:(WV f w::X++(b::b'::(Y++L))).Perm (b'::(WV f w::X++(b::(Y++L)))):=
  ((List.Perm.swap b' b (Y++L)).append_left (WV f w::X)).trans Jv
 refine p1.trans (p2.trans (.cons b' ?_));have p3:(WV f w::X++(b::(Y++L))).Perm (WV f w::X++(Y++b::L)):=(List.perm_middle.symm).append_left _;refine p3.trans ?_;rw[←F6];exact(NH (l₁:=WV f w::X) (l₂:=Y)).append_right _
end Go.Ab
