/- AbB10 AbS4 AbS5 AbS6 AbC1 AbS3 AbC2 AbC3 AbT1 AbB14 AbB11 AbH1 AbH4 AbC4 AbE1 AbB16 AbB20 AbH2 AbH3 AbB12 AbF1 -/
import Derived.Test.YtildiiggamckaaaGreatDoorL07
import Derived.Sort.Grow
import Derived.Shelf.Sort.Plain
import Derived.Shelf.Slices.In.SortNone
import Derived.Shelf.Slices.CompactI
import Derived.KernelRfl
set_option linter.all false
open Go.Ab.Ar (len_eq lst lst_eq)
namespace Go.Ab
open Go.RowKit
theorem Am7 [K9][Ar]{pre xs rest row vs row1:List V}{lo n mm m:Int}(hr:row=pre++xs++rest)(e1:lo=(pre.length:Nat))(e2:n=(xs.length:Nat))(e3:mm=(vs.length:Nat))(q5:m=n+mm)(hr1:row1=Ap row (lo+n).toNat vs):
 row1=pre++(xs++vs)++rest.drop vs.length∧m=((xs++vs).length:Nat):=by
 grind [TU]
theorem Ac3 {pre xs rest row vs row1:List V}{z:V}{j:Nat}{lo n mm m:Int}(hr:row=pre++xs++rest)(e1:lo=(pre.length:Nat))(e2:n=(xs.length:Nat))(e3:mm=(vs.length:Nat))(q5:m=n+mm)(hr1:row1=L1 row lo n++vs++List.replicate j z):
 row1=[]++(xs++vs)++List.replicate j z∧m=((xs++vs).length:Nat):=by
 simp_all[L1]
theorem Am6 {pre xs rest row vs row2 row3 row4:List V} {z:V} {jz:Nat} {lo n i mm d m l1 n1 l2 n2 l3 n3:Int} (hr:row=pre++xs++rest) (e1:lo=(pre.length:Nat)) (e2:n=(xs.length:Nat)) (e3:mm=(vs.length:Nat)) (h0:0≤i) (h1:i≤(xs.length:Nat))
 (qd:d=n+mm - i) (qm:m=i+d) (hr2:row2=L1 row lo i++List.replicate d.toNat z++List.replicate jz z) (q1:l1=i) (q2:n1=m - i) (hr3:row3=Ap row2 l1.toNat (vs.take n1.toNat)) (q3:l2=i+mm) (q4:n2=m - (i+mm))
 (q5:l3=lo+i) (q6:n3=n - i) (hr4:row4=Ap row3 l2.toNat ((L1 row l3 n3).take n2.toNat)):
 row4=[]++(xs.take i.toNat++vs++xs.drop i.toNat)++List.replicate jz z∧m=((xs.take i.toNat++vs++xs.drop i.toNat).length:Nat):=by
 have s1:L1 row lo i=xs.take i.toNat:=OV (A:=pre) (C:=xs.drop i.toNat++rest) (by rw[hr];grind [List.take_append_drop]) e1 (by simp;omega);have s2:L1 row l3 n3=xs.drop i.toNat:=OV (A:=pre++xs.take i.toNat) (C:=rest) (by rw[hr];simp_all) (by simp;omega) (by simp;omega);have hvt:vs.take n1.toNat=vs:=P7 (by omega);have hxt:(xs.drop i.toNat).take n2.toNat=xs.drop i.toNat:=P7 (by simp;omega)
 rw[s1]at hr2
 rw[hvt]at hr3
 rw[s2,hxt]at hr4
 have hz:List.replicate d.toNat z=List.replicate vs.length z++List.replicate (xs.drop i.toNat).length z:=by
  rw[NJ];grind
 rw[hz]at hr2
 have hr3':row3=xs.take i.toNat++vs++(List.replicate (xs.drop i.toNat).length z++List.replicate jz z):=by
  rw[hr3];exact Ir (B:=List.replicate vs.length z) (by rw[hr2];grind) (by simp;omega) (by simp)
 refine⟨?_,by simp;omega⟩;rw[hr4,P4];rw[Ir (A:=xs.take i.toNat++vs) (B:=List.replicate (xs.drop i.toNat).length z) (C:=List.replicate jz z) (by rw[hr3'];simp_all) (by simp;omega) (by simp)]
theorem At8 {pre xs rest row vs row1 row2:List V} {lo n i mm m l0 l1 n1 l2 n2 l3 n3:Int} (hr:row=pre++xs++rest) (e1:lo=(pre.length:Nat)) (e2:n=(xs.length:Nat)) (e3:mm=(vs.length:Nat)) (h0:0≤i) (h1:i≤(xs.length:Nat)) {RL:Int} (hRL:RL=(row.length:Nat)) (hfit:lo+n+mm≤RL)
 (qm:m=n+mm) (ql:l0=lo) (q1:l1=l0+(i+mm)) (q2:n1=m - (i+mm)) (q3:l2=l0+i) (q4:n2=m - i) (hr1:row1=Ap row l1.toNat ((L1 row l2 n2).take n1.toNat)) (q5:l3=l0+i) (q6:n3=m - i) (hr2:row2=Ap row1 l3.toNat (vs.take n3.toNat)):
 row2=pre++(xs.take i.toNat++vs++xs.drop i.toNat)++rest.drop vs.length∧m=((xs.take i.toNat++vs++xs.drop i.toNat).length:Nat):=by
 have hrl:vs.length≤rest.length:=by grind
 have hvt:vs.take n3.toNat=vs:=P7 (by omega)
 have s2:(L1 row l2 n2).take n1.toNat=xs.drop i.toNat:=by
  have:L1 row l2 n2=xs.drop i.toNat++rest.take vs.length:=OV (A:=pre++xs.take i.toNat) (C:=rest.drop vs.length) (by
   rw[hr];grind [List.take_append_drop]) (by simp;omega) (by simp;omega)
  rw[this];rw[Ih (by simp;omega),P7 (by simp;omega)]
 rw[s2]at hr1
 rw[hvt]at hr2
 have hr1':row1=(pre++xs.take i.toNat++(xs.drop i.toNat++rest.take vs.length).take vs.length)++xs.drop i.toNat++rest.drop vs.length:=by
  rw[hr1];refine Ir (B:=(xs.drop i.toNat++rest.take vs.length).drop vs.length) ?_ ?_ ?_
  ·rw[hr]
   grind [List.take_append_drop]
  ·simp;omega
  grind
 refine⟨?_,by simp;omega⟩;rw[hr2];rw[Ir (A:=pre++xs.take i.toNat) (B:=(xs.drop i.toNat++rest.take vs.length).take vs.length) (C:=xs.drop i.toNat++rest.drop vs.length) (by rw[hr1'];simp_all) (by simp;omega) (by simp;omega)]
 simp_all
end Go.Ab
namespace Go.Ab
def Am {K X:Type}[DecidableEq K](m:List (K×X))(k:K)(z:X):Option (X×Bool):=some (match m.find? (fun p=>decide (p.1=k))with|some p=>(p.2,true)|none=>(z,false))
def AV {K X:Type}[DecidableEq K](m:List (K×X))(k:K)(v:X):Option (List (K×X)):=some (if m.any (fun p=>decide (p.1=k))=true then m.map (fun p=>if p.1=k then(k,v)else p)else m++[(k,v)])
end Go.Ab
namespace Go.Ab
def UL {α:Type}(l:List α)(a:Int)(m:List α):Option (List α×Int):=
 if 0≤a∧a≤(l.length:Nat)then some (l.take a.toNat++m.take (l.length - a.toNat)++l.drop (a.toNat+m.length),if(l.length:Int) - a<(m.length:Nat)then(l.length:Int) - a else(m.length:Nat))else none
end Go.Ab
namespace Go.Ab
def Iv {α:Type}(x:α):List α→List (List α)
 |[]=>[[x]]
 |y::l=>(x::y::l)::(Iv x l).map (y:: ·)
def JO {α:Type}:List α→List (List α)
 |[]=>[[]]
 |x::l=>(JO l).flatMap (Iv x)
theorem PJ {α:Type} (x:α):∀(a b:List α),a++x::b∈Iv x (a++b)
 |[],[]=>by simp[Iv]
 |[],y::b=>by simp[Iv]
 |y::a,b=>by
  simp only[Fg,Iv,Dz,Dy];exact .inr ⟨_,PJ x a b,rfl⟩
theorem Ps {α:Type}:∀{l m:List α},m.Perm l→m∈JO l
 |[],m,h=>by simp[JO,h.eq_nil]
 |x::l,m,h=>by
  have hx:x∈m:=h.mem_iff.2 (by simp);obtain⟨a,b,rfl⟩:=Jo hx;have h2:(a++b).Perm l:=(List.perm_cons x).1 (List.perm_middle.symm.trans h);simp only[JO,Di];exact⟨a++b,Ps h2,PJ x a b⟩
def Yw {σ R:Type}(fin:σ→R):σ⊕R→R
 | .inl s=>fin s
 | .inr y=>y
def CO {α σ R ρ:Type}[DecidableEq ρ](step:σ→α→Option (σ⊕R))(fin:σ→R)(nrm:R→ρ)(l:List α)(s:σ):Option ρ:=
 match(G0 step l s).map fun q=>nrm (Yw fin q)with
 |none=>none
 |some r=>if(JO l).all (fun m=>decide ((G0 step m s).map (fun q=>nrm (Yw fin q))=some r))=true then some r else none
theorem TP {α σ R ρ:Type} [DecidableEq ρ] {step:σ→α→Option (σ⊕R)} {fin:σ→R} {nrm:R→ρ} {l:List α} {s:σ} {r:ρ} (h:CO step fin nrm l s=some r) {m:List α} (hp:m.Perm l):
 ∃q,G0 step m s=some q∧nrm (Yw fin q)=r:=by
 unfold CO at h
 split at h
 ·cases h
 split at h
 ·rename_i r' _ hall;cases h;have:=List.all_eq_true.1 hall m (Ps hp);have:=Ca this
  cases hq:G0 step m s with
  |none=>rw[hq]at this;cases this
  |some q=>rw[hq]at this;exact⟨q,rfl,by simpa using this⟩
 cases h
theorem NS {α:Type}:∀{l m:List α},m∈JO l→m.Perm l
 |[],m,h=>by simp only[JO,J2]at h;rw[h]
 | x::l,m,h=>by
  simp only[JO,Di]at h
  obtain⟨n,h1,h2⟩:=h
  have key:∀(n m:List α),m∈Iv x n→m.Perm (x::n):=by
   intro n
   induction n with
   |nil=>intro m h;simp only[Iv,J2]at h;rw[h]
   |cons y n ih=>
    intro m h
    simp only[Iv,Dz,Dy]at h
    rcases h with rfl|⟨q,hq,rfl⟩
    ·exact .refl _
    exact((ih q hq).cons y).trans (List.Perm.swap x y n)
  exact(key n m h2).trans ((NS h1).cons x)
theorem MZ {α σ R ρ:Type}[DecidableEq ρ]{step:σ→α→Option (σ⊕R)}{fin:σ→R}{nrm:R→ρ}{l:List α}{s:σ}{r:ρ}(h:∀m,m.Perm l→(G0 step m s).map (fun q=>nrm (Yw fin q))=some r):CO step fin nrm l s=some r:=by
 unfold CO;rw[h l (.refl _)]
 simp only
 rw[A2];exact List.all_eq_true.2 fun m hm=>Cj (h m (NS hm))
def Mt {X:Type}(p:Int×X):List (Int×X)→List (Int×X)
 |[]=>[p]
 |q::l=>if p.1≤q.1 then p::q::l else q::Mt p l
def DV {X:Type}:List (Int×X)→List (Int×X)
 |[]=>[]
 |p::l=>Mt p (DV l)
theorem Rn {X:Type} (p:Int×X):∀l,(Mt p l).Perm (p::l)
 |[]=>.refl _
 |q::l=>by
  unfold Mt
  split
  ·exact .refl _
  exact((Rn p l).cons q).trans (List.Perm.swap p q l)
theorem Gx {X:Type}:∀l:List (Int×X),(DV l).Perm l
 |[]=>.refl _
 |p::l=>(Rn p _).trans ((Gx l).cons p)
end Go.Ab
namespace Go.Ab
open Go.RowKit Go.Sort
variable [K9]
theorem Rl.more {g:Gh}{H:A1}{w w':World}(h:Rl g H w)(hb:Below g.base w w')(hs:∀b,b<w.heap.size→w'.heap[b]? =w.heap[b]?)(hd:w.drawn≤w'.drawn:=by first|exact Nat.le_refl _|exact Nat.le_succ _|exact Nat.le_add_right _ _):U1 g w g w'∧Rl g H w':=by
 have s:U1 g w g w':=⟨fun _ _ e=>e,fun _ _ e=>e,fun _ _ e=>e,rfl,fun b o hf=>by simp only[World.cell?,hs b (h.fz_lt hf)],hb,fun _ _ _=>rfl,hd⟩;exact⟨s,fun x k hx=>(h.blk x k hx).mono hx s fun y hy=>⟨hs y (h.lt hy),fun _ ho=>ho⟩,h.inj,fun b o hf=>by obtain⟨v,hv⟩:=h.frz b o hf;exact⟨v,(s.cell b o hf).trans hv⟩,h.nxt,Z6 h.bnd hb.size,fun n=>(h.glb n).mono s⟩
def Lq (q:OG)(zs:List Int):List V:=q.pre++zs.map (V.int .i64)++q.rest
theorem HP (q:OG)(zs:List Int):(Lq q zs).length=q.pre.length+zs.length+q.rest.length:=by grind [Lq]
theorem TF {q:OG}{zs:List Int}{j:Nat}(hj:j<zs.length):(Lq q zs).getD (q.pre.length+j) .bad= .int .i64 zs[j]:=by
 grind [Lq]
theorem TE {q:OG}{zs ds:List Int}(hl:ds.length=zs.length){i:Nat}(hi:i<q.pre.length∨q.pre.length+ds.length≤i):(Lq q ds).getD i .bad=(Lq q zs).getD i .bad:=by
 grind [Lq]
theorem Aj4 {off:Nat}{ds:List Int}{c:Array Value}{k:Nat}(hk:k<c.size):(putCells (Value.int .i64) off ds.toArray c).getD k undef=if off≤k∧k<off+ds.length then .int .i64 (ds.toArray[k - off]!)else c.getD k undef:=by
 unfold putCells
 simp_all
def Af7 (P:Program)(f:FuncId)(zs ds:List Int)(r:OG→V):Prop:=
 ∀H (q:OG),Al q (zs.length:Nat)→H q.id=some (.arr 1 (Lq q zs))→J0 P f [.own q.id q.lo q.n] H fun x H'=>x=r q∧H'=upd H q.id (some (.arr 1 (Lq q ds)))
theorem UQ {P:Program} {f:FuncId} {zs ds:List Int} {r:OG→V} {m:Nat} (hl:ds.length=zs.length)
 (hrun:∀vals w,(callFunc f vals).run P w= .ok (.enter f vals) w)
 (h0:zs=[]→∀p cap w,Calls P f #[.slice p 0 cap] w fun e w'=>∃v,e= .returned v∧w'=w∧(v= .slice p 0 cap∧(∀q,Al q (zs.length:Nat)→r q= .own q.id q.lo q.n)∨v= .tuple #[]∧∀q,r q= .tup []))
 (h1:∀blk off cap w,0<zs.length→zs.length≤cap→Holds (Value.int .i64) w blk off zs.toArray→blk<w.heap.size→
  Calls P f #[.slice (some ⟨blk,off,none⟩) zs.length cap] w fun e w'=>∃v,e= .returned v∧(v= .slice (some ⟨blk,off,none⟩) m cap∧m≤zs.length∧(∀q,r q= .own q.id q.lo (m:Nat))∨v= .tuple #[]∧∀q,r q= .tup [])∧
   ∃n os,w'=grow (putRow (Value.int .i64) (Sort.ahead w n) blk off ds.toArray) os):Af7 P f zs ds r:=by
 intro H q hq hk g w vals hR hA;obtain⟨hlen,hv⟩:=hA;obtain⟨vals⟩:=vals
 match vals,hlen with
 | [v],_=>
  have hv1:=hv 0 (by simp)
  simp at hv1
  rw[hrun]
  show CallsIn Fence.wide 0 P f #[v] w _
  rw[callsIn_wide];have hq0:=hq;obtain⟨hlo,hn⟩:=hq;obtain⟨b,p,e1,e2,e3,e4,e5,e6,e7,e8,e9,e10⟩:=Eb hR hk hv1
  rw[HP]at e2 e5 e7 e8 e10
  subst e2
  have hnn:q.n.toNat=zs.length:=by omega
  by_cases hz:zs=[]
  ·subst hz;have hd:ds=[]:=List.length_eq_zero_iff.1 hl;subst hd;rw[hnn];refine(h0 rfl p _ w).mono ?_;rintro e w' ⟨v,rfl,rfl,hcase⟩;refine⟨v,rfl,g,r q,H,U1.refl _ _,hR,?_,rfl,?_⟩
   ·rcases hcase with⟨rfl,hr⟩|⟨rfl,hr⟩
    ·rw[hr q hq0];rw[hnn]at hv1;exact hv1
    rw[hr];exact VR.und g w'
   grind [upd]
  have hzl:0<zs.length:=List.length_pos_iff.2 hz
  rcases e10 with e10|⟨c,T,k1,k2,k3,k4,k5,k6⟩
  ·omega
  have hp:=e8 (by omega);subst hp
  have hoff:(g.ow q.id).o+q.lo.toNat*1=(g.ow q.id).o+q.pre.length:=by rw[hlo];simp
  rw[hnn,hoff]
  have hblt:b<w.heap.size:=by
   grind
  have hcell:∀o,w.cell? ⟨b,o,none⟩=c[o]? :=fun o=>by simp[World.cell?,k2]
  have hH:Holds (Value.int .i64) w b ((g.ow q.id).o+q.pre.length) zs.toArray:=fun j hj=>by
   have hj':j<zs.length:=by omega
   refine⟨?_,by simp[World.frozen?,k2]⟩;have h:=(k4 (q.pre.length+j) 0 (by omega) (by omega)).2
   rw[TF hj']at h
   have h:=VR.int_inv h;rw[hcell]
   have hlt:(g.ow q.id).o+q.pre.length+j<c.size:=by omega
   rw[show(g.ow q.id).o+(q.pre.length+j)*1+0=(g.ow q.id).o+q.pre.length+j by omega]at h
   simp_all
  refine(h1 b _ _ w hzl (by omega) hH hblt).mono ?_;rintro e w' ⟨v,rfl,hcase,n,os,rfl⟩
  have hs:=Rl.setArr hR (ys:=Lq q ds) (c':=putCells (Value.int .i64) ((g.ow q.id).o+q.pre.length) ds.toArray c) hk e1 (by rw[HP];omega) k2 (by simp[putCells])
   (fun o ho=>by
    simp only[putCells,Array.getElem?_mapIdx]
    grind)
   (by rw[HP,HP,hl])
   (fun i hi=>by
    rw[HP]at hi
    by_cases hm:i<q.pre.length∨q.pre.length+ds.length≤i
    ·rw[TE hl hm];grind [Lq]
    grind [V.cells,Lq])
   (fun i j hi hj=>by
    rw[HP]at hi
    have hj0:j=0:=by omega
    subst hj0;rw[Aj4 (by omega)]
    by_cases hm:i<q.pre.length∨q.pre.length+ds.length≤i
    ·rw[A3 (by omega),TE hl hm]
     simp_all
    obtain⟨j,rfl⟩:∃j,i=q.pre.length+j:=⟨i - q.pre.length,by omega⟩
    have hj:j<ds.length:=by omega
    rw[A2 (by omega),TF hj,show(g.ow q.id).o+(q.pre.length+j)*1+0 - ((g.ow q.id).o+q.pre.length)=j by omega]
    have:ds.toArray[j]! =ds[j]:=by simp[hj]
    rw[this]
    exact⟨rfl,VR.int _ _⟩)
  obtain⟨s1,R1⟩:=hs
  generalize hw1:w.setRow b (putCells (Value.int .i64) ((g.ow q.id).o+q.pre.length) ds.toArray c)=w1 at s1 R1
  have hsz1:w1.heap.size=w.heap.size:=by rw[←hw1];simp[World.setRow]
  have hheap:∀x,x<w1.heap.size→(grow (putRow (Value.int .i64) (Sort.ahead w n) b ((g.ow q.id).o+q.pre.length) ds.toArray) os).heap[x]? =w1.heap[x]? :=fun x hx=>by
   have hx':x<w.heap.size:=by omega
   simp only[grow,putRow,mapBlock,Sort.ahead];rw[Array.getElem?_append_left (by grind),Hg]
   by_cases hxb:b=x
   ·subst hxb;rw[A2 rfl,k2,←hw1,setRow_heap w b c _ T (0,0) k2];rfl
   rw[A3 hxb,←hw1,O5 w b _ x (fun e=>hxb e.symm)]
  have hbel:Below g.base w1 (grow (putRow (Value.int .i64) (Sort.ahead w n) b ((g.ow q.id).o+q.pre.length) ds.toArray) os):=by
   refine⟨by rw[←hw1];rfl,by rw[←hw1];rfl,by rw[←hw1];rfl,?_,fun k hk'=>?_⟩
   ·rw[hsz1];simp_all
   grind
  obtain⟨s2,R2⟩:=R1.more hbel hheap (by rw[←hw1];exact Jj _ _);refine⟨v,rfl,g,r q,_,s1.trans s2,R2,?_,rfl,rfl⟩
  rcases hcase with⟨rfl,hm,hr⟩|⟨rfl,hr⟩
  ·rw[hr]
   have hcap:(g.ow q.id).cap=q.pre.length+zs.length+q.rest.length:=by rw[e7]
   have:=VR.own (g:=g) (w:=grow (putRow (Value.int .i64) (Sort.ahead w n) b ((g.ow q.id).o+q.pre.length) ds.toArray) os) (id:=q.id) (b:=b) (lo:=q.lo) (n:=(m:Nat)) (p:=some ⟨b,(g.ow q.id).o+q.pre.length,none⟩) e1 e3 (by omega) (by omega) (fun _=>by rw[e6,hoff])
   rw[hcap]at this
   simp_all
  rw[hr];exact VR.und _ _
end Go.Ab
namespace Go.Ab
def Ac4 (x:Int):List Int→List Int
 |[]=>[x]
 |y::r=>if x≤y then x::y::r else y::Ac4 x r
def PH :List Int→List Int
 |[]=>[]
 |x::r=>Ac4 x (PH r)
theorem Xk (a:Int):∀(l m:List Int),(∀b∈l,¬a≤b)→(∀b∈m,a≤b)→Ac4 a (l++m)=l++a::m
 |[],[],_,_=>rfl
 |[],y::m,_,h=>by simp_all[Ac4]
 |y::l,m,h,k=>by
  simp only[Fg,Ac4];rw[A3 (h y (by simp)),Xk a l m (fun b hb=>h b (by simp[hb])) k]
theorem Rj :∀l:List Int,PH l=l.mergeSort fun x y=>decide (x≤y)
 |[]=>by simp[PH]
 |a::l=>by
  have ht:∀x y z:Int,decide (x≤y)=true→decide (y≤z)=true→decide (x≤z)=true:=fun x y z h k=>by grind
  have hc:∀x y:Int,(decide (x≤y)||decide (y≤x))=true:=fun x y=>by simp;omega
  obtain⟨l1,l2,h1,h2,h3⟩:=List.mergeSort_cons ht hc a l;have hs:=ND ht hc (a::l)
  rw[h1]at hs
  rw[PH,Rj l,h1,h2]
  grind [Xk,List.pairwise_cons]
def NO (l:List Int):Option (List Int):=if l.length<4611686018427387904 then some (PH l)else none
theorem Ln {l r:List Int}(h:NO l=some r):l.length<4611686018427387904∧r=l.mergeSort fun x y=>decide (x≤y):=by
 grind [NO,Rj]
end Go.Ab
namespace Go.Ab
open Go.RowKit
variable [K9]
def Af6 (P:Program)(f:FuncId)(zs ds:List Int):Prop:=Af7 P f zs ds (fun _=>.tup [])∧ds.length=zs.length
theorem TG [Ar](q:OG)(zs:List Int):q.pre++lst (V.int .i64) zs++q.rest=Lq q zs:=by rw[lst_eq];rfl
section
variable [Ar]{P:Program}{nt:Nat}{rd:Option Nat}{E:Eu}(hE:E=G7 P nt rd)
include hE
theorem Al4 {Φ:A1→A1→Prop}{H0 H:A1}{L:List En}{fid:FuncId}{q:OG}{k:V→A1→Prop}{R:Type}{m:Option (List Int)}{F:List Int→Option R}{r:R}
 {l:List Int} (hO:B6 Φ H0 L H) (hq:Al q (Ar.len l)) (i:Nat) (hi:L[i]? =some (.blk q.id (.arr 1 (q.pre++lst (V.int .i64) l++q.rest)))) (h:m.bind F=some r) (hc:∀x,m=some x→Af6 P fid l x)
 (hk:∀x H',Al q (Ar.len x)→B6 Φ H0 (L.set i (.blk q.id (.arr 1 (q.pre++lst (V.int .i64) x++q.rest)))) H'→F x=some r→k (.tup []) H'):
 E.call (.func (.func fid) [] []) [.own q.id q.lo q.n] H k:=by
 subst hE;obtain⟨x,h1,h2⟩:=bind_some h;obtain⟨c1,c2⟩:=hc x h1;refine J0.value (F:=[]) (C:=[]) ?_;simp only[P4,H7]
 rw[TG]at hi
 refine(c1 H q (by rw[←len_eq];exact hq) (hO.get i hi)).mono fun v H' ⟨e1,e2⟩=>?_;subst e1;subst e2;refine hk x _ ?_ ?_ h2
 ·rw[len_eq]at hq ⊢;rw[c2];exact hq
 rw[TG];exact hO.set i hi
end
end Go.Ab
namespace Go.Ab
open Go.RowKit Go.Shelf Go.Sort
variable [K9]
theorem Wp {P:Program}{ρ:Ren}(Ly:Go.Proofs.Lays.n189 P ρ)(hrun:∀vals w,(callFunc (ρ.f 189) vals).run P w= .ok (.enter (ρ.f 189) vals) w){zs r:List Int}(h:NO zs=some r):Af6 P (ρ.f 189) zs r:=by
 obtain⟨hlt,rfl⟩:=Ln h;have hl:(zs.mergeSort fun x y=>decide (x≤y)).length=zs.length:=Nx ..;refine⟨UQ (m:=0) hl hrun ?_ ?_,hl⟩
 ·intro _ p cap w;exact(Go.Proofs.Any.slices_Sort_int_none Ly p cap w).mono fun e w' ⟨a,b⟩=>⟨_,a,b,.inr ⟨rfl,fun _=>rfl⟩⟩
 intro blk off cap w _ _ hH hb;exact(Go.Proofs.Any.slices_Sort_int Ly blk off cap zs w hH hb hlt).mono fun e w' ⟨a,n,os,b⟩=>⟨_,a,.inr ⟨rfl,fun _=>rfl⟩,n,os,b⟩
def Kp (l:List Int):Option (List Int):=if l.length≤9223372036854775807 then some (Lib.compact l)else none
theorem Of (zs:List Int):(Lib.compact zs).length≤zs.length:=by
 unfold Lib.compact Lib.compactUpTo;rw[Q7]
 grind
theorem Qf [Ar] {P:Program} {ρ:Ren} (Ly:Go.Proofs.Lays2.n20 P ρ) (hrun:∀vals w,(callFunc (ρ.f 20) vals).run P w= .ok (.enter (ρ.f 20) vals) w) {zs r:List Int} (h:Kp zs=some r):
 Nv P (ρ.f 20) [] 1 (lst (V.int .i64) zs) (lst (V.int .i64) r):=by
 unfold Kp at h
 split at h
 case isFalse=>cases h
 rename_i hlt;cases h;have hle:(Lib.compact zs).length≤zs.length:=Of zs
 have key:Af7 P (ρ.f 20) zs (Lib.compact zs++List.replicate (zs.length - (Lib.compact zs).length) 0) (fun q=>.own q.id q.lo ((Lib.compact zs).length:Nat)):=by
  refine UQ (m:=(Lib.compact zs).length) (by simp;omega) hrun ?_ ?_
  ·rintro rfl p cap w;refine(Go.Proofs.Any.slices_Compact_int_empty Ly p cap w).mono fun e w' ⟨a,b⟩=>⟨_,a,b,.inl ⟨rfl,fun q hq=>?_⟩⟩;rw[hq.2]
   have:(Lib.compact ([]:List Int)).length=0:=by have:=Of [];simp_all
   rw[this];rfl
  intro blk off cap w _ hc hH hb;refine(Go.Proofs.Any.slices_Compact_int Ly blk off cap zs w hH hlt hc).mono fun e w' ⟨a,n,b⟩=>⟨_,a,.inl ⟨rfl,hle,fun _=>rfl⟩,n, #[],by rw[b,grow_empty]⟩
 intro H q hq hk
 rw[lst_eq]at hk hq
 refine(key H q (by grind) (by simp_all[Lq])).mono fun v H' ⟨e1,e2⟩=>?_;subst e1;subst e2;refine⟨⟨q.id,q.lo,((Lib.compact zs).length:Nat),q.pre,(List.replicate (zs.length - (Lib.compact zs).length) 0).map (V.int .i64)++q.rest⟩,rfl,⟨hq.1,by rw[lst_eq];simp⟩,by rw[C8],?_⟩
 funext x
 rw[lst_eq]
 grind [upd,Lq]
end Go.Ab
namespace Go.Ab
open Go.RowKit
variable [K9][Ar]
theorem Ph {L:List En}{i j:Nat}{e' e:En}(hj:(L.set i e')[j]? =some e):(j=i∧e=e')∨(j≠i∧L[j]? =some e):=by
 rw[P5]at hj
 grind
theorem XS {L:List En}{i j:Nat}{e':En}(h:j≠i):(L.set i e')[j]? =L[j]? :=by
 rw[P5,A3 (fun e=>h e.symm)]
theorem BP.drop {H0 H:A1} {L:List En} (h:BP H0 L H) (i:Nat) {e e':En} {id:Nat} {b0:CT} (hi:L[i]? =some e) (he:e.id=some (id,b0)) (he':e'.id=none):BP H0 (L.set i e') (upd H id none):=by
 have hid:=h.has i e id b0 hi he;refine⟨fun x b hx=>?_,fun j x y b hj hx=>?_,fun j k x x' y b b' hj hk hx hx'=>?_,fun x b hx=>?_⟩
 ·rw[C1 _ _ (Ae hid.1 hx)];exact h.ext x b hx
 ·rcases Ph hj with⟨_,rfl⟩|⟨hne,hj⟩
  ·rw[he']at hx;cases hx
  have:=h.has j x y b hj hx;refine⟨this.1,?_⟩;rw[C1 _ _ (fun eq=>by subst eq;exact hne (h.inj j i x e y b b0 hj hi hx he))];exact this.2
 ·rcases Ph hj with⟨_,rfl⟩|⟨_,hj⟩
  ·rw[he']at hx;cases hx
  rcases Ph hk with⟨_,rfl⟩|⟨_,hk⟩
  ·rw[he']at hx';cases hx'
  exact h.inj j k x x' y b b' hj hk hx hx'
 by_cases hxi:x=id
 ·simp_all[upd]
 rw[C1 _ _ hxi]at hx
 refine(h.only x b hx).imp (fun h=>h) fun⟨j,y,h1,h2⟩=>⟨j,y,?_,h2⟩;rw[XS fun ej=>by simp_all];exact h1
section
variable {P:Program}{T:FQ}{f:FuncId}{fn:Func}{c:Code}{n:Nat}{rs:List ResultVar}{args:List V}
end
section
variable {P:Program}{nt:Nat}{rd:Option Nat}{T:FQ}{E:Eu}
variable (hE:E=G7 P nt rd)
include hE
variable {α R:Type}{f:α→V}{Φ:A1→A1→Prop}{H0 H:A1}{L:List En}{r:R}{m:Option (List α)}{F:List α→Option R}{fid:FuncId}{args args':List V}{k:V→A1→Prop}
end
end Go.Ab
namespace Go.Ab
open Go.RowKit
variable [K9][Ar]
def Gh.lend (g:Gh)(w:World):Gh:={g with fz:=fun b o=>∃v,w.cell? ⟨b,o,none⟩=some v,base:=w.heap.size}
theorem VR.lend {g:Gh}{w:World}{B:Nat}{F:Nat→Nat→Prop}(hB:g.base≤B)(hF:∀b o,g.fz b o→F b o){v:Value}{x:V}(h:VR g w v x):VR {g with fz:=F,base:=B} w v x:=by
 induction h with
 |bad v=>exact .bad v
 |bool b=>exact .bool b
 |int k n=>exact .int k n
 |str s=>exact .str s
 |nilp=>exact .nilp
 |nilf=>exact .nilf
 |nili=>exact .nili
 |nilmap=>exact .nilmap
 |map h=>exact .map h
 |fmap hb hw hk hn hl hv ih=>exact VR.fmap (g:={g with fz:=F,base:=B}) (Nat.lt_of_lt_of_le hb hB) hw hk hn hl ih
 |ref h=>exact .ref h
 |own h h0 h1 h2 hp=>exact VR.own (g:={g with fz:=F,base:=B}) h h0 h1 h2 hp
 |elem h hs=>exact VR.elem (g:={g with fz:=F,base:=B}) h hs
 |eref vs hf hw h1 hv ih=>exact .eref vs (fun j hj=>hF _ _ (hf j hj)) hw h1 ih
 |sl0 ht=>exact .sl0 ht
 |sle ht=>exact .sle ht
 |sl vs hn hc hz hf hw h1 hv ht ih=>exact .sl vs hn hc hz (fun i j hi hj=>hF _ _ (hf i j hi hj)) hw h1 ih (ht.mono fun _ _ e=>e)
 |func hl hv hl' hv' ih ih'=>exact .func hl ih hl' ih'
 |yield h=>exact .yield h
 |iface h ih=>exact .iface ih
 |agg hl h1 hv ih=>exact .agg hl h1 ih
 |tup hl hv ih=>exact .tup hl ih
theorem Rl.lend {g:Gh}{H:A1}{w:World}(h:Rl g H w):Rl (g.lend w) (fun _=>none) w:=by
 refine⟨fun id b hb=>(by cases hb),fun id id' b h1 _=>(by simp[Gh.at]at h1),fun b o hf=>hf,fun id hi=>⟨(h.nxt id hi).1,(h.nxt id hi).2.1,rfl⟩,D1 _,fun n=>(h.glb n).lend h.bnd fun b o hf=>h.frz b o hf⟩
theorem Rl.lendOwn {g:Gh} {H:A1} {w:World} (h:Rl g H w) {id sz:Nat} {xs:List V} (hk:H id=some (.arr sz xs)) {v:Value} {lo n:Int} (hv:VR g w v (.own id lo n)):VR (g.lend w) w v (.sl (L1 xs lo n) .ro):=by
 obtain⟨g',⟨e1,e2,e3⟩,s,hR,hw⟩:=h.freezeArr' hk;have:=(hw v lo n (hv.mono s)).lend (F:=fun b o=>∃v,w.cell? ⟨b,o,none⟩=some v) (B:=w.heap.size) hR.bnd fun b o hf=>hR.frz b o hf
 have e:({g' with fz:=fun b o=>∃v,w.cell? ⟨b,o,none⟩=some v,base:=w.heap.size}:Gh)={(g.lend w)with nx:=g'.nx}:=by
  simp_all[Gh.lend]
 rw[e]at this
 exact VR.nxt this
where
 VR.nxt {g:Gh} {w:World} {n:Nat} {v:Value} {x:V} (h:VR {g with nx:=n} w v x):VR g w v x:=by
  generalize hg:({g with nx:=n}:Gh)=g1 at h
  have hmu:g1.mu=g.mu:=by rw[←hg]
  have htk:g1.tk=g.tk:=by rw[←hg]
  have hfz:g1.fz=g.fz:=by rw[←hg]
  have how:g1.ow=g.ow:=by rw[←hg]
  have hba:g1.base=g.base:=by rw[←hg]
  clear hg
  induction h with
  |bad v=>exact .bad v
  |bool b=>exact .bool b
  |int k n=>exact .int k n
  |str s=>exact .str s
  |nilp=>exact .nilp
  |nilf=>exact .nilf
  |nili=>exact .nili
  |nilmap=>exact .nilmap
  |map h=>exact .map (hmu▸h)
  |fmap hb hw hk hn hl hv ih=>exact .fmap (hba▸hb) hw hk hn hl ih
  |ref h=>exact .ref (hmu▸h)
  |own h h0 h1 h2 hp=>rw[how]at h2 hp ⊢;exact VR.own (hmu▸h) h0 h1 h2 hp
  |elem h hs=>rw[how]at hs ⊢;exact VR.elem (hmu▸h) hs
  |eref vs hf hw h1 hv ih=>exact .eref vs (fun j hj=>hfz▸hf j hj) hw h1 ih
  |sl0 ht=>exact .sl0 ht
  |sle ht=>exact .sle ht
  |sl vs hn hc hz hf hw h1 hv ht ih=>exact .sl vs hn hc hz (fun i j hi hj=>hfz▸hf i j hi hj) hw h1 ih (ht.mono fun _ _ e=>htk▸e)
  |func hl hv hl' hv' ih ih'=>exact .func hl ih hl' ih'
  |yield h=>exact .yield (hmu▸h)
  |iface h ih=>exact .iface ih
  |agg hl h1 hv ih=>exact .agg hl h1 ih
  |tup hl hv ih=>exact .tup hl ih
def ZP :V→Bool
 | .bool _=>true
 | .int _ _=>true
 | .str _=>true
 |_=>false
inductive LP :V→Prop
 |bool (b:Bool):LP (.bool b)
 |int (k:IntKind) (n:Int):LP (.int k n)
 |str (s:ByteArray):LP (.str s)
 |agg {cs:List V} (h:cs.all ZP=true):LP (.agg cs)
 |tup2 {x y:V} (h:LP x) (k:LP y):LP (.tup [x,y])
 |tup3 {x y z:V} (h:LP x) (k:LP y) (m:LP z):LP (.tup [x,y,z])
theorem LP.any {x:V} (h:LP x):∀{g g':Gh} {w w':World} {v:Value},VR g w v x→VR g' w' v x:=by
 induction h with
 |bool b=>intro g g' w w' v h;cases h;exact .bool b
 |int k n=>intro g g' w w' v h;cases h;exact .int k n
 |str s=>intro g g' w w' v h;cases h;exact .str s
 | @agg cs hp=>
  intro g g' w w' v h
  cases h with
  |agg hl h1 hv=>
   refine .agg hl h1 fun i hi=>?_;have hvi:=hv i hi;have hm:=List.all_eq_true.1 hp _ (AG hi)
   rw[show cs.getD i .bad=cs[i] by rw[EA,E2 hi];rfl]at hvi ⊢
   generalize cs[i]=c at hvi hm ⊢
   generalize Array.getD _ i undef=u at hvi ⊢
   cases c<;>simp only[ZP,F6]at hm<;>cases hvi<;>constructor
 | tup2 _ _ ih1 ih2=>
  intro g g' w w' v h
  cases h with
  |tup hl hv=>
   refine .tup hl fun i hi=>?_
   match i with
   |0=>grind
   |1=>grind
   |i+2=>grind
 | tup3 _ _ _ ih1 ih2 ih3=>
  intro g g' w w' v h
  cases h with
  |tup hl hv=>
   refine .tup hl fun i hi=>?_
   match i with
   |0=>grind
   |1=>grind
   |2=>grind
   |i+3=>grind
inductive IH (H:A1):List V→List V→Prop
 |nil:IH H [] []
 |le {x y:V} {xs ys:List V} (h:BQ x y) (k:IH H xs ys):IH H (x::xs) (y::ys)
 |fm {id:Nat} {ks:List Int} {zs xs ys:List V} (h:H id=some (.fm ks zs)) (k:IH H xs ys):IH H (.map id::xs) (.fmap ks zs::ys)
 |agg {us ws xs ys:List V} (h:IH H us ws) (k:IH H xs ys):IH H (.agg us::xs) (.agg ws::ys)
 |own {id sz:Nat} {zs:List V} {lo n:Int} {xs ys:List V} (h:H id=some (.arr sz zs)) (k:IH H xs ys):IH H (.own id lo n::xs) (.sl (L1 zs lo n) .ro::ys)
theorem IH.length {H:A1}{xs ys:List V}(h:IH H xs ys):xs.length=ys.length:=by
 induction h with
 |nil=>rfl
 |le _ _ ih=>simp[ih]
 |fm _ _ ih=>simp[ih]
 |agg _ _ _ ih=>simp[ih]
 |own _ _ ih=>simp[ih]
theorem IH.at {g:Gh} {H:A1} {w:World} (hR:Rl g H w) {xs ys:List V} (h:IH H xs ys):∀(vals:Nat→Value),(∀i,i<xs.length→VR g w (vals i) (xs.getD i .bad))→∀i,i<ys.length→VR (g.lend w) w (vals i) (ys.getD i .bad):=by
 induction h with
 |nil=>simp_all
 |le h k ih=>
  intro vals hv i hi
  cases i with
  |zero=>exact((hv 0 (by simp)).le h).lend hR.bnd fun b o hf=>hR.frz b o hf
  |succ i=>exact ih (fun i=>vals (i+1)) (fun i hi=>by grind) i (by grind)
 | fm h k ih=>
  intro vals hv i hi
  cases i with
  | zero=>
   have h0:=hv 0 (by simp)
   simp only[Jq]at h0 ⊢
   generalize vals 0=u at h0
   cases h0 with
   |map hm=>
    obtain⟨b,es,clock,k1,k2,k3,k4,k5,k6,k7⟩:=hR.blk _ _ h
    rw[hm]at k1;cases k1
    exact VR.fmap (g:=Gh.lend _ _) (Su k3) k3 k4 k5 k6 fun i e hi=>(k7 i e hi).lend hR.bnd fun b o hf=>hR.frz b o hf
  |succ i=>exact ih (fun i=>vals (i+1)) (fun i hi=>by grind) i (by grind)
 | agg h k ih1 ih=>
  intro vals hv i hi
  cases i with
  | zero=>
   have h0:=hv 0 (by simp)
   simp only[Jq]at h0 ⊢
   generalize vals 0=u at h0
   cases h0 with
   |agg hl h1 hv1=>
    have e:=h.length;exact .agg (hl.trans e) (fun i hi=>h1 i (by omega)) fun i hi=>ih1 (fun i=>Array.getD _ i undef) hv1 i hi
  |succ i=>exact ih (fun i=>vals (i+1)) (fun i hi=>by grind) i (by grind)
 |own h k ih=>
  intro vals hv i hi
  cases i with
  |zero=>exact hR.lendOwn h (hv 0 (by simp))
  |succ i=>exact ih (fun i=>vals (i+1)) (fun i hi=>by grind) i (by grind)
theorem C5.lent {P:Program}{f:FuncId}{ys:List V}{r:V}(c:C5 P f ys r)(hr:LP r){H:A1}{xs:List V}(hl:IH H xs ys):J0 P f xs H fun x H'=>x=r∧H'=H:=by
 intro g w vals hR hA;have hA2:Args (g.lend w) w vals ys:=⟨hA.1.trans hl.length,hl.at hR (fun i=>vals.getD i undef) hA.2⟩;refine(c _ _ w vals hR.lend hA2).mono fun v w' ⟨g',x,H',s,hR',hv,e1,e2⟩=>?_;subst e1;have hb:Below w.heap.size w w':=s.low;have sg:U1 g w g w':=⟨fun _ _ e=>e,fun _ _ e=>e,fun _ _ e=>e,rfl,fun b o hf=>hb.cell (hR.fz_lt hf),hb.mono hR.bnd,fun _ _ _=>rfl,s.dr⟩;refine⟨g,x,H,sg,⟨fun id b hk=>(hR.blk id b hk).mono hk sg fun y hy=>⟨hb.block _ (hR.lt hy),fun _ ho=>ho⟩,hR.inj,fun b o hf=>?_,hR.nxt,Z6 hR.bnd hb.size,fun n=>(hR.glb n).mono sg⟩,hr.any hv,rfl,rfl⟩;obtain⟨u,hu⟩:=hR.frz b o hf;exact⟨u,(hb.cell (hR.fz_lt hf)).trans hu⟩
section
variable {P:Program}{nt:Nat}{rd:Option Nat}{T:FQ}{E:Eu}
variable (hE:E=G7 P nt rd)
include hE
theorem Al5 {R S:Type}{m:Option S}{F:S→Option R}{r:R}{f:FuncId}{args args':List V}{g:S→V}{H:A1}{k:V→A1→Prop}(h:m.bind F=some r)(hc:∀x,m=some x→C5 P f args' (g x))(hs:∀x,LP (g x))(hl:IH H args args')
 (hk:∀x,F x=some r→k (g x) H):E.call (.func (.func f) [] []) args H k:=by
 subst hE;obtain⟨x,h1,h2⟩:=bind_some h;refine J0.value (F:=[]) (C:=[]) ?_;simp only[P4,H7]
 exact((hc x h1).lent (hs x) hl).mono fun v H' ⟨e1,e2⟩=>by simp_all
theorem Ab6 {α:Type}{f:α→V}{Φ:A1→A1→Prop}{H0 H:A1}{L:List En}{sz:Nat}{q:OG}{l:List α}(hO:B6 Φ H0 L H)(hq:Al q (Ar.len l))(i:Nat)(hi:L[i]? =some (.blk q.id (.arr sz (q.pre++lst f l++q.rest)))){xs ys:List V}(k:IH H xs ys):
 IH H (.own q.id q.lo q.n::xs) (.sl (lst f l) .ro::ys):=by
 have:=IH.own (lo:=q.lo) (n:=q.n) (hO.get i hi) k
 rwa[Ku hq.1 (by rw[hq.2,len_eq,L5])]at this
end
end Go.Ab
namespace Go.Ab
open Go.RowKit Go.MapKept
variable [K9][Ar]
def CK {K X:Type}(d:TypeDesc)(kf:K→V)(vf:X→V)(o:Obj)(m:List (K×X)):Prop:=∃m':List (K×X),Ag d o (m'.map fun p=>(kf p.1,vf p.2))∧m'.Perm m
theorem CK.perm {K X:Type}{d:TypeDesc}{kf:K→V}{vf:X→V}{o:Obj}{m l:List (K×X)}(h:CK d kf vf o m)(hp:m.Perm l):CK d kf vf o l:=
 let⟨m',h1,h2⟩:=h;⟨m',h1,h2.trans hp⟩
theorem Am2 {K X:Type}{m:List (K×X)}(hn:(m.map (·.1)).Nodup){p q:K×X}(hp:p∈m)(hq:q∈m)(e:p.1=q.1):p=q:=by
 obtain⟨i,hi,rfl⟩:=Z9 hp;obtain⟨j,hj,rfl⟩:=Z9 hq;have:i=j:=KE hn (by grind) (by grind) (by grind)
 grind
theorem Rs {K X:Type}[DecidableEq K]{m m':List (K×X)}(hp:m'.Perm m)(hn:(m'.map (·.1)).Nodup)(k:K)(z:X):Am m' k z=Am m k z:=by
 grind [Am,Am2]
theorem XT {K X:Type} [DecidableEq K] {m m' r:List (K×X)} (hp:m'.Perm m) {k:K} {v:X} (h:AV m k v=some r):∃r',AV m' k v=some r'∧r'.Perm r:=by
 unfold AV at h
 cases h;refine⟨_,rfl,?_⟩
 have e:m'.any (fun p=>decide (p.1=k))=m.any (fun p=>decide (p.1=k)):=by
  rw[X7,DE,DE]
  grind
 rw[e]
 split
 ·grind
 exact hp.append_right _
theorem PG {K X:Type}{d:TypeDesc}{kf:K→V}{vf:X→V}{o:Obj}{m:List (K×X)}(h:Ag d o (m.map fun p=>(kf p.1,vf p.2))):(m.map (·.1)).Nodup:=by
 have:=h.nodup
 rw[GP]at this
 have e:(m.map ((·.1)∘fun p=>(kf p.1,vf p.2)))=(m.map (·.1)).map kf:=by rw[GP];rfl
 rw[e]at this
 grind
def Ah3 (P:Program)(kt:TypeId)(d:TypeDesc):Bool:=match d with| .struct _=> !P.stoodInHeld kt|_=>true
structure ST {K:Type} (P:Program) (d:TypeDesc) (kf:K→V):Prop where
 raw:∀x,∃v,Bh (kf x)=some v∧EP d v
 inj:∀x y,kf x=kf y→x=y
 kg:∀kt,P.underlying kt=some d→Ah3 P kt d=true→KG P kt (EP d)
theorem R5 {P:Program}(k:IntKind):ST P (.int k) (V.int k):=⟨fun _=>⟨_,rfl,rfl⟩,fun x y h=>by cases h;rfl,fun _ h _=>KG.scalar h⟩
theorem Mm {P:Program}:ST P .string V.str:=⟨fun _=>⟨_,rfl,trivial⟩,fun x y h=>by cases h;rfl,fun _ h _=>KG.scalar h⟩
theorem Rd :∀l:List Int,Ip (l.map (V.int .i64))=some (l.map (Value.int .i64))
 |[]=>rfl
 |x::l=>by simp[Ip,JM,Rd l]
theorem Ab0 {K:Type} {P:Program} {n e:Nat} {g:K→List Int} {kf:K→V} (hk:∀x,kf x= .agg ((g x).map (V.int .i64))) (hn:∀x,(g x).length=n) (hg:∀x y,g x=g y→x=y)
 (he:P.underlying e=some (.int .i64)) (hc:P.cellsOf e=1):ST P (.array n e) kf where
 raw:=fun x=>⟨.agg ((g x).map (Value.int .i64)).toArray,by rw[hk];grind [Bh,Rd],g x,hn x,rfl⟩
 inj:=fun x y h=>hg x y (by
  rw[hk,hk]at h
  have h2:=V.agg.inj h
  grind [List.map_inj_right])
 kg:=fun kt h _=>KG.ints h he hc
def Av4 {X:Type}(vf:X→V):Prop:=∀x,∃v,Bh (vf x)=some v
theorem GC (k:IntKind):Av4 (V.int k):=fun _=>⟨_,rfl⟩
theorem DN :Av4 V.bool:=fun _=>⟨_,rfl⟩
abbrev OneV (v:V):Prop:=v.one=true∧v.cells=[v]
theorem B6.startO {H0:A1}{id:Nat}{b:CT}(hk:H0 id=some b):B6 Eq (upd H0 id none) [.blk id b] H0:=by
 have h:B6 Eq (upd H0 id none) [.blk id b] (upd (upd H0 id none) id (some b)):=(B6.start C4 rfl).push (C8 _ _ _) rfl
 rwa[X1,Zh H0 id (some b) hk]at h
theorem Sm {α:Type}{f:α→V}{q:OG}{l:List α}(h:Al q ((lst f l).length:Nat)):Al q (Ar.len l):=⟨h.1,by rw[h.2,len_eq,L5]⟩
section
variable {P:Program}{nt:Nat}{rd:Option Nat}{T:FQ}{E:Eu}
variable (hE:E=G7 P nt rd)
include hE
variable {α R:Type}{f:α→V}{Φ:A1→A1→Prop}{H0 H:A1}{L:List En}{sz:Nat}{q:OG}{l:List α}{r:R}
theorem PA (hO:B6 Φ H0 L H){k:V→A1→Prop}(hk:∀(q:OG) H',Al q (Ar.len ([]:List α))→B6 Φ H0 (.blk q.id (.arr sz (q.pre++lst f []++q.rest))::L) H'→k (.own q.id q.lo q.n) H'):E.onil sz H k:=by
 subst hE;intro t ht
 have e:([]:List V)++lst f []++[]=[]:=by rw[←B4 (f:=f)];rfl
 refine hk ⟨t,0,0,[],[]⟩ _ ⟨rfl,by rw[len_eq];rfl⟩ ?_
 show B6 Φ H0 (.blk t (.arr sz (([]:List V)++lst f []++[]))::L) _
 rw[e];exact hO.push ht rfl
section
variable {K X:Type}{kf:K→V}{vf:X→V}{t kt et:Nat}{d:TypeDesc}{m:List (K×X)}{o:Obj}{id:Nat}
theorem Ld (d:TypeDesc)(kf:K→V)(vf:X→V)(hO:B6 Φ H0 L H){k:V→A1→Prop}(hk:∀id o H',CK d kf vf o []→B6 Φ H0 (.blk id (.obj o)::L) H'→k (.map id) H'):E.mmk H k:=by
 subst hE;exact .inl fun id hid=>hk id _ _ ⟨[],Ag.empty d,.refl _⟩ (hO.push hid rfl)
theorem Ar0 [DecidableEq K] (hK:ST P d kf) {z:V} {z0:X} (hz:Hi P et=some z) (hvz:z=vf z0) {key:K} {x:X×Bool} (hx:Am m key z0=some x) (ok:Bool):
 Ar3 P et (m.map fun p=>(kf p.1,vf p.2)) (kf key) ok (if ok=true then .tup [vf x.1,.bool x.2]else vf x.1):=by
 unfold Am at hx
 cases hx
 cases hf:m.find? (fun p=>decide (p.1=key))with
 |none=>
  refine .inl ⟨fun p hp=>?_,z,hz,by grind⟩;obtain⟨q,hq,rfl⟩:=List.mem_map.1 hp;have:=List.find?_eq_none.1 hf q hq;exact fun e=>this (by simpa using hK.inj _ _ e)
 |some p=>
  have h1:=Fc hf;have h2:=Ez hf;refine .inr ⟨vf p.2,List.mem_map.2 ⟨p,h2,?_⟩,rfl⟩;rw[show p.1=key by grind]
theorem JW [DecidableEq K](hm:P.underlying t=some (.map kt et))(hd:P.underlying kt=some d)(hK:ST P d kf){z:V}(z0:X)(hz:Hi P et=some z)(hvz:z=vf z0)(hO:B6 Φ H0 L H)(hq:CK d kf vf o m)(i:Nat)(hi:L[i]? =some (.blk id (.obj o)))
 {key:K} {k:V→Prop} {F:X×Bool→Option R} (h:(Am m key z0).bind F=some r) (hk:∀x,F x=some r→k (vf x.1)) (hst:Ah3 P kt d=true:=by kernel_rfl):E.mget t H (.map id) (kf key) false k:=by
 obtain⟨x,h1,h2⟩:=bind_some h;obtain⟨m',hq,hp⟩:=hq
 rw[←Rs hp (PG hq)]at h1
 have ha:=Ar0 (P:=P) (vf:=vf) hE hK hz hvz h1 false;subst hE;obtain⟨v,hv1,hv2⟩:=hK.raw key;exact⟨_,.inl ⟨kt,et,d,v,id,o,_,hm,hK.kg _ hd hst,hv1,hv2,rfl,hO.get i hi,hq,ha⟩,hk x h2⟩
theorem KH [DecidableEq K](hm:P.underlying t=some (.map kt et))(hd:P.underlying kt=some d)(hK:ST P d kf){z:V}(z0:X)(hz:Hi P et=some z)(hvz:z=vf z0)(hO:B6 Φ H0 L H)(hq:CK d kf vf o m)(i:Nat)(hi:L[i]? =some (.blk id (.obj o)))
 {key:K} {k:V→Prop} {F:X×Bool→Option R} (h:(Am m key z0).bind F=some r) (hk:∀x,F x=some r→k (.tup [vf x.1,.bool x.2])) (hst:Ah3 P kt d=true:=by kernel_rfl):E.mget t H (.map id) (kf key) true k:=by
 obtain⟨x,h1,h2⟩:=bind_some h;obtain⟨m',hq,hp⟩:=hq
 rw[←Rs hp (PG hq)]at h1
 have ha:=Ar0 (P:=P) (vf:=vf) hE hK hz hvz h1 true;subst hE;obtain⟨v,hv1,hv2⟩:=hK.raw key;exact⟨_,.inl ⟨kt,et,d,v,id,o,_,hm,hK.kg _ hd hst,hv1,hv2,rfl,hO.get i hi,hq,ha⟩,hk x h2⟩
theorem Ah9 [DecidableEq K] (hK:ST P d kf) (hn:((m.map fun p=>(kf p.1,vf p.2)).map (·.1)).Nodup) {key:K} {v:X} {m':List (K×X)} (hx:AV m key v=some m'):Av2 (m.map fun p=>(kf p.1,vf p.2)) (kf key) (vf v) (m'.map fun p=>(kf p.1,vf p.2)):=by
 unfold AV at hx
 cases hx
 split
 ·rename_i h;obtain⟨p,hp,he⟩:=List.any_eq_true.1 h
  have he:p.1=key:=by grind
  obtain⟨a,b,hab⟩:=Jo hp;subst hab;refine .inr ⟨a.map fun p=>(kf p.1,vf p.2),vf p.2,b.map fun p=>(kf p.1,vf p.2),by simp[he],?_⟩
  have hna:∀l:List (K×X),(∀q∈l,q.1≠key)→(l.map (fun p=>if p.1=key then(key,v)else p))=l:=fun l hl=>by
   induction l with
   |nil=>rfl
   |cons y l ih=>rw[E9,A3 (hl y (by simp)),ih fun q hq=>hl q (by simp[hq])]
  rw[GP,Bp,E9,Ex]at hn
  obtain⟨_,n2,n3⟩:=hn
  rw[GV]at n2
  have ha:∀q∈a,q.1≠key:=fun q hq e=>n3 (kf q.1) (List.mem_map.2 ⟨q,hq,rfl⟩) (kf p.1) (by simp) (by rw[e,he]);have hb:∀q∈b,q.1≠key:=fun q hq e=>n2.1 (List.mem_map.2 ⟨q,hq,by simp[e,he]⟩);rw[Bp,E9,hna a ha,hna b hb,A2 he];simp
 rename_i h;refine .inl ⟨fun p hp=>?_,by simp⟩;obtain⟨q,hq,rfl⟩:=List.mem_map.1 hp;exact fun e=>h (List.any_eq_true.2 ⟨q,hq,by simpa using hK.inj _ _ e⟩)
theorem Dq [DecidableEq K](hm:P.underlying t=some (.map kt et))(hd:P.underlying kt=some d)(hK:ST P d kf)(hV:Av4 vf)(hO:B6 Φ H0 L H)(hq:CK d kf vf o m)(i:Nat)(hi:L[i]? =some (.blk id (.obj o)))
 {key:K} {v:X} {k:A1→Prop} {F:List (K×X)→Option R} (h:(AV m key v).bind F=some r) (hk:∀m' o' H',CK d kf vf o' m'→F m'=some r→B6 Φ H0 (L.set i (.blk id (.obj o'))) H'→k H') (hst:Ah3 P kt d=true:=by kernel_rfl):E.mset t H (.map id) (kf key) (vf v) k:=by
 obtain⟨m',h1,h2⟩:=bind_some h;obtain⟨m0,hq,hp⟩:=hq;obtain⟨r',h3,hp'⟩:=XT hp h1;have hs:=Ah9 (d:=d) hE hK hq.nodup h3;subst hE;obtain⟨kv,hv1,hv2⟩:=hK.raw key;obtain⟨vv,hv3⟩:=hV v;exact .inl ⟨kt,et,d,kv,vv,id,o,_,_,hm,hK.kg _ hd hst,hv1,hv2,hv3,rfl,hO.get i hi,hq,hs,fun o' ho=>hk m' o' _ ⟨r',ho,hp'⟩ h2 (hO.set i hi)⟩
end
end
end Go.Ab
namespace Go.Ab
open Go.RowKit
variable [K9][Ar]
section
variable {P:Program}{nt:Nat}{rd:Option Nat}{T:FQ}{E:Eu}
variable (hE:E=G7 P nt rd)
include hE
variable {Φ:A1→A1→Prop}{H0 H:A1}{L:List En}{t kt et id:Nat}{ks:List Int}{xs:List V}
end
end Go.Ab
namespace Go.Ab
open Go.RowKit
variable [K9][Ar]
theorem FA {α:Type}{m:Option α}{x:α}(h:m=some x):(m.bind fun y=>some y)=some x:=by rw[h];rfl
inductive Ww {α β:Type} (R:α→β→Prop):List α→List β→Prop
 |nil:Ww R [] []
 |cons {x:α} {y:β} {xs:List α} {ys:List β} (h:R x y) (k:Ww R xs ys):Ww R (x::xs) (y::ys)
theorem Ww.get {α β:Type}{R:α→β→Prop}:∀{xs:List α} {ys:List β},Ww R xs ys→∀{i:Nat} {y:β},ys[i]? =some y→∃x,xs[i]? =some x∧R x y
 |_,_,.nil,i,y,h=>by simp at h
 |_,_,.cons h k,0,y,e=>by simp at e;subst e;exact⟨_,rfl,h⟩
 |_,_,.cons h k,i+1,y,e=>by simp at e ⊢;exact k.get e
theorem Ww.len {α β:Type}{R:α→β→Prop}:∀{xs:List α} {ys:List β},Ww R xs ys→xs.length=ys.length
 |_,_,.nil=>rfl
 |_,_,.cons _ k=>by simp[k.len]
def Aw1 (P:Program)(fv:V)(args:List V)(Q:V→Prop):Prop:=∀H,Cz P fv args H fun x H'=>Q x∧H'=H
theorem Ew.value {P:Program}{f:FuncId}{F C args:List V}{Q:V→Prop}(h:Ew P f (F++args++C) Q):Aw1 P (.func (.func f) F C) args Q:=fun H=>(h H).value
section
variable {P:Program}{nt:Nat}{rd:Option Nat}{E:Eu}(hE:E=G7 P nt rd)
include hE
end
end Go.Ab
namespace Go.Ab
open Go.RowKit
variable [K9]
theorem J0.thaw {P:Program} {f:FuncId} {args:List V} {H:A1} {K K':V→A1→Prop} (h:J0 P f args H K)
 (hk:∀x H',K x H'→K' x H'∨∃id sz row lo n,x= .own id lo n∧H' id=some (.arr sz row)∧K' (.sl (L1 row lo n) .ro) (upd H' id none)):J0 P f args H K':=
 fun g w vals hR hA=>(h g w vals hR hA).mono fun v w' ⟨g',x,H',s,hR',hv,hK⟩=>by
  rcases hk x H' hK with hK|⟨id,sz,row,lo,n,rfl,h1,h2⟩
  ·grind [K6]
  obtain⟨g2,s2,R2,hv2⟩:=hR'.freezeArr h1;exact⟨g2,_,_,s.trans s2,R2,hv2 _ _ _ (hv.mono s2),h2⟩
section
variable [Ar]{P:Program}{T:FQ}
theorem T9 {f:FuncId} {fn:Func} {c:Code} {n:Nat} {rs:List ResultVar} {args:List V} {r:V} (cf:Cf) (hP:OM P T) (hf:P.funcs[f]? =some fn) (hb:fn.body=some c) (hd:I8 cf c=true)
 (hcall:∀vals w,(callFunc f vals).run P w= .ok (.enter f vals) w) (hnt:fn.ntmps=n) (hrs:fn.results.toList=rs) (hn:Nat.ble args.length n=true)
 (h:∀(E:Eu) (H:A1) (K:V→A1→Prop),E=G7 P n none→(∀x L H',B6 Eq H L H'→BQ x r→K x H')→
  (∀(q:OG) (sz:Nat) (xs:List V) (i:Nat) (L:List En) H',B6 Eq H L H'→L[i]? =some (.blk q.id (.arr sz (q.pre++xs++q.rest)))→Al q (xs.length:Nat)→BQ (.sl xs .ro) r→K (.own q.id q.lo q.n) H')→run E T n cf c ⟨BN args 0,[]⟩ H (Mx E T rs K)):C5 P f args r:=fun H=>by
 refine J0.le ?_
 refine(U0 (K:=fun x H'=>(∃y H2,BQ x y∧FD H2 H'∧y=r∧H2=H)∨∃(q:OG) (sz:Nat) (xs:List V) (i:Nat) (L:List En),x= .own q.id q.lo q.n∧B6 Eq H L H'∧L[i]? =some (.blk q.id (.arr sz (q.pre++xs++q.rest)))∧Al q (xs.length:Nat)∧BQ (.sl xs .ro) r)
  cf hP.1 hP.2 hf hb hd hcall hnt hrs hn fun E hE=>?_).thaw ?_
 ·exact h E H _ hE (fun x L H' hO hx=>.inl ⟨r,H,hx,hO.ext,rfl,rfl⟩) fun q sz xs i L H' hO hi hq hr=>.inr ⟨q,sz,xs,i,L,rfl,hO,hi,hq,hr⟩
 rintro x H' (h|⟨q,sz,xs,i,L,rfl,hO,hi,hq,hr⟩)
 ·exact .inl h
 refine .inr ⟨q.id,sz,_,q.lo,q.n,rfl,hO.get i hi,r,H,?_,(hO.del i hi).ext,rfl,rfl⟩;rw[OV rfl hq.1 hq.2];exact hr
end
end Go.Ab
namespace Go.Ab
open Go.RowKit
variable [K9][Ar]
section
variable {P:Program}{nt:Nat}{rd:Option Nat}{T:FQ}{E:Eu}{I:List (List V)→A1→A1→Prop}{D:A1→A1→Prop}
theorem B6.hle {Φ:A1→A1→Prop}{F H H':A1}{L:List En}(h:B6 Φ F L H)(hl:FD H H'):B6 Φ F L H':=by
 grind [B6,FD]
theorem Aa2 (hE:E=G7 P nt rd) {α R:Type} {f:α→V} {sz:Nat} (hsz:∀x,(f x).cells.length=sz) {l:List α} {tl:E5} {lo:Option Int} {m:Int} {k:V→Prop} {F:List α→Option R} {r:R} (h:(Ao l lo (some m) (some m)).bind F=some r)
 (hk:∀x,F x=some r→k (.sl (lst f x) .full)):E.slice sz (lst f l) tl lo (some m) (some m) k:=by
 subst hE;obtain⟨x,h1,h2⟩:=bind_some h
 unfold Ao at h1
 split at h1
 ·rename_i hc;obtain⟨c1,c2,c3,c4,c5⟩:=hc;cases h1;refine⟨?_,?_⟩
  ·rw[L5]
   simp_all[LB]
  have hm:m=(m.toNat:Int):=by grind
  have hc:EY (lo.getD 0).toNat m.toNat l.length (some m) tl= .full:=A2 hm;rw[L5,lst_eq,←IW,←IV]
  grind [lst_eq]
 cases h1
variable {α β σ:Type}
end
end Go.Ab
namespace Go.Ab
open Go.RowKit Go.MapKept
variable [K9][Ar]
section
variable {K X:Type}
def SW (P:Program)(f:FuncId)(args:List V)(d:TypeDesc)(kf:K→V)(vf:X→V)(m:List (K×X)):Prop:=
 ∀H,J0 P f args H fun v H'=>∃id o,H id=none∧CK d kf vf o m∧v= .map id∧H'=upd H id (some (.obj o))
end
section
variable {P:Program}{nt:Nat}{rd:Option Nat}{T:FQ}{E:Eu}
variable (hE:E=G7 P nt rd)
include hE
variable {K X R S:Type}{kf:K→V}{vf:X→V}{d:TypeDesc}{Φ:A1→A1→Prop}{H0 H:A1}{L:List En}{r:R}{fid:FuncId}{args args':List V}{k:V→A1→Prop}
theorem PC {m:Option (List (K×X))}{F:List (K×X)→Option R}(h:m.bind F=some r)(hc:∀x,m=some x→SW P fid args' d kf vf x)(hl:L8 args args')(hO:B6 Φ H0 L H)
 (hk:∀x id o H',CK d kf vf o x→B6 Φ H0 (.blk id (.obj o)::L) H'→F x=some r→k (.map id) H'):E.call (.func (.func fid) [] []) args H k:=by
 subst hE;obtain⟨x,h1,h2⟩:=bind_some h;refine J0.value (F:=[]) (C:=[]) ?_;simp only[P4,H7]
 exact((hc x h1 H).args hl).mono fun v H' ⟨id,o,e1,e2,e3,e4⟩=>by subst e3;subst e4;exact hk x id o _ e2 (hO.push e1 rfl) h2
end
theorem B6.ne {Φ:A1→A1→Prop}{F H:A1}{L:List En}{a b:Nat}{x y:CT}(h:B6 Φ F L H)(i j:Nat)(hi:L[i]? =some (.blk a x))(hj:L[j]? =some (.blk b y))(hij:i≠j):a≠b:=fun e=>by
 obtain⟨hs,F',H1,h0,h1,h2⟩:=h;subst e;exact hij (h0.inj i j _ _ a x y hi hj rfl rfl)
section
variable {P:Program}{T:FQ}{f:FuncId}{fn:Func}{c:Code}{n:Nat}{rs:List ResultVar}{args:List V}{K X:Type}{kf:K→V}{vf:X→V}{d:TypeDesc}
theorem Qg {m:List (K×X)}(cf:Cf)(hP:OM P T)(hf:P.funcs[f]? =some fn)(hb:fn.body=some c)(hd:I8 cf c=true)
 (hcall:∀vals w,(callFunc f vals).run P w= .ok (.enter f vals) w) (hnt:fn.ntmps=n) (hrs:fn.results.toList=rs) (hn:Nat.ble args.length n=true)
 (h:∀(E:Eu) (H:A1) (k:V→A1→Prop),E=G7 P n none→(∀id o (L:List En) (i:Nat) H',CK d kf vf o m→L[i]? =some (.blk id (.obj o))→B6 Eq H L H'→k (.map id) H')→run E T n cf c ⟨BN args 0,[]⟩ H (Mx E T rs k)):SW P f args d kf vf m:=fun H=>by
 refine J0.le (U0 (K:=fun x H'=>∃y H2,BQ x y∧FD H2 H'∧∃id o,H id=none∧CK d kf vf o m∧y= .map id∧H2=upd H id (some (.obj o))) cf hP.1 hP.2 hf hb hd hcall hnt hrs hn fun E hE=>?_);refine h E H _ hE fun id o L i H' hq hi hO=>?_;obtain⟨h1,h2⟩:=(hO.only i hi).last;exact⟨_,_,.refl _,h2,id,o,h1,hq,rfl,rfl⟩
end
section
variable {K X:Type}
def UZ (kf:K→V) (vf:X→V) (o:Obj) (mid:Nat) (b:CT) (left:List (K×X)):Prop:=
 ∃(es:Array MapEntry) (clock:Nat) (seen:Array Nat) (zs:List (MapEntry×(K×X))),o= .map es clock∧b= .iter mid clock seen clock∧IQ es clock∧zs.map (·.1)=(leftOf es seen).toList∧
  (∀z∈zs,Bh (kf z.2.1)=some z.1.key∧Bh (vf z.2.2)=some z.1.val)∧(zs.map (·.2)).Perm left
def ItAt (kf:K→V)(vf:X→V)(o:Obj)(mid:Nat)(b:CT)(left:List (K×X))(p:K×X):Prop:=
 UZ kf vf o mid b left∧∃(es:Array MapEntry) (clock:Nat) (seen:Array Nat) (e:MapEntry),o= .map es clock∧b= .iter mid clock (seen.push e.born) clock∧e∈es.toList∧Bh (kf p.1)=some e.key∧Bh (vf p.2)=some e.val
theorem Rf {α:Type} (key:α→Nat):∀{l:List α} {x:α},(l.map key).Nodup→x∈l→l.Perm (x::l.filter fun y=> !(key y==key x))
 | a::l,x,hn,hx=>by
  rw[E9,GV]at hn
  rcases List.mem_cons.1 hx with rfl|hx
  ·have:l.filter (fun y=> !(key y==key x))=l:=List.filter_eq_self.2 fun y hy=>by
    have:key y≠key x:=fun e=>hn.1 (List.mem_map.2 ⟨y,hy,e⟩);simp[this]
   rw[Fd,A3 (by simp),this]
  have hne:key a≠key x:=fun e=>hn.1 (List.mem_map.2 ⟨x,hx,e.symm⟩);rw[Fd,A2 (by simp[hne])];exact((Rf key hn.2 hx).cons a).trans (List.Perm.swap _ _ _)
theorem Ym (es:Array MapEntry)(seen:Array Nat)(b:Nat):(leftOf es (seen.push b)).toList=(leftOf es seen).toList.filter fun y=> !(y.born==b):=by
 unfold leftOf;rw[Hc,Hc,List.filter_filter]
 grind
theorem VS {d:TypeDesc} {kf:K→V} {vf:X→V} {es:Array MapEntry} {clock:Nat} {m:List (K×X)} (h:CK d kf vf (.map es clock) m) (mid:Nat):UZ kf vf (.map es clock) mid (.iter mid clock #[] clock) m:=by
 obtain⟨m',⟨⟨es',c',e1,e2⟩,hk,hn,hst⟩,hp⟩:=h;cases e1
 have hlen:es.toList.length=m'.length:=by have:=O8 List.length e2;grind
 refine⟨es,clock, #[],es.toList.zip m',rfl,rfl,hst _ _ rfl,?_,fun z hz=>?_,?_⟩
 ·have:(leftOf es #[]).toList=es.toList:=by
   unfold leftOf;rw[Hc]
   simp_all
  rw[this,List.map_fst_zip (by omega)]
 ·obtain⟨i,hi,e⟩:=Z9 hz
  have hi':i<min es.toList.length m'.length:=by grind
  have h1:i<es.toList.length:=by omega
  have h2:i<m'.length:=by omega
  have:=O8 (fun l=>l[i]?) e2
  grind
 grind [List.map_snd_zip]
end
section
variable {P:Program}{nt:Nat}{rd:Option Nat}{T:FQ}{E:Eu}
variable (hE:E=G7 P nt rd)
include hE
variable {K X:Type}{kf:K→V}{vf:X→V}{d:TypeDesc}{Φ:A1→A1→Prop}{H0 H:A1}{L:List En}{k:V→A1→Prop}{m left:List (K×X)}{o:Obj}{mid it:Nat}{b:CT}{p:K×X}
theorem WV {t kt et:Nat}(hm:P.underlying t=some (.map kt et))(hO:B6 Φ H0 L H)(h1:H mid=some (.obj o))(hq:CK d kf vf o m)
 (hk:∀it b H',UZ kf vf o mid b m→B6 Φ H0 (.blk it b::L) H'→k (.ref it 0) H'):E.mrg t H (.map mid) k:=by
 subst hE
 obtain⟨es,clock,e⟩:∃es clock,o= .map es clock:=by obtain⟨_,⟨⟨es,c,e,_⟩,_⟩,_⟩:=hq;simp_all
 subst e;exact⟨kt,et,mid,es,clock,hm,rfl,h1,fun id hid=>hk id _ _ (VS hq mid) (hO.push hid rfl)⟩
theorem WW (hO:B6 Φ H0 L H) (hI:UZ kf vf o mid b left) (i:Nat) (hi:L[i]? =some (.blk it b)) (h1:H mid=some (.obj o)) (h0:left=[]→k (.tup [.bool false]) H)
 (hk:∀p left' b' H',left.Perm (p::left')→ItAt kf vf o mid b' left' p→B6 Φ H0 (L.set i (.blk it b')) H'→k (.tup [.bool true,.bad,.bad]) H'):E.mnx H (.ref it 0) k:=by
 subst hE;obtain⟨es,clock,seen,zs,rfl,rfl,hst,z1,z2,z3⟩:=hI
 have hlen:zs.length=(leftOf es seen).size:=by have:=O8 List.length z1;grind
 refine⟨it,mid,clock,seen,clock,es,clock,rfl,hO.get i hi,h1,hst.1,D1 _,fun hs=>h0 ?_,fun e he=>?_⟩
 ·have:zs=[]:=Ig (by omega)
  simp_all
 have he':e∈zs.map (·.1):=by rw[z1];exact he
 obtain⟨z,hz,rfl⟩:=List.mem_map.1 he'
 have hnd:(zs.map fun z=>z.1.born).Nodup:=by
  have e0:(zs.map fun z=>z.1.born)=(leftOf es seen).toList.map (·.born):=by rw[←z1,GP];rfl
  rw[e0]
  have hs:(leftOf es seen).toList.Sublist es.toList:=by unfold leftOf;rw[Hc];simp_all
  exact(hs.map _).nodup hst.2
 have hp:=Rf (fun z:MapEntry×(K×X)=>z.1.born) hnd hz;refine hk z.2 ((zs.filter fun y=> !(y.1.born==z.1.born)).map (·.2)) _ _ (z3.symm.trans (hp.map (·.2))) ⟨⟨es,clock,_,zs.filter fun y=> !(y.1.born==z.1.born),rfl,rfl,hst,?_,fun y hy=>z2 y (List.mem_filter.1 hy).1,.refl _⟩,es,clock,seen,z.1,rfl,rfl,?_,(z2 z hz).1,(z2 z hz).2⟩ (hO.set i hi)
 ·rw[Ym,←z1,List.filter_map];rfl
 exact(mem_left he).1
theorem WX (hO:B6 Φ H0 L H)(hI:ItAt kf vf o mid b left p)(i:Nat)(hi:L[i]? =some (.blk it b))(h1:H mid=some (.obj o))(hk:k (.tup [kf p.1,vf p.2]) H):E.men H (.ref it 0) k:=by
 subst hE;obtain⟨⟨es0,c0,_,_,e0,_,hst,_⟩,es,clock,seen,e,rfl,rfl,he,h3,h4⟩:=hI;cases e0;exact⟨it,mid,c0,seen,c0,es0,c0,e,_,_,rfl,hO.get i hi,rfl,h1,he,hst.2,h3,h4,hk⟩
end
end Go.Ab
namespace Go.Ab
variable [K9]
theorem Aa4 {E:Eu}{t:Nat}{H:A1}{m y y':V}{ok:Bool}{k:V→Prop}(hy:y'=y)(h:E.mget t H m y' ok k):E.mget t H m y ok k:=hy▸h
theorem Sq {E:Eu}{t:Nat}{H:A1}{m y y' v:V}{k:A1→Prop}(hy:y'=y)(h:E.mset t H m y' v k):E.mset t H m y v k:=hy▸h
end Go.Ab
namespace Go.Ab
open Go.RowKit
variable [K9][Ar]
theorem CK.srt {X:Type}{d:TypeDesc}{kf:Int→V}{vf:X→V}{o:Obj}{m:List (Int×X)}(h:CK d kf vf o m):CK d kf vf o (DV m):=h.perm (Gx m).symm
section
variable {P:Program}{nt:Nat}{rd:Option Nat}{T:FQ}{E:Eu}
theorem OD (cf:Cf) (hE:E=G7 P nt rd) (hP:OM P T) {K X σ γ R ρ:Type} [DecidableEq ρ] {kf:K→V} {vf:X→V} {o:Obj} {mid:Nat} {step:σ→K×X→Option (σ⊕R)} {fin:σ→R} {nrm:R→ρ} {c:Code} {st:St} {H:A1} {Kc:Exit→St→A1→Prop}
 (fm:σ→γ→Fl) (Inv:σ→γ→List Nat→CT→A1→Prop) (Xr:ρ→Exit→Fl→List Nat→A1→Prop) (hd:I8 cf c=true)
 (round:∀s g ds left b H,UZ kf vf o mid b left→Inv s g ds b H→(∀p left',left.Perm (p::left')→∃o,step s p=some o)→run E T nt cf c ⟨fm s g,ds⟩ H fun e st' H'=>match e with
  | .normal=>∃p left' s' g' b' ds',left.Perm (p::left')∧step s p=some (.inl s')∧FV st'.l (fm s' g')∧st'.df=ds'∧UZ kf vf o mid b' left'∧Inv s' g' ds' b' H'
  |e=>∃x l ds',(left=[]∧x=fin s∨∃p left',left.Perm (p::left')∧step s p=some (.inr x))∧Xr (nrm x) e l ds' H'∧FV st'.l l∧st'.df=ds')
 {m:List (K×X)} {s0:σ} (g0:γ) {b0:CT} {r:ρ} (h:CO step fin nrm m s0=some r) (hf:FV st.l (fm s0 g0)) (hb:UZ kf vf o mid b0 m) (hI:Inv s0 g0 st.df b0 H) (after:∀e l ds H',Xr r e l ds H'→Kc e ⟨l,ds⟩ H'):E.sim (.loop c) st H Kc:=by
 subst hE
 refine S0.loopN (fun n fr' H'=>∃s g left b ds,left.length=n∧(∀m',m'.Perm left→∃q,G0 step m' s=some q∧nrm (Yw fin q)=r)∧CZ fr' ⟨fm s g,ds⟩∧UZ kf vf o mid b left∧Inv s g ds b H') m.length
  ⟨s0,g0,m,b0,st.df,rfl,fun m' hm=>TP h hm,⟨fun t=>hf.wk t,rfl⟩,hb,hI⟩ fun n fr' H' ⟨s,g,left,b,ds,hn,hr,hle,hit,hi⟩=>?_
 have stp:∀p left',left.Perm (p::left')→∃o,step s p=some o:=fun p left' hp=>by
  obtain⟨q,h1,_⟩:=hr _ hp.symm
  simp only[G0]at h1
  cases ho:step s p with
  |none=>rw[ho]at h1;cases h1
  |some o=>exact⟨o,rfl⟩
 refine S0.frLe hle ((L3 hP.1 hP.2 c _ _ _ hd (round s g ds left b H' hit hi stp)).mono fun e fr2 H2 ⟨st',hle',hq⟩=>?_)
 cases e with
 | normal=>
  obtain⟨p,left',s',g',b',ds',h0,h1,h2,h3,h4,h5⟩:=hq;refine⟨left'.length,?_,s',g',left',b',ds',rfl,fun m' hm=>?_,⟨fun t=>(hle'.s t).trans (h2.wk t),hle'.df.trans h3⟩,h4,h5⟩
  ·have:=h0.length_eq
   simp only[M2]at this
   omega
  obtain⟨q,q1,q2⟩:=hr (p::m') ((hm.cons p).trans h0.symm)
  simp only[G0,h1]at q1
  exact⟨q,q1,q2⟩
 | _=>
  obtain⟨x,l,ds',h1,h4,h2,h3⟩:=hq;refine⟨⟨l,ds'⟩,⟨fun t=>(hle'.s t).trans (h2.wk t),hle'.df.trans h3⟩,after _ _ _ _ ?_⟩
  have:nrm x=r:=by
   rcases h1 with⟨e1,e2⟩|⟨p,left',hp,e2⟩
   ·subst e1;subst e2;obtain⟨q,q1,q2⟩:=hr [] (.refl _)
    simp only[G0,D9]at q1
    subst q1;exact q2
   obtain⟨q,q1,q2⟩:=hr _ hp.symm
   simp only[G0,e2,D9]at q1
   subst q1;exact q2
  rw[←this];exact h4
theorem Mk (cf:Cf) (hE:E=G7 P nt rd) (hP:OM P T) {σ γ R:Type} {step:σ→Option (σ⊕R)} {c:Code} {st:St} {H:A1} {K:Exit→St→A1→Prop} (fm:σ→γ→Fl) (Inv:σ→γ→List Nat→A1→Prop) (X:R→Exit→Fl→List Nat→A1→Prop) (hd:I8 cf c=true)
 (round:∀s g ds H o,Inv s g ds H→step s=some o→run E T nt cf c ⟨fm s g,ds⟩ H fun e st' H'=>match e with
  | .normal=>∃s' g' ds',o= .inl s'∧FV st'.l (fm s' g')∧st'.df=ds'∧Inv s' g' ds' H'
  |e=>∃x l ds',o= .inr x∧X x e l ds' H'∧FV st'.l l∧st'.df=ds')
 {N:Nat} {s0:σ} (g0:γ) {r:R} (h:loopN step N s0=some r) (hf:FV st.l (fm s0 g0)) (hI:Inv s0 g0 st.df H) (after:∀e l ds H',X r e l ds H'→K e ⟨l,ds⟩ H'):E.sim (.loop c) st H K:=by
 subst hE;refine S0.loopN (fun n fr' H'=>∃s g ds,loopN step n s=some r∧CZ fr' ⟨fm s g,ds⟩∧Inv s g ds H') N ⟨s0,g0,st.df,h,⟨fun t=>hf.wk t,rfl⟩,hI⟩ fun n fr' H' ⟨s,g,ds,hs,hle,hi⟩=>?_
 cases n with
 |zero=>cases hs
 | succ n=>
  simp only[loopN]at hs
  cases ho:step s with
  |none=>rw[ho]at hs;cases hs
  | some o=>
   rw[ho]at hs
   refine S0.frLe hle ((L3 hP.1 hP.2 c _ _ _ hd (round s g ds H' o hi ho)).mono fun e fr2 H2 ⟨st',hle',hq⟩=>?_)
   cases e with
   |normal=>
    obtain⟨s',g',ds',h1,h2,h3,h4⟩:=hq;subst h1;exact⟨n,Fe n,s',g',ds',hs,⟨fun t=>(hle'.s t).trans (h2.wk t),hle'.df.trans h3⟩,h4⟩
   |_=>
    obtain⟨x,l,ds',h1,h4,h2,h3⟩:=hq;subst h1;cases hs;exact⟨⟨l,ds'⟩,⟨fun t=>(hle'.s t).trans (h2.wk t),hle'.df.trans h3⟩,after _ _ _ _ h4⟩
end
end Go.Ab
namespace Go.Ab
open Go.RowKit
variable [K9][Ar]
def GL (H:A1):List (Nat×CT)→A1
 |[]=>H
 |p::r=>upd (GL H r) p.1 none
def LN :List (Nat×CT)→List En
 |[]=>[]
 |p::r=>.blk p.1 p.2::LN r
def apart :List Nat→Prop
 |[]=>True
 |a::l=>(∀b∈l,a≠b)∧apart l
theorem Qp (a:Nat):apart [a]:=⟨fun _ h=>(nomatch h),trivial⟩
theorem Qo {a:Nat}{l:List Nat}(h:∀b∈l,a≠b)(k:apart l):apart (a::l):=⟨h,k⟩
theorem ne0 {a:Nat}:∀b∈([]:List Nat),a≠b:=fun _ h=>(nomatch h)
theorem neC {a b:Nat}{l:List Nat}(h:a≠b)(k:∀c∈l,a≠c):∀c∈b::l,a≠c:=fun c hc=>by
 rcases List.mem_cons.1 hc with rfl|hc
 ·exact h
 exact k c hc
theorem at0 {H:A1}:∀p∈([]:List (Nat×CT)),H p.1=some p.2:=fun _ h=>(nomatch h)
theorem atC {H:A1}{a:Nat}{b:CT}{l:List (Nat×CT)}(h:H a=some b)(k:∀p∈l,H p.1=some p.2):∀p∈(a,b)::l,H p.1=some p.2:=fun p hp=>by
 rcases List.mem_cons.1 hp with rfl|hp
 ·exact h
 exact k p hp
def SV (P:Program)(f:FuncId)(args:List V)(bs:List (Nat×CT))(x:V):Prop:=
 ∀H,apart (bs.map (·.1))→(∀p∈bs,H p.1=some p.2)→J0 P f args H fun v H'=>v=x∧H'=H
theorem Og {H:A1}:∀{bs:List (Nat×CT)} {p:Nat×CT},p∈bs→GL H bs p.1=none
 |q::bs,p,h=>by
  unfold GL
  by_cases e:p.1=q.1
  ·rw[e,C8]
  rw[C1 _ _ e]
  rcases List.mem_cons.1 h with rfl|h
  ·exact absurd rfl e
  exact Og h
theorem Pt {F:A1}:∀{bs:List (Nat×CT)},apart (bs.map (·.1))→(∀p∈bs,F p.1=none)→∃H,B6 Eq F (LN bs) H∧(∀p∈bs,H p.1=some p.2)∧∀x,(∀p∈bs,p.1≠x)→H x=F x
 |[],_,_=>⟨F,B6.start C4 rfl,fun _ h=>(nomatch h),fun _ _=>rfl⟩
 | p::bs,ha,hn=>by
  obtain⟨H,h1,h2,h3⟩:=Pt (F:=F) (bs:=bs) ha.2 fun q hq=>hn q (J7 _ hq)
  have hp:H p.1=none:=by
   rw[h3 p.1 fun q hq e=>ha.1 q.1 (List.mem_map.2 ⟨q,hq,rfl⟩) e.symm];exact hn p (by simp)
  refine⟨upd H p.1 (some p.2),h1.push hp rfl,fun q hq=>?_,fun x hx=>?_⟩
  ·rcases List.mem_cons.1 hq with rfl|hq
   ·exact C8 _ _ _
   rw[C1 _ _ fun e=>ha.1 q.1 (List.mem_map.2 ⟨q,hq,rfl⟩) e.symm];exact h2 q hq
  rw[C1 _ _ fun e=>hx p (by simp) e.symm];exact h3 x fun q hq=>hx q (J7 _ hq)
theorem Aj9 {H:A1} {bs:List (Nat×CT)} (ha:apart (bs.map (·.1))) (hH:∀p∈bs,H p.1=some p.2):B6 Eq (GL H bs) (LN bs) H:=by
 obtain⟨H',h1,h2,h3⟩:=Pt (F:=GL H bs) ha fun p hp=>Og hp
 have:H'=H:=by
  funext x
  by_cases hx:∃p∈bs,p.1=x
  ·obtain⟨p,hp,rfl⟩:=hx;rw[h2 p hp,hH p hp]
  have hx':∀p∈bs,p.1≠x:=fun p hp e=>hx ⟨p,hp,e⟩;rw[h3 x hx'];clear h1 h2 h3 ha hH hx
  induction bs with
  |nil=>rfl
  |cons q bs ih=>
   unfold GL;rw[C1 _ _ fun e=>hx' q (by simp) e.symm];exact ih fun p hp=>hx' p (J7 _ hp)
 rwa[this]at h1
theorem RF :∀{bs:List (Nat×CT)} {p:Nat×CT},p∈bs→∃i:Nat,(LN bs)[i]? =some (En.blk p.1 p.2)
 |q::bs,p,h=>by
  rcases List.mem_cons.1 h with rfl|h
  ·exact⟨0,rfl⟩
  obtain⟨i,hi⟩:=RF h;exact⟨i+1,by simpa[LN]using hi⟩
section
variable {P:Program}{T:FQ}{f:FuncId}{fn:Func}{c:Code}{n:Nat}{rs:List ResultVar}{args:List V}
theorem Qc {bs:List (Nat×CT)} {x:V} (cf:Cf) (hP:OM P T) (hf:P.funcs[f]? =some fn) (hb:fn.body=some c) (hd:I8 cf c=true)
 (hcall:∀vals w,(callFunc f vals).run P w= .ok (.enter f vals) w) (hnt:fn.ntmps=n) (hrs:fn.results.toList=rs) (hn:Nat.ble args.length n=true)
 (h:∀(E:Eu) (H:A1) (k:V→A1→Prop),E=G7 P n none→B6 Eq (GL H bs) (LN bs) H→(∀v H',B6 Eq (GL H bs) (LN bs) H'→BQ v x→k v H')→run E T n cf c ⟨BN args 0,[]⟩ H (Mx E T rs k)):SV P f args bs x:=fun H ha hH=>by
 refine J0.le (U0 (K:=fun v H'=>∃y H2,BQ v y∧FD H2 H'∧y=x∧H2=H) cf hP.1 hP.2 hf hb hd hcall hnt hrs hn fun E hE=>?_);refine h E H _ hE (Aj9 ha hH) fun v H' hO hv=>⟨_,_,hv,?_,rfl,rfl⟩;intro y b hy
 by_cases hx:∃p∈bs,p.1=y
 ·obtain⟨p,hp,rfl⟩:=hx;obtain⟨i,hi⟩:=RF hp
  rw[hH p hp]at hy;cases hy
  exact hO.get i hi
 refine hO.ext _ _ ?_;rw[←hy];have hx':∀p∈bs,p.1≠y:=fun p hp e=>hx ⟨p,hp,e⟩;clear hy hO hH ha hx h
 induction bs with
 |nil=>rfl
 |cons q bs ih=>
  unfold GL;rw[C1 _ _ fun e=>hx' q (by simp) e.symm];exact ih fun p hp=>hx' p (J7 _ hp)
end
section
variable {P:Program}{nt:Nat}{rd:Option Nat}{T:FQ}{E:Eu}
theorem JX (hE:E=G7 P nt rd){R α:Type}{fid:FuncId}{F0 C0 args args':List V}{bs:List (Nat×CT)}{m:Option α}{g:α→V}{F:α→Option R}{r:R}{H:A1}{k:V→A1→Prop}(h:m.bind F=some r)(hc:∀x,m=some x→SV P fid (F0++args'++C0) bs (g x))(hl:L8 (F0++args++C0) (F0++args'++C0))
 (ha:apart (bs.map (·.1))) (hH:∀p∈bs,H p.1=some p.2) (hk:∀x,F x=some r→k (g x) H):E.call (.func (.func fid) F0 C0) args H k:=by
 subst hE;obtain⟨x,h2,h3⟩:=bind_some h;refine J0.value (F:=F0) (C:=C0) ?_
 refine J0.mono (J0.args (hc x h2 H ha hH) hl) fun v H' ⟨e1,e2⟩=>by subst e1;subst e2;exact hk x h3
end
end Go.Ab
namespace Go.Ab
variable [K9][Ar]
section
variable {P:Program}{nt:Nat}{rd:Option Nat}{E:Eu}(hE:E=G7 P nt rd){Φ:A1→A1→Prop}{H0 H:A1}{L:List En}
include hE
end
end Go.Ab
namespace Go.Ab
open Go.RowKit
variable [K9][Ar]
def Ap1 (e e':En):Prop:=∀id b b',e.id=some (id,b)→e'.id=some (id,b')→False
theorem BP.perm {H0 H:A1} {L L':List En} (h:BP H0 L H) (p:L.Perm L'):BP H0 L' H:=by
 have hp:L.Pairwise Ap1:=by
  rw[Jx];intro i j hi hj hlt id b b' e1 e2;have:=h.inj i j _ _ id b b' (E2 hi) (E2 hj) e1 e2;omega
 have hp':L'.Pairwise Ap1:=(p.pairwise_iff (fun{x y} (h:Ap1 x y) id b b' e1 e2=>h id b' b e2 e1)).1 hp
 rw[Jx]at hp'
 refine⟨h.ext,fun i e id b hi he=>?_,fun i j e e' id b b' hi hj he he'=>?_,fun x b hx=>(h.only x b hx).imp (fun h=>h) fun⟨i,e,h1,h2⟩=>?_⟩
 ·obtain⟨j,hj⟩:=M3 (p.mem_iff.2 (I7 hi));exact h.has j e id b hj he
 ·grind [Ap1]
 obtain⟨j,hj⟩:=M3 (p.mem_iff.1 (I7 h1))
 grind
theorem B6.perm {Φ:A1→A1→Prop}{F H:A1}{L L':List En}(h:B6 Φ F L H)(p:L.Perm L'):B6 Φ F L' H:=
 let⟨hs,F',H1,h0,h1,h2⟩:=h;⟨hs,F',H1,h0.perm p,h1,h2⟩
structure Rw (α:Type) where
 q:OG
 row:List (List α×E5)
variable {α:Type}(f:α→V)
def Az3 (c:List α×E5):V:=.sl (lst f c.1) c.2
def WK (w:Rw α):En:=.blk w.q.id (.arr 1 (w.q.pre++lst (Az3 f) w.row++w.q.rest))
def rwL (w:Rw α):List En:=WK f w::w.row.map fun c=>.tl c.2
def fo :List (Rw α)→List En
 |[]=>[]
 |w::F=>rwL f w++fo F
variable {f}
theorem Ad1 :∀(F G:List (Rw α)),fo f (F++G)=fo f F++fo f G
 |[],_=>rfl
 |w::F,G=>by rw[Fg,fo,fo,Ad1 F G,E7]
theorem Ux :∀{F:List (Rw α)} {c:Nat} {w:Rw α},F[c]? =some w→∃R,(fo f F).Perm (rwL f w++R)∧∀w',(fo f (F.set c w')).Perm (rwL f w'++R)
 |[],_,_,h=>by simp at h
 |v::F,0,w,h=>by
  simp at h;subst h
  exact⟨fo f F,.refl _,fun w'=>.refl _⟩
 | v::F,c+1,w,h=>by
  obtain⟨R,h1,h2⟩:=Ux (F:=F) (c:=c) (w:=w) (by grind)
  have key:∀(X Y:List En),X.Perm (Y++R)→(rwL f v++X).Perm (Y++(rwL f v++R)):=fun X Y hX=>
   (hX.append_left _).trans (by
    rw[←E7,←E7]
    exact List.perm_append_comm.append_right R)
  grind [fo]
theorem QZ :∀{row:List (List α×E5)} {i:Nat} {c:List α×E5},row[i]? =some c→∃R,(row.map fun c=>En.tl c.2).Perm (.tl c.2::R)∧∀c',((row.set i c').map fun c=>En.tl c.2).Perm (.tl c'.2::R)
 |[],_,_,h=>by simp at h
 |v::F,0,w,h=>by
  simp at h;subst h
  exact⟨F.map fun c=>.tl c.2,.refl _,fun w'=>.refl _⟩
 |v::F,i+1,w,h=>by
  obtain⟨R,h1,h2⟩:=QZ (row:=F) (i:=i) (c:=w) (by grind);exact⟨.tl v.2::R,(h1.cons _).trans (.swap ..),fun w'=>((h2 w').cons _).trans (.swap ..)⟩
theorem Wn {F:List (Rw α)} {c i:Nat} {w:Rw α} {x:List α×E5} (hc:F[c]? =some w) (hi:w.row[i]? =some x):
 ∃R,(fo f F).Perm (.tl x.2::WK f w::R)∧∀x',(fo f (F.set c ⟨w.q,w.row.set i x'⟩)).Perm (.tl x'.2::WK f ⟨w.q,w.row.set i x'⟩::R):=by
 obtain⟨R,h1,h2⟩:=Ux (f:=f) hc;obtain⟨S,k1,k2⟩:=QZ hi
 have key:∀(b:En) (X:List En) (t:En),X.Perm (t::S)→(b::(X++R)).Perm (t::b::(S++R)):=fun b X t hX=>
  ((hX.append_right R).cons b).trans (.swap ..)
 exact⟨S++R,h1.trans (key _ _ _ k1),fun x'=>(h2 _).trans (key _ _ _ (k2 x'))⟩
theorem B6.cell {Φ:A1→A1→Prop} {H0 H:A1} {b:En} {L:List En} {F:List (Rw α)} {c i:Nat} {w:Rw α} {x:List α×E5} (hO:B6 Φ H0 (b::(fo f F++L)) H) (hc:F[c]? =some w) (hi:w.row[i]? =some x):
 ∃R,B6 Φ H0 (.tl x.2::WK f w::b::R) H∧∀x' H',B6 Φ H0 (.tl x'.2::WK f ⟨w.q,w.row.set i x'⟩::b::R) H'→B6 Φ H0 (b::(fo f (F.set c ⟨w.q,w.row.set i x'⟩)++L)) H':=by
 obtain⟨R,h1,h2⟩:=Wn (f:=f) hc hi
 have key:∀(X:List En) (t r:En),X.Perm (t::r::R)→(b::(X++L)).Perm (t::r::b::(R++L)):=fun X t r h=>
  ((h.append_right L).cons b).trans ((List.Perm.swap t b _).trans ((List.Perm.swap r b _).cons t))
 exact⟨R++L,hO.perm (key _ _ _ h1),fun x' H' h=>h.perm (key _ _ _ (h2 x')).symm⟩
theorem B6.row {Φ:A1→A1→Prop} {H0 H:A1} {b b':En} {L:List En} {F:List (Rw α)} {w:Rw α} (hO:B6 Φ H0 (WK f w::b::b'::(fo f F++L)) H) (hw:∀c∈w.row,(En.tl c.2).id=none):B6 Φ H0 (b'::(fo f (F++[w])++(b::L))) H:=by
 have h1:∀(row:List (List α×E5)) (M:List En),(∀c∈row,(En.tl c.2).id=none)→B6 Φ H0 M H→B6 Φ H0 ((row.map fun c=>.tl c.2)++M) H:=by
  intro row
  induction row with
  |nil=>simp_all
  |cons c row ih=>grind [tl0]
 have h2:=h1 w.row _ hw hO;refine h2.perm ?_;rw[Ad1];simp only[fo,rwL,H7];generalize w.row.map (fun c=>En.tl c.2)=X;generalize fo f F=Y;have p1:(X++WK f w::b::b'::(Y++L)).Perm (WK f w::X++(b::b'::(Y++L))):=List.perm_middle
 have p2:(WK f w::X++(b::b'::(Y++L))).Perm (b'::(WK f w::X++(b::(Y++L)))):=
  ((List.Perm.swap b' b (Y++L)).append_left (WK f w::X)).trans List.perm_middle
 refine p1.trans (p2.trans (.cons b' ?_));have p3:(WK f w::X++(b::(Y++L))).Perm (WK f w::X++(Y++b::L)):=(List.perm_middle.symm).append_left _;refine p3.trans ?_;rw[←E7];exact(List.perm_append_comm (l₁:=WK f w::X) (l₂:=Y)).append_right _
end Go.Ab
