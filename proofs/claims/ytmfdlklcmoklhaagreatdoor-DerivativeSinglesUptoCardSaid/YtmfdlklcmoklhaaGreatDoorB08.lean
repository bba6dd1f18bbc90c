/- AbB10 AbS4 AbS7 AbC1 AbK3 AbT1 AbB14 AbB11 AbH1 AbH4 AbK2 AbS3 AbC2 AbC4 AbE1 AbB16 AbB20 AbB12 -/
import Derived.Test.YtmfdlklcmoklhaaGreatDoorB07
import Derived.Sort.Grow
import Derived.Shelf.Strconv.Itoa1
import Derived.KernelRfl
import Derived.Shelf.SlSortCmp.NoneTotal
set_option linter.all false
open List (Nodup)
open Go.Ab.Ar (len_eq lst lst_eq)
namespace Go.Ab
open Go.RowKit
theorem AN7 [M9][Ar]{pre xs rest row vs row1:List V}{lo n mm m:Int}(hr:row=pre++xs++rest)(e1:lo=(pre.length:Nat))(e2:n=(xs.length:Nat))(e3:mm=(vs.length:Nat))(q5:m=n+mm)(hr1:row1=Bq row (lo+n).toNat vs):
 row1=pre++(xs++vs)++rest.drop vs.length∧m=((xs++vs).length:Nat):=by
 grind [Xu]
theorem AC7 {pre xs rest row vs row1:List V}{z:V}{j:Nat}{lo n mm m:Int}(hr:row=pre++xs++rest)(e1:lo=(pre.length:Nat))(e2:n=(xs.length:Nat))(e3:mm=(vs.length:Nat))(q5:m=n+mm)(hr1:row1=M4 row lo n++vs++List.replicate j z):
 row1=[]++(xs++vs)++List.replicate j z∧m=((xs++vs).length:Nat):=by
 simp_all[M4]
theorem AN6 {pre xs rest row vs row2 row3 row4:List V} {z:V} {jz:Nat} {lo n i mm d m l1 n1 l2 n2 l3 n3:Int} (hr:row=pre++xs++rest) (e1:lo=(pre.length:Nat)) (e2:n=(xs.length:Nat)) (e3:mm=(vs.length:Nat)) (h0:0≤i) (h1:i≤(xs.length:Nat))
 (qd:d=n+mm - i) (qm:m=i+d) (hr2:row2=M4 row lo i++List.replicate d.toNat z++List.replicate jz z) (q1:l1=i) (q2:n1=m - i) (hr3:row3=Bq row2 l1.toNat (vs.take n1.toNat)) (q3:l2=i+mm) (q4:n2=m - (i+mm))
 (q5:l3=lo+i) (q6:n3=n - i) (hr4:row4=Bq row3 l2.toNat ((M4 row l3 n3).take n2.toNat)):
 row4=[]++(xs.take i.toNat++vs++xs.drop i.toNat)++List.replicate jz z∧m=((xs.take i.toNat++vs++xs.drop i.toNat).length:Nat):=by
 have s1:M4 row lo i=xs.take i.toNat:=RP (A:=pre) (C:=xs.drop i.toNat++rest) (by rw[hr];grind [List.take_append_drop]) e1 (by simp;omega);have s2:M4 row l3 n3=xs.drop i.toNat:=RP (A:=pre++xs.take i.toNat) (C:=rest) (by rw[hr];simp_all) (by simp;omega) (by simp;omega);have hvt:vs.take n1.toNat=vs:=T8 (by omega);have hxt:(xs.drop i.toNat).take n2.toNat=xs.drop i.toNat:=T8 (by simp;omega)
 rw[s1]at hr2
 rw[hvt]at hr3
 rw[s2,hxt]at hr4
 have hz:List.replicate d.toNat z=List.replicate vs.length z++List.replicate (xs.drop i.toNat).length z:=by
  rw[Qz];grind
 rw[hz]at hr2
 have hr3':row3=xs.take i.toNat++vs++(List.replicate (xs.drop i.toNat).length z++List.replicate jz z):=by
  rw[hr3];exact MG (B:=List.replicate vs.length z) (by rw[hr2];grind) (by simp;omega) (by simp)
 refine⟨?_,by simp;omega⟩;rw[hr4,J1];rw[MG (A:=xs.take i.toNat++vs) (B:=List.replicate (xs.drop i.toNat).length z) (C:=List.replicate jz z) (by rw[hr3'];simp_all) (by simp;omega) (by simp)]
theorem AW0 {pre xs rest row vs row1 row2:List V} {lo n i mm m l0 l1 n1 l2 n2 l3 n3:Int} (hr:row=pre++xs++rest) (e1:lo=(pre.length:Nat)) (e2:n=(xs.length:Nat)) (e3:mm=(vs.length:Nat)) (h0:0≤i) (h1:i≤(xs.length:Nat)) {RL:Int} (hRL:RL=(row.length:Nat)) (hfit:lo+n+mm≤RL)
 (qm:m=n+mm) (ql:l0=lo) (q1:l1=l0+(i+mm)) (q2:n1=m - (i+mm)) (q3:l2=l0+i) (q4:n2=m - i) (hr1:row1=Bq row l1.toNat ((M4 row l2 n2).take n1.toNat)) (q5:l3=l0+i) (q6:n3=m - i) (hr2:row2=Bq row1 l3.toNat (vs.take n3.toNat)):
 row2=pre++(xs.take i.toNat++vs++xs.drop i.toNat)++rest.drop vs.length∧m=((xs.take i.toNat++vs++xs.drop i.toNat).length:Nat):=by
 have hrl:vs.length≤rest.length:=by grind
 have hvt:vs.take n3.toNat=vs:=T8 (by omega)
 have s2:(M4 row l2 n2).take n1.toNat=xs.drop i.toNat:=by
  have:M4 row l2 n2=xs.drop i.toNat++rest.take vs.length:=RP (A:=pre++xs.take i.toNat) (C:=rest.drop vs.length) (by
   rw[hr];grind [List.take_append_drop]) (by simp;omega) (by simp;omega)
  rw[this];rw[Lz (by simp;omega),T8 (by simp;omega)]
 rw[s2]at hr1
 rw[hvt]at hr2
 have hr1':row1=(pre++xs.take i.toNat++(xs.drop i.toNat++rest.take vs.length).take vs.length)++xs.drop i.toNat++rest.drop vs.length:=by
  rw[hr1];refine MG (B:=(xs.drop i.toNat++rest.take vs.length).drop vs.length) ?_ ?_ ?_
  ·rw[hr]
   grind [List.take_append_drop]
  ·simp;omega
  grind
 refine⟨?_,by simp;omega⟩;rw[hr2];rw[MG (A:=pre++xs.take i.toNat) (B:=(xs.drop i.toNat++rest.take vs.length).take vs.length) (C:=xs.drop i.toNat++rest.drop vs.length) (by rw[hr1'];simp_all) (by simp;omega) (by simp;omega)]
 simp_all
end Go.Ab
namespace Go.Ab
def Ae1 (l:List Int):Option ByteArray:=some (WJ l)
def NW {K X:Type}[DecidableEq K](m:List (K×X))(k:K)(z:X):Option (X×Bool):=some (match m.find? (fun p=>decide (p.1=k))with|some p=>(p.2,true)|none=>(z,false))
def MS {K X:Type}[DecidableEq K](m:List (K×X))(k:K)(v:X):Option (List (K×X)):=some (if m.any (fun p=>decide (p.1=k))=true then m.map (fun p=>if p.1=k then(k,v)else p)else m++[(k,v)])
end Go.Ab
namespace Go.Ab
variable {α:Type}
def Uv (cmp:α→α→Option Int)(a b:α):Bool:=match cmp a b with|some c=>decide (c<0)|none=>false
def geC (cmp:α→α→Option Int)(a b:α):Bool:=match cmp a b with|some c=>decide (0≤c)|none=>false
def ZV (lt:α→α→Bool)(x:α):List α→List α
 |[]=>[x]
 |y::l=>if lt x y then x::y::l else y::ZV lt x l
def NS (lt:α→α→Bool):List α→List α
 |[]=>[]
 |x::l=>ZV lt x (NS lt l)
def Da (cmp:α→α→Option Int):List α→Bool
 |[]=>true
 |a::r=>geC cmp a a&&r.all (fun b=>Uv cmp a b&&geC cmp b a)&&Da cmp r
def LG (cmp:α→α→Option Int)(l:List α):Option (List α):=
 if decide (l.length<4611686018427387904)&&Da cmp (NS (Uv cmp) l)then some (NS (Uv cmp) l)else none
theorem PO (lt:α→α→Bool) (x:α):∀l,(ZV lt x l).Perm (x::l)
 |[]=>.refl _
 |y::l=>by
  unfold ZV
  split
  ·exact .refl _
  exact((PO lt x l).cons y).trans (.swap _ _ _)
theorem Jj (lt:α→α→Bool):∀l,(NS lt l).Perm l
 |[]=>.refl _
 |x::l=>(PO lt x _).trans ((Jj lt l).cons x)
variable {cmp:α→α→Option Int}
theorem Zd {l r:List α} (h:LG cmp l=some r):r.Perm l∧Da cmp r=true∧l.length<4611686018427387904:=by
 unfold LG at h
 split at h
 ·rename_i hc;cases h
  simp only[F3,D9]at hc
  exact⟨Jj _ l,hc.2,hc.1⟩
 cases h
def Rel (cmp:α→α→Option Int)(a b:α):Prop:=Uv cmp a b=true∧geC cmp b a=true
theorem Fa :∀{r:List α},Da cmp r=true↔(∀a∈r,geC cmp a a=true)∧r.Pairwise (Rel cmp)
 |[]=>by simp[Da]
 |a::r=>by
  simp only[Da,F3,BK,HM,Dy,Fa (r:=r),Rel]
  grind
theorem Bc4 {a b:α}(h:geC cmp a b=true):Uv cmp a b=false:=by
 unfold geC at h;grind [Uv]
theorem AV5 {a b:α}(h:Uv cmp a b=true):∃c,cmp a b=some c:=by
 grind [Uv]
theorem BZ {r:List α}(h:Da cmp r=true){i j:Nat}(hi:i<r.length)(hj:j<r.length):Uv cmp r[i] r[j]=decide (i<j):=by
 obtain⟨h1,h2⟩:=Fa.1 h
 rw[FZ]at h2
 grind [Uv,geC,Rel]
theorem Zb {r:List α}(h:Da cmp r=true){a b:α}(ha:a∈r)(hb:b∈r):∃c,cmp a b=some c:=by
 obtain⟨h1,h2⟩:=Fa.1 h
 rw[FZ]at h2
 obtain⟨i,hi,rfl⟩:=N0 ha;obtain⟨j,hj,rfl⟩:=N0 hb
 rcases Lh i j with e|e|e
 ·exact AV5 (h2 i j hi hj e).1
 ·grind [geC]
 grind [geC,Rel]
theorem RQ {r:List α}(h:Da cmp r=true){i j:Nat}(hi:i<r.length)(hj:j<r.length)(e:r[i]=r[j]):i=j:=by
 have a:=BZ h hi hj;have b:=BZ h hj hi;have c:=BZ h hi hi
 rw[e]at a b c
 rw[BZ h hj hj]at a b c
 grind
theorem Vf {r:List α}(h:Da cmp r=true):r.Nodup:=by
 rw[Nodup,FZ];intro i j hi hj hij e;have:=RQ h hi hj e;omega
theorem Nc {r s:List α} (h:Da cmp r=true) (hp:s.Perm r) (hs:s.Pairwise fun a b=>Uv cmp b a=false):s=r:=by
 refine Qq (le:=fun a b=>Uv cmp b a=false) (fun a b ha hb h1 h2=>?_) hs ?_ hp
 ·obtain⟨i,hi,rfl⟩:=N0 (hp.mem_iff.1 ha);obtain⟨j,hj,rfl⟩:=N0 hb
  rw[BZ h hj hi]at h1
  rw[BZ h hi hj]at h2
  grind
 exact(Fa.1 h).2.imp fun h=>Bc4 h.2
theorem Ai0 {r:List α} (h:Da cmp r=true) {x:α} (hx:x∈r):∀{l:List α},(∀y∈l,y∈r)→l.Pairwise (fun a b=>Uv cmp b a=false)→(ZV (Uv cmp) x l).Pairwise (fun a b=>Uv cmp b a=false)
 |[],_,_=>by simp[ZV]
 | y::l,hm,hp=>by
  rw[HM]at hp
  unfold ZV;obtain⟨i,hi,rfl⟩:=N0 hx;obtain⟨j,hj,e⟩:=N0 (hm y (by simp))
  split
  ·rename_i hlt;refine List.pairwise_cons.2 ⟨fun z hz=>?_,List.pairwise_cons.2 hp⟩;obtain⟨k,hk,rfl⟩:=N0 (hm z hz)
   rw[←e,BZ h hi hj]at hlt
   rw[BZ h hk hi]
   rcases List.mem_cons.1 hz with hz|hz
   ·have:=RQ h hk hj (hz.trans e.symm)
    grind
   have:=hp.1 _ hz
   rw[←e,BZ h hk hj]at this
   grind
  rename_i hlt;refine List.pairwise_cons.2 ⟨fun z hz=>?_,Ai0 h hx (fun z hz=>hm z (by simp[hz])) hp.2⟩
  rcases List.mem_cons.1 ((PO _ _ _).mem_iff.1 hz)with hz|hz
  ·simp_all
  simp_all
theorem UD {r:List α}(h:Da cmp r=true):∀{l:List α},(∀y∈l,y∈r)→(NS (Uv cmp) l).Pairwise (fun a b=>Uv cmp b a=false)
 |[],_=>by simp[NS]
 |x::l,hm=>Ai0 h (hm x (by simp)) (fun y hy=>hm y (by simp[(Jj _ l).mem_iff.1 hy])) (UD h fun y hy=>hm y (by simp[hy]))
theorem WL {l r:List α}(hp:r.Perm l)(h:Da cmp r=true)(hl:l.length<4611686018427387904):LG cmp l=some r:=by
 have e:NS (Uv cmp) l=r:=Nc h ((Jj _ l).trans hp.symm) (UD h fun y hy=>hp.mem_iff.2 hy)
 simp_all[LG]
end Go.Ab
namespace Go.Ab
open Go.RowKit Go.Sort
variable [M9]
theorem Rl.more {g:Gh}{H:A5}{w w':World}(h:Rl g H w)(hb:Below g.base w w')(hs:∀b,b<w.heap.size→w'.heap[b]? =w.heap[b]?)(hd:w.drawn≤w'.drawn:=by first|exact Nat.le_refl _|exact Nat.le_succ _|exact Nat.le_add_right _ _):Y2 g w g w'∧Rl g H w':=by
 have s:Y2 g w g w':=⟨fun _ _ e=>e,fun _ _ e=>e,fun _ _ e=>e,rfl,fun b o hf=>by simp only[World.cell?,hs b (h.fz_lt hf)],hb,fun _ _ _=>rfl,hd⟩;exact⟨s,fun x k hx=>(h.blk x k hx).mono hx s fun y hy=>⟨hs y (h.lt hy),fun _ ho=>ho⟩,h.inj,fun b o hf=>by obtain⟨v,hv⟩:=h.frz b o hf;exact⟨v,(s.cell b o hf).trans hv⟩,h.nxt,O8 h.bnd hb.size,fun n=>(h.glb n).mono s⟩
end Go.Ab
namespace Go.Ab
open Go.RowKit Go.Shelf
variable [M9]
def Bf (i:Nat):List UInt8:=if i<10 then[UInt8.ofNat (48+i)]else[UInt8.ofNat (48+i / 10),UInt8.ofNat (48+i % 10)]
def RV (i:Int):Option ByteArray:=if decide (0≤i)&&decide (i<100)then some ⟨(Bf i.toNat).toArray⟩else none
theorem Ak9 {i:Nat}(h:i<100):Lib.decDigits i=Bf i:=by
 unfold Bf;rw[Lib.decDigits]
 split
 ·rfl
 rw[Lib.decDigits,dif_pos (by omega)];rfl
theorem Yv {P:Program} {ρ:Ren} (L:Go.Proofs.Lays.n283 P ρ) (hrun:∀vals w,(callFunc (ρ.f 283) vals).run P w= .ok (.enter (ρ.f 283) vals) w) {i:Int} {r:ByteArray} (h:RV i=some r):C0 P (ρ.f 283) [.int .i64 i] (.str r):=by
 intro H g w vals hR hA;obtain⟨hlen,hv⟩:=hA;obtain⟨vals⟩:=vals
 match vals,hlen with
 | [v],_=>
  have hv1:=hv 0 (by simp)
  simp at hv1
  rw[hv1.int_inv,hrun]
  show CallsIn Fence.wide 0 P (ρ.f 283) #[.int .i64 i] w _
  rw[callsIn_wide]
  unfold RV at h
  split at h
  ·rename_i hc
   simp only[F3,D9]at hc
   cases h;obtain⟨u,rfl⟩:∃u:Nat,i=u:=⟨i.toNat,by omega⟩
   have hu:u<100:=by omega
   refine(Go.Proofs.Any.internal_strconv_small L u hu w).mono ?_;rintro e w' ⟨rfl,rfl⟩;refine⟨_,rfl,g,_,H,Y2.refl _ _,hR,VR.str _,?_,rfl⟩;rw[Ak9 hu];rfl
  cases h
def Qa (s:ByteArray):List Int:=s.data.toList.map fun b=>(b.toNat:Int)
theorem Vg (s:ByteArray):FO s=(Qa s).map (V.int .u8):=by simp[FO,Qa]
theorem UC {k:IntKind}:∀{l:List Int} {ys:List V},M1 (l.map (V.int k)) ys→ys=l.map (V.int k)
 |[],_,h=>by cases h;rfl
 |x::l,_,h=>by
  cases h with
  |cons a b=>cases a;rw[UC b];rfl
section
variable [Ar]{P:Program}{nt:Nat}{rd:Option Nat}{E:GF}(hE:E=I8 P nt rd){Φ:A5→A5→Prop}{H0 H:A5}{L:List En}{R:Type}{r:R}
include hE
theorem AL9 {by_:Nat}{z:V}(hby:by_≤131072){q:OG}{l:List Int}(hO:C3 Φ H0 L H)(hq:Hs q (Ar.len l))(i:Nat)(hi:L[i]? =some (.blk q.id (.arr 1 (q.pre++lst (V.int .u8) l++q.rest)))){s:ByteArray}{k:V→A5→Prop}{F:List Int→Option R}
 (h:(N6 l (Qa s)).bind F=some r)
 (hk:∀x (q:OG) H',Hs q (Ar.len x)→C3 Φ H0 (L.set i (.blk q.id (.arr 1 (q.pre++lst (V.int .u8) x++q.rest)))) H'→F x=some r→k (.own q.id q.lo q.n) H'):E.oapps by_ z H (.own q.id q.lo q.n) s k:=by
 have h0:=JD (z:=z) (f:=V.int .u8) hE (fun _=>rfl) hby hO hq i hi (y:=.sl (FO s) .ro) (m:=Qa s) (HQ (f:=V.int .u8) hE (fun _=>rfl) (by rw[lst_eq,Vg];exact .refl _)) h hk;subst hE;obtain⟨ys',h1,h2⟩:=h0;have h1:=h1.1
 rw[Vg]at h1
 rw[UC h1,←Vg]at h2
 exact h2
end
end Go.Ab
namespace Go.Ab
open Go.RowKit
variable [M9][Ar]
theorem JL {L:List En}{i j:Nat}{e' e:En}(hj:(L.set i e')[j]? =some e):(j=i∧e=e')∨(j≠i∧L[j]? =some e):=by
 rw[Bc]at hj
 grind
theorem Uh {L:List En}{i j:Nat}{e':En}(h:j≠i):(L.set i e')[j]? =L[j]? :=by
 rw[Bc,A1 (fun e=>h e.symm)]
theorem Cm.setNone {H0 H:A5} {L:List En} (h:Cm H0 L H) (i:Nat) {e e':En} (hi:L[i]? =some e) (he:e.id=none) (he':e'.id=none):Cm H0 (L.set i e') H:=by
 refine⟨h.ext,fun j x id b hj hx=>?_,fun j k x x' id b b' hj hk hx hx'=>?_,fun x b hx=>?_⟩
 ·rcases JL hj with⟨_,rfl⟩|⟨_,hj⟩
  ·rw[he']at hx;cases hx
  exact h.has j x id b hj hx
 ·rcases JL hj with⟨_,rfl⟩|⟨_,hj⟩
  ·rw[he']at hx;cases hx
  rcases JL hk with⟨_,rfl⟩|⟨_,hk⟩
  ·rw[he']at hx';cases hx'
  exact h.inj j k x x' id b b' hj hk hx hx'
 refine(h.only x b hx).imp (fun h=>h) fun⟨j,y,h1,h2⟩=>⟨j,y,?_,h2⟩;rw[Uh fun e=>by simp_all];exact h1
theorem Cm.drop {H0 H:A5} {L:List En} (h:Cm H0 L H) (i:Nat) {e e':En} {id:Nat} {b0:HC} (hi:L[i]? =some e) (he:e.id=some (id,b0)) (he':e'.id=none):Cm H0 (L.set i e') (upd H id none):=by
 have hid:=h.has i e id b0 hi he;refine⟨fun x b hx=>?_,fun j x y b hj hx=>?_,fun j k x x' y b b' hj hk hx hx'=>?_,fun x b hx=>?_⟩
 ·rw[C2 _ _ (Bh hid.1 hx)];exact h.ext x b hx
 ·rcases JL hj with⟨_,rfl⟩|⟨hne,hj⟩
  ·rw[he']at hx;cases hx
  have:=h.has j x y b hj hx;refine⟨this.1,?_⟩;rw[C2 _ _ (fun eq=>by subst eq;exact hne (h.inj j i x e y b b0 hj hi hx he))];exact this.2
 ·rcases JL hj with⟨_,rfl⟩|⟨_,hj⟩
  ·rw[he']at hx;cases hx
  rcases JL hk with⟨_,rfl⟩|⟨_,hk⟩
  ·rw[he']at hx';cases hx'
  exact h.inj j k x x' y b b' hj hk hx hx'
 by_cases hxi:x=id
 ·simp_all[upd]
 rw[C2 _ _ hxi]at hx
 refine(h.only x b hx).imp (fun h=>h) fun⟨j,y,h1,h2⟩=>⟨j,y,?_,h2⟩;rw[Uh fun ej=>by simp_all];exact h1
theorem C3.untok {Φ:A5→A5→Prop} {F H:A5} {L:List En} (h:C3 Φ F L H) (i:Nat) {tl tl':G3} (hi:L[i]? =some (.tl tl)) (ht:(En.tl tl').id=none):C3 Φ F (L.set i (.tl tl')) (F9 H tl):=by
 obtain⟨hs,F',H1,h0,h1,h2⟩:=h
 cases tl with
 |tok t=>
  have e:=(h0.has i _ t _ hi rfl).2;exact⟨hs,_,_,h0.drop i hi rfl ht,hs.chg t none h1 (by rw[e,hs.le h1 _ _ e]),h2.upd t none⟩
 |nil=>exact⟨hs,_,_,h0.setNone i hi rfl ht,h1,h2⟩
 |full=>exact⟨hs,_,_,h0.setNone i hi rfl ht,h1,h2⟩
 |ro=>exact⟨hs,_,_,h0.setNone i hi rfl ht,h1,h2⟩
section
variable {P:Program}{T:Ix}{f:FuncId}{fn:Func}{c:Code}{n:Nat}{rs:List ResultVar}{args:List V}
end
section
variable {P:Program}{nt:Nat}{rd:Option Nat}{T:Ix}{E:GF}
variable (hE:E=I8 P nt rd)
include hE
variable {α R:Type}{f:α→V}{Φ:A5→A5→Prop}{H0 H:A5}{L:List En}{r:R}{m:Option (List α)}{F:List α→Option R}{fid:FuncId}{args args':List V}{k:V→A5→Prop}
end
end Go.Ab
namespace Go.Ab
open Go.RowKit
variable [M9][Ar]
def Gh.lend (g:Gh)(w:World):Gh:={g with fz:=fun b o=>∃v,w.cell? ⟨b,o,none⟩=some v,base:=w.heap.size}
theorem VR.lend {g:Gh}{w:World}{B:Nat}{F:Nat→Nat→Prop}(hB:g.base≤B)(hF:∀b o,g.fz b o→F b o){v:Value}{x:V}(h:VR g w v x):VR {g with fz:=F,base:=B} w v x:=by
 induction h with
 |bad v=>exact .bad v
 |bool b=>exact .bool b
 |int k n=>exact .int k n
 |str s=>exact .str s
 |nilp=>exact .nilp
 |nilf=>exact .nilf
 |nili=>exact .nili
 |nilmap=>exact .nilmap
 |map h=>exact .map h
 |fmap hb hw hk hn hl hv ih=>exact VR.fmap (g:={g with fz:=F,base:=B}) (Ll hb hB) hw hk hn hl ih
 |ref h=>exact .ref h
 |own h h0 h1 h2 hp=>exact VR.own (g:={g with fz:=F,base:=B}) h h0 h1 h2 hp
 |elem h hs=>exact VR.elem (g:={g with fz:=F,base:=B}) h hs
 |eref vs hf hw h1 hv ih=>exact .eref vs (fun j hj=>hF _ _ (hf j hj)) hw h1 ih
 |sl0 ht=>exact .sl0 ht
 |sle ht=>exact .sle ht
 |sl vs hn hc hz hf hw h1 hv ht ih=>exact .sl vs hn hc hz (fun i j hi hj=>hF _ _ (hf i j hi hj)) hw h1 ih (ht.mono fun _ _ e=>e)
 |func hl hv hl' hv' ih ih'=>exact .func hl ih hl' ih'
 |yield h=>exact .yield h
 |iface h ih=>exact .iface ih
 |agg hl h1 hv ih=>exact .agg hl h1 ih
 |tup hl hv ih=>exact .tup hl ih
theorem Rl.lend {g:Gh}{H:A5}{w:World}(h:Rl g H w):Rl (g.lend w) (fun _=>none) w:=by
 refine⟨fun id b hb=>(by cases hb),fun id id' b h1 _=>(by simp[Gh.at]at h1),fun b o hf=>hf,fun id hi=>⟨(h.nxt id hi).1,(h.nxt id hi).2.1,rfl⟩,C4 _,fun n=>(h.glb n).lend h.bnd fun b o hf=>h.frz b o hf⟩
theorem Rl.lendOwn {g:Gh} {H:A5} {w:World} (h:Rl g H w) {id sz:Nat} {xs:List V} (hk:H id=some (.arr sz xs)) {v:Value} {lo n:Int} (hv:VR g w v (.own id lo n)):VR (g.lend w) w v (.sl (M4 xs lo n) .ro):=by
 obtain⟨g',⟨e1,e2,e3⟩,s,hR,hw⟩:=h.freezeArr' hk;have:=(hw v lo n (hv.mono s)).lend (F:=fun b o=>∃v,w.cell? ⟨b,o,none⟩=some v) (B:=w.heap.size) hR.bnd fun b o hf=>hR.frz b o hf
 have e:({g' with fz:=fun b o=>∃v,w.cell? ⟨b,o,none⟩=some v,base:=w.heap.size}:Gh)={(g.lend w)with nx:=g'.nx}:=by
  simp_all[Gh.lend]
 rw[e]at this
 exact VR.nxt this
where
 VR.nxt {g:Gh} {w:World} {n:Nat} {v:Value} {x:V} (h:VR {g with nx:=n} w v x):VR g w v x:=by
  generalize hg:({g with nx:=n}:Gh)=g1 at h
  have hmu:g1.mu=g.mu:=by rw[←hg]
  have htk:g1.tk=g.tk:=by rw[←hg]
  have hfz:g1.fz=g.fz:=by rw[←hg]
  have how:g1.ow=g.ow:=by rw[←hg]
  have hba:g1.base=g.base:=by rw[←hg]
  clear hg
  induction h with
  |bad v=>exact .bad v
  |bool b=>exact .bool b
  |int k n=>exact .int k n
  |str s=>exact .str s
  |nilp=>exact .nilp
  |nilf=>exact .nilf
  |nili=>exact .nili
  |nilmap=>exact .nilmap
  |map h=>exact .map (hmu▸h)
  |fmap hb hw hk hn hl hv ih=>exact .fmap (hba▸hb) hw hk hn hl ih
  |ref h=>exact .ref (hmu▸h)
  |own h h0 h1 h2 hp=>rw[how]at h2 hp ⊢;exact VR.own (hmu▸h) h0 h1 h2 hp
  |elem h hs=>rw[how]at hs ⊢;exact VR.elem (hmu▸h) hs
  |eref vs hf hw h1 hv ih=>exact .eref vs (fun j hj=>hfz▸hf j hj) hw h1 ih
  |sl0 ht=>exact .sl0 ht
  |sle ht=>exact .sle ht
  |sl vs hn hc hz hf hw h1 hv ht ih=>exact .sl vs hn hc hz (fun i j hi hj=>hfz▸hf i j hi hj) hw h1 ih (ht.mono fun _ _ e=>htk▸e)
  |func hl hv hl' hv' ih ih'=>exact .func hl ih hl' ih'
  |yield h=>exact .yield (hmu▸h)
  |iface h ih=>exact .iface ih
  |agg hl h1 hv ih=>exact .agg hl h1 ih
  |tup hl hv ih=>exact .tup hl ih
def Ay5 :V→Bool
 | .bool _=>true
 | .int _ _=>true
 | .str _=>true
 |_=>false
inductive Oh :V→Prop
 |bool (b:Bool):Oh (.bool b)
 |int (k:IntKind) (n:Int):Oh (.int k n)
 |str (s:ByteArray):Oh (.str s)
 |agg {cs:List V} (h:cs.all Ay5=true):Oh (.agg cs)
 |tup2 {x y:V} (h:Oh x) (k:Oh y):Oh (.tup [x,y])
 |tup3 {x y z:V} (h:Oh x) (k:Oh y) (m:Oh z):Oh (.tup [x,y,z])
theorem Oh.any {x:V} (h:Oh x):∀{g g':Gh} {w w':World} {v:Value},VR g w v x→VR g' w' v x:=by
 induction h with
 |bool b=>intro g g' w w' v h;cases h;exact .bool b
 |int k n=>intro g g' w w' v h;cases h;exact .int k n
 |str s=>intro g g' w w' v h;cases h;exact .str s
 | @agg cs hp=>
  intro g g' w w' v h
  cases h with
  |agg hl h1 hv=>
   refine .agg hl h1 fun i hi=>?_;have hvi:=hv i hi;have hm:=List.all_eq_true.1 hp _ (O9 hi)
   rw[show cs.getD i .bad=cs[i] by rw[N1,E2 hi];rfl]at hvi ⊢
   generalize cs[i]=c at hvi hm ⊢
   generalize Array.getD _ i undef=u at hvi ⊢
   cases c<;>simp only[Ay5,F6]at hm<;>cases hvi<;>constructor
 | tup2 _ _ ih1 ih2=>
  intro g g' w w' v h
  cases h with
  |tup hl hv=>
   refine .tup hl fun i hi=>?_
   match i with
   |0=>grind
   |1=>grind
   |i+2=>grind
 | tup3 _ _ _ ih1 ih2 ih3=>
  intro g g' w w' v h
  cases h with
  |tup hl hv=>
   refine .tup hl fun i hi=>?_
   match i with
   |0=>grind
   |1=>grind
   |2=>grind
   |i+3=>grind
inductive MZ (H:A5):List V→List V→Prop
 |nil:MZ H [] []
 |le {x y:V} {xs ys:List V} (h:Ew x y) (k:MZ H xs ys):MZ H (x::xs) (y::ys)
 |fm {id:Nat} {ks:List Int} {zs xs ys:List V} (h:H id=some (.fm ks zs)) (k:MZ H xs ys):MZ H (.map id::xs) (.fmap ks zs::ys)
 |agg {us ws xs ys:List V} (h:MZ H us ws) (k:MZ H xs ys):MZ H (.agg us::xs) (.agg ws::ys)
 |own {id sz:Nat} {zs:List V} {lo n:Int} {xs ys:List V} (h:H id=some (.arr sz zs)) (k:MZ H xs ys):MZ H (.own id lo n::xs) (.sl (M4 zs lo n) .ro::ys)
theorem MZ.length {H:A5}{xs ys:List V}(h:MZ H xs ys):xs.length=ys.length:=by
 induction h with
 |nil=>rfl
 |le _ _ ih=>simp[ih]
 |fm _ _ ih=>simp[ih]
 |agg _ _ _ ih=>simp[ih]
 |own _ _ ih=>simp[ih]
theorem MZ.at {g:Gh} {H:A5} {w:World} (hR:Rl g H w) {xs ys:List V} (h:MZ H xs ys):∀(vals:Nat→Value),(∀i,i<xs.length→VR g w (vals i) (xs.getD i .bad))→∀i,i<ys.length→VR (g.lend w) w (vals i) (ys.getD i .bad):=by
 induction h with
 |nil=>simp_all
 |le h k ih=>
  intro vals hv i hi
  cases i with
  |zero=>exact((hv 0 (by simp)).le h).lend hR.bnd fun b o hf=>hR.frz b o hf
  |succ i=>exact ih (fun i=>vals (i+1)) (fun i hi=>by grind) i (by grind)
 | fm h k ih=>
  intro vals hv i hi
  cases i with
  | zero=>
   have h0:=hv 0 (by simp)
   simp only[Ln]at h0 ⊢
   generalize vals 0=u at h0
   cases h0 with
   |map hm=>
    obtain⟨b,es,clock,k1,k2,k3,k4,k5,k6,k7⟩:=hR.blk _ _ h
    rw[hm]at k1;cases k1
    exact VR.fmap (g:=Gh.lend _ _) (VL k3) k3 k4 k5 k6 fun i e hi=>(k7 i e hi).lend hR.bnd fun b o hf=>hR.frz b o hf
  |succ i=>exact ih (fun i=>vals (i+1)) (fun i hi=>by grind) i (by grind)
 | agg h k ih1 ih=>
  intro vals hv i hi
  cases i with
  | zero=>
   have h0:=hv 0 (by simp)
   simp only[Ln]at h0 ⊢
   generalize vals 0=u at h0
   cases h0 with
   |agg hl h1 hv1=>
    have e:=h.length;exact .agg (hl.trans e) (fun i hi=>h1 i (by omega)) fun i hi=>ih1 (fun i=>Array.getD _ i undef) hv1 i hi
  |succ i=>exact ih (fun i=>vals (i+1)) (fun i hi=>by grind) i (by grind)
 |own h k ih=>
  intro vals hv i hi
  cases i with
  |zero=>exact hR.lendOwn h (hv 0 (by simp))
  |succ i=>exact ih (fun i=>vals (i+1)) (fun i hi=>by grind) i (by grind)
theorem C0.lent {P:Program}{f:FuncId}{ys:List V}{r:V}(c:C0 P f ys r)(hr:Oh r){H:A5}{xs:List V}(hl:MZ H xs ys):P0 P f xs H fun x H'=>x=r∧H'=H:=by
 intro g w vals hR hA;have hA2:Args (g.lend w) w vals ys:=⟨hA.1.trans hl.length,hl.at hR (fun i=>vals.getD i undef) hA.2⟩;refine(c _ _ w vals hR.lend hA2).mono fun v w' ⟨g',x,H',s,hR',hv,e1,e2⟩=>?_;subst e1;have hb:Below w.heap.size w w':=s.low;have sg:Y2 g w g w':=⟨fun _ _ e=>e,fun _ _ e=>e,fun _ _ e=>e,rfl,fun b o hf=>hb.cell (hR.fz_lt hf),hb.mono hR.bnd,fun _ _ _=>rfl,s.dr⟩;refine⟨g,x,H,sg,⟨fun id b hk=>(hR.blk id b hk).mono hk sg fun y hy=>⟨hb.block _ (hR.lt hy),fun _ ho=>ho⟩,hR.inj,fun b o hf=>?_,hR.nxt,O8 hR.bnd hb.size,fun n=>(hR.glb n).mono sg⟩,hr.any hv,rfl,rfl⟩;obtain⟨u,hu⟩:=hR.frz b o hf;exact⟨u,(hb.cell (hR.fz_lt hf)).trans hu⟩
section
variable {P:Program}{nt:Nat}{rd:Option Nat}{T:Ix}{E:GF}
variable (hE:E=I8 P nt rd)
include hE
theorem AM1 {R S:Type}{m:Option S}{F:S→Option R}{r:R}{f:FuncId}{args args':List V}{g:S→V}{H:A5}{k:V→A5→Prop}(h:m.bind F=some r)(hc:∀x,m=some x→C0 P f args' (g x))(hs:∀x,Oh (g x))(hl:MZ H args args')
 (hk:∀x,F x=some r→k (g x) H):E.call (.func (.func f) [] []) args H k:=by
 subst hE;obtain⟨x,h1,h2⟩:=bind_some h;refine P0.value (F:=[]) (C:=[]) ?_;simp only[J1,F2]
 exact((hc x h1).lent (hs x) hl).mono fun v H' ⟨e1,e2⟩=>by simp_all
end
end Go.Ab
namespace Go.Ab
open Go.RowKit Go.MapKept
variable [M9][Ar]
def Mok {K X:Type}(d:TypeDesc)(kf:K→V)(vf:X→V)(o:Obj)(m:List (K×X)):Prop:=∃m':List (K×X),Bl d o (m'.map fun p=>(kf p.1,vf p.2))∧m'.Perm m
theorem Mok.perm {K X:Type}{d:TypeDesc}{kf:K→V}{vf:X→V}{o:Obj}{m l:List (K×X)}(h:Mok d kf vf o m)(hp:m.Perm l):Mok d kf vf o l:=
 let⟨m',h1,h2⟩:=h;⟨m',h1,h2.trans hp⟩
theorem AN2 {K X:Type}{m:List (K×X)}(hn:(m.map (·.1)).Nodup){p q:K×X}(hp:p∈m)(hq:q∈m)(e:p.1=q.1):p=q:=by
 obtain⟨i,hi,rfl⟩:=N0 hp;obtain⟨j,hj,rfl⟩:=N0 hq;have:i=j:=MJ hn (by grind) (by grind) (by grind)
 grind
theorem Ar0 {K X:Type}[DecidableEq K]{m m':List (K×X)}(hp:m'.Perm m)(hn:(m'.map (·.1)).Nodup)(k:K)(z:X):NW m' k z=NW m k z:=by
 grind [NW,AN2]
theorem An1 {K X:Type} [DecidableEq K] {m m' r:List (K×X)} (hp:m'.Perm m) {k:K} {v:X} (h:MS m k v=some r):∃r',MS m' k v=some r'∧r'.Perm r:=by
 unfold MS at h
 cases h;refine⟨_,rfl,?_⟩
 have e:m'.any (fun p=>decide (p.1=k))=m.any (fun p=>decide (p.1=k)):=by
  rw[Bb,Dr,Dr]
  grind
 rw[e]
 split
 ·grind
 exact hp.append_right _
theorem ZP {K X:Type}{d:TypeDesc}{kf:K→V}{vf:X→V}{o:Obj}{m:List (K×X)}(h:Bl d o (m.map fun p=>(kf p.1,vf p.2))):(m.map (·.1)).Nodup:=by
 have:=h.nodup
 rw[Co]at this
 have e:(m.map ((·.1)∘fun p=>(kf p.1,vf p.2)))=(m.map (·.1)).map kf:=by rw[Co];rfl
 rw[e]at this
 grind
def AI6 (P:Program)(kt:TypeId)(d:TypeDesc):Bool:=match d with| .struct _=> !P.stoodInHeld kt|_=>true
structure Ac4 {K:Type} (P:Program) (d:TypeDesc) (kf:K→V):Prop where
 raw:∀x,∃v,Dn (kf x)=some v∧Gy d v
 inj:∀x y,kf x=kf y→x=y
 kg:∀kt,P.underlying kt=some d→AI6 P kt d=true→KG P kt (Gy d)
theorem XG {P:Program}:Ac4 P .string V.str:=⟨fun _=>⟨_,rfl,trivial⟩,fun x y h=>by cases h;rfl,fun _ h _=>KG.scalar h⟩
theorem Un :∀l:List Int,Kl (l.map (V.int .i64))=some (l.map (Value.int .i64))
 |[]=>rfl
 |x::l=>by simp[Kl,LP,Un l]
def AS0 (P:Program)(fs:Array Field):Bool:=
 fs.toList.all (fun f=>f.name != "_" &&(match P.underlying f.type with|some (.int .i64)=>true|_=>false)&&decide (f.offset<fs.size))&&(List.range fs.size).all (fun i=>fs.toList.any fun f=>f.offset==i)
theorem Ap1 {K:Type} {P:Program} {fs:Array Field} {g:K→List Int} {kf:K→V} (hk:∀x,kf x= .agg ((g x).map (V.int .i64))) (hn:∀x,(g x).length=fs.size) (hg:∀x y,g x=g y→x=y)
 (hf:AS0 P fs=true):Ac4 P (.struct fs) kf where
 raw:=fun x=>⟨.agg ((g x).map (Value.int .i64)).toArray,by rw[hk];grind [Dn,Un],g x,hn x,rfl⟩
 inj:=fun x y h=>hg x y (by
  rw[hk,hk]at h
  have h2:=V.agg.inj h
  grind [List.map_inj_right])
 kg:=fun kt h hs=>by
  unfold AS0 at hf
  simp only[F3,BK,Dr,D9,bne_iff_ne,Bt,Dq]at hf
  obtain⟨h1,h2⟩:=hf
  have e:P.fieldsOf kt=fs:=by simp[Program.fieldsOf,h]
  refine KG.flds (by rw[e];exact h) (by grind [AI6]) ⟨fun f hf=>?_,fun i hi=>?_⟩
  ·rw[e]at hf
   grind
  simp_all
def MvOk {X:Type}(vf:X→V):Prop:=∀x,∃v,Dn (vf x)=some v
theorem PL :MvOk V.bool:=fun _=>⟨_,rfl⟩
abbrev OneV (v:V):Prop:=v.one=true∧v.cells=[v]
theorem C3.startO {H0:A5}{id:Nat}{b:HC}(hk:H0 id=some b):C3 Eq (upd H0 id none) [.blk id b] H0:=by
 have h:C3 Eq (upd H0 id none) [.blk id b] (upd (upd H0 id none) id (some b)):=(C3.start G4 rfl).push (D6 _ _ _) rfl
 rwa[AM,Av5 H0 id (some b) hk]at h
theorem VH {α:Type}{f:α→V}{q:OG}{l:List α}(h:Hs q ((lst f l).length:Nat)):Hs q (Ar.len l):=⟨h.1,by rw[h.2,len_eq,P5]⟩
section
variable {P:Program}{nt:Nat}{rd:Option Nat}{T:Ix}{E:GF}
variable (hE:E=I8 P nt rd)
include hE
variable {α R:Type}{f:α→V}{Φ:A5→A5→Prop}{H0 H:A5}{L:List En}{sz:Nat}{q:OG}{l:List α}{r:R}
theorem Az9 (hO:C3 Φ H0 L H){k:V→A5→Prop}(hk:∀(q:OG) H',Hs q (Ar.len ([]:List α))→C3 Φ H0 (.blk q.id (.arr sz (q.pre++lst f []++q.rest))::L) H'→k (.own q.id q.lo q.n) H'):E.onil sz H k:=by
 subst hE;intro t ht
 have e:([]:List V)++lst f []++[]=[]:=by rw[←E0 (f:=f)];rfl
 refine hk ⟨t,0,0,[],[]⟩ _ ⟨rfl,by rw[len_eq];rfl⟩ ?_
 show C3 Φ H0 (.blk t (.arr sz (([]:List V)++lst f []++[]))::L) _
 rw[e];exact hO.push ht rfl
theorem AU9 {s d e:Nat}{l:List Int}(hs:FN P s=some e)(he:P.underlying e=some (.int .u8))(hd:P.underlying d=some .string)(hO:C3 Φ H0 L H)(hq:Hs q (Ar.len l))(i:Nat)(hi:L[i]? =some (.blk q.id (.arr 1 (q.pre++lst (V.int .u8) l++q.rest))))
 {k:V→Prop} {F:ByteArray→Option R} (h:(Ae1 l).bind F=some r) (hk:∀b,F b=some r→k (.str b)):E.ostr s d H (.own q.id q.lo q.n) k:=by
 have hsrc:=AI7 hE hO hq i hi;subst hE;exact⟨_,⟨e,l,hs,he,hd,by rw[←lst_eq];exact hsrc,rfl⟩,hk _ h⟩
section
variable {K X:Type}{kf:K→V}{vf:X→V}{t kt et:Nat}{d:TypeDesc}{m:List (K×X)}{o:Obj}{id:Nat}
theorem AR6 (d:TypeDesc)(kf:K→V)(vf:X→V)(hO:C3 Φ H0 L H){k:V→A5→Prop}(hk:∀id o H',Mok d kf vf o []→C3 Φ H0 (.blk id (.obj o)::L) H'→k (.map id) H'):E.mmk H k:=by
 subst hE;exact .inl fun id hid=>hk id _ _ ⟨[],Bl.empty d,.refl _⟩ (hO.push hid rfl)
theorem Bd0 [DecidableEq K] (hK:Ac4 P d kf) {z:V} {z0:X} (hz:IZ P et=some z) (hvz:z=vf z0) {key:K} {x:X×Bool} (hx:NW m key z0=some x) (ok:Bool):
 AS6 P et (m.map fun p=>(kf p.1,vf p.2)) (kf key) ok (if ok=true then .tup [vf x.1,.bool x.2]else vf x.1):=by
 unfold NW at hx
 cases hx
 cases hf:m.find? (fun p=>decide (p.1=key))with
 |none=>
  refine .inl ⟨fun p hp=>?_,z,hz,by grind⟩;obtain⟨q,hq,rfl⟩:=List.mem_map.1 hp;have:=List.find?_eq_none.1 hf q hq;exact fun e=>this (by simpa using hK.inj _ _ e)
 |some p=>
  have h1:=List.find?_some hf;have h2:=Qu hf;refine .inr ⟨vf p.2,List.mem_map.2 ⟨p,h2,?_⟩,rfl⟩;rw[show p.1=key by grind]
theorem ZH [DecidableEq K](hm:P.underlying t=some (.map kt et))(hd:P.underlying kt=some d)(hK:Ac4 P d kf){z:V}(z0:X)(hz:IZ P et=some z)(hvz:z=vf z0)(hO:C3 Φ H0 L H)(hq:Mok d kf vf o m)(i:Nat)(hi:L[i]? =some (.blk id (.obj o)))
 {key:K} {k:V→Prop} {F:X×Bool→Option R} (h:(NW m key z0).bind F=some r) (hk:∀x,F x=some r→k (vf x.1)) (hst:AI6 P kt d=true:=by kernel_rfl):E.mget t H (.map id) (kf key) false k:=by
 obtain⟨x,h1,h2⟩:=bind_some h;obtain⟨m',hq,hp⟩:=hq
 rw[←Ar0 hp (ZP hq)]at h1
 have ha:=Bd0 (P:=P) (vf:=vf) hE hK hz hvz h1 false;subst hE;obtain⟨v,hv1,hv2⟩:=hK.raw key;exact⟨_,.inl ⟨kt,et,d,v,id,o,_,hm,hK.kg _ hd hst,hv1,hv2,rfl,hO.get i hi,hq,ha⟩,hk x h2⟩
theorem AJ3 [DecidableEq K] (hK:Ac4 P d kf) (hn:((m.map fun p=>(kf p.1,vf p.2)).map (·.1)).Nodup) {key:K} {v:X} {m':List (K×X)} (hx:MS m key v=some m'):AX9 (m.map fun p=>(kf p.1,vf p.2)) (kf key) (vf v) (m'.map fun p=>(kf p.1,vf p.2)):=by
 unfold MS at hx
 cases hx
 split
 ·rename_i h;obtain⟨p,hp,he⟩:=List.any_eq_true.1 h
  have he:p.1=key:=by grind
  obtain⟨a,b,hab⟩:=List.append_of_mem hp;subst hab;refine .inr ⟨a.map fun p=>(kf p.1,vf p.2),vf p.2,b.map fun p=>(kf p.1,vf p.2),by simp[he],?_⟩
  have hna:∀l:List (K×X),(∀q∈l,q.1≠key)→(l.map (fun p=>if p.1=key then(key,v)else p))=l:=fun l hl=>by
   induction l with
   |nil=>rfl
   |cons y l ih=>rw[D8,A1 (hl y (by simp)),ih fun q hq=>hl q (by simp[hq])]
  rw[Co,Z5,D8,IQ]at hn
  obtain⟨_,n2,n3⟩:=hn
  rw[List.nodup_cons]at n2
  have ha:∀q∈a,q.1≠key:=fun q hq e=>n3 (kf q.1) (List.mem_map.2 ⟨q,hq,rfl⟩) (kf p.1) (by simp) (by rw[e,he]);have hb:∀q∈b,q.1≠key:=fun q hq e=>n2.1 (List.mem_map.2 ⟨q,hq,by simp[e,he]⟩);rw[Z5,D8,hna a ha,hna b hb,A2 he];simp
 rename_i h;refine .inl ⟨fun p hp=>?_,by simp⟩;obtain⟨q,hq,rfl⟩:=List.mem_map.1 hp;exact fun e=>h (List.any_eq_true.2 ⟨q,hq,by simpa using hK.inj _ _ e⟩)
theorem ZG [DecidableEq K](hm:P.underlying t=some (.map kt et))(hd:P.underlying kt=some d)(hK:Ac4 P d kf)(hV:MvOk vf)(hO:C3 Φ H0 L H)(hq:Mok d kf vf o m)(i:Nat)(hi:L[i]? =some (.blk id (.obj o)))
 {key:K} {v:X} {k:A5→Prop} {F:List (K×X)→Option R} (h:(MS m key v).bind F=some r) (hk:∀m' o' H',Mok d kf vf o' m'→F m'=some r→C3 Φ H0 (L.set i (.blk id (.obj o'))) H'→k H') (hst:AI6 P kt d=true:=by kernel_rfl):E.mset t H (.map id) (kf key) (vf v) k:=by
 obtain⟨m',h1,h2⟩:=bind_some h;obtain⟨m0,hq,hp⟩:=hq;obtain⟨r',h3,hp'⟩:=An1 hp h1;have hs:=AJ3 (d:=d) hE hK hq.nodup h3;subst hE;obtain⟨kv,hv1,hv2⟩:=hK.raw key;obtain⟨vv,hv3⟩:=hV v;exact .inl ⟨kt,et,d,kv,vv,id,o,_,_,hm,hK.kg _ hd hst,hv1,hv2,hv3,rfl,hO.get i hi,hq,hs,fun o' ho=>hk m' o' _ ⟨r',ho,hp'⟩ h2 (hO.set i hi)⟩
end
end
end Go.Ab
namespace Go.Ab
open Go.RowKit
variable [M9][Ar]
def Ac7 (P:Program)(f:FuncId)(args:List V)(ks:List Int)(xs:List V):Prop:=∀H,P0 P f args H fun v H'=>∃id,H id=none∧v= .map id∧H'=upd H id (some (.fm ks xs))
def FG (E:GF)(n:Int)(K:V→Prop)(z:V):List Int→List V→Prop
 |k::ks,x::xs=>E.br (Ar.cmp .eql n k) (fun _=>K x) (fun _=>FG E n K z ks xs)
 |_,_=>K z
def AG (E:GF)(i:Int)(K:Nat→Prop):List Int→Prop
 |m::ms=>E.br (Ar.cmp .eql i m) (fun _=>K m.toNat) (fun _=>AG E i K ms)
 |[]=>False
section
variable {P:Program}{nt:Nat}{rd:Option Nat}{T:Ix}{E:GF}
variable (hE:E=I8 P nt rd)
include hE
variable {Φ:A5→A5→Prop}{H0 H:A5}{L:List En}{t kt et id:Nat}{ks:List Int}{xs:List V}
theorem Bb3 (hO:C3 Φ H0 L H){k:V→A5→Prop}(hk:∀id H',C3 Φ H0 (.blk id (.fm [] [])::L) H'→k (.map id) H'):E.mmk H k:=by
 subst hE;exact .inr (.inl fun id hid=>hk id _ (hO.push hid rfl))
theorem NK (hm:P.underlying t=some (.map kt et))(hd:P.underlying kt=some (.int .i64))(hO:C3 Φ H0 L H)(i:Nat)(hi:L[i]? =some (.blk id (.fm ks xs))){n:Int}{v:V}(hn:ks.all (fun k=> !(k==n))=true)
 {k:A5→Prop} (hk:∀H',C3 Φ H0 (L.set i (.blk id (.fm (ks++[n]) (xs++[v])))) H'→k H'):E.mset t H (.map id) (.int .i64 n) v k:=by
 subst hE;exact .inr (.inl ⟨kt,et,ks,xs,n,id,hm,hd,rfl,hO.get i hi,rfl,(fun x hx=>by have:=List.all_eq_true.1 hn x hx;simp_all),hk _ (hO.set i hi)⟩)
theorem Ai4 {n:Int} {K:V→Prop} {z:V}:∀(ks:List Int) (xs:List V),xs.length=ks.length→FG E n K z ks xs→∃v,((∃i:Nat,ks[i]? =some n∧v=xs.getD i .bad)∨((∀k∈ks,k≠n)∧z=v))∧K v
 |[],[],_,h=>⟨z,.inr ⟨(fun _ h=>by cases h),rfl⟩,h⟩
 |[],_::_,hl,_=>by simp at hl
 |_::_,[],hl,_=>by simp at hl
 | k::ks,x::xs,hl,h=>by
  have ih:=Ai4 (n:=n) (K:=K) (z:=z) ks xs (by grind)
  unfold FG at h
  subst hE;obtain⟨h1,h2⟩:=h
  rw[Ar.cmp_eq]at h1 h2
  cases hb:Ir .eql n k with
  |true=>
   have e:n=k:=by grind [Ir]
   exact⟨x,.inl ⟨0,by simp[e],by simp⟩,h1 hb⟩
  |false=>
   have e:n≠k:=by grind [Ir]
   obtain⟨v,hv,hk⟩:=ih (h2 hb);refine⟨v,?_,hk⟩
   rcases hv with⟨i,q1,q2⟩|⟨q1,q2⟩
   ·exact .inl ⟨i+1,by grind,by grind⟩
   grind
theorem Aj6 {i:Int} {K:Nat→Prop}:∀ms:List Int,AG E i K ms→∃m∈ms,i=m∧K i.toNat
 |[],h=>h.elim
 |m::ms,h=>by
  have ih:=Aj6 (i:=i) (K:=K) ms
  unfold AG at h
  subst hE;obtain⟨h1,h2⟩:=h
  rw[Ar.cmp_eq]at h1 h2
  grind [Ir]
theorem AV3 (hm:P.underlying t=some (.map kt et))(hd:P.underlying kt=some (.int .i64)){z:V}(hz:IZ P et=some z)(hl:xs.length=ks.length){n:Int}{k:V→Prop}(h:FG E n k z ks xs):E.mget t H (.fmap ks xs) (.int .i64 n) false k:=by
 obtain⟨v,hv,hk⟩:=Ai4 hE ks xs hl h;subst hE;exact⟨v,.inr (.inl ⟨kt,et,ks,xs,n,hm,hd,rfl,rfl,rfl,hv.imp (fun h=>h) fun⟨h1,h2⟩=>⟨h1,h2▸hz⟩⟩),hk⟩
theorem AM3 {n:Nat}{i:Int}{K:Nat→Prop}(ms:List Int)(hm:(ms.map Int.toNat==List.range n&&ms.all (fun m=>decide (0≤m)))=true)(h:AG E i K ms):E.aidx i n K:=by
 obtain⟨m,h1,h2,h3⟩:=Aj6 hE ms h;subst hE;subst h2
 simp only[F3,Bt,BK,D9]at hm
 have hmem:i.toNat∈List.range n:=by rw[←hm.1];grind
 have h0:=hm.2 _ h1
 rw[Dq]at hmem
 grind [I8]
theorem AA6 {fid:FuncId}{args args':List V}(hc:Ac7 P fid args' ks xs)(hl:M1 args args')(hO:C3 Φ H0 L H){k:V→A5→Prop}(hk:∀id H',C3 Φ H0 (.blk id (.fm ks xs)::L) H'→k (.map id) H'):E.call (.func (.func fid) [] []) args H k:=by
 subst hE;refine P0.value (F:=[]) (C:=[]) ?_;simp only[J1,F2]
 exact((hc H).args hl).mono fun v H' ⟨id,e1,e2,e3⟩=>by subst e2;subst e3;exact hk id _ (hO.push e1 rfl)
end
theorem Ab9 {P:Program}{T:Ix}{f:FuncId}{fn:Func}{c:Code}{n:Nat}{rs:List ResultVar}{args:List V}{ks:List Int}{xs:List V}(cf:Cf)(hP:YH P T)(hf:P.funcs[f]? =some fn)(hb:fn.body=some c)(hd:M2 cf c=true)
 (hcall:∀vals w,(callFunc f vals).run P w= .ok (.enter f vals) w) (hnt:fn.ntmps=n) (hrs:fn.results.toList=rs) (hn:Nat.ble args.length n=true)
 (h:∀(E:GF) (H:A5) (k:V→A5→Prop),E=I8 P n none→(∀id (L:List En) (i:Nat) H',L[i]? =some (.blk id (.fm ks xs))→C3 Eq H L H'→k (.map id) H')→run E T n cf c ⟨FF args 0,[]⟩ H (TJ E T rs k)):Ac7 P f args ks xs:=fun H=>by
 refine P0.le (CN (K:=fun x H'=>∃y H2,Ew x y∧Iy H2 H'∧∃id,H id=none∧y= .map id∧H2=upd H id (some (.fm ks xs))) cf hP.1 hP.2 hf hb hd hcall hnt hrs hn fun E hE=>?_);refine h E H _ hE fun id L i H' hi hO=>?_;obtain⟨h1,h2⟩:=(hO.only i hi).last;exact⟨_,_,.refl _,h2,id,h1,rfl,rfl⟩
end Go.Ab
namespace Go.Ab
open Go.RowKit
variable [M9][Ar]
theorem Nq {α:Type}{m:Option α}{x:α}(h:m=some x):(m.bind fun y=>some y)=some x:=by rw[h];rfl
inductive YJ {α β:Type} (R:α→β→Prop):List α→List β→Prop
 |nil:YJ R [] []
 |cons {x:α} {y:β} {xs:List α} {ys:List β} (h:R x y) (k:YJ R xs ys):YJ R (x::xs) (y::ys)
theorem YJ.get {α β:Type}{R:α→β→Prop}:∀{xs:List α} {ys:List β},YJ R xs ys→∀{i:Nat} {y:β},ys[i]? =some y→∃x,xs[i]? =some x∧R x y
 |_,_,.nil,i,y,h=>by simp at h
 |_,_,.cons h k,0,y,e=>by simp at e;subst e;exact⟨_,rfl,h⟩
 |_,_,.cons h k,i+1,y,e=>by simp at e ⊢;exact k.get e
theorem YJ.len {α β:Type}{R:α→β→Prop}:∀{xs:List α} {ys:List β},YJ R xs ys→xs.length=ys.length
 |_,_,.nil=>rfl
 |_,_,.cons _ k=>by simp[k.len]
def Ac6 (P:Program)(fv:V)(args:List V)(Q:V→Prop):Prop:=∀H,DO P fv args H fun x H'=>Q x∧H'=H
theorem Bp.value {P:Program}{f:FuncId}{F C args:List V}{Q:V→Prop}(h:Bp P f (F++args++C) Q):Ac6 P (.func (.func f) F C) args Q:=fun H=>(h H).value
section
variable {P:Program}{nt:Nat}{rd:Option Nat}{E:GF}(hE:E=I8 P nt rd)
include hE
theorem AM2 {φ R:Type} {Good:V→φ→Prop} {xs:List V} {fs:List φ} (hp:YJ Good xs fs) {i:Int} {F:φ→Option R} {r:R} (h:(C5 fs i).bind F=some r) {ag:Bool} {sz n:Nat} {k:V→Prop}
 (hk:∀v f,Good v f→F f=some r→k v) (ha:ag=false:=by rfl) (hs:sz=1:=by rfl) (hn:n=fs.length:=by rfl):E.aidx i n fun m=>Jw (FV ag sz xs (m*sz)) k:=by
 subst hE;subst ha;subst hs;subst hn;obtain⟨f,h1,h2⟩:=bind_some h
 unfold C5 at h1
 split at h1
 ·rename_i h0;obtain⟨v,e,hg⟩:=hp.get h1
  have hlt:i.toNat<fs.length:=by
   grind
  grind [I8,Jw,FV]
 cases h1
theorem AA5 {R S:Type}{m:Option S}{F:S→Option R}{r:R}{fv:V}{args:List V}{args':List V}{Q:S→V→Prop}{H:A5}{k:V→A5→Prop}(h:m.bind F=some r)(hc:∀x,m=some x→Ac6 P fv args' (Q x))(hl:M1 args args')
 (hk:∀x v,Q x v→F x=some r→k v H):E.call fv args H k:=by
 subst hE;obtain⟨x,h1,h2⟩:=bind_some h;intro g w v vals hR hv hA;exact G9.mono (fun _ _ p=>L5.mono (fun v H' ⟨hq,hH⟩=>by subst hH;exact hk x v hq h2) p) (hc x h1 H g w v vals hR hv (hA.le hl))
end
end Go.Ab
namespace Go.Ab
open Go.RowKit Go.Sort Go.Shelf Go.Proofs
structure Wm (P:Program) (f:FuncId) (k:Nat):Prop where
 zero:∀p cap fv w,Calls P f #[.slice p 0 cap,fv] w fun e w'=>e= .returned (.tuple #[])∧w'=w
 pos:∀(α:Type) [Inhabited α] (enc:α→List Value) (_:∀x,(enc x).length=k) (_:∀x,∀v∈enc x,v.oneCell'=true) (cf:α→α→Int) (_:SWO (ltOf cf)) (g:Nat) (cb:Array Value) (blk off cap:Nat) (d:Array α) (w:World)
  (_:∀args w,(callFunc g args).run P w= .ok (.enter g args) w) (_:CmpLays P g cb enc k cf blk off d.size w) (_:HoldsK enc k w blk off d) (_:blk<w.heap.size) (_:d.size<4611686018427387904) (_:∀x y,(ltOf cf) x y=false→(ltOf cf) y x=false→x=y),
  Calls P f #[.slice (some ⟨blk,off,none⟩) d.size cap,.func (.func g) #[] cb] w fun e w'=>e= .returned (.tuple #[])∧∃n os,w'=sortWorldK enc k w blk off n (d.toList.mergeSort fun x y=> !(ltOf cf) y x).toArray os
theorem Ak6 {P:Program}{ρ:Ren}(Ly:SlLaysF0.n6 P ρ){k:Nat}(aE:∀w,(isAgg (ρ.t 24)).run P w= .ok true w)(zE:∀w,(Go.sizeOf (ρ.t 24)).run P w= .ok k w):Wm P (ρ.f 6) k:=
 ⟨fun p cap fv w=>AnyF.slices_SortFunc_none Ly p cap fv w,fun α _ enc hk h1 cf hO g cb blk off cap d w eg hc hH hb hs hT=>AnyQ.slices_SortFunc_total Ly k aE zE enc hk h1 cf hO g cb blk off cap d w eg hc hH hb hs hT⟩
variable [M9]
theorem Ag2 {pre ds rest:List V}{j:Nat}(hj:j<ds.length):(pre++ds++rest).getD (pre.length+j) .bad=ds.getD j .bad:=by
 rw[D4,N1,IY (by omega),Nat.add_sub_cancel_left,IX hj,N1]
theorem Af1 {pre es ds rest:List V} (hl:ds.length=es.length) {i:Nat} (hi:i<pre.length∨pre.length+ds.length≤i):(pre++ds++rest).getD i .bad=(pre++es++rest).getD i .bad:=by
 simp only[D4,N1]
 rcases hi with hi|hi
 ·rw[IX hi,IX hi]
 have key:∀l:List V,l.length=es.length→(pre++(l++rest))[i]? =rest[i - pre.length - es.length]? :=fun l h=>by
  rw[IY (by omega),IY (by omega),h]
 rw[key _ hl,key _ rfl]
theorem Ay3 {off:Nat}{d c:Array Value}{t:Nat}(ht:t<c.size):(putCells (fun v=>v) off d c).getD t undef=if off≤t∧t<off+d.size then d[t - off]! else c.getD t undef:=by
 unfold putCells;simp only[Array.getD,Array.size_mapIdx,ht,dif_pos,Array.getInternal_eq_getElem,Array.getElem_mapIdx]
theorem Zq {g:Gh} {H:A5} {w:World} (hR:Rl g H w) {ix b k:Nat} {pre es ds rest:List V} {c:Array Value} {T:TypeId} (hk:H ix=some (.arr k (pre++es++rest))) (e1:g.mu ix=some b) (hl:ds.length=es.length) (hes:0<es.length)
 (k2:w.heap[b]? =some (.cells c T (0,0))) (k3:(g.ow ix).o+(pre++es++rest).length*k≤c.size)
 (k4:∀i j,i<(pre++es++rest).length→j<k→(c.getD ((g.ow ix).o+i*k+j) undef).oneCell'=true∧VR g w (c.getD ((g.ow ix).o+i*k+j) undef) (((pre++es++rest).getD i .bad).cells.getD j .bad))
 (e9:∀i,i<(pre++es++rest).length→((pre++es++rest).getD i .bad).cells.length=k)
 (d:Array Value) (hd:d.size=es.length*k) (hds:∀i,i<ds.length→(ds.getD i .bad).cells.length=k)
 (hdv:∀i j,i<ds.length→j<k→(d[i*k+j]!).oneCell'=true∧VR g w d[i*k+j]! ((ds.getD i .bad).cells.getD j .bad)) (m:Nat) (os:Array Obj):
 Y2 g w g (grow (putRow (fun v=>v) (Sort.ahead w m) b ((g.ow ix).o+pre.length*k) d) os)∧
  Rl g (upd H ix (some (.arr k (pre++ds++rest)))) (grow (putRow (fun v=>v) (Sort.ahead w m) b ((g.ow ix).o+pre.length*k) d) os):=by
 have hlen:(pre++es++rest).length=pre.length+es.length+rest.length:=by simp;omega
 have hlen':(pre++ds++rest).length=pre.length+es.length+rest.length:=by simp;omega
 have hs:=Rl.setArr hR (ys:=pre++ds++rest) (c':=putCells (fun v=>v) ((g.ow ix).o+pre.length*k) d c) hk e1 (by omega) k2 (by simp[putCells])
  (fun o ho=>by
   simp only[putCells,Array.getElem?_mapIdx]
   grind)
  (by omega)
  (fun i hi=>by
   grind)
  (fun i j hi hj=>by
   have hb:(i+1)*k≤(pre++es++rest).length*k:=H5 k (by omega)
   rw[E5,W4]at hb
   rw[Ay3 (by omega)]
   by_cases h1:i<pre.length
   ·have hb1:(i+1)*k≤pre.length*k:=H5 k h1
    rw[E5,W4]at hb1
    rw[A1 (by omega),Af1 hl (.inl h1)]
    grind
   by_cases h2:pre.length+ds.length≤i
   ·have hb2:(pre.length+ds.length)*k≤i*k:=H5 k h2
    rw[E5]at hb2
    rw[A1 (by rw[hd,←hl];omega),Af1 hl (.inr h2)]
    grind
   obtain⟨u,rfl⟩:∃u,i=pre.length+u:=⟨i - pre.length,by omega⟩
   have hu:u<ds.length:=by omega
   have hb3:(u+1)*k≤es.length*k:=H5 k (by omega)
   rw[E5,W4]at hb3
   rw[A2 (by rw[hd,E5];omega),Ag2 hu,show(g.ow ix).o+(pre.length+u)*k+j - ((g.ow ix).o+pre.length*k)=u*k+j by rw[E5];omega]
   simp_all)
 obtain⟨s1,R1⟩:=hs
 generalize hw1:w.setRow b (putCells (fun v=>v) ((g.ow ix).o+pre.length*k) d c)=w1 at s1 R1
 have hsz1:w1.heap.size=w.heap.size:=by rw[←hw1];simp
 have hheap:∀x,x<w1.heap.size→(grow (putRow (fun v=>v) (Sort.ahead w m) b ((g.ow ix).o+pre.length*k) d) os).heap[x]? =w1.heap[x]? :=fun x hx=>by
  have hx':x<w.heap.size:=by omega
  simp only[grow,putRow,mapBlock,Sort.ahead];rw[Array.getElem?_append_left (by simpa using hx'),IW]
  by_cases hxb:b=x
  ·subst hxb;rw[A2 rfl,k2,←hw1,setRow_heap w b c _ T (0,0) k2];rfl
  rw[A1 hxb,←hw1,R4 w b _ x (fun e=>hxb e.symm)]
 have hbel:Below g.base w1 (grow (putRow (fun v=>v) (Sort.ahead w m) b ((g.ow ix).o+pre.length*k) d) os):=by
  refine⟨by rw[←hw1];rfl,by rw[←hw1];rfl,by rw[←hw1];rfl,?_,fun k hk'=>?_⟩
  ·rw[hsz1];simp
  exact hheap k (by have:=hR.bnd;omega)
 obtain⟨s2,R2⟩:=R1.more hbel hheap (by rw[←hw1];exact IM _ _);exact⟨s1.trans s2,R2⟩
theorem AD5 {w w':World} (h:Below w.heap.size w w') (hd:w.drawn≤w'.drawn):∃q os',w'=grow (w.drewN q) os':=by
 refine⟨w'.drawn - w.drawn,w'.heap.extract w.heap.size w'.heap.size,?_⟩;obtain⟨h1,h2,h3,h4,h5⟩:=h
 cases w' with
 |mk heap tape drawn os output=>
  simp only at h1 h2 h3 h4 h5 hd ⊢
  subst h1;subst h2;subst h3;simp only[grow,World.drewN,IF,true_and,K6];refine⟨?_,by omega⟩;apply Array.ext_getElem?;intro i;rw[FY]
  split
  ·rename_i hi;exact h5 i hi
  rename_i hi;rw[Lv]
  split
  ·rename_i h;rw[show w.heap.size+(i - w.heap.size)=i by omega]
  rename_i h;rw[Ql (by omega)]
theorem VR.base_up {g:Gh}{w:World}{B:Nat}(hB:g.base≤B){v:Value}{x:V}(h:VR g w v x):VR {g with base:=B} w v x:=by
 induction h with
 |bad v=>exact .bad v
 |bool b=>exact .bool b
 |int k n=>exact .int k n
 |str s=>exact .str s
 |nilp=>exact .nilp
 |nilf=>exact .nilf
 |nili=>exact .nili
 |nilmap=>exact .nilmap
 |map h=>exact .map h
 |fmap hb hw hk hn hl hv ih=>exact .fmap (Ll hb hB) hw hk hn hl ih
 |ref h=>exact .ref h
 |own h h0 h1 h2 hp=>exact .own h h0 h1 h2 hp
 |elem h hs=>exact .elem h hs
 |eref vs hf hw h1 hv ih=>exact .eref vs hf hw h1 ih
 |sl0 ht=>exact .sl0 ht
 |sle ht=>exact .sle ht
 |sl vs hn hc hz hf hw h1 hv ht ih=>exact .sl vs hn hc hz hf hw h1 ih (by cases ‹G3› <;>exact ht)
 |func hl hv hl' hv' ih ih'=>exact .func hl ih hl' ih'
 |yield h=>exact .yield h
 |iface h ih=>exact .iface ih
 |agg hl h1 hv ih=>exact .agg hl h1 ih
 |tup hl hv ih=>exact .tup hl ih
theorem AM9 {P:Program}{f:FuncId}{args:List V}{n:Int}(hc:C0 P f args (.int .i64 n))(hrun:∀vals w,(callFunc f vals).run P w= .ok (.enter f vals) w){g:Gh}{H:A5}{w:World}(hR:Rl g H w){vals:Array Value}(hA:Args g w vals args):
 Calls P f vals w fun e w'=>e= .returned (.int .i64 n)∧∃q os',w'=grow (w.drewN q) os':=by
 let g2:Gh:={g with base:=w.heap.size,nx:=g.nx}
 have hR2:Rl g2 (fun _=>none) w:=⟨fun _ _ h=>(by cases h),fun id id' b h1 h2=>(by simp[Gh.at]at h1),hR.frz,fun id h=>⟨(hR.nxt id h).1,(hR.nxt id h).2.1,rfl⟩,C4 _,fun n=>(hR.glb n).base_up hR.bnd⟩;have h:=hc (fun _=>none) g2 w vals hR2 ⟨hA.1,fun i hi=>(hA.2 i hi).base_up hR.bnd⟩
 rw[hrun]at h
 have h:CallsIn Fence.wide 0 P f vals w fun e w'=>∃v,e= .returned v∧L5 g2 w (fun x H'=>x= .int .i64 n∧H'=fun _=>none) v w':=h
 rw[callsIn_wide]at h
 refine h.mono ?_;rintro e w' ⟨v,rfl,g',x,H',s,R',hv,rfl,rfl⟩;exact⟨by rw[hv.int_inv],AD5 s.low s.dr⟩
def Wp (P:Program)(f:FuncId)(fv:V)(k:Nat)(xs ys:List V):Prop:=
 (∀H (q:OG),Hs q (xs.length:Nat)→H q.id=some (.arr k (q.pre++xs++q.rest))→P0 P f [.own q.id q.lo q.n,fv] H fun x H'=>x= .tup []∧H'=upd H q.id (some (.arr k (q.pre++ys++q.rest))))∧ys.length=xs.length
theorem VR.funcN {g:Gh} {w:World} {v:Value} {fn:Fn} {C:List V} (h:VR g w v (.func fn [] C)):∃cb,v= .func fn #[] cb∧Args g w cb C:=by
 cases h with
 |@func _ fs cs _ _ hl hv hl' hv'=>
  have e1:fs= #[]:=Qy hl
  simp_all[Args]
theorem AE0 {α:Type}[Inhabited α]{enc:α→List Value}{k:Nat}{d:Array α}{i j:Nat}(hi:i<d.size)(hj:j<k):(flatK enc k d)[i*k+j]! =(enc d[i]!)[j]! :=by
 have h1:(i+1)*k≤d.size*k:=H5 k hi
 rw[E5,W4]at h1
 rw[get_flatK _ _ _ _ (by omega)]
 have hk:0<k:=by omega
 rw[show(i*k+j) / k=i by rw[EQ,Nat.mul_add_div hk,Nat.div_eq_of_lt hj];rfl,show(i*k+j) % k=j by rw[EQ,Nat.mul_add_mod,Ld hj]]
theorem QX [Ar] {P:Program} {sf:FuncId} {k:Nat} (hS:Wm P sf k)
 (hrun:∀vals w,(callFunc sf vals).run P w= .ok (.enter sf vals) w) {α:Type} {f:α→V} {va:α→List V} (hf:∀x,f x= .agg (va x)) (hsz:∀x,(va x).length=k)
 {cmp:α→α→Option Int} {gf:FuncId} {C:List V} (eg:∀vals w,(callFunc gf vals).run P w= .ok (.enter gf vals) w) (hc:∀a b n,cmp a b=some n→C0 P gf ([.agg (va a),.agg (va b)]++C) (.int .i64 n))
 {l r:List α} (h:LG cmp l=some r):Wp P sf (.func (.func gf) [] C) k (lst f l) (lst f r):=by
 obtain⟨hp,hst,hlt⟩:=Zd h;refine⟨?_,by rw[P5,P5];exact hp.length_eq⟩;rw[lst_eq,lst_eq];intro H q hq hk g w vals hR hA;obtain⟨hlen,hv⟩:=hA;obtain⟨vals⟩:=vals
 match vals,hlen with
 | [v,fvv],_=>
  have hv1:VR g w v (.own q.id q.lo q.n):=by have:=hv 0 (by simp);simpa using this
  have hv2:VR g w fvv (.func (.func gf) [] C):=by have:=hv 1 (by simp);simpa using this
  obtain⟨cb,rfl,hcb⟩:=hv2.funcN;rw[hrun]
  show CallsIn Fence.wide 0 P sf #[v,.func (.func gf) #[] cb] w _
  rw[callsIn_wide];obtain⟨b,p,e1,e2,e3,e4,e5,e6,e7,e8,e9,e10⟩:=Fu hR hk hv1
  have hxl:(q.pre++l.map f++q.rest).length=q.pre.length+l.length+q.rest.length:=by simp;omega
  have hn0:=hq.2
  rw[G5]at hn0
  have hnn:q.n.toNat=l.length:=by omega
  by_cases hz:l=[]
  ·subst hz
   have hr:r=[]:=by simpa using hp.length_eq
   subst hr;subst e2;rw[hnn];refine(hS.zero p _ _ w).mono ?_;rintro e w' ⟨rfl,rfl⟩;refine⟨_,rfl,g,.tup [],H,Y2.refl _ _,hR,VR.und _ _,rfl,?_⟩
   funext x
   simp_all[upd]
  have hn:0<l.length:=List.length_pos_iff.2 hz
  rcases e10 with e10|⟨c,T,k1,k2,k3,k4,k5,k6⟩
  ·omega
  have hp8:=e8 (by rw[hq.1];omega);subst hp8;subst e2
  haveI:Inhabited (Fin l.length):=⟨⟨0,hn⟩⟩
  have hlo:q.lo.toNat=q.pre.length:=by rw[hq.1];simp
  let enc:Fin l.length→List Value:=fun i=>(List.range k).map fun j=>c.getD ((g.ow q.id).o+(q.pre.length+i.val)*k+j) undef
  have henc:∀x,(enc x).length=k:=fun x=>by simp[enc]
  have hencj:∀(x:Fin l.length) (j:Nat),j<k→(enc x)[j]! =c.getD ((g.ow q.id).o+(q.pre.length+x.val)*k+j) undef:=fun x j hj=>by simp[enc,hj]
  have hcellV:∀(x:Fin l.length) (j:Nat),((q.pre++l.map f++q.rest).getD (q.pre.length+x.val) .bad).cells.getD j .bad=(va l[x.val]).getD j .bad:=fun x j=>by
   have e:(l.map f).getD x.val .bad=f l[x.val]:=by rw[N1,W6,E2 x.isLt];rfl
   rw[Ag2 (by simp),e,hf];rfl
  have hcell:∀(x:Fin l.length) (j:Nat),j<k→((enc x)[j]!).oneCell'=true∧VR g w (enc x)[j]! ((va l[x.val]).getD j .bad):=fun x j hj=>by
   rw[hencj x j hj,←hcellV]
   grind
  have h1:∀x,∀v∈enc x,v.oneCell'=true:=fun x v hv=>by
   obtain⟨j,hj,rfl⟩:=N0 hv
   rw[henc]at hj
   have:=(hcell x j hj).1
   rwa[getElem!_pos _ _ (by rw[henc];exact hj)]at this
  have hdef:∀i j:Fin l.length,∃n,cmp l[i.val] l[j.val]=some n:=fun i j=>Zb hst (hp.mem_iff.2 (O9 _)) (hp.mem_iff.2 (O9 _))
  let cf:Fin l.length→Fin l.length→Int:=fun i j=>(cmp l[i.val] l[j.val]).getD 0
  have hpos:∀i:Fin l.length,∃p:Nat,∃hh:p<r.length,r[p]=l[i.val]:=fun i=>by
   obtain⟨p,hh,e⟩:=N0 (hp.mem_iff.2 (O9 i.isLt));exact⟨p,hh,e⟩
  let pos:Fin l.length→Nat:=fun i=>Classical.choose (hpos i)
  have hpos':∀i:Fin l.length,∃hh:pos i<r.length,r[pos i]=l[i.val]:=fun i=>Classical.choose_spec (hpos i)
  have hltp:∀i j,ltOf cf i j=decide (pos i<pos j):=fun i j=>by
   obtain⟨n,hn⟩:=hdef i j;obtain⟨a1,a2⟩:=hpos' i;obtain⟨b1,b2⟩:=hpos' j;rw[←BZ hst a1 b1,a2,b2];simp[ltOf,cf,Uv,hn]
  have hnd:=hp.nodup_iff.1 (Vf hst)
  have hinj:∀i j:Fin l.length,pos i=pos j→i=j:=fun i j e=>by
   obtain⟨a1,a2⟩:=hpos' i;obtain⟨b1,b2⟩:=hpos' j
   have e2:l[i.val]=l[j.val]:=by rw[←a2,←b2];simp only[e]
   rw[Nodup,FZ]at hnd
   apply Fin.ext
   rcases Lh i.val j.val with h'|h'|h'
   ·exact absurd e2 (hnd _ _ i.isLt j.isLt h')
   ·exact h'
   exact absurd e2.symm (hnd _ _ j.isLt i.isLt h')
  have hO:SWO (ltOf cf):=⟨fun x=>by rw[hltp];simp,fun x y z=>by rw[hltp,hltp,hltp];simp;omega,fun x y z=>by rw[hltp,hltp,hltp];simp;omega⟩
  have hT:∀x y,ltOf cf x y=false→ltOf cf y x=false→x=y:=fun x y=>by
   rw[hltp,hltp];intro a b;simp at a b;exact hinj _ _ (by omega)
  let d0:Array (Fin l.length):=(List.finRange l.length).toArray
  have hd0:d0.size=l.length:=by simp[d0]
  have hW:∀(dk:Array (Fin l.length)),dk.size=l.length→∀(m:Nat) (os:Array Obj),
   Y2 g w g (sortWorldK enc k w b ((g.ow q.id).o+q.pre.length*k) m dk os)∧Rl g (upd H q.id (some (.arr k (q.pre++dk.toList.map (fun i=>f l[i.val])++q.rest)))) (sortWorldK enc k w b ((g.ow q.id).o+q.pre.length*k) m dk os):=by
   intro dk hdk m os
   have hgd:∀i (hi:i<dk.size),(dk.toList.map (fun i=>f l[i.val])).getD i .bad=f l[(dk[i]!).val]:=fun i hi=>by
    have e:dk[i]! =dk[i]:=getElem!_pos dk i hi;rw[N1,W6,Cz,AB hi];simp only[e,I7,V8]
   have hml:(dk.toList.map (fun i=>f l[i.val])).length=dk.size:=by simp
   exact Zq hR hk e1 (by rw[hml,G5,hdk]) (by simpa using hn) k2 k3 k4 e9 (flatK enc k dk) (by rw[size_flatK,hdk,G5])
    (fun i hi=>by rw[hml]at hi;rw[hgd i hi,hf];exact hsz _)
    (fun i j hi hj=>by
     rw[hml]at hi
     rw[AE0 hi hj,hgd i hi,hf]
     exact hcell _ j hj) m os
  have hH:HoldsK enc k w b ((g.ow q.id).o+q.pre.length*k) d0:=by
   intro t ht
   rw[size_flatK,hd0]at ht
   have hkp:0<k:=by
    rcases Lk k with h0|h0
    ·rw[h0,Nat.mul_zero]at ht;omega
    exact h0
   have hi:t / k<l.length:=(Ns hkp).2 ht;have hj:t % k<k:=DA _ hkp
   have e3:t=t / k*k+t % k:=by have:=Lr t k;rw[EQ]at this;omega
   have hb:(t / k+1)*k≤l.length*k:=H5 k hi
   rw[E5,W4]at hb
   have hb2:(q.pre.length+l.length)*k≤(q.pre++l.map f++q.rest).length*k:=H5 k (by rw[hxl];omega)
   rw[E5]at hb2
   have hval:(flatK enc k d0)[t]! =c.getD ((g.ow q.id).o+q.pre.length*k+t) undef:=by
    have hg:d0[t / k]! =⟨t / k,hi⟩:=by rw[getElem!_pos _ _ (by rw[hd0];exact hi)];simp[d0]
    rw[get_flatK _ _ _ _ (by rw[hd0];exact ht),hg,hencj _ _ hj]
    congr 1
    rw[E5];show _+(_+t / k*k)+t % k=_;omega
   refine⟨?_,by simp[World.frozen?,k2]⟩
   have hlt:(g.ow q.id).o+q.pre.length*k+t<c.size:=by omega
   rw[show(id (flatK enc k d0)[t]! :Value)=(flatK enc k d0)[t]! from rfl,hval];simp[World.cell?,k2,Array.getD,hlt]
  have hcmp:CmpLays P gf cb enc k cf b ((g.ow q.id).o+q.pre.length*k) d0.size w:=by
   intro m os dk hs x y;obtain⟨s,R⟩:=hW dk (hs.trans hd0) m os;obtain⟨n,hxy⟩:=hdef x y
   have ecf:cf x y=n:=by simp[cf,hxy]
   rw[ecf]
   have hagg:∀z:Fin l.length,VR g (sortWorldK enc k w b ((g.ow q.id).o+q.pre.length*k) m dk os) (.agg (enc z).toArray) (.agg (va l[z.val])):=fun z=>by
    have hg:∀i,i<k→(enc z).toArray.getD i undef=(enc z)[i]! :=fun i hi=>by
     rw[getElem!_pos _ _ (by rw[henc];exact hi)];simp[Array.getD,henc,hi]
    refine VR.agg (by simp[henc,hsz]) (fun i hi=>?_) (fun i hi=>?_)
    ·rw[hsz]at hi;rw[hg i hi];exact(hcell z i hi).1
    rw[hsz]at hi;rw[hg i hi];exact(hcell z i hi).2.mono s
   refine AM9 (hc _ _ _ hxy) eg R (Args.append (x:=[.agg (va l[x.val]),.agg (va l[y.val])]) ⟨rfl,fun i hi=>?_⟩ ⟨hcb.1,fun i hi=>(hcb.2 i hi).mono s⟩)
   match i,hi with
   |0,_=>exact hagg x
   |1,_=>exact hagg y
  have hblk:b<w.heap.size:=by
   rcases O0 b w.heap.size with h'|h'
   ·exact h'
   rw[Ql h']at k2;cases k2
  have hfin:=hS.pos _ enc henc h1 cf hO gf cb b ((g.ow q.id).o+q.pre.length*k) ((q.pre++l.map f++q.rest).length - q.pre.length) d0 w eg hcmp hH hblk (by omega) hT;clear hcmp hH hO hT
  rw[hd0]at hfin
  rw[hnn,hlo];refine hfin.mono ?_;rintro e w' ⟨rfl,n',os,rfl⟩
  let s:=d0.toList.mergeSort fun x y=> !(ltOf cf) y x
  have hsl:s.toArray.size=l.length:=by simp[s,List.length_mergeSort,d0]
  obtain⟨st,R⟩:=hW s.toArray hsl n' os;refine⟨_,rfl,g,.tup [],_,st,R,VR.und _ _,rfl,?_⟩
  have hsp:s.Perm (List.finRange l.length):=by simpa[d0]using List.mergeSort_perm d0.toList fun x y=> !(ltOf cf) y x
  have hsr:s.map (fun i=>l[i.val])=r:=by
   refine Nc hst ?_ ?_
   ·have h2:=hsp.map (fun i:Fin l.length=>l[i.val])
    have h3:(List.finRange l.length).map (fun i:Fin l.length=>l[i.val])=l:=by
     apply GI
     ·simp
     intro i h1 h2;simp
    rw[h3]at h2
    exact h2.trans hp.symm
   rw[GM];have h2:=Qo (le:=fun x y=> !(ltOf cf) y x) (fun a b c=>by simp only[hltp];simp;omega) (fun a b=>by simp only[hltp];simp;omega) d0.toList;refine h2.imp fun{a b} hab=>?_;obtain⟨a1,a2⟩:=hpos' a;obtain⟨b1,b2⟩:=hpos' b
   rw[hltp]at hab
   rw[←a2,←b2,BZ hst b1 a1]
   simpa using hab
  have:s.toArray.toList.map (fun i=>f l[i.val])=r.map f:=by rw[←hsr,Co];rfl
  rw[this]
section
variable [Ar]{P:Program}{nt:Nat}{rd:Option Nat}{E:GF}(hE:E=I8 P nt rd)
include hE
theorem XD {Φ:A5→A5→Prop}{H0 H:A5}{L:List En}{fid:FuncId}{fv:V}{q:OG}{sz:Nat}{α:Type}{f:α→V}{l:List α}{k:V→A5→Prop}{R:Type}{m:Option (List α)}{F:List α→Option R}{r:R}
 (hO:C3 Φ H0 L H) (hq:Hs q (Ar.len l)) (i:Nat) (hi:L[i]? =some (.blk q.id (.arr sz (q.pre++lst f l++q.rest)))) (h:m.bind F=some r) (hc:∀x,m=some x→Wp P fid fv sz (lst f l) (lst f x))
 (hk:∀x H',Hs q (Ar.len x)→C3 Φ H0 (L.set i (.blk q.id (.arr sz (q.pre++lst f x++q.rest)))) H'→F x=some r→k (.tup []) H'):
 E.call (.func (.func fid) [] []) [.own q.id q.lo q.n,fv] H k:=by
 subst hE;obtain⟨x,h1,h2⟩:=bind_some h;obtain⟨c1,c2⟩:=hc x h1;refine P0.value (F:=[]) (C:=[]) ?_;simp only[J1,F2];refine(c1 H q ⟨hq.1,by rw[hq.2,len_eq,P5]⟩ (hO.get i hi)).mono fun v H' ⟨e1,e2⟩=>?_;subst e1;subst e2;refine hk x _ ⟨hq.1,?_⟩ (hO.set i hi) h2;rw[hq.2,len_eq,len_eq]
 rw[P5,P5]at c2
 omega
end
end Go.Ab
namespace Go.Ab
end Go.Ab
namespace Go.Ab
open Go.RowKit
variable [M9]
section
variable [Ar]{P:Program}{nt:Nat}{rd:Option Nat}{E:GF}(hE:E=I8 P nt rd)
include hE
end
end Go.Ab
namespace Go.Ab
open Go.RowKit
variable [M9]
theorem P0.thaw {P:Program} {f:FuncId} {args:List V} {H:A5} {K K':V→A5→Prop} (h:P0 P f args H K)
 (hk:∀x H',K x H'→K' x H'∨∃id sz row lo n,x= .own id lo n∧H' id=some (.arr sz row)∧K' (.sl (M4 row lo n) .ro) (upd H' id none)):P0 P f args H K':=
 fun g w vals hR hA=>(h g w vals hR hA).mono fun v w' ⟨g',x,H',s,hR',hv,hK⟩=>by
  rcases hk x H' hK with hK|⟨id,sz,row,lo,n,rfl,h1,h2⟩
  ·grind [L5]
  obtain⟨g2,s2,R2,hv2⟩:=hR'.freezeArr h1;exact⟨g2,_,_,s.trans s2,R2,hv2 _ _ _ (hv.mono s2),h2⟩
section
variable [Ar]{P:Program}{T:Ix}
theorem FK {f:FuncId} {fn:Func} {c:Code} {n:Nat} {rs:List ResultVar} {args:List V} {r:V} (cf:Cf) (hP:YH P T) (hf:P.funcs[f]? =some fn) (hb:fn.body=some c) (hd:M2 cf c=true)
 (hcall:∀vals w,(callFunc f vals).run P w= .ok (.enter f vals) w) (hnt:fn.ntmps=n) (hrs:fn.results.toList=rs) (hn:Nat.ble args.length n=true)
 (h:∀(E:GF) (H:A5) (K:V→A5→Prop),E=I8 P n none→(∀x L H',C3 Eq H L H'→Ew x r→K x H')→
  (∀(q:OG) (sz:Nat) (xs:List V) (i:Nat) (L:List En) H',C3 Eq H L H'→L[i]? =some (.blk q.id (.arr sz (q.pre++xs++q.rest)))→Hs q (xs.length:Nat)→Ew (.sl xs .ro) r→K (.own q.id q.lo q.n) H')→run E T n cf c ⟨FF args 0,[]⟩ H (TJ E T rs K)):C0 P f args r:=fun H=>by
 refine P0.le ?_
 refine(CN (K:=fun x H'=>(∃y H2,Ew x y∧Iy H2 H'∧y=r∧H2=H)∨∃(q:OG) (sz:Nat) (xs:List V) (i:Nat) (L:List En),x= .own q.id q.lo q.n∧C3 Eq H L H'∧L[i]? =some (.blk q.id (.arr sz (q.pre++xs++q.rest)))∧Hs q (xs.length:Nat)∧Ew (.sl xs .ro) r)
  cf hP.1 hP.2 hf hb hd hcall hnt hrs hn fun E hE=>?_).thaw ?_
 ·exact h E H _ hE (fun x L H' hO hx=>.inl ⟨r,H,hx,hO.ext,rfl,rfl⟩) fun q sz xs i L H' hO hi hq hr=>.inr ⟨q,sz,xs,i,L,rfl,hO,hi,hq,hr⟩
 rintro x H' (h|⟨q,sz,xs,i,L,rfl,hO,hi,hq,hr⟩)
 ·exact .inl h
 refine .inr ⟨q.id,sz,_,q.lo,q.n,rfl,hO.get i hi,r,H,?_,(hO.del i hi).ext,rfl,rfl⟩;rw[RP rfl hq.1 hq.2];exact hr
end
end Go.Ab
namespace Go.Ab
open Go.RowKit
variable [M9][Ar]
section
variable {P:Program}{nt:Nat}{rd:Option Nat}{T:Ix}{E:GF}{I:List (List V)→A5→A5→Prop}{D:A5→A5→Prop}
theorem C3.hle {Φ:A5→A5→Prop}{F H H':A5}{L:List En}(h:C3 Φ F L H)(hl:Iy H H'):C3 Φ F L H':=by
 grind [C3,Iy]
theorem Az7 (hE:E=I8 P nt rd) {α R:Type} {f:α→V} {sz:Nat} (hsz:∀x,(f x).cells.length=sz) {l:List α} {tl:G3} {lo:Option Int} {m:Int} {k:V→Prop} {F:List α→Option R} {r:R} (h:(Bg l lo (some m) (some m)).bind F=some r)
 (hk:∀x,F x=some r→k (.sl (lst f x) .full)):E.slice sz (lst f l) tl lo (some m) (some m) k:=by
 subst hE;obtain⟨x,h1,h2⟩:=bind_some h
 unfold Bg at h1
 split at h1
 ·rename_i hc;obtain⟨c1,c2,c3,c4,c5⟩:=hc;cases h1;refine⟨?_,?_⟩
  ·rw[P5]
   simp_all[LZ]
  have hm:m=(m.toNat:Int):=by grind
  have hc:Jq (lo.getD 0).toNat m.toNat l.length (some m) tl= .full:=A2 hm;rw[P5,lst_eq,←List.map_drop,←List.map_take]
  grind [lst_eq]
 cases h1
variable {α β σ:Type}
end
end Go.Ab
namespace Go.Ab
open Go.RowKit Go.MapKept
variable [M9][Ar]
section
variable {K X:Type}
end
section
variable {P:Program}{nt:Nat}{rd:Option Nat}{T:Ix}{E:GF}
variable (hE:E=I8 P nt rd)
include hE
variable {K X R S:Type}{kf:K→V}{vf:X→V}{d:TypeDesc}{Φ:A5→A5→Prop}{H0 H:A5}{L:List En}{r:R}{fid:FuncId}{args args':List V}{k:V→A5→Prop}
end
theorem C3.ne {Φ:A5→A5→Prop}{F H:A5}{L:List En}{a b:Nat}{x y:HC}(h:C3 Φ F L H)(i j:Nat)(hi:L[i]? =some (.blk a x))(hj:L[j]? =some (.blk b y))(hij:i≠j):a≠b:=fun e=>by
 obtain⟨hs,F',H1,h0,h1,h2⟩:=h;subst e;exact hij (h0.inj i j _ _ a x y hi hj rfl rfl)
section
variable {P:Program}{T:Ix}{f:FuncId}{fn:Func}{c:Code}{n:Nat}{rs:List ResultVar}{args:List V}{K X:Type}{kf:K→V}{vf:X→V}{d:TypeDesc}
end
section
variable {K X:Type}
end
section
variable {P:Program}{nt:Nat}{rd:Option Nat}{T:Ix}{E:GF}
variable (hE:E=I8 P nt rd)
include hE
variable {K X:Type}{kf:K→V}{vf:X→V}{d:TypeDesc}{Φ:A5→A5→Prop}{H0 H:A5}{L:List En}{k:V→A5→Prop}{m left:List (K×X)}{o:Obj}{mid it:Nat}{b:HC}{p:K×X}
end
end Go.Ab
namespace Go.Ab
variable [M9]
theorem AA1 {E:GF}{t:Nat}{H:A5}{m y y':V}{ok:Bool}{k:V→Prop}(hy:y'=y)(h:E.mget t H m y' ok k):E.mget t H m y ok k:=hy▸h
theorem Af7 {E:GF}{t:Nat}{H:A5}{m y y' v:V}{k:A5→Prop}(hy:y'=y)(h:E.mset t H m y' v k):E.mset t H m y v k:=hy▸h
end Go.Ab
namespace Go.Ab
variable [M9][Ar]
section
variable {P:Program}{nt:Nat}{rd:Option Nat}{E:GF}(hE:E=I8 P nt rd){Φ:A5→A5→Prop}{H0 H:A5}{L:List En}
include hE
theorem Rq (hO:C3 Φ H0 L H)(i:Nat){tl:G3}(hi:L[i]? =some (.tl tl))(ha:Au tl){k:G3→A5→Prop}
 (hk:∀H',C3 Φ H0 (L.set i (.tl .nil)) H'→k tl H'):E.takeT H k:=by
 subst hE;exact⟨tl,hO.appOk i hi ha,hk _ (hO.untok i hi rfl)⟩
theorem Rr (hO:C3 Φ H0 L H)(i:Nat)(hi:L[i]? =some (.tl .nil)){k:G3→A5→Prop}
 (hk:∀tl H',C3 Φ H0 (L.set i (.tl tl)) H'→Au tl→k tl H'):E.nameT H k:=by
 subst hE;refine⟨fun tl htl=>?_,fun t ht=>hk _ _ (hO.tok i hi ht) trivial⟩
 rcases htl with rfl|rfl
 ·exact hk _ _ (hO.untok i hi rfl) trivial
 exact hk _ _ (hO.untok i hi rfl) trivial
end
end Go.Ab
