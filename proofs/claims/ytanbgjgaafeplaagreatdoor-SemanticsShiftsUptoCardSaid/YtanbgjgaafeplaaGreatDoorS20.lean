/- GTG2 GTG3 GTX4 GTG4 GTC1 GTC2 GTC3 GTG5 GTIn -/
import Derived.Test.YtanbgjgaafeplaaGreatDoorS19
import Derived.Test.YtanbgjgaafeplaaGreatDoorRows
import Derived.WalkKit
import Derived.ProofKit
import Derived.OpenShut
import Derived.Deep.DeepHandedRow
import Derived.Carry
set_option linter.all false
open List (any_cons)
open Go.Ab.Ar (ar cmp lst lst_eq)
namespace Go.Ab
open Classical
noncomputable section
theorem Zz (e:CH):gE id e=e:=by
 unfold gE;have:(fun r:List A3=>r.map id)=id:=funext fun r=>List.map_id r;rw[this,List.map_id]
theorem Xj (c:A5):Cok id c:=⟨fun env own ev=>by rw[Zz];rfl,fun env=>by rw[Zz]⟩
theorem VH (l:List A3):Tok l id:=fun _ _ _ _=>rfl
theorem MH {l' l:List A3}{u:Int→Int}(E:Sw l' l id u){s:List PR}(hs:QL l' s):U7 l (Fy u s)=U7 l' s:=by
 unfold U7 Fy;rw[List.map_map];refine congrArg D3.mk (List.map_congr_left fun x hx=>?_);obtain⟨j,hj,e⟩:=hs x hx;obtain⟨i,hi,hl⟩:=E.at_ j hj
 rw[Option.map_id,id]at hl
 show(⟨x.Var,DQ l (u x.At)⟩:C1)=⟨x.Var,DQ l' x.At⟩
 unfold DQ;rw[e,hi,Int.toNat_natCast,Int.toNat_natCast,hl]
theorem Xk {l:List A3}(hl:l.length≤10)(h:GA l=0){i:Nat}(hi:i<l.length):CX l[i]=true∧∀(j:Nat) (hj:j<i),BB (l[j]'(by omega)) l[i]=false:=by
 unfold GA at h
 rw[if_neg (by omega)]at h
 have:=Bx.1 h i (List.mem_range.2 hi)
 unfold Jo at this
 rw[List.getElem?_eq_getElem hi]at this
 dsimp only at this
 split at this
 ·cases this
 rename_i h1
 split at this
 ·cases this
 split at this
 ·cases this
 rename_i h3
 rw[Bool.not_eq_true,List.any_eq_false]at h3
 refine⟨by simpa using h1,fun j hj=>?_⟩;have hm:(l[j]'(by omega))∈l.take i:=List.mem_take_iff_getElem.2 ⟨j,by omega,rfl⟩
 simpa using h3 _ hm
theorem YW {l' l:List A3} {u:Int→Int} (E:Sw l' l id u) (hl:l.length≤10) (hl':l'.length≤10) (h:GA l=0):GA l'=0:=by
 have key:∀(j:Nat) (hj:j<l'.length),∃(i:Nat) (hi:i<l.length),u j=i∧l'[j]=l[i]:=fun j hj=>by
  obtain⟨i,hi,he⟩:=E.at_ j hj;have hil:=(E.lt_lenU hj hi).1
  rw[Option.map_id,id,List.getElem?_eq_getElem hj,List.getElem?_eq_getElem hil]at he
  exact⟨i,hil,hi,(Option.some.inj he).symm⟩
 unfold GA;rw[if_neg (by omega)];refine Bx.2 fun j hj=>?_;have hj:=List.mem_range.1 hj;obtain⟨i,hi,hu,he⟩:=key j hj;obtain⟨a1,a2⟩:=Xk hl h hi;unfold Jo;rw[List.getElem?_eq_getElem hj]
 dsimp only
 rw[if_neg (by rw[he,a1];simp),if_neg,if_neg]
 ·rw[Bool.not_eq_true,List.any_eq_false];intro x hx;obtain⟨j0,hj0,e0⟩:=List.mem_take_iff_getElem.1 hx;obtain⟨i0,hi0,hu0,he0⟩:=key j0 (by omega)
  have hlt:i0<i:=by have:=(E.mono j0 j).2 (by omega);omega
  rw[←e0,he0,he,a2 i0 hlt];simp
 rintro⟨h0,h1⟩
 have hj1:j - 1<l'.length:=by omega
 obtain⟨i0,hi0,hu0,he0⟩:=key (j - 1) hj1
 have hlt:i0<i:=by have:=(E.mono (j - 1:Nat) j).2 (by omega);omega
 rw[List.getElem?_eq_getElem hj1,Option.getD_some,he0,he]at h1
 obtain⟨d,rfl⟩:∃d,i=i0+d+1:=⟨i - i0 - 1,by omega⟩;have:=On hl h d i0 hi hi0 hi;omega
theorem Tz :∀{a b:List D3},QN a→QN b→(∀x,x∈a↔x∈b)→a=b
 |[],[],_,_,_=>rfl
 |[],y::b,_,_,h=>absurd ((h y).2 (by simp)) List.not_mem_nil
 |x::a,[],_,_,h=>absurd ((h x).1 (by simp)) List.not_mem_nil
 | x::a,y::b,ha,hb,h=>by
  unfold QN at ha hb
  rw[List.pairwise_cons]at ha hb
  have irr:∀z:D3,¬mO z.cP z.cP<0:=fun z=>by rw[NU];decide
  have asy:∀z w:D3,mO z.cP w.cP<0→¬mO w.cP z.cP<0:=fun z w h=>by rw[RJ];omega
  have hxy:x=y:=by
   rcases List.mem_cons.1 ((h x).1 (by simp))with e|e
   ·exact e
   rcases List.mem_cons.1 ((h y).2 (by simp))with k|k
   ·exact k.symm
   exact absurd (hb.1 x e) (asy x y (ha.1 y k))
  subst hxy;refine congrArg (x:: ·) (Tz ha.2 hb.2 fun z=>⟨fun hz=>?_,fun hz=>?_⟩)
  ·rcases List.mem_cons.1 ((h z).1 (List.mem_cons_of_mem _ hz))with e|e
   ·rw[e]at hz;exact absurd (ha.1 x hz) (irr x)
   exact e
  rcases List.mem_cons.1 ((h z).2 (List.mem_cons_of_mem _ hz))with e|e
  ·rw[e]at hz;exact absurd (hb.1 x hz) (irr x)
  exact e
structure Mts (l:List A3) (p:A0) (r:List D3):Prop where
 asc:QN r
 mem:∀x,x∈r↔∃s,Sm l p [] 0 s∧x=U7 l s
theorem Aa7 {N:Nat} (hN:40000000≤N) {p:A0} (hb:p.bulk≤16777216) {l:List A3} (hl:l.length≤10) (hs:(evs p+1) ^ l.length≤1500∨(Ax p∧l.length ^ evs p≤1500)) (h1:Mg N p=0) (h2:GA l=0):
 ∃r,L6 N p l=some (r,0)∧Mts l p r∧(∀x∈r,x.cP.length≤10∧x.cP≠[])∧r.length≤1500:=by
 obtain⟨r,k1,k6,⟨L,_,m2,m3⟩,k3,k4⟩:=Yh hN hb hl hs h1 h2
 have hm:Mts l p r:=⟨k6,fun x=>by
  rw[m3.mem_iff,List.mem_map]
  exact⟨fun⟨s,a,b⟩=>⟨s,(m2 s).1 a,b.symm⟩,fun⟨s,a,b⟩=>⟨s,(m2 s).2 a,b.symm⟩⟩⟩
 refine⟨r,k1,hm,fun x hx=>⟨k3 x hx,fun e=>?_⟩,k4⟩;obtain⟨s,a,rfl⟩:=(hm.mem x).1 hx;exact a.inl.1 (List.map_eq_nil_iff.1 e)
theorem Mts.part {l' l:List A3}{u:Int→Int}(E:Sw l' l id u){p:A0}{r r':List D3}(h:Mts l p r)(h':Mts l' p r'):
 (∀s,Sm l p [] 0 s→(∀x∈s,∃j:Nat,j<l'.length∧u j=x.At)→U7 l s∈r')∧((∀y∈p.pre,y.Op=5→Cvx l' u)→∀x∈r',∃s,Sm l p [] 0 s∧(∀x∈s,∃j:Nat,j<l'.length∧u j=x.At)∧x=U7 l s):=by
 have hF:∀j:Int,0≤j↔0≤u j:=fun j=>(E.nn j).symm
 constructor
 ·intro s hs hx;obtain⟨t,rfl,ht⟩:=E.dn (VH l') hs (fun y _=>⟨Xj _,fun _=>trivial⟩) [] 0 rfl (fun _ h=>absurd h List.not_mem_nil) hF hx;exact(h'.mem _).2 ⟨t,ht,MH E ht.inl.2⟩
 intro hq x hx;obtain⟨t,ht,rfl⟩:=(h'.mem x).1 hx;refine⟨Fy u t,E.up (VH l') ht (fun y hy=>⟨Xj _,hq y hy⟩) (fun _ h=>absurd h List.not_mem_nil) 0 hF,fun x hx=>?_,(MH E ht.inl.2).symm⟩;obtain⟨y,hy,rfl⟩:=List.mem_map.1 hx;obtain⟨j,hj,e⟩:=ht.inl.2 y hy;exact⟨j,hj,by show _=u y.At;rw[e]⟩
theorem Rf {p:A0}{n m:Nat}(h:n≤m)(hs:(evs p+1) ^ m≤1500∨(Ax p∧m ^ evs p≤1500)):(evs p+1) ^ n≤1500∨(Ax p∧n ^ evs p≤1500):=by
 rcases hs with h1|⟨h1,h2⟩
 ·exact .inl (Nat.le_trans (Nat.pow_le_pow_right (by omega) h) h1)
 exact .inr ⟨h1,Nat.le_trans (Nat.pow_le_pow_left h _) h2⟩
end
end Go.Ab
namespace Go.Ab
open Classical
noncomputable section
def mv (d:Int)(e:A3):A3:={e with Time:=e.Time+d}
def NoT (c:A5):Prop:=∀y∈c.pre,y.Op≠2
theorem Ab8 (d:Int)(env:CH)(v:Int):Fg (gE (mv d) env) v=(Fg env v).map (mv d):=by
 unfold Fg gE;simp only[List.length_map]
 split
 ·rfl
 rename_i h
 have hi:v.toNat<env.cU.length:=by omega
 simp only[List.getD_eq_getElem?_getD,List.getElem?_map,List.getElem?_eq_getElem hi,Option.map_some,Option.getD_some]
theorem SM (d:Int)(y:A3){x:A5}(h:x.Op≠2):Pw (mv d y) x=Pw y x:=by
 unfold Pw;rw[if_neg h,if_neg h];rfl
theorem YB (d:Int) {env:CH} {own:Int} {ev ev':A3} (he:ev'=mv d ev∨ev'=ev) {x:A5} (h:x.Op≠2):Hl (gE (mv d) env) own ev' x=Hl env own ev x:=by
 unfold Hl;rw[Ab8]
 by_cases h0:x.Op=0
 ·rw[if_pos h0,if_pos h0]
 rw[if_neg h0,if_neg h0]
 by_cases h3:x.Op=3
 ·rw[if_pos h3,if_pos h3,List.length_map]
 rw[if_neg h3,if_neg h3]
 by_cases h4:x.Op=4
 ·rw[if_pos h4,if_pos h4];unfold Nw;rw[List.all_map,List.map_map];rfl
 rw[if_neg h4,if_neg h4];unfold Lq
 by_cases ho:x.Var≠own
 ·rw[if_pos ho,if_pos ho,List.getLast?_map]
  cases(Fg env x.Var).getLast? with
  |none=>rfl
  |some y=>exact SM d y h
 rw[if_neg ho,if_neg ho]
 rcases he with rfl|rfl
 ·exact SM d ev h
 rfl
theorem Ac6 (d:Int) {c:A5} (hc:NoT c):Cok (mv d) c:=by
 have key:∀env own ev ev',(ev'=mv d ev∨ev'=ev)→Y2 (gE (mv d) env) own ev' c=Y2 env own ev c:=fun env own ev ev' he=>by
  unfold Y2 MT
  by_cases hx:J4 c=0
  ·rw[if_pos hx,if_pos hx,JL c fun y hy _=>YB d he (hc y hy)]
  rw[if_neg hx,if_neg hx]
 exact⟨fun env own ev=>key env own ev _ (.inl rfl),fun env=>key env (-1) _ _ (.inr rfl)⟩
end
end Go.Ab
namespace Go.Ab
open Classical
noncomputable section
end
end Go.Ab
namespace Go.Ab
open Classical
noncomputable section
theorem Er {α:Type}{N:Nat}{l:List α}{step:Int→Option (Int ⊕ (Unit ⊕ Int))}{k:Unit ⊕ Int→Option Int}(P:α→Bool)(hl:l.length<N)(hN:l.length<1000000000)
 (hstep:∀(i:Nat) x,l[i]? =some x→(i:Int)<l.length→step i=some (if P x=true then .inr (.inr (i:Int))else .inl ((i:Int)+1)))
 (hend:step (l.length:Int)=some (.inr (.inl ()))) (h0:k (.inl ())=some (-1)) (h1:∀i,k (.inr i)=some i):(((loopN step N 0).bind k).bind fun r1=>some (cmp .geq r1 0))=some (l.any P):=by
 obtain⟨j,h,hj⟩:=Lo hl hN P () (fun i=>i) hstep hend;rw[h]
 by_cases ha:l.any P=true
 ·rw[if_pos ha,ha];simp only[Option.bind_some,h1,O4,decide_eq_true hj]
 rw[if_neg ha];simp only[Option.bind_some,h0,O4]
 rw[Bool.not_eq_true]at ha
 rw[ha];rfl
theorem hasM {N:Nat} (hN:40000000≤N) {s:List D3} (hl:s.length≤1000000) {f:D3→Option Bool} {P:D3→Bool} (hf:∀x∈s,f x=some (P x)):G2 N s f=some (s.any P):=by
 unfold G2 K9
 exact Er P (by omega) (by omega) (fun i x hx hi=>by
  have e:ar .add .i64 (i:Int) 1=i+1:=C0 (by omega) (by omega);rw[if_pos (U8 hi),D5,hx];simp only[Option.bind_some,hf x (List.mem_of_getElem? hx),e]
  split<;>rfl) (by rw[if_neg X2]) rfl fun _=>rfl
theorem hasP {N:Nat} (hN:40000000≤N) {s:List A0} (hl:s.length≤16777216) {f:A0→Option Bool} {P:A0→Bool} (hf:∀x∈s,f x=some (P x)):E6 N s f=some (s.any P):=by
 unfold E6 I6
 exact Er P (by omega) (by omega) (fun i x hx hi=>by
  have e:ar .add .i64 (i:Int) 1=i+1:=C0 (by omega) (by omega);rw[if_pos (U8 hi),D5,hx];simp only[Option.bind_some,hf x (List.mem_of_getElem? hx),e]
  split<;>rfl) (by rw[if_neg X2]) rfl fun _=>rfl
structure Np (N:Nat) (p:A0) (l:List A3):Prop where
 len:l.length≤10
 sml:(evs p+1) ^ l.length≤1500∨(Ax p∧l.length ^ evs p≤1500)
 p0:Mg N p=0
 s0:GA l=0
theorem YN {N:Nat} (hN:40000000≤N) {p:A0} (hb:p.bulk≤16777216) {l:List A3} (hl:l.length≤16777216):∃b,Du N p l=some b∧(b=true→Np N p l):=by
 unfold Du;obtain⟨b,h1,h2⟩:=VO hN (p:=p) hb (l:=l) hl;rw[h1];simp only[Option.bind_some]
 cases b with
 |false=>exact⟨false,rfl,fun h=>by cases h⟩
 | true=>
  rw[if_pos rfl];unfold DR;rw[Uo hN hb];simp only[Option.bind_some]
  by_cases h3:Mg N p=0
  ·rw[if_neg (O9 h3),SN hN];refine⟨_,rfl,fun h=>⟨(h2 rfl).1,(h2 rfl).2,h3,?_⟩⟩
   rw[C2]at h
   exact of_decide_eq_true h
  rw[if_pos (Q9 h3)];refine⟨_,rfl,fun h=>?_⟩
  rw[C2]at h
  exact absurd (of_decide_eq_true h) h3
theorem JF {N:Nat} (hN:40000000≤N) {p:A0} (hb:p.bulk≤16777216) {l:List A3} (g:Np N p l):
 ∃r,Z6 N p l=some (r,true)∧Mts l p r∧(∀x∈r,x.cP.length≤10∧x.cP≠[])∧r.length≤1500:=by
 obtain⟨r,k1,k3,k4,k5⟩:=Aa7 hN hb g.len g.sml g.p0 g.s0;refine⟨r,?_,k3,k4,k5⟩;unfold Z6 V3;rw[k1];simp only[Option.bind_some];rw[if_pos (by rw[C2];rfl),hasM hN (by omega) (f:=fun y1=>Z1 N y1) (P:=fun x=>cmp .eql (Ar.len x.cP) 0) fun x _=>rfl]
 have:(r.any fun x=>cmp .eql (Ar.len x.cP) 0)=false:=by
  rw[List.any_eq_false];intro x hx;rw[C2,B3]
  simpa using(k4 x hx).2
 simp only[Option.bind_some,this];rfl
theorem Np.part {N:Nat}{p:A0}{l l':List A3}(g:Np N p l){u:Int→Int}(E:Sw l' l id u)(h:l'.length≤l.length):Np N p l':=
 ⟨by have:=g.len;omega,Rf h g.sml,g.p0,YW E g.len (by have:=g.len;omega) g.s0⟩
end
end Go.Ab
namespace Go.Ab
open Classical
noncomputable section
mutual
def noS :A0→A0
 |⟨op,args,typ,var,_,span,c⟩=>⟨op,Lf args,typ,var,0,span,c⟩
def Lf :List A0→List A0
 |[]=>[]
 |a::r=>noS a::Lf r
end
theorem PQ :∀l:List A0,Lf l=l.map noS
 |[]=>by simp[Lf]
 |a::l=>by simp[Lf,PQ l]
theorem RE (p:A0):noS p={p with cN:=p.cN.map noS,cR:=0}:=by cases p;simp only[noS,PQ]
def Xx (p q:A0):Prop:=noS p=noS q
structure QK (p q:A0):Prop where
 op:p.Op=q.Op
 typ:p.Typ=q.Typ
 var:p.Var=q.Var
 span:p.Span=q.Span
 cond:p.cO=q.cO
 args:p.cN.map noS=q.cN.map noS
theorem Xx.iff {p q:A0}:Xx p q↔QK p q:=by
 unfold Xx;rw[RE,RE]
 constructor
 ·intro h
  simp only[A0.mk.injEq]at h
  exact⟨h.1,h.2.2.1,h.2.2.2.1,h.2.2.2.2.2.1,h.2.2.2.2.2.2,h.2.1⟩
 rintro⟨h1,h2,h3,h4,h5,h6⟩;rw[h1,h2,h3,h4,h5,h6]
theorem Xx.sub {p q:A0}(h:QK p q){r m:List A0}(e:r.map noS=m.map noS):Xx {p with cN:=r} {q with cN:=m}:=Xx.iff.2 ⟨h.op,h.typ,h.var,h.span,h.cond,e⟩
theorem QK.testE {p q:A0}(h:QK p q)(l:List A3)(b:List PR)(j:Nat):testE l p b j=Go.Ab.testE l q b j:=by unfold Go.Ab.testE;rw[h.typ,h.var,h.cond]
theorem QK.keepsA {p q:A0}(h:QK p q)(l:List A3)(b s:List PR):keepsA l p b s=Go.Ab.keepsA l q b s:=by
 have hb:∀i,FD l p b s i=FD l q b s i:=fun i=>by unfold FD;rw[h.typ,h.var,h.cond]
 unfold Go.Ab.keepsA HV;rw[h.op,h.span,h.cond];simp only[hb]
mutual
theorem SU :∀p:A0,(noS p).pre=p.pre.map noS
 |⟨op,args,typ,var,scope,span,c⟩=>by simp only[noS,A0.pre,List.map_cons];rw[MF args]
theorem MF :∀l:List A0,A0.pres (Lf l)=(A0.pres l).map noS
 |[]=>by simp[Lf,A0.pres]
 |a::r=>by simp only[Lf,A0.pres,List.map_append];rw[SU a,MF r]
end
mutual
theorem Lg :∀p:A0,(noS p).bulk=p.bulk
 |⟨op,args,typ,var,scope,span,c⟩=>by simp only[noS,A0.bulk];rw[Le args]
theorem Le :∀l:List A0,A0.bulks (Lf l)=A0.bulks l
 |[]=>by simp[Lf]
 |a::r=>by simp only[Lf,A0.bulks];rw[Lg a,Le r]
end
theorem Xx.bulk {p q:A0}(h:Xx p q):p.bulk=q.bulk:=by rw[←Lg p,h,Lg]
theorem ZZ (p:A0):(noS p).Op=p.Op:=by rw[RE]
theorem SV (p:A0):evs (noS p)=evs p:=by
 unfold evs;rw[SU,List.countP_map]
 exact List.countP_congr fun y _=>by simp only[Function.comp_apply,ZZ]
theorem Xx.evs {p q:A0}(h:Xx p q):evs p=Go.Ab.evs q:=by rw[←SV p,h,SV]
end
end Go.Ab
namespace Go.Ab
open Classical
noncomputable section
theorem Ab0 {S R T:Type}{step:S→Option (S ⊕ R)}{k:R→Option T}{Q:T→Prop}(I:Nat→S→Prop)(n:Nat){s:S}{N:Nat}(hN:n<N)(h0:I 0 s)
 (hs:∀j s,j<n→I j s→∃o,step s=some o∧(match o with| .inl s'=>I (j+1) s'| .inr r=>∃t,k r=some t∧Q t)) (he:∀s,I n s→∃r,step s=some (.inr r)∧∃t,k r=some t∧Q t):∃t,(loopN step N s).bind k=some t∧Q t:=by
 obtain⟨r,h1,h2⟩:=Iv (step:=step) I (fun r=>∃t,k r=some t∧Q t) n 0 s N hN h0 (fun j s _ hj h=>hs j s (by omega) h) fun s h=>he s (by rw[Nat.zero_add]at h;exact h);rw[h1];exact h2
def IdL (to:List Int):Prop:=∀(v:Nat) x,to[v]? =some x→x<0∨x=v
theorem IdL.at {to:List Int}(h:IdL to){v x:Int}(e:B9 to v=some x):x<0∨x=v:=by
 unfold B9 at e
 split at e
 ·have:=h _ _ e;omega
 cases e
theorem TN {α:Type}{l:List α}{j:Nat}(hj:j<l.length):l.take (j+1)=l.take j++[l[j]]:=List.take_succ_eq_append_getElem hj
def Oy (N:Nat)(p:A0):Prop:=∀y∈p.pre,∃s ng,GY N y s ng∧(s.cQ=true→0≤y.Var∧y.Var<16)
theorem Oy.arg {N:Nat}{p q:A0}(h:Oy N p)(hq:q∈p.cN):Oy N q:=V8 h hq
end
end Go.Ab
namespace Go.Ab
open Classical
noncomputable section
theorem QK.noS {p q:A0}(h:QK p q):noS p=Go.Ab.noS q:=Xx.iff.2 h
theorem ZS {α:Type}{l:List α}{i:Int}(h0:0≤i)(h1:i<l.length):XZ (Zy l i)=some ():=by
 unfold XZ Zy;rw[if_pos (decide_eq_true ⟨h0,h1⟩)]
end
end Go.Ab
namespace Go.Ab
open Classical
noncomputable section
theorem hasE {N:Nat} (hN:40000000≤N) {s:List A5} (hl:s.length≤16777216) {f:A5→Option Bool} {P:A5→Bool} (hf:∀x∈s,f x=some (P x)):H6 N s f=some (s.any P):=by
 unfold H6 M2
 exact Er P (by omega) (by omega) (fun i x hx hi=>by
  have e:ar .add .i64 (i:Int) 1=i+1:=C0 (by omega) (by omega);rw[if_pos (U8 hi),D5,hx];simp only[Option.bind_some,hf x (List.mem_of_getElem? hx),e]
  split<;>rfl) (by rw[if_neg X2]) rfl fun _=>rfl
theorem KX (f:A5→Bool):∀r:List A5,(A5.pres r).any f=r.any fun x=>x.pre.any f
 |[]=>rfl
 |a::r=>by simp only[A5.pres,List.any_append,any_cons,KX f r]
theorem VI {N:Nat} (hN:40000000≤N):∀(n:Nat) (x:A5),x.bulk≤n→x.bulk≤16777216→Au N n x=some (x.pre.any fun y=>decide (y.Op=2)):=by
 intro n
 induction n with
 |zero=>intro x h;have:=Bo x;omega
 | succ n ih=>
  intro x h hb;have hl:=Cb x;unfold Au;rw[A5.pre_eq x,any_cons]
  by_cases h2:x.Op=2
  ·rw[if_pos (by rw[C2];exact decide_eq_true h2)];simp[h2]
  rw [if_neg (by rw[C2];simpa using h2),hasE hN (by omega) (P:=fun x=>x.pre.any fun y=>decide (y.Op=2)) fun y hy=>by
      have:=W3 hy
      exact ih y (by omega) (by omega),KX]
  simp only[Option.bind_some,h2,decide_false,Bool.false_or]
theorem VJ {N:Nat} (hN:40000000≤N):∀(n:Nat) (p:A0),p.bulk≤n→p.bulk≤16777216→Av N n p=some (p.pre.any fun y=>y.cO.pre.any fun z=>decide (z.Op=2)):=by
 intro n
 induction n with
 |zero=>intro x h;have:=GB x;omega
 | succ n ih=>
  intro p h hb;have hl:=Gq p
  have hcb:p.cO.bulk≤16777216:=by have:=A0.bulk_eq p;omega
  unfold Av;rw[VI hN N p.cO (by omega) hcb,A0.pre_eq p,any_cons];simp only[Option.bind_some]
  by_cases h2:(p.cO.pre.any fun z=>decide (z.Op=2))=true
  ·rw[if_pos h2,h2];rfl
  rw [if_neg h2,hasP hN (by omega) (P:=fun x=>x.pre.any fun y=>y.cO.pre.any fun z=>decide (z.Op=2)) fun y hy=>by
      have:=Gn hy
      exact ih y (by omega) (by omega),KY]
  rw[Bool.not_eq_true]at h2
  simp only[Option.bind_some,h2,Bool.false_or]
def UB (d:Int)(b:C1):C1:={b with Ref:={b.Ref with Time:=b.Ref.Time+d}}
def mvM (d:Int)(m:D3):D3:=⟨m.cP.map (UB d)⟩
theorem Ab5 (d:Int)(a b:C1):K3 (AI (UB d a)) (AI (UB d b))=K3 (AI a) (AI b):=by
 unfold AI UB;simp only[K3,Int.add_lt_add_iff_right]
theorem Zu (d:Int):∀a b:List C1,mO (a.map (UB d)) (b.map (UB d))=mO a b
 |[],[]=>rfl
 |[],_::_=>rfl
 |_::_,[]=>rfl
 |x::a,y::b=>by simp only[List.map_cons,mO,Ab5,Zu d a b]
theorem PH {e:A3}(h:CX e=true):0≤e.Time∧e.Time≤1099511627776:=by
 unfold CX at h
 simp only[M1,O4,Cr,Bool.and_eq_true,decide_eq_true_eq]at h
 omega
theorem Ac0 (d:Int)(l:List A3):Sw l (l.map (mv d)) (mv d) id where
 mono a b:=Iff.rfl
 nn a:=Iff.rfl
 typ _:=rfl
 at_ j hj:=⟨j,rfl,by rw[List.getElem?_map]⟩
theorem VA (s:List PR):Fy id s=s:=by unfold Fy TD;simp
theorem MI (d:Int){l:List A3}{s:List PR}(hs:QL l s):U7 (l.map (mv d)) s=mvM d (U7 l s):=by
 unfold U7 mvM;rw[List.map_map];refine congrArg D3.mk (List.map_congr_left fun x hx=>?_);obtain⟨j,hj,e⟩:=hs x hx;simp only[Function.comp_apply,UB,C1.mk.injEq,true_and];unfold DQ;rw[e,Int.toNat_natCast,List.getElem?_map,List.getElem?_eq_getElem hj];rfl
theorem Wz {α:Type} {N:Nat} {L:List α} {f:α→α} {step:List α×Int→Option ((List α×Int) ⊕ List α)} (hN:L.length<N) (hl:L.length≤1000000)
 (hs:∀s (i:Nat) x,L[i]? =some x→x∈L→(i:Int)<L.length→ar .add .i64 (i:Int) 1=i+1→s.length<1000000→step (s,(i:Int))=some (.inl (s++[f x],(i:Int)+1)))
 (he:∀s,step (s,(L.length:Int))=some (.inr s)):loopN step N ([],0)=some (L.map f):=by
 have h:=(Jg (L:=L) (step:=step) (fun(s:List α) i=>(s,i)) (fun s x=>s++[f x]) (fun s=>s) (fun i s=>s.length≤i) (s0:=[]) hN (by omega) (by simp)
  (fun s i x hx hi hm e hv=>⟨hs s i x hx hm hi e (by omega),by rw[List.length_append,List.length_singleton];omega⟩) he).1
 have hf:∀(L a:List α),L.foldl (fun s x=>s++[f x]) a=a++L.map f:=fun L=>by
  induction L with
  |nil=>intro a;simp
  |cons x L ih=>intro a;rw[List.foldl_cons,ih];simp
 exact h.trans (congrArg some ((hf L []).trans (List.nil_append _)))
theorem Rk {N:Nat} (hN:40000000≤N) (awake:Y0 N=some true) {p:A0} (hb:p.bulk≤1048576) {l:List A3} (hl:l.length≤1048576) {w:Int} (hw0:0≤w) (hw:w<1000):U5 N p l w=some true:=by
 unfold U5;obtain⟨b,h1,h2⟩:=YN hN (p:=p) (by omega) (l:=l) (by omega);rw[h1];simp only[Option.bind_some]
 cases b with
 |false=>rw[if_pos (show Ar.nt false=true from rfl),awake];rfl
 |true=>
 rw[if_neg (by decide)];have g:=h2 rfl;have hlen:=g.len;rw[VJ hN N p (by omega) (by omega),Vx hw0 hw];simp only[Option.bind_some]
 by_cases ht:(p.pre.any fun y=>y.cO.pre.any fun z=>decide (z.Op=2))=true
 ·rw[if_pos ht,awake];rfl
 rw[if_neg ht];have hnt:∀y∈p.pre,NoT y.cO:=fun y hy z hz e=>ht (List.any_eq_true.2 ⟨y,hy,List.any_eq_true.2 ⟨z,hz,decide_eq_true e⟩⟩)
 have htm:∀x∈l,0≤x.Time∧x.Time≤1099511627776:=fun x hx=>by
  obtain⟨i,hi,e⟩:=List.getElem_of_mem hx;rw[←e];exact PH (Xk hlen g.s0 hi).1
 rw[Wz (L:=l) (f:=mv w) (by omega) (by omega) (fun s i x hx hm hi e hsl=>by
  have:=htm x hm
  dsimp only
  rw[if_pos (U8 hi),D5,hx];simp only[Option.bind_some]
  rw[W7 (by simp;omega),C0 (a:=x.Time) (by omega) (by omega),e];rfl) (fun s=>by dsimp only;rw[if_neg X2])]
 simp only[Option.bind_some];rw[SN hN];simp only[Option.bind_some]
 by_cases hc:GA (l.map (mv w))=0
 ·rw [if_neg (O9 hc)];have g':Np N p (l.map (mv w)):=⟨by simpa using hlen,by rw[List.length_map];exact g.sml,g.p0,hc⟩;obtain⟨r,r1,r2,r3,r4⟩:=JF hN (show p.bulk≤16777216 by omega) g;obtain⟨q,q1,q2,q3,q4⟩:=JF hN (show p.bulk≤16777216 by omega) g';rw[r1,q1];simp only[Option.bind_some];have hQ:∀(V:Prop) (y:A0),y∈p.pre→V→Qn (mv w) V y:=fun V y hy hv=>⟨Ac6 w (hnt y hy),fun _=>hv⟩
  have htok:Tok l (mv w):=fun x hx y hy=>by
   have h1:=htm x hx;have h2:=htm y hy;rw[DN (by unfold mv;dsimp only;omega) (by unfold mv;dsimp only;omega),DN (by omega) (by omega)];unfold mv;dsimp only;omega
  have E:=Ac0 w l
  have hiff:∀s,Sm (l.map (mv w)) p [] 0 s↔Sm l p [] 0 s:=fun s=>by
   constructor
   ·intro h;have hin:=h.inl.2
    obtain⟨t,e,ht⟩:=E.dn htok h (fun y hy=>hQ True y hy trivial) [] 0 rfl (fun _ h=>absurd h List.not_mem_nil) (fun j=>Iff.rfl) (fun x hx=>by
     obtain⟨j,hj,e⟩:=hin x hx
     exact⟨j,by simpa using hj,e.symm⟩)
    rw[VA]at e
    rw[e];exact ht
   intro h;have:=E.up htok h (fun y hy=>hQ _ y hy fun a c i ha hc h1 h2=>⟨i,by have:(i:Int)<(c:Int):=h2;omega,rfl⟩) (fun _ h=>absurd h List.not_mem_nil) 0 (fun j=>Iff.rfl)
   rw[VA s]at this
   exact this
  have heq:q=r.map (mvM w):=by
   refine Tz q2.asc ?_ fun x=>?_
   ·unfold QN;rw[List.pairwise_map];refine r2.asc.imp fun{a b} h=>?_
    show mO (a.cP.map (UB w)) (b.cP.map (UB w))<0
    rw[Zu];exact h
   rw[q2.mem,List.mem_map]
   constructor
   ·rintro⟨s,hs,rfl⟩;have hs:=(hiff s).1 hs;exact⟨_,(r2.mem _).2 ⟨s,hs,rfl⟩,(MI w hs.inl.2).symm⟩
   rintro⟨y,hy,rfl⟩;obtain⟨s,hs,rfl⟩:=(r2.mem y).1 hy;exact⟨s,(hiff s).2 hs,(MI w hs.inl.2).symm⟩
  subst heq;rw[if_neg (by simp[O0,W2,G9,B3])]
  rw [GU (l:=r) (fun _=>false) (by omega) (by omega) (fun i x hx hi=>by
   have e:ar .add .i64 (i:Int) 1=i+1:=C0 (by omega) (by omega);have hm:=List.mem_of_getElem? hx;have hxb:=(r3 x hm).1
   have htx:∀b∈x.cP,0≤b.Ref.Time∧b.Ref.Time≤1099511627776:=fun b hb=>by
    obtain⟨s,hs,rfl⟩:=(r2.mem x).1 hm;obtain⟨y,hy,rfl⟩:=List.mem_map.1 hb;obtain⟨j,hj,ej⟩:=hs.inl.2 y hy
    show 0≤(DQ l y.At).Time∧(DQ l y.At).Time≤1099511627776
    unfold DQ;rw[ej,Int.toNat_natCast,List.getElem?_eq_getElem hj];exact htm _ (List.getElem_mem hj)
   rw[if_pos (U8 hi),D5,D5,hx];simp only[Option.bind_some];unfold L4;rw[W7 (by simp;omega)];simp only[Option.bind_some,List.nil_append];rw[List.getElem?_map,hx];simp only[Option.map_some,Option.bind_some]
   have key:∃t:Int ⊕ (Unit ⊕ Unit),(loopN
    (fun(s24:Int×(List C1))=>
     (
      if cmp .lss s24.1 (Ar.len x.cP)=true then
       (XZ (Zy s24.2 s24.1)).bind fun _=>
       (B9 s24.2 s24.1).bind fun x27=>
       (XZ (Zy s24.2 s24.1)).bind fun _=>
       (GZ s24.2 s24.1 (fun x28:C1=>{x28 with Ref:={x28.Ref with Time:=ar .add .i64 x27.Ref.Time w}})).bind fun l29=>
       some (.inl (ar .add .i64 s24.1 1,l29))
      else
       some (.inr s24.2)
      :Option ((Int×(List C1)) ⊕ (((List C1))))))
    N (0,x.cP)).bind (fun s26=>(Z4 N (⟨s26⟩:D3) (mvM w x)).bind fun r32=>
    if cmp .neq r32 0=true then
     some (.inr (.inr ()))
    else
     some (.inl (ar .add .i64 (i:Int) 1)))=some t∧t= .inl ((i:Int)+1):=by
    refine Ab0 (fun(j:Nat) (s:Int×List C1)=>s.1=(j:Int)∧s.2=(x.cP.take j).map (UB w)++x.cP.drop j) x.cP.length (by omega) ⟨rfl,rfl⟩ (fun j s hj ⟨e1,e2⟩=>?_) (fun s ⟨e1,e2⟩=>?_)
    ·obtain⟨k,L⟩:=s
     dsimp only at e1 e2
     subst e1;subst e2;have hb:=htx _ (List.getElem_mem hj)
     have htl:((x.cP.take j).map (UB w)).length=j:=by simp;omega
     have hL:((x.cP.take j).map (UB w)++x.cP.drop j).length=x.cP.length:=by simp;omega
     have hg:((x.cP.take j).map (UB w)++x.cP.drop j)[j]? =some x.cP[j]:=by
      rw[List.getElem?_append_right (by omega),htl,Nat.sub_self,List.getElem?_drop,Nat.add_zero,List.getElem?_eq_getElem hj]
     dsimp only
     rw[if_pos (U8 (by omega)),ZS (by omega) (by rw[hL];omega),D5,hg];simp only[Option.bind_some];unfold GZ;rw[D5,hg,C0 (a:=x.cP[j].Ref.Time) (by omega) (by omega)];refine⟨_,rfl,Ob (by omega),?_⟩
     dsimp only
     rw[Int.toNat_natCast,List.set_append_right _ _ (by omega),htl,Nat.sub_self,List.drop_eq_getElem_cons hj,TN hj,List.set_cons_zero,List.map_append,List.append_assoc];rfl
    obtain⟨k,L⟩:=s
    dsimp only at e1 e2
    subst e1;subst e2
    dsimp only
    rw[if_neg X2];rw[List.take_length,List.drop_length,List.append_nil];refine⟨_,rfl,.inl ((i:Int)+1),?_,rfl⟩;rw[Yd hN (by simp;omega) (by unfold mvM;simp;omega)];simp only[Option.bind_some];rw[if_neg (O9 (by unfold mvM;exact NU _)),e]
   obtain⟨t,k1,rfl⟩:=key;rw[if_neg (by decide)]
   exact k1) (by rw[if_neg X2])]
  have:(r.any fun _=>false)=false:=by simp
  rw[this,if_neg (by decide)];simp only[Option.bind_some];rw[awake];rfl
 rw[if_pos (Q9 hc),awake];rfl
end
end Go.Ab
namespace Go.Ab
open Go.RowKit Go.ChangeShapes Go.WideShapes Go.ChangeAt Go.Proofs Go.Proofs.YtanbgjgaafeplaaGreatDoor
set_option maxRecDepth 100000
mutual
def Xh :A5→V
 |⟨op,args,var,field,kind,val⟩=>.agg [.int .i64 op,.sl (Qq args) .ro,.int .i64 var,.int .i64 field,.int .i64 kind,.int .i64 val.Kind,.int .i64 val.Num,.str val.Text]
def Qq :List A5→List V
 |[]=>[]
 |a::r=>Xh a::Qq r
end
theorem MZ :∀l:List A5,Qq l=l.map Xh
 |[]=>by simp[Qq]
 |a::r=>by simp[Qq,MZ r]
mutual
def YT :A0→V
 |⟨op,args,typ,var,scope,span,c⟩=>.agg [.int .i64 op,.sl (Qp args) .ro,.int .i64 typ,.int .i64 var,.int .i64 scope,.int .i64 span,.int .i64 c.Op,.sl (c.cN.map Xh) .ro,.int .i64 c.Var,.int .i64 c.Field,.int .i64 c.Kind,.int .i64 c.Value.Kind,.int .i64 c.Value.Num,.str c.Value.Text]
def Qp :List A0→List V
 |[]=>[]
 |a::r=>YT a::Qp r
end
theorem MW :∀l:List A0,Qp l=l.map YT
 |[]=>by simp[Qp]
 |a::r=>by simp[Qp,MW r]
noncomputable def MX (x:A7):V:=.agg [.int .i64 x.Kind,.int .i64 x.Num,.str x.Text]
noncomputable def MY (x:A3):V:=.agg [.int .i64 x.Source,.int .i64 x.Seq,.int .i64 x.Typ,.int .i64 x.Time,.sl (lst MX x.Values) .ro]
noncomputable def JM (x:C1):V:=.agg [.int .i64 x.Var,.int .i64 x.Ref.Time,.int .i64 x.Ref.Source,.int .i64 x.Ref.Seq]
noncomputable def UV (x:D3):V:=.agg [.sl (lst JM x.cP) .ro]
noncomputable def UW (x:Oz):V:=.agg [.int .i64 x.cR,.int .i64 x.Span]
noncomputable def CP (x:A1):V:=.agg [.int .i64 x.cS,.int .i64 x.at_]
noncomputable def BM (x:K7):V:=.agg [.int .i64 x.Var,.int .i64 x.At]
noncomputable def ID (x:I5):V:=.agg [.int .i64 x.cT,.int .i64 x.most,.bool x.cQ,.bool x.cond,.bool x.scope,.bool x.span]
noncomputable def Hc (x:C8):V:=.agg [.int .i64 x.source,.int .i64 x.seq]
noncomputable def Sg (x:List A3):V:=.sl (lst MY x) .ro
noncomputable def CD (x:List A1):V:=.sl (lst CP x) .ro
noncomputable def FH (x:List (List A1)):V:=.sl (lst CD x) .ro
noncomputable def EM (x:List K7):V:=.sl (lst BM x) .ro
noncomputable instance encsInst :J0 where
 eAk6:=MX
 eAk2:=fun _=>rfl
 eAk7:=Xh
 eAk8:=fun⟨_,_,_,_,_,_⟩=>by simp only[Xh,MZ];rfl
 eAk0:=YT
 eAj9:=fun⟨_,_,_,_,_,_,_⟩=>by simp only[YT,MW];rfl
 eAj8:=MY
 eAk3:=fun _=>rfl
 eAk5:=JM
 eAl0:=fun _=>rfl
 eAk4:=UV
 eAl3:=fun _=>rfl
 eAm1:=UW
 eAm4:=fun _=>rfl
 eAj7:=CP
 eAk9:=fun _=>rfl
 eAl8:=BM
 eAm5:=fun _=>rfl
 eAl9:=ID
 eAm3:=fun _=>rfl
 eAl4:=Hc
 eAl6:=fun _=>rfl
 eAl5:=Sg
 eAm0:=fun _=>rfl
 eAl2:=FH
 eAl7:=fun _=>rfl
 eAk1:=CD
 eAl1:=fun _=>rfl
 eAm2:=EM
 eAm6:=fun _=>rfl
def Ma {α:Type}(f:α→Nat):List α→Nat
 |[]=>1
 |a::l=>f a+Ma f l
theorem Tc {α:Type}{f:α→Nat}(hf:∀a,1≤f a):∀l:List α,l.length+1≤Ma f l
 |[]=>by simp[Ma]
 |b::l=>by have:=hf b;have:=Tc hf l;simp only[Ma,List.length_cons];omega
section
variable [H8]{H:Type}{enc:TypeId×Value→H}{W:World}{base:Nat}{spare:Nat→Bool}{held:Bool}
abbrev bk (d:DataW H):Nat:=Rows.uptoBulk d
noncomputable def Og (P:Program)(t:TypeId):Array Field:=match P.underlying t with|some (.struct fs)=>fs|_=> #[]
theorem H7 {P:Program} {t ty off sz:Nat} {xs:List (DataW H×List MemPlace)} {cs:List Value} {n:Nat} (hl:xs.length=(Og P t).size)
 (hf:∀(i:Nat) (f:Field),(Og P t)[i]? =some f→DataW.trod enc P W base spare held n f.type ((cs.drop f.offset).take (P.cellsOf f.type))=xs[i]?) (i:Nat)
 (h:((Og P t)[i]?.map fun f=>(f.type,f.offset,P.cellsOf f.type))=some (ty,off,sz)):∃y,xs[i]? =some y∧DataW.trod enc P W base spare held n ty ((cs.drop off).take sz)=some y:=by
 cases hi:(Og P t)[i]? with
 |none=>rw[hi]at h;cases h
 |some f=>
  rw[hi]at h
  simp only[Option.map_some,Option.some.injEq,Prod.mk.injEq]at h
  obtain⟨rfl,rfl,rfl⟩:=h;exact Sb hl hf i hi
theorem Opens.down {α:Type}{P:Program}{t:TypeId}{f:α→V}{R:α→DataW H→Prop}{n:Nat}(h:Opens enc P W base spare held t f R (n+1)):Opens enc P W base spare held t f R n:=fun cs x hx=>h cs x (DataW.trod_le (Nat.le_succ n) hx)
theorem Opens.imp {α:Type}{P:Program}{t:TypeId}{f:α→V}{R R':α→DataW H→Prop}{n:Nat}(h:Opens enc P W base spare held t f R n)(hi:∀a d,R a d→R' a d):Opens enc P W base spare held t f R' n:=fun cs x hx=>by
 obtain⟨a,r,q⟩:=h cs x hx;exact⟨a,r,hi _ _ q⟩
theorem Opens.congr {α:Type}{P:Program}{t:TypeId}{f g:α→V}{R:α→DataW H→Prop}{n:Nat}(h:Opens enc P W base spare held t f R n)(hg:∀x,f x=g x):Opens enc P W base spare held t g R n:=fun cs x hx=>by
 obtain⟨a,r,q⟩:=h cs x hx;exact⟨a,by rw[←hg];exact r,q⟩
theorem Zn {α:Type} {f:α→Nat}:∀(l:List α) (ds:List (DataW H)),RL (fun a d=>f a≤bk d) l ds→Ma f l≤Rows.uptoBulkAll ds+1
 |[],ds,h=>by simp[Ma]
 |a::l,[],h=>by have:=h.1;simp at this
 |a::l,d::ds,h=>by
  have h1:f a≤bk d:=h.2 0 a d rfl rfl;have h2:=Zn l ds ⟨by simpa using h.1,fun i a d hi hd=>h.2 (i+1) a d (by simpa using hi) (by simpa using hd)⟩;simp only[Ma,Rows.uptoBulkAll];have h3:bk d=Rows.uptoBulk d:=rfl;omega
theorem SL {α:Type}{f:α→Nat}{l:List α}{d:DataW H}(h:RS (fun a d=>f a≤bk d) l d):Ma f l≤bk d:=by
 obtain⟨_,h⟩:=h
 rcases h with⟨rfl,rfl⟩|⟨es,sp,rfl,h⟩
 ·simp[bk,Rows.uptoBulk,Ma]
 have:=Zn l es h;simp only[bk,Rows.uptoBulk];omega
theorem Qz :∀l:List A5,A5.bulks l=Ma A5.bulk l
 |[]=>by simp[A5.bulks,Ma]
 |a::l=>by simp[A5.bulks,Ma,Qz l]
theorem Xm {l:List A5}{d:DataW H}(h:RS (fun a d=>A5.bulk a≤bk d) l d):A5.bulks l≤bk d:=by rw[Qz];exact SL h
theorem Nj :∀l:List A0,A0.bulks l=Ma A0.bulk l
 |[]=>by simp[A0.bulks,Ma]
 |a::l=>by simp[A0.bulks,Ma,Nj l]
theorem QA {l:List A0}{d:DataW H}(h:RS (fun a d=>A0.bulk a≤bk d) l d):A0.bulks l≤bk d:=by rw[Nj];exact SL h
theorem Ab4 {β:Type}{xs:List β}{a b c:β}(hl:xs.length=3)(h0:xs[0]? =some a)(h1:xs[1]? =some b)(h2:xs[2]? =some c):xs=[a,b,c]:=by
 match xs,hl with
 |[x0,x1,x2],_=>simp at h0 h1 h2;rw[h0,h1,h2]
theorem Ab3 {β:Type}{xs:List β}{a b c d e:β}(hl:xs.length=5)(h0:xs[0]? =some a)(h1:xs[1]? =some b)(h2:xs[2]? =some c)(h3:xs[3]? =some d)(h4:xs[4]? =some e):xs=[a,b,c,d,e]:=by
 match xs,hl with
 |[x0,x1,x2,x3,x4],_=>simp at h0 h1 h2 h3 h4;rw[h0,h1,h2,h3,h4]
theorem Ab2 {β:Type}{xs:List β}{a b c d e f:β}(hl:xs.length=6)(h0:xs[0]? =some a)(h1:xs[1]? =some b)(h2:xs[2]? =some c)(h3:xs[3]? =some d)(h4:xs[4]? =some e)(h5:xs[5]? =some f):xs=[a,b,c,d,e,f]:=by
 match xs,hl with
 |[x0,x1,x2,x3,x4,x5],_=>simp at h0 h1 h2 h3 h4 h5;rw[h0,h1,h2,h3,h4,h5]
theorem Ab1 {β:Type}{xs:List β}{a b c d e f g:β}(hl:xs.length=7)(h0:xs[0]? =some a)(h1:xs[1]? =some b)(h2:xs[2]? =some c)(h3:xs[3]? =some d)(h4:xs[4]? =some e)(h5:xs[5]? =some f)(h6:xs[6]? =some g):xs=[a,b,c,d,e,f,g]:=by
 match xs,hl with
 |[x0,x1,x2,x3,x4,x5,x6],_=>simp at h0 h1 h2 h3 h4 h5 h6;rw[h0,h1,h2,h3,h4,h5,h6]
theorem u27 :Tryz.prog.underlying 27=some (.struct (Og Tryz.prog 27)):=by kernel_rfl
theorem u23 :Tryz.prog.underlying 23=some (.slice 27):=by kernel_rfl
theorem u3 :Tryz.prog.underlying 3=some (.int .i64):=by kernel_rfl
theorem Bg (n:Nat):Opens enc Tryz.prog W base spare held 3 (V.int .i64) (fun a d=>(fun _:Int=>1) a≤bk d) n:=(Jc u3).imp fun a d h=>by subst h;simp[bk,Rows.uptoBulk]
theorem u25 :Tryz.prog.underlying 25=some (.struct (Og Tryz.prog 25)):=by kernel_rfl
theorem u9 :Tryz.prog.underlying 9=some .string:=by kernel_rfl
theorem ZX (n:Nat):Opens enc Tryz.prog W base spare held 9 V.str (fun a d=>(fun s:ByteArray=>s.size+1) a≤bk d) n:=(Uu u9).imp fun a d h=>by obtain⟨rfl,_⟩:=h;simp[bk,Rows.uptoBulk]
def A7.mu (x:A7):Nat:=(fun _:Int=>1) x.Kind+(fun _:Int=>1) x.Num+(fun s:ByteArray=>s.size+1) x.Text+1
theorem SR (n:Nat):Opens enc Tryz.prog W base spare held 25 J0.eAk6 (fun(a:A7) d=>A7.mu a≤bk d) n:=by
 intro cs x h;obtain⟨xs,m,hm,rfl,hcl,hl,hf⟩:=DataW.trod_struct u25 h;subst hm;obtain⟨y0,k0,t0⟩:=H7 hl hf 0 (ty:=3) (off:=0) (sz:=1) (by kernel_rfl);obtain⟨y1,k1,t1⟩:=H7 hl hf 1 (ty:=3) (off:=1) (sz:=1) (by kernel_rfl);obtain⟨y2,k2,t2⟩:=H7 hl hf 2 (ty:=9) (off:=2) (sz:=1) (by kernel_rfl);have hxs:=Ab4 (hl.trans (by kernel_rfl)) k0 k1 k2;obtain⟨a0,r0,q0⟩:=Bg _ _ _ t0;obtain⟨a1,r1,q1⟩:=Bg _ _ _ t1;obtain⟨a2,r2,q2⟩:=ZX _ _ _ t2;refine⟨⟨a0,a1,a2⟩,?_,?_⟩
 ·have hc3:cs.length=3:=hcl.trans (by kernel_rfl);have:=(r0.join r1).join r2;rw[J0.eAk2]
  simp only[lst_eq]at this ⊢
  simpa[List.take_of_length_le,hc3,V.cells]using this
 simp only[bk]at q0 q1 q2
 rw[hxs];simp only[List.map_cons,List.map_nil,bk,Rows.uptoBulk,Rows.uptoBulkAll,A7.mu];omega
theorem Yp :∀n:Nat,Opens enc Tryz.prog W base spare held 27 J0.eAk7 (fun(a:A5) d=>A5.bulk a≤bk d) n:=by
 intro n
 induction n with
 |zero=>intro cs x h;simp[DataW.trod]at h
 |succ n ih=>
 intro cs x h;obtain⟨xs,m,hm,rfl,hcl,hl,hf⟩:=DataW.trod_struct u27 h;cases hm;obtain⟨y0,k0,t0⟩:=H7 hl hf 0 (ty:=3) (off:=0) (sz:=1) (by kernel_rfl);obtain⟨y1,k1,t1⟩:=H7 hl hf 1 (ty:=23) (off:=1) (sz:=1) (by kernel_rfl);obtain⟨y2,k2,t2⟩:=H7 hl hf 2 (ty:=3) (off:=2) (sz:=1) (by kernel_rfl);obtain⟨y3,k3,t3⟩:=H7 hl hf 3 (ty:=3) (off:=3) (sz:=1) (by kernel_rfl);obtain⟨y4,k4,t4⟩:=H7 hl hf 4 (ty:=3) (off:=4) (sz:=1) (by kernel_rfl);obtain⟨y5,k5,t5⟩:=H7 hl hf 5 (ty:=25) (off:=5) (sz:=3) (by kernel_rfl);have hxs:=Ab2 (hl.trans (by kernel_rfl)) k0 k1 k2 k3 k4 k5;obtain⟨a0,r0,q0⟩:=Bg _ _ _ t0
 obtain⟨a1,r1,q1⟩:∃a:List A5,CN (g0 W) W ((cs.drop 1).take 1) (V.sl (a.map J0.eAk7) .ro).cells∧A5.bulks a≤bk y1.1:=by
  cases n with
  |zero=>simp[DataW.trod]at t1
  |succ n=>
   obtain⟨a,r,q⟩:=DU u23 (show 0<Tryz.prog.cellsOf 27 by rw[show Tryz.prog.cellsOf 27=8 by kernel_rfl];decide) ih.down _ _ t1;exact⟨a,r,Xm q⟩
 obtain⟨a2,r2,q2⟩:=Bg _ _ _ t2;obtain⟨a3,r3,q3⟩:=Bg _ _ _ t3;obtain⟨a4,r4,q4⟩:=Bg _ _ _ t4;obtain⟨a5,r5,q5⟩:=SR _ _ _ t5;refine⟨⟨a0,a1,a2,a3,a4,a5⟩,?_,?_⟩
 ·have hc3:cs.length=8:=hcl.trans (by kernel_rfl)
  rw[J0.eAk2]at r5
  have:=((((r0.join r1).join r2).join r3).join r4).join r5;rw[J0.eAk8]
  simp only[lst_eq]at this ⊢
  simpa[List.take_of_length_le,hc3,V.cells]using this
 simp only[bk]at q0 q1 q2 q3 q4 q5
 rw[hxs]
 simp only[List.map_cons,List.map_nil,bk,Rows.uptoBulk,Rows.uptoBulkAll,A5.bulk,A7.mu]at *
 omega
theorem u29 :Tryz.prog.underlying 29=some (.struct (Og Tryz.prog 29)):=by kernel_rfl
theorem u22 :Tryz.prog.underlying 22=some (.slice 29):=by kernel_rfl
theorem Yo :∀n:Nat,Opens enc Tryz.prog W base spare held 29 J0.eAk0 (fun(a:A0) d=>A0.bulk a≤bk d) n:=by
 intro n
 induction n with
 |zero=>intro cs x h;simp[DataW.trod]at h
 |succ n ih=>
 intro cs x h;obtain⟨xs,m,hm,rfl,hcl,hl,hf⟩:=DataW.trod_struct u29 h;cases hm;obtain⟨y0,k0,t0⟩:=H7 hl hf 0 (ty:=3) (off:=0) (sz:=1) (by kernel_rfl);obtain⟨y1,k1,t1⟩:=H7 hl hf 1 (ty:=22) (off:=1) (sz:=1) (by kernel_rfl);obtain⟨y2,k2,t2⟩:=H7 hl hf 2 (ty:=3) (off:=2) (sz:=1) (by kernel_rfl);obtain⟨y3,k3,t3⟩:=H7 hl hf 3 (ty:=3) (off:=3) (sz:=1) (by kernel_rfl);obtain⟨y4,k4,t4⟩:=H7 hl hf 4 (ty:=3) (off:=4) (sz:=1) (by kernel_rfl);obtain⟨y5,k5,t5⟩:=H7 hl hf 5 (ty:=3) (off:=5) (sz:=1) (by kernel_rfl);obtain⟨y6,k6,t6⟩:=H7 hl hf 6 (ty:=27) (off:=6) (sz:=8) (by kernel_rfl);have hxs:=Ab1 (hl.trans (by kernel_rfl)) k0 k1 k2 k3 k4 k5 k6;obtain⟨a0,r0,q0⟩:=Bg _ _ _ t0
 obtain⟨a1,r1,q1⟩:∃a:List A0,CN (g0 W) W ((cs.drop 1).take 1) (V.sl (a.map J0.eAk0) .ro).cells∧A0.bulks a≤bk y1.1:=by
  cases n with
  |zero=>simp[DataW.trod]at t1
  |succ n=>
   obtain⟨a,r,q⟩:=DU u22 (show 0<Tryz.prog.cellsOf 29 by rw[show Tryz.prog.cellsOf 29=14 by kernel_rfl];decide) ih.down _ _ t1;exact⟨a,r,QA q⟩
 obtain⟨a2,r2,q2⟩:=Bg _ _ _ t2;obtain⟨a3,r3,q3⟩:=Bg _ _ _ t3;obtain⟨a4,r4,q4⟩:=Bg _ _ _ t4;obtain⟨a5,r5,q5⟩:=Bg _ _ _ t5;obtain⟨a6,r6,q6⟩:=Yp _ _ _ t6;refine⟨⟨a0,a1,a2,a3,a4,a5,a6⟩,?_,?_⟩
 ·have hc3:cs.length=14:=hcl.trans (by kernel_rfl)
  rw[J0.eAk8]at r6
  have:=(((((r0.join r1).join r2).join r3).join r4).join r5).join r6;rw[J0.eAj9]
  simp only[lst_eq]at this ⊢
  simpa[List.take_of_length_le,hc3,V.cells]using this
 simp only[bk]at q0 q1 q2 q3 q4 q5 q6
 rw[hxs]
 simp only[List.map_cons,List.map_nil,bk,Rows.uptoBulk,Rows.uptoBulkAll,A0.bulk,A7.mu]at *
 omega
theorem u62 :Tryz.prog.underlying 62=some (.struct (Og Tryz.prog 62)):=by kernel_rfl
theorem u60 :Tryz.prog.underlying 60=some (.slice 25):=by kernel_rfl
theorem Ym (n:Nat):Opens enc Tryz.prog W base spare held 60 (fun l:List A7=>.sl (lst J0.eAk6 l) .ro) (fun a d=>(Ma A7.mu) a≤bk d) n:=
 Opens.down (((DU u60 (show 0<Tryz.prog.cellsOf 25 by rw[show Tryz.prog.cellsOf 25=3 by kernel_rfl];decide) (SR n)).imp fun a d h=>SL h).congr fun x=>by rw[lst_eq])
def A3.mu (x:A3):Nat:=(fun _:Int=>1) x.Source+(fun _:Int=>1) x.Seq+(fun _:Int=>1) x.Typ+(fun _:Int=>1) x.Time+(Ma A7.mu) x.Values+1
theorem Yl (n:Nat):Opens enc Tryz.prog W base spare held 62 J0.eAj8 (fun(a:A3) d=>A3.mu a≤bk d) n:=by
 intro cs x h;obtain⟨xs,m,hm,rfl,hcl,hl,hf⟩:=DataW.trod_struct u62 h;subst hm;obtain⟨y0,k0,t0⟩:=H7 hl hf 0 (ty:=3) (off:=0) (sz:=1) (by kernel_rfl);obtain⟨y1,k1,t1⟩:=H7 hl hf 1 (ty:=3) (off:=1) (sz:=1) (by kernel_rfl);obtain⟨y2,k2,t2⟩:=H7 hl hf 2 (ty:=3) (off:=2) (sz:=1) (by kernel_rfl);obtain⟨y3,k3,t3⟩:=H7 hl hf 3 (ty:=3) (off:=3) (sz:=1) (by kernel_rfl);obtain⟨y4,k4,t4⟩:=H7 hl hf 4 (ty:=60) (off:=4) (sz:=1) (by kernel_rfl);have hxs:=Ab3 (hl.trans (by kernel_rfl)) k0 k1 k2 k3 k4;obtain⟨a0,r0,q0⟩:=Bg _ _ _ t0;obtain⟨a1,r1,q1⟩:=Bg _ _ _ t1;obtain⟨a2,r2,q2⟩:=Bg _ _ _ t2;obtain⟨a3,r3,q3⟩:=Bg _ _ _ t3;obtain⟨a4,r4,q4⟩:=Ym _ _ _ t4;refine⟨⟨a0,a1,a2,a3,a4⟩,?_,?_⟩
 ·have hc3:cs.length=5:=hcl.trans (by kernel_rfl);have:=(((r0.join r1).join r2).join r3).join r4;rw[J0.eAk3]
  simp only[lst_eq]at this ⊢
  simpa[List.take_of_length_le,hc3,V.cells]using this
 simp only[bk]at q0 q1 q2 q3 q4
 rw[hxs];simp only[List.map_cons,List.map_nil,bk,Rows.uptoBulk,Rows.uptoBulkAll,A3.mu];omega
theorem u30 :Tryz.prog.underlying 30=some (.slice 62):=by kernel_rfl
theorem Yn (n:Nat):Opens enc Tryz.prog W base spare held 30 (fun l:List A3=>.sl (lst J0.eAj8 l) .ro) (fun a d=>(Ma A3.mu) a≤bk d) n:=
 Opens.down (((DU u30 (show 0<Tryz.prog.cellsOf 62 by rw[show Tryz.prog.cellsOf 62=5 by kernel_rfl];decide) (Yl n)).imp fun a d h=>SL h).congr fun x=>by rw[lst_eq])
theorem Ot {v:Value}{d:DataW H}{p:List MemPlace}(hv:Value.okWide Tryz.prog W .any base 29 v)(h:DataW.Trod enc Tryz.prog W 0 (fun _=>true) true 29 v d p):∃x:A0,VR (g0 W) W v (J0.eAk0 x)∧A0.bulk x≤Rows.uptoBulk d:=by
 obtain⟨fuel,ht⟩:=h;obtain⟨cs,rfl,hcs⟩:=okWide_struct u29 hv;obtain⟨x,hr,hb⟩:=Yo fuel _ _ ht;have hr':CN (g0 W) W cs.toList (J0.eAk0 x).cells:=hr;refine⟨x,?_,hb⟩;have:=hr'.agg
 rw[J0.eAj9]at this ⊢
 exact this
theorem QC {v:Value}{d:DataW H}{p:List MemPlace}(hv:Value.okWide Tryz.prog W .any base 30 v)(h:DataW.Trod enc Tryz.prog W 0 (fun _=>true) true 30 v d p):∃x:List A3,VR (g0 W) W v (.sl (lst J0.eAj8 x) .ro)∧(Ma A3.mu) x≤Rows.uptoBulk d:=by
 obtain⟨fuel,ht⟩:=h;obtain⟨a,len,cap,rfl⟩:=okWide_slice u30 hv;obtain⟨x,hr,hb⟩:=Yn fuel _ _ ht;exact⟨x,(hr.2 0 (by simp[V.cells])).2,hb⟩
theorem u4 :Tryz.prog.underlying 4=some .bool:=by kernel_rfl
theorem YF {f:FuncId}{vals:Array Value}{args:List V}(hg:∀n,VR (g0 W) W (.pointer (some ⟨n,0,none⟩)) (H8.gl n))(hcall:∀vals w,(callFunc f vals).run Tryz.prog w= .ok (.enter f vals) w)(law:B1 Tryz.prog f args (.bool true))(hA:Args (g0 W) W vals args):
 Calls Tryz.prog f vals W fun e W'=>e= .returned (.bool true)∧Below W.heap.size W W':=by
 have hc:=law (fun _=>none) (g0 W) W vals (rl0 hg) hA
 rw[hcall]at hc
 refine(callsIn_wide.1 hc).mono fun e W' ⟨v,he,g',y,H',hs,hR,hvy,hy,_⟩=>?_;subst hy;cases hvy;exact⟨he,hs.low⟩
theorem Aj0 {v0 v1 v2:Value}{x0 x1 x2:V}(h0:VR (g0 W) W v0 x0)(h1:VR (g0 W) W v1 x1)(h2:VR (g0 W) W v2 x2):Args (g0 W) W #[v0,v1,v2] [x0,x1,x2]:=⟨rfl,fun i hi=>by
 match i,hi with
 |0,_=>exact h0
 |1,_=>exact h1
 |2,_=>exact h2⟩
end
end Go.Ab
