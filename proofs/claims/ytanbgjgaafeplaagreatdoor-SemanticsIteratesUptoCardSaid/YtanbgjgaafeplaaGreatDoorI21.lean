/- GTG2 GTX4 GTG4 GTC1 GTC2 GTC3 GTG3 GTG5 GTJ1 GTJ2 GTJ3 -/
import Derived.Test.YtanbgjgaafeplaaGreatDoorI20
set_option linter.all false
open Bool (and_eq_true)
open Go.Ab.Ar (an ar cmp)
namespace Go.Ab
open Classical
noncomputable section
theorem Af3 (e:Cu):gE id e=e:=by
 unfold gE;have:(fun r:List A6=>r.map id)=id:=funext fun r=>List.map_id r;rw[this,List.map_id]
theorem YJ (c:A3):Cok id c:=⟨fun env own ev=>by rw[Af3];rfl,fun env=>by rw[Af3]⟩
theorem Xb (l:List A6):Tok l id:=fun _ _ _ _=>rfl
theorem NV {l' l:List A6}{u:Int→Int}(E:UY l' l id u){s:List PR}(hs:Sk l' s):W5 l (Gw u s)=W5 l' s:=by
 unfold W5 Gw;rw[List.map_map];refine congrArg D1.mk (List.map_congr_left fun x hx=>?_);obtain⟨j,hj,e⟩:=hs x hx;obtain⟨i,hi,hl⟩:=E.at_ j hj
 rw[Option.map_id,id]at hl
 show(⟨x.Var,Ez l (u x.At)⟩:E8)=⟨x.Var,Ez l' x.At⟩
 unfold Ez;rw[e,hi,Int.toNat_natCast,Int.toNat_natCast,hl]
theorem Ak6 {l:List A6}(hl:l.length≤10)(h:Gs l=0){i:Nat}(hi:i<l.length):FH l[i]=true∧∀(j:Nat) (hj:j<i),BW (l[j]'(by omega)) l[i]=false:=by
 unfold Gs at h
 rw[if_neg (by omega)]at h
 have:=Z3.1 h i (List.mem_range.2 hi)
 unfold Kr at this
 rw[List.getElem?_eq_getElem hi]at this
 dsimp only at this
 split at this
 ·cases this
 rename_i h1
 split at this
 ·cases this
 split at this
 ·cases this
 rename_i h3
 rw[Bool.not_eq_true,List.any_eq_false]at h3
 refine⟨by simpa using h1,fun j hj=>?_⟩;have hm:(l[j]'(by omega))∈l.take i:=List.mem_take_iff_getElem.2 ⟨j,by omega,rfl⟩
 simpa using h3 _ hm
theorem Ac2 {l' l:List A6} {u:Int→Int} (E:UY l' l id u) (hl:l.length≤10) (hl':l'.length≤10) (h:Gs l=0):Gs l'=0:=by
 have key:∀(j:Nat) (hj:j<l'.length),∃(i:Nat) (hi:i<l.length),u j=i∧l'[j]=l[i]:=fun j hj=>by
  obtain⟨i,hi,he⟩:=E.at_ j hj;have hil:=(E.lt_lenU hj hi).1
  rw[Option.map_id,id,List.getElem?_eq_getElem hj,List.getElem?_eq_getElem hil]at he
  exact⟨i,hil,hi,(Option.some.inj he).symm⟩
 unfold Gs;rw[if_neg (by omega)];refine Z3.2 fun j hj=>?_;have hj:=List.mem_range.1 hj;obtain⟨i,hi,hu,he⟩:=key j hj;obtain⟨a1,a2⟩:=Ak6 hl h hi;unfold Kr;rw[List.getElem?_eq_getElem hj]
 dsimp only
 rw[if_neg (by rw[he,a1];simp),if_neg,if_neg]
 ·rw[Bool.not_eq_true,List.any_eq_false];intro x hx;obtain⟨j0,hj0,e0⟩:=List.mem_take_iff_getElem.1 hx;obtain⟨i0,hi0,hu0,he0⟩:=key j0 (by omega)
  have hlt:i0<i:=by have:=(E.mono j0 j).2 (by omega);omega
  rw[←e0,he0,he,a2 i0 hlt];simp
 rintro⟨h0,h1⟩
 have hj1:j - 1<l'.length:=by omega
 obtain⟨i0,hi0,hu0,he0⟩:=key (j - 1) hj1
 have hlt:i0<i:=by have:=(E.mono (j - 1:Nat) j).2 (by omega);omega
 rw[List.getElem?_eq_getElem hj1,Option.getD_some,he0,he]at h1
 obtain⟨d,rfl⟩:∃d,i=i0+d+1:=⟨i - i0 - 1,by omega⟩;have:=Jz hl h d i0 hi hi0 hi;omega
theorem US :∀{a b:List D1},TR a→TR b→(∀x,x∈a↔x∈b)→a=b
 |[],[],_,_,_=>rfl
 |[],y::b,_,_,h=>absurd ((h y).2 (by simp)) List.not_mem_nil
 |x::a,[],_,_,h=>absurd ((h x).1 (by simp)) List.not_mem_nil
 | x::a,y::b,ha,hb,h=>by
  unfold TR at ha hb
  rw[List.pairwise_cons]at ha hb
  have irr:∀z:D1,¬mO z.cQ z.cQ<0:=fun z=>by rw[Uy];decide
  have asy:∀z w:D1,mO z.cQ w.cQ<0→¬mO w.cQ z.cQ<0:=fun z w h=>by rw[Th];omega
  have hxy:x=y:=by
   rcases List.mem_cons.1 ((h x).1 (by simp))with e|e
   ·exact e
   rcases List.mem_cons.1 ((h y).2 (by simp))with k|k
   ·exact k.symm
   exact absurd (hb.1 x e) (asy x y (ha.1 y k))
  subst hxy;refine congrArg (x:: ·) (US ha.2 hb.2 fun z=>⟨fun hz=>?_,fun hz=>?_⟩)
  ·rcases List.mem_cons.1 ((h z).1 (List.mem_cons_of_mem _ hz))with e|e
   ·rw[e]at hz;exact absurd (ha.1 x hz) (irr x)
   exact e
  rcases List.mem_cons.1 ((h z).2 (List.mem_cons_of_mem _ hz))with e|e
  ·rw[e]at hz;exact absurd (hb.1 x hz) (irr x)
  exact e
structure Zf (l:List A6) (p:A0) (r:List D1):Prop where
 asc:TR r
 mem:∀x,x∈r↔∃s,Sm l p [] 0 s∧x=W5 l s
theorem Zf.uniq {l:List A6}{p:A0}{r q:List D1}(h:Zf l p r)(k:Zf l p q):r=q:=US h.asc k.asc fun x=>by rw[h.mem,k.mem]
theorem Ai5 {N:Nat} (hN:40000000≤N) {p:A0} (hb:p.bulk≤16777216) {l:List A6} (hl:l.length≤10) (hs:(evs p+1) ^ l.length≤1500∨(AS p∧l.length ^ evs p≤1500)) (h1:Gt N p=0) (h2:Gs l=0):
 ∃r,M2 N p l=some (r,0)∧Zf l p r∧(∀x∈r,x.cQ.length≤10∧x.cQ≠[])∧r.length≤1500:=by
 obtain⟨r,k1,k6,⟨L,_,m2,m3⟩,k3,k4⟩:=Ug hN hb hl hs h1 h2
 have hm:Zf l p r:=⟨k6,fun x=>by
  rw[m3.mem_iff,List.mem_map]
  exact⟨fun⟨s,a,b⟩=>⟨s,(m2 s).1 a,b.symm⟩,fun⟨s,a,b⟩=>⟨s,(m2 s).2 a,b.symm⟩⟩⟩
 refine⟨r,k1,hm,fun x hx=>⟨k3 x hx,fun e=>?_⟩,k4⟩;obtain⟨s,a,rfl⟩:=(hm.mem x).1 hx;exact a.inl.1 (List.map_eq_nil_iff.1 e)
theorem Zf.part {l' l:List A6}{u:Int→Int}(E:UY l' l id u){p:A0}{r r':List D1}(h:Zf l p r)(h':Zf l' p r'):
 (∀s,Sm l p [] 0 s→(∀x∈s,∃j:Nat,j<l'.length∧u j=x.At)→W5 l s∈r')∧((∀y∈p.pre,y.Op=5→Cvx l' u)→∀x∈r',∃s,Sm l p [] 0 s∧(∀x∈s,∃j:Nat,j<l'.length∧u j=x.At)∧x=W5 l s):=by
 have hF:∀j:Int,0≤j↔0≤u j:=fun j=>(E.nn j).symm
 constructor
 ·intro s hs hx;obtain⟨t,rfl,ht⟩:=E.dn (Xb l') hs (fun y _=>⟨YJ _,fun _=>trivial⟩) [] 0 rfl (fun _ h=>absurd h List.not_mem_nil) hF hx;exact(h'.mem _).2 ⟨t,ht,NV E ht.inl.2⟩
 intro hq x hx;obtain⟨t,ht,rfl⟩:=(h'.mem x).1 hx;refine⟨Gw u t,E.up (Xb l') ht (fun y hy=>⟨YJ _,hq y hy⟩) (fun _ h=>absurd h List.not_mem_nil) 0 hF,fun x hx=>?_,(NV E ht.inl.2).symm⟩;obtain⟨y,hy,rfl⟩:=List.mem_map.1 hx;obtain⟨j,hj,e⟩:=ht.inl.2 y hy;exact⟨j,hj,by show _=u y.At;rw[e]⟩
theorem SF {p:A0}{n m:Nat}(h:n≤m)(hs:(evs p+1) ^ m≤1500∨(AS p∧m ^ evs p≤1500)):(evs p+1) ^ n≤1500∨(AS p∧n ^ evs p≤1500):=by
 rcases hs with h1|⟨h1,h2⟩
 ·exact .inl (Nat.le_trans (Nat.pow_le_pow_right (by omega) h) h1)
 exact .inr ⟨h1,Nat.le_trans (Nat.pow_le_pow_left h _) h2⟩
end
end Go.Ab
namespace Go.Ab
open Classical
noncomputable section
end
end Go.Ab
namespace Go.Ab
open Classical
noncomputable section
theorem CT {α:Type}{N:Nat}{l:List α}{step:Int→Option (Int ⊕ (Unit ⊕ Int))}{k:Unit ⊕ Int→Option Int}(P:α→Bool)(hl:l.length<N)(hN:l.length<1000000000)
 (hstep:∀(i:Nat) x,l[i]? =some x→(i:Int)<l.length→step i=some (if P x=true then .inr (.inr (i:Int))else .inl ((i:Int)+1)))
 (hend:step (l.length:Int)=some (.inr (.inl ()))) (h0:k (.inl ())=some (-1)) (h1:∀i,k (.inr i)=some i):(((loopN step N 0).bind k).bind fun r1=>some (cmp .geq r1 0))=some (l.any P):=by
 obtain⟨j,h,hj⟩:=Jm hl hN P () (fun i=>i) hstep hend;rw[h]
 by_cases ha:l.any P=true
 ·rw[if_pos ha,ha];simp only[Option.bind_some,h1,K2,decide_eq_true hj]
 rw[if_neg ha];simp only[Option.bind_some,h0,K2]
 rw[Bool.not_eq_true]at ha
 rw[ha];rfl
theorem hasM {N:Nat} (hN:40000000≤N) {s:List D1} (hl:s.length≤1000000) {f:D1→Option Bool} {P:D1→Bool} (hf:∀x∈s,f x=some (P x)):E5 N s f=some (s.any P):=by
 unfold E5 M0
 exact CT P (by omega) (by omega) (fun i x hx hi=>by
  have e:ar .add .i64 (i:Int) 1=i+1:=C5 (by omega) (by omega);rw[if_pos (R9 hi),D9,hx];simp only[Option.bind_some,hf x (List.mem_of_getElem? hx),e]
  split<;>rfl) (by rw[if_neg V9]) rfl fun _=>rfl
structure KY (N:Nat) (p:A0) (l:List A6):Prop where
 len:l.length≤10
 sml:(evs p+1) ^ l.length≤1500∨(AS p∧l.length ^ evs p≤1500)
 p0:Gt N p=0
 s0:Gs l=0
theorem UI {N:Nat} (hN:40000000≤N) {p:A0} (hb:p.bulk≤16777216) {l:List A6} (hl:l.length≤16777216):∃b,Ag N p l=some b∧(b=true→KY N p l):=by
 unfold Ag;obtain⟨b,h1,h2⟩:=Xh hN (p:=p) hb (l:=l) hl;rw[h1];simp only[Option.bind_some]
 cases b with
 |false=>exact⟨false,rfl,fun h=>by cases h⟩
 | true=>
  rw[if_pos rfl];unfold EA;rw[VI hN hb];simp only[Option.bind_some]
  by_cases h3:Gt N p=0
  ·rw[if_neg (N2 h3),ZE hN];refine⟨_,rfl,fun h=>⟨(h2 rfl).1,(h2 rfl).2,h3,?_⟩⟩
   rw[C4]at h
   exact of_decide_eq_true h
  rw[if_pos (S5 h3)];refine⟨_,rfl,fun h=>?_⟩
  rw[C4]at h
  exact absurd (of_decide_eq_true h) h3
theorem Hb {N:Nat} (hN:40000000≤N) {p:A0} (hb:p.bulk≤16777216) {l:List A6} (g:KY N p l):
 ∃r,F2 N p l=some (r,true)∧Zf l p r∧(∀x∈r,x.cQ.length≤10∧x.cQ≠[])∧r.length≤1500:=by
 obtain⟨r,k1,k3,k4,k5⟩:=Ai5 hN hb g.len g.sml g.p0 g.s0;refine⟨r,?_,k3,k4,k5⟩;unfold F2 X3;rw[k1];simp only[Option.bind_some];rw[if_pos (by rw[C4];rfl),hasM hN (by omega) (f:=fun y1=>Ap N y1) (P:=fun x=>cmp .eql (Ar.len x.cQ) 0) fun x _=>rfl]
 have:(r.any fun x=>cmp .eql (Ar.len x.cQ) 0)=false:=by
  rw[List.any_eq_false];intro x hx;rw[C4,B5]
  simpa using(k4 x hx).2
 simp only[Option.bind_some,this];rfl
theorem KY.part {N:Nat}{p:A0}{l l':List A6}(g:KY N p l){u:Int→Int}(E:UY l' l id u)(h:l'.length≤l.length):KY N p l':=
 ⟨by have:=g.len;omega,SF h g.sml,g.p0,Ac2 E g.len (by have:=g.len;omega) g.s0⟩
end
end Go.Ab
namespace Go.Ab
open Classical
noncomputable section
mutual
def noS :A0→A0
 |⟨op,args,typ,var,_,span,c⟩=>⟨op,Mn args,typ,var,0,span,c⟩
def Mn :List A0→List A0
 |[]=>[]
 |a::r=>noS a::Mn r
end
theorem Rg :∀l:List A0,Mn l=l.map noS
 |[]=>by simp[Mn]
 |a::l=>by simp[Mn,Rg l]
theorem Tc (p:A0):noS p={p with cO:=p.cO.map noS,cR:=0}:=by cases p;simp only[noS,Rg]
def YW (p q:A0):Prop:=noS p=noS q
structure Sd (p q:A0):Prop where
 op:p.Op=q.Op
 typ:p.Typ=q.Typ
 var:p.Var=q.Var
 span:p.Span=q.Span
 cond:p.cP=q.cP
 args:p.cO.map noS=q.cO.map noS
theorem YW.iff {p q:A0}:YW p q↔Sd p q:=by
 unfold YW;rw[Tc,Tc]
 constructor
 ·intro h
  simp only[A0.mk.injEq]at h
  exact⟨h.1,h.2.2.1,h.2.2.2.1,h.2.2.2.2.2.1,h.2.2.2.2.2.2,h.2.1⟩
 rintro⟨h1,h2,h3,h4,h5,h6⟩;rw[h1,h2,h3,h4,h5,h6]
theorem YW.sub {p q:A0}(h:Sd p q){r m:List A0}(e:r.map noS=m.map noS):YW {p with cO:=r} {q with cO:=m}:=YW.iff.2 ⟨h.op,h.typ,h.var,h.span,h.cond,e⟩
theorem Sd.testE {p q:A0}(h:Sd p q)(l:List A6)(b:List PR)(j:Nat):testE l p b j=Go.Ab.testE l q b j:=by unfold Go.Ab.testE;rw[h.typ,h.var,h.cond]
theorem Sd.keepsA {p q:A0}(h:Sd p q)(l:List A6)(b s:List PR):keepsA l p b s=Go.Ab.keepsA l q b s:=by
 have hb:∀i,Gm l p b s i=Gm l q b s i:=fun i=>by unfold Gm;rw[h.typ,h.var,h.cond]
 unfold Go.Ab.keepsA IK;rw[h.op,h.span,h.cond];simp only[hb]
mutual
theorem Um :∀p:A0,(noS p).pre=p.pre.map noS
 |⟨op,args,typ,var,scope,span,c⟩=>by simp only[noS,A0.pre,List.map_cons];rw[NR args]
theorem NR :∀l:List A0,A0.pres (Mn l)=(A0.pres l).map noS
 |[]=>by simp[Mn,A0.pres]
 |a::r=>by simp only[Mn,A0.pres,List.map_append];rw[Um a,NR r]
end
mutual
theorem Mo :∀p:A0,(noS p).bulk=p.bulk
 |⟨op,args,typ,var,scope,span,c⟩=>by simp only[noS,A0.bulk];rw[Mm args]
theorem Mm :∀l:List A0,A0.bulks (Mn l)=A0.bulks l
 |[]=>by simp[Mn]
 |a::r=>by simp only[Mn,A0.bulks];rw[Mo a,Mm r]
end
theorem YW.bulk {p q:A0}(h:YW p q):p.bulk=q.bulk:=by rw[←Mo p,h,Mo]
theorem Ai0 (p:A0):(noS p).Op=p.Op:=by rw[Tc]
theorem Un (p:A0):evs (noS p)=evs p:=by
 unfold evs;rw[Um,List.countP_map]
 exact List.countP_congr fun y _=>by simp only[Function.comp_apply,Ai0]
theorem YW.evs {p q:A0}(h:YW p q):evs p=Go.Ab.evs q:=by rw[←Un p,h,Un]
end
end Go.Ab
namespace Go.Ab
open Classical
noncomputable section
theorem Mx {S R T:Type}{step:S→Option (S ⊕ R)}{k:R→Option T}{Q:T→Prop}(I:Nat→S→Prop)(n:Nat){s:S}{N:Nat}(hN:n<N)(h0:I 0 s)
 (hs:∀j s,j<n→I j s→∃o,step s=some o∧(match o with| .inl s'=>I (j+1) s'| .inr r=>∃t,k r=some t∧Q t)) (he:∀s,I n s→∃r,step s=some (.inr r)∧∃t,k r=some t∧Q t):∃t,(loopN step N s).bind k=some t∧Q t:=by
 obtain⟨r,h1,h2⟩:=Jl (step:=step) I (fun r=>∃t,k r=some t∧Q t) n 0 s N hN h0 (fun j s _ hj h=>hs j s (by omega) h) fun s h=>he s (by rw[Nat.zero_add]at h;exact h);rw[h1];exact h2
def IdL (to:List Int):Prop:=∀(v:Nat) x,to[v]? =some x→x<0∨x=v
theorem IdL.at {to:List Int}(h:IdL to){v x:Int}(e:B7 to v=some x):x<0∨x=v:=by
 unfold B7 at e
 split at e
 ·have:=h _ _ e;omega
 cases e
theorem Aj2 {α:Type}{l:List α}{v:Int}(h0:0≤v)(h1:v<l.length):∃x,B7 l v=some x:=by
 unfold B7;rw[if_pos h0];exact⟨l[v.toNat]'(by omega),List.getElem?_eq_getElem _⟩
theorem Hu {α:Type}{l:List α}{j:Nat}(hj:j<l.length):l.take (j+1)=l.take j++[l[j]]:=List.take_succ_eq_append_getElem hj
def PL (N:Nat)(p:A0):Prop:=∀y∈p.pre,∃s ng,Ge N y s ng∧(s.cS=true→0≤y.Var∧y.Var<16)
theorem PL.arg {N:Nat}{p q:A0}(h:PL N p)(hq:q∈p.cO):PL N q:=X9 h hq
end
end Go.Ab
namespace Go.Ab
open Classical
noncomputable section
theorem Sd.noS {p q:A0}(h:Sd p q):noS p=Go.Ab.noS q:=YW.iff.2 h
theorem Nc {i:Nat}(h:i<1000000000000):ar .add .i64 (i:Int) 1=((i+1:Nat):Int):=EI h
theorem Xu {α:Type}{l:List α}{i:Int}(h0:0≤i)(h1:i<l.length):QI (Yl l i)=some ():=by
 unfold QI Yl;rw[if_pos (decide_eq_true ⟨h0,h1⟩)]
end
end Go.Ab
namespace Go.Ab
open Classical
noncomputable section
end
end Go.Ab
namespace Go.Ab
open Classical
noncomputable section
theorem hasE {N:Nat} (hN:40000000≤N) {s:List A3} (hl:s.length≤16777216) {f:A3→Option Bool} {P:A3→Bool} (hf:∀x∈s,f x=some (P x)):I1 N s f=some (s.any P):=by
 unfold I1 N4
 exact CT P (by omega) (by omega) (fun i x hx hi=>by
  have e:ar .add .i64 (i:Int) 1=i+1:=C5 (by omega) (by omega);rw[if_pos (R9 hi),D9,hx];simp only[Option.bind_some,hf x (List.mem_of_getElem? hx),e]
  split<;>rfl) (by rw[if_neg V9]) rfl fun _=>rfl
theorem Mf (f:A3→Bool):∀r:List A3,(A3.pres r).any f=r.any fun x=>x.pre.any f
 |[]=>rfl
 |a::r=>by simp only[A3.pres,List.any_append,List.any_cons,Mf f r]
end
end Go.Ab
namespace Go.Ab
open Classical
noncomputable section
def HN (ys:List A3)(v:Nat):Bool:=ys.any fun y=>Bs y.Op&&decide (y.Var=(v:Int))
theorem XE (a b:List A3)(v:Nat):HN (a++b) v=(HN a v||HN b v):=by unfold HN;rw[List.any_append]
theorem Me :∀a b:List A3,A3.pres (a++b)=A3.pres a++A3.pres b
 |[],b=>by simp[A3.pres]
 |x::a,b=>by simp only[List.cons_append,A3.pres,Me a b,List.append_assoc]
def PK (l:List Bool)(ys:List A3)(m:List Bool):Prop:=m.length=l.length∧∀v,m[v]? =(l[v]?).map fun b=>b||HN ys v
theorem PK.refl (l:List Bool):PK l [] l:=⟨rfl,fun v=>by simp[HN]⟩
theorem PK.trans {l m r:List Bool}{a b:List A3}(h:PK l a m)(k:PK m b r):PK l (a++b) r:=⟨k.1.trans h.1,fun v=>by
 rw[k.2,h.2,Option.map_map]
 congr 1
 funext x
 simp only[Function.comp_apply,XE,Bool.or_assoc]⟩
theorem VS {N:Nat} (hN:40000000≤N):∀(n:Nat) (x:A3) (l:List Bool),x.bulk≤n→x.bulk≤16777216→l.length≤16→∃m,Ba N n x l=some m∧PK l x.pre m:=by
 intro n
 induction n with
 |zero=>intro x l h;have:=Y2 x;omega
 | succ n ih=>
  intro x l hx hb hl;have hal:=AQ x;unfold Ba;rw[Sy];simp only[Option.bind_some]
  obtain⟨l2,h2,k2⟩:∃l2,(if an (an (decide (x.Op=1∨x.Op=2∨x.Op=3∨x.Op=4)) (cmp .geq x.Var 0)) (cmp .lss x.Var (Ar.len l))=true then
   (QI (Yl l x.Var)).bind fun _=>(FC l x.Var (fun _=>true)).bind fun l3=>some l3 else some l)=some l2∧PK l [x] l2:=by
   by_cases hc:an (an (decide (x.Op=1∨x.Op=2∨x.Op=3∨x.Op=4)) (cmp .geq x.Var 0)) (cmp .lss x.Var (Ar.len l))=true
   ·rw[if_pos hc]
    simp only[L4,K2,C1,B5,and_eq_true,decide_eq_true_eq]at hc
    obtain⟨⟨hu,h0⟩,h1⟩:=hc;rw[Xu h0 h1];obtain⟨z,hz⟩:=Aj2 h0 h1;refine⟨l.set x.Var.toNat true,by simp only[Option.bind_some,FC,hz,Option.map_some],by simp,fun v=>?_⟩;rw[List.getElem?_set];have huv:Bs x.Op=true:=decide_eq_true hu
    by_cases hv:x.Var.toNat=v
    ·rw[if_pos hv]
     have hv':v<l.length:=by omega
     have:(x.Var=(v:Int)):=by omega
     simp[hv',HN,huv,this]
    rw[if_neg hv]
    have:¬(x.Var=(v:Int)):=by omega
    simp[HN,this]
   rw[if_neg hc]
   simp only[L4,K2,C1,B5,and_eq_true,decide_eq_true_eq]at hc
   refine⟨l,rfl,rfl,fun v=>?_⟩
   rcases Nat.lt_or_ge v l.length with hv|hv
   ·have:(Bs x.Op&&decide (x.Var=(v:Int)))=false:=by
     rw[Bool.eq_false_iff];intro h
     rw[and_eq_true,decide_eq_true_eq]at h
     exact hc ⟨⟨of_decide_eq_true h.1,by omega⟩,by omega⟩
    simp[HN,this]
   rw[List.getElem?_eq_none hv];rfl
  rw[h2];simp only[Option.bind_some];rw[A3.pre_eq];refine Mx (fun(j:Nat) (s:Int×List Bool)=>s.1=(j:Int)∧PK l2 (A3.pres (x.cO.take j)) s.2) x.cO.length (by omega) ⟨rfl,.refl _⟩ (fun j s hj ⟨e,e1⟩=>?_) (fun s ⟨e,e1⟩=>?_)
  ·obtain⟨i,q⟩:=s
   dsimp only at e e1
   subst e;have hm:=List.getElem_mem hj;have hmb:=Q5 hm;obtain⟨m,m1,m2⟩:=ih x.cO[j] q (by omega) (by omega) (by rw[e1.1,k2.1];exact hl)
   dsimp only
   rw[if_pos (R9 (by omega)),D9,List.getElem?_eq_getElem hj];simp only[Option.bind_some,m1];refine⟨_,rfl,Nc (by omega),?_⟩
   dsimp only
   rw[Hu hj,Me];exact e1.trans (by simpa[A3.pres]using m2)
  obtain⟨i,q⟩:=s
  dsimp only at e e1
  subst e
  dsimp only
  rw[if_neg V9]
  rw[List.take_length]at e1
  exact⟨_,rfl,_,rfl,k2.trans e1⟩
def Kb (x:A3):List Int:=((List.range 16).filter fun v=>HN x.pre v).map Int.ofNat
theorem OK {N:Nat} (hN:40000000≤N) {x:A3} (hb:x.bulk≤16777216):M7 N x=some (Kb x):=by
 unfold M7;rw[show Sh 16 16 (false:Bool)=some (List.replicate 16 false)from rfl];simp only[Option.bind_some];obtain⟨m,m1,m2,m3⟩:=VS hN N x (List.replicate 16 false) (by omega) hb (by simp);rw[m1];simp only[Option.bind_some]
 rw[List.length_replicate]at m2
 have hm:∀(v:Nat) (h:v<m.length),m[v]=HN x.pre v:=fun v h=>by
  have:=m3 v
  rw[List.getElem?_eq_getElem h,List.getElem?_replicate,if_pos (by omega)]at this
  simpa using this
 have ex:∀{o:Option (List Int)},(∃t,o=some t∧t=Kb x)→o=some (Kb x):=fun⟨t,t1,t2⟩=>t1.trans (congrArg some t2)
 refine ex (Mx
  (fun(j:Nat) (s:List Int×Int)=>s.2=(j:Int)∧s.1=((List.range j).filter fun v=>HN x.pre v).map Int.ofNat) 16 (by omega) ⟨rfl,rfl⟩ (fun j s hj ⟨e,e1⟩=>?_) (fun s ⟨e,e1⟩=>?_))
 ·obtain⟨o,i⟩:=s
  dsimp only at e e1
  subst e
  have hjm:j<m.length:=by omega
  dsimp only
  rw[if_pos (R9 (by omega)),Xu (by omega) (by omega),D9,List.getElem?_eq_getElem hjm,hm j hjm];simp only[Option.bind_some]
  have ho:o.length≤j:=by
   rw[e1,List.length_map];have:=List.length_filter_le (fun v=>HN x.pre v) (List.range j)
   rw[List.length_range]at this
   exact this
  by_cases hc:HN x.pre j=true
  ·rw[if_pos hc,Y6 (by simp;omega)];refine⟨_,rfl,Nc (by omega),?_⟩
   dsimp only
   rw[List.range_succ,List.filter_append,List.map_append,e1];simp[hc]
  rw[if_neg hc];refine⟨_,rfl,Nc (by omega),?_⟩
  dsimp only
  rw[List.range_succ,List.filter_append,List.map_append,e1];simp[hc]
 obtain⟨o,i⟩:=s
 dsimp only at e e1
 subst e
 dsimp only
 rw[if_neg (by rw[C1,B5,m2];simp)];exact⟨_,rfl,_,rfl,e1⟩
end
end Go.Ab
namespace Go.Ab
open Classical
noncomputable section
theorem Ac8 {N:Nat} (hN:40000000≤N):∀(n:Nat) (x:A3),x.bulk≤n→x.bulk≤16777216→Q6 N n x=some (x.pre.any fun y=>decide (y.Op=3∨y.Op=4)):=by
 intro n
 induction n with
 |zero=>intro x h;have:=Y2 x;omega
 | succ n ih=>
  intro x hx hb;have hal:=AQ x;unfold Q6;rw[A3.pre_eq,List.any_cons];simp only[M9,C4,Bool.or_eq_true,decide_eq_true_eq]
  by_cases h:x.Op=3∨x.Op=4
  ·rw[if_pos h,decide_eq_true h,Bool.true_or]
  rw[if_neg h,hasE hN (by omega) (P:=fun x=>x.pre.any fun y=>decide (y.Op=3∨y.Op=4)) fun y hy=>by
   have:=Q5 hy
   exact ih y (by omega) (by omega),Mf,decide_eq_false h,Bool.false_or]
  rfl
theorem Aj3 {N:Nat} (hN:40000000≤N) {s:List Int} (hl:s.length≤1000000) (v:Int):G8 N s v=some (s.any fun x=>decide (v=x)):=by
 unfold G8 W2
 exact CT (fun x=>decide (v=x)) (by omega) (by omega) (fun i x hx hi=>by
  have e:ar .add .i64 (i:Int) 1=i+1:=C5 (by omega) (by omega);rw[if_pos (R9 hi),D9,hx];simp only[Option.bind_some,C4,e]
  split<;>rfl) (by rw[if_neg V9]) rfl fun _=>rfl
theorem Ab1 {N:Nat} (hN:40000000≤N) {s:List Int} (hl:s.length≤1000000) {f:Int→Option Bool} {P:Int→Bool} (hf:∀x∈s,f x=some (P x)):J0 N s f=some (s.any P):=by
 unfold J0 P6
 exact CT P (by omega) (by omega) (fun i x hx hi=>by
  have e:ar .add .i64 (i:Int) 1=i+1:=C5 (by omega) (by omega);rw[if_pos (R9 hi),D9,hx];simp only[Option.bind_some,hf x (List.mem_of_getElem? hx),e]
  split<;>rfl) (by rw[if_neg V9]) rfl fun _=>rfl
def Fe (x:A3):A3:={x with Var:=if Bs x.Op=true then 0 else x.Var}
mutual
def Bj :A3→A3
 |⟨op,args,var,field,kind,val⟩=>⟨op,Z8 args,if Bs op=true then 0 else var,field,kind,val⟩
def Z8 :List A3→List A3
 |[]=>[]
 |a::r=>Bj a::Z8 r
end
theorem OX (x:A3):Bj x={Fe x with cO:=Z8 x.cO}:=by cases x;simp only[Bj,Fe]
theorem Hy :∀l:List A3,Z8 l=l.map Bj
 |[]=>by simp[Z8]
 |a::l=>by simp[Z8,Hy l]
mutual
theorem QJ :∀x:A3,(Bj x).pre=x.pre.map Bj
 |⟨op,args,var,field,kind,val⟩=>by
  have:=NL args;simp only[Bj,A3.pre,this,List.map_cons]
theorem NL :∀l:List A3,A3.pres (Z8 l)=(A3.pres l).map Bj
 |[]=>by simp[Z8,A3.pres]
 |a::l=>by simp only[Z8,A3.pres,QJ a,NL l,List.map_append]
end
mutual
theorem QK :∀x:A3,(Bj x).dep=x.dep
 |⟨op,args,var,field,kind,val⟩=>by
  have:=NM args;simp only[Bj,A3.dep,this]
theorem NM :∀l:List A3,A3.deps (Z8 l)=A3.deps l
 |[]=>by simp[Z8]
 |a::l=>by simp only[Z8,A3.deps,QK a,NM l]
end
mutual
theorem JW :∀x:A3,(Bj x).bulk=x.bulk
 |⟨op,args,var,field,kind,val⟩=>by
  have:=LU args;simp only[Bj,A3.bulk,this]
theorem LU :∀l:List A3,A3.bulks (Z8 l)=A3.bulks l
 |[]=>by simp[Z8]
 |a::l=>by simp only[Z8,A3.bulks,JW a,LU l]
end
theorem JV (l:List A3):(Z8 l).length=l.length:=by rw[Hy,List.length_map]
theorem TA (R:A3→A5×Int):∀(n:Nat) (x:A3),x.bulk≤n→Cy R (Bj x)=Cy (fun y=>R (Fe y)) x:=by
 have hs:∀n,(∀x:A3,x.bulk≤n→Cy R (Bj x)=Cy (fun y=>R (Fe y)) x)→∀l:List A3,(∀a∈l,a.bulk≤n)→Ai R (Z8 l)=Ai (fun y=>R (Fe y)) l:=fun n ih l=>by
  induction l with
  |nil=>intro _;simp[Z8,Ai]
  |cons a l ihl=>
   intro h;simp only[Z8,Ai];rw[ih a (h a List.mem_cons_self),ihl fun b hb=>h b (List.mem_cons_of_mem _ hb)]
 intro n
 induction n with
 |zero=>intro x h;have:=Y2 x;omega
 |succ n ih=>
  intro x hx;rw[OX,Hi,Hi]
  dsimp only
  rw[JV]
  by_cases h0:x.cO.length=0
  ·rw[if_pos h0,if_pos h0];have:x.cO=[]:=List.eq_nil_of_length_eq_zero h0;refine congrArg R ?_;unfold Fe;rw[this];simp[Z8]
  rw[if_neg h0,if_neg h0,hs n ih x.cO fun a ha=>by have:=Q5 ha;omega];rfl
def OwnC (own:Int)(c:A3):Prop:=∀y∈c.pre,Bs y.Op=true→y.Var=own∧y.Op≠3∧y.Op≠4
theorem Qd {op:Int}(h0:0≤op)(h5:op<5)(hz:op≠0):Bs op=true:=by unfold Bs;exact decide_eq_true (by omega)
theorem Yd {env env':Cu} {own:Int} {ev:A6} {x:A3} (hb:R3 x=0) (ha:x.cO=[]) (h:Bs x.Op=true→x.Var=own∧x.Op≠3∧x.Op≠4):Fk env own ev x=Fk env' own ev x:=by
 obtain⟨b0,b1,b2⟩:=HK hb
 rw[ha]at b2
 have h5:x.Op<5:=by
  simp only[List.length_nil]at b2
  split at b2
  ·assumption
  split at b2<;>cases b2
 unfold Fk
 by_cases h0:x.Op=0
 ·rw[if_pos h0,if_pos h0]
 obtain⟨e,n3,n4⟩:=h (Qd b0 h5 h0);rw[if_neg h0,if_neg h0,if_neg n3,if_neg n3,if_neg n4,if_neg n4,e];unfold Kh;rw[if_neg (by simp),if_neg (by simp)]
theorem Vg {own:Int}{c:A3}(h:OwnC own c)(env env':Cu)(ev:A6):T9 env own ev c=T9 env' own ev c:=by
 unfold T9 MP
 by_cases hx:E7 c=0
 ·rw[if_pos hx,if_pos hx,Hj c fun y hy hay=>Yd (Bz hx y hy) hay (h y hy)]
 rw[if_neg hx,if_neg hx]
def Ad1 (v:Int)(c:A3):Prop:=∀y∈c.pre,Bs y.Op=true→y.Var=v
theorem Yc {env env':Cu} {ev:A6} {x:A3} {v:Int} (hb:R3 x=0) (ha:x.cO=[]) (h:Bs x.Op=true→x.Var=v) (he:Ft env v=Ft env' 0):Fk env' 0 ev (Fe x)=Fk env v ev x:=by
 obtain⟨b0,b1,b2⟩:=HK hb
 rw[ha]at b2
 have h5:x.Op<5:=by
  simp only[List.length_nil]at b2
  split at b2
  ·assumption
  split at b2<;>cases b2
 unfold Fk Fe
 dsimp only
 by_cases h0:x.Op=0
 ·rw[if_pos h0,if_pos h0]
 have hu:=Qd b0 h5 h0;rw[if_neg h0,if_neg h0,if_pos hu,h hu,he]
 by_cases h3:x.Op=3
 ·rw[if_pos h3,if_pos h3]
 rw[if_neg h3,if_neg h3]
 by_cases h4:x.Op=4
 ·rw[if_pos h4,if_pos h4];rfl
 rw[if_neg h4,if_neg h4];unfold Kh;rw[if_neg (fun k=>k rfl),if_neg (fun k=>k rfl)];rfl
theorem Vf {v:Int}{c:A3}(h:Ad1 v c)(hc:E7 c=0)(hc':E7 (Bj c)=0){env env':Cu}(he:Ft env v=Ft env' 0)(ev:A6):T9 env' 0 ev (Bj c)=T9 env v ev c:=by
 unfold T9 MP;rw[if_pos hc,if_pos hc',TA _ _ c (Nat.le_refl _),Hj c fun y hy hay=>Yc (Bz hc y hy) hay (h y hy) he]
theorem Ac3 {x:A3} (h:R3 x=0):R3 (Bj x)=0:=by
 rw[OX]
 unfold R3 at h ⊢
 by_cases a:x.Op<0∨12<x.Op
 ·rw[if_pos a]at h;cases h
 rw[if_neg a]at h
 rw[if_neg (show¬((Fe x).Op<0∨12<(Fe x).Op)from a)]
 by_cases b:(x.cO.length:Int)≠(if x.Op<5 then 0 else if x.Op=12 then 1 else 2)
 ·rw[if_pos b]at h;cases h
 rw[if_neg b]at h
 rw[if_neg (by dsimp only;rw[JV];exact b)]
 by_cases c:Jf x=true
 ·rw[if_pos c]at h;cases h
 rw[if_neg c]at h
 have c':¬Jf ({Fe x with cO:=Z8 x.cO})=true:=by
  unfold Jf Fe at *
  simp only[M9,L4,C1,K2]at c ⊢
  cases hu:Bs x.Op<;>simp[hu]at c ⊢ <;>first|exact c|exact c.2
 rw[if_neg c'];have d:Jp ({Fe x with cO:=Z8 x.cO})=Jp x:=rfl;have e:DU ({Fe x with cO:=Z8 x.cO})=DU x:=rfl
 have f:Cx ({Fe x with cO:=Z8 x.cO})=Cx x:=by
  unfold Cx Fe
  dsimp only
  cases hu:Bs x.Op
  ·simp only[Bool.false_eq_true,if_false]
  simp only[L4,U3,Bool.not_true,Bool.false_and]
 rw[d,e,f];exact h
theorem Ow {x:A3}(h:E7 x=0):E7 (Bj x)=0:=by
 have hb:=Bz h
 unfold E7 at h ⊢
 rw[QJ,List.length_map,QK]
 split at h
 ·cases h
 split at h
 ·cases h
 rename_i h1 h2;rw[if_neg h1,if_neg h2,Z3];intro y hy;obtain⟨z,hz,rfl⟩:=List.mem_map.1 hy;exact Ac3 (hb z hz)
end
end Go.Ab
namespace Go.Ab
open Classical
noncomputable section
theorem Ag5 {x:A3} (h:R3 x=0) (hu:Bs x.Op=true):0≤x.Var∧x.Var<16:=by
 have ho:¬Jf x=true:=fun ho=>by
  unfold R3 at h
  by_cases a:x.Op<0∨12<x.Op
  ·rw[if_pos a]at h;cases h
  rw[if_neg a]at h
  by_cases b:(x.cO.length:Int)≠(if x.Op<5 then 0 else if x.Op=12 then 1 else 2)
  ·rw[if_pos b]at h;cases h
  rw[if_neg b,if_pos ho]at h;cases h
 unfold Jf at ho
 simp only[M9,L4,hu,C1,K2,Bool.true_and,Bool.or_eq_true,decide_eq_true_eq,not_or]at ho
 omega
theorem GU (x:A3):(Kb x).length≤1000000:=by
 unfold Kb;rw[List.length_map];have:=List.length_filter_le (fun v=>HN x.pre v) (List.range 16)
 rw[List.length_range]at this
 omega
theorem Rn {x:A3}(h:E7 x=0){v:Int}:v∈Kb x↔∃y∈x.pre,Bs y.Op=true∧y.Var=v:=by
 have hb:=Bz h;unfold Kb HN;simp only[List.mem_map,List.mem_filter,List.mem_range,List.any_eq_true,and_eq_true,decide_eq_true_eq]
 constructor
 ·rintro⟨n,⟨_,y,hy,hu,e⟩,rfl⟩;exact⟨y,hy,hu,e⟩
 rintro⟨y,hy,hu,rfl⟩;have:=Ag5 (hb y hy) hu;exact⟨y.Var.toNat,⟨by omega,y,hy,hu,by omega⟩,by show((y.Var.toNat:Nat):Int)=y.Var;omega⟩
theorem Zz {N:Nat} (hN:40000000≤N):∀(n:Nat) (x:A3),x.bulk≤n→x.bulk≤16777216→Ad1 1 x→AZ N n x [0,0]=some (Bj x,0):=by
 intro n
 induction n with
 |zero=>intro x h;have:=Y2 x;omega
 | succ n ih=>
  intro x hx hb h1;have hl:=AQ x;have hx1:=h1 x (by rw[A3.pre_eq];simp);unfold AZ;rw[Sy];simp only[Option.bind_some];have hd:decide (x.Op=1∨x.Op=2∨x.Op=3∨x.Op=4)=Bs x.Op:=rfl;rw[hd]
  have e:(if Bs x.Op=true then
   if cmp .geq x.Var (Ar.len ([0,0]:List Int))=true then
    some (.inr 6)
   else
    (B7 ([0,0]:List Int) x.Var).bind fun x5=>
    if cmp .lss x5 0=true then
     some (.inr 2)
    else
     (B7 ([0,0]:List Int) x.Var).bind fun x6=>
     if cmp .geq x6 16=true then
      some (.inr 2)
     else
      (B7 ([0,0]:List Int) x.Var).bind fun x7=>
      some (.inl ({x with cO:=[],Var:=x7}))
   else
    some (.inl ({x with cO:=[]})):Option (A3 ⊕ Int))=some (.inl {Fe x with cO:=[]}):=by
   by_cases hu:Bs x.Op=true
   ·rw[if_pos hu,hx1 hu,if_neg (by decide),show B7 ([0,0]:List Int) 1=some 0 from rfl];simp only[Option.bind_some];rw[if_neg (by decide),if_neg (by decide)];unfold Fe;rw[if_pos hu]
   rw[if_neg hu];unfold Fe;rw[if_neg hu]
  rw[e];simp only[Option.bind_some];have ex:∀{o:Option (A3×Int)},(∃t,o=some t∧t=(Bj x,0))→o=some (Bj x,0):=fun⟨t,t1,t2⟩=>t1.trans (congrArg some t2);refine ex (Mx (fun(j:Nat) (s:Int×A3)=>s.1=(j:Int)∧s.2={Fe x with cO:=Z8 (x.cO.take j)}) x.cO.length (by omega) ⟨rfl,by simp[Z8]⟩ (fun j s hj ⟨e,e1⟩=>?_) (fun s ⟨e,e1⟩=>?_))
  ·obtain⟨i,q⟩:=s
   dsimp only at e e1
   subst e;subst e1;have hm:=List.getElem_mem hj;have hmb:=Q5 hm
   dsimp only
   rw[if_pos (R9 (by omega)),D9,List.getElem?_eq_getElem hj];simp only[Option.bind_some,ih x.cO[j] (by omega) (by omega) fun y hy=>h1 y (by rw[A3.pre_eq];exact List.mem_cons_of_mem _ (LF hy _ hm))];rw[if_neg (N2 rfl),Y6 (by rw[JV];simp;omega)];refine⟨_,rfl,EI (by omega),?_⟩
   dsimp only
   rw[Hu hj,Hy,Hy,List.map_append];rfl
  obtain⟨i,q⟩:=s
  dsimp only at e e1
  subst e;subst e1
  dsimp only
  rw[if_neg V9,List.take_length];exact⟨_,rfl,_,rfl,by rw[OX]⟩
theorem SQ {N:Nat} (hN:40000000≤N) {c:A3} (hb:c.bulk≤16777216) (hc:E7 c=0):(Ad1 1 c∧V0 N c=some (Bj c,true))∨V0 N c=some (c,false):=by
 unfold V0;rw[OK hN hb];simp only[Option.bind_some];rw[Ab1 hN (GU c) (P:=fun v=>decide (v≠1)) fun x _=>by unfold Ao;rw[H9];simp];simp only[Option.bind_some]
 by_cases h:((Kb c).any fun v=>decide (v≠1))=true
 ·rw[if_pos h];exact .inr rfl
 rw[if_neg h]
 have h1:Ad1 1 c:=fun y hy hu=>by
  by_cases e:y.Var=1
  ·exact e
  exact absurd (List.any_eq_true.2 ⟨y.Var,(Rn hc).2 ⟨y,hy,hu,rfl⟩,decide_eq_true e⟩) h
 unfold Cb;rw[MW hN hb,hc];simp only[Option.bind_some];rw[if_neg (N2 rfl),Zz hN N c (by omega) hb h1];exact .inl ⟨h1,rfl⟩
end
end Go.Ab
