/- AbP7 AbP8 AbA24 AbB1 AbS1 AbB2 AbB3 AbB4 AbS2 -/
import Derived.Test.YtjhobbohibnioaaGreatDoorC06
set_option linter.all false
open List (append_assoc)
open Bool (and_eq_true)
open Go.Ab.Ar (lst lst_eq)
namespace Go.Ab
open Go.RowKit
variable [G7]
section
variable {P:Program}
theorem Sr {A:Lf} {o:Oper} {ρ ρ':Operand→V} {H:A0} {K:V→A0→Prop} (hρ:∀x∈o.op.operands,ρ x=ρ' x) (h:CV P A o ρ H K):CV P A o ρ' H K:=by
 have hq:∀{v},GY P o ρ H v→GY P o ρ' H v:=FZ hρ
 unfold CV at h ⊢
 cases ho:o.op<;>simp only[ho]at h ⊢ hρ<;>first
  |exact h
  |(obtain⟨v,h1,h2⟩:=h;exact⟨v,hq h1,h2⟩)
  | (simp only[Op.operands,List.mem_toArray,List.mem_cons,List.not_mem_nil,or_false,forall_eq_or_imp,forall_eq]at hρ
     first
      |(rw[←hρ];exact h)
      |(rw[←hρ.1,←hρ.2];exact h)
      |(rw[←hρ.1,←hρ.2.1,←hρ.2.2];exact h))
  |skip
 ·rename_i t n ps
  have e:ps.toList.map (fun p=>(p.1,ρ p.2))=ps.toList.map (fun p=>(p.1,ρ' p.2)):=O5 fun p hp=>by rw[hρ p.2 (by simp only[Op.operands,List.mem_toArray,List.mem_map];exact⟨p,hp,rfl⟩)]
  rw[←e];exact h.imp (fun⟨v,h1,h2⟩=>⟨v,hq h1,h2⟩) id
 ·rename_i op t x y _;rw[←hρ x (by simp[Op.operands]),←hρ y (by simp[Op.operands])];exact h.imp (fun⟨v,h1,h2⟩=>⟨v,hq h1,h2⟩) id
 rename_i c;have hargs:c.args.toList.map ρ=c.args.toList.map ρ':=O5 fun p hp=>hρ p (by simp only[Op.operands,Call.operands,Array.mem_append];exact .inr (by simpa using hp));rw[←hargs]
 cases hc:c.callee with
 |value f=>
  simp only[hc]at h ⊢
  rw[←hρ f (by simp[Op.operands,Call.operands,hc])];exact h
 |builtin b=>rw[hc]at h;cases b<;>exact h
 |_=>rw[hc]at h;exact h.elim
def Im :Op→Bool
 | .move _=>true
 | .assign _=>true
 | .pick _ _ _=>true
 | .build _ _=>true
 | .binOp _ _ _ _ _=>true
 | .unOp _ _ _=>true
 | .fieldAddr _ _ _=>true
 | .field _ _ _=>true
 | .extract _ _=>true
 | .load _ _=>true
 | .call c=>match c.callee with| .builtin .len=>true|_=>false
 |_=>false
theorem TR {A:Lf} {o:Oper} {ρ:Operand→V} {H:A0} {K:V→A0→Prop} {v:V} (hs:Im o.op=true) (h:GY P o ρ H v) (hk:K v H):CV P A o ρ H K:=by
 unfold CV
 cases ho:o.op<;>simp only[ho,Im,Bool.false_eq_true]at hs ⊢ <;>first
  |exact⟨v,h,hk⟩
  |exact .inl ⟨v,h,hk⟩
  |(unfold GY at h;simp only[ho]at h;subst h;exact .inl hk)
  |skip
 rename_i c
 unfold GY at h
 simp only[ho]at h
 cases hc:c.callee with
 | builtin b=>
  rw[hc]at hs h
  cases b<;>first
   |exact⟨v,h,hk⟩
   |cases hs
 |_=>rw[hc]at hs;cases hs
variable {A:Lf}{nt:Nat}{ops:Array Oper}
def KF (ops:Array Oper)(i:Nat):Bool:=
 Im (ops.getD i default).op&&(ops.getD i default).guard.isNone&&(List.range ops.size).all fun j=>j==i||Z7 (ops.getD j default) i||Z7 (ops.getD i default) j||(ops.getD i default).apart ops (ops.getD j default)
theorem SR {i:Nat} (hi:i<ops.size) (hf:KF ops i=true) (hdst:Cj nt (ops.getD i default).dst=true) {K:Fr→A0→Prop} {v:V}:∀(n:Nat) (listed:Array Bool) (fr:Fr) (H:A0),i∈Region.ready .any ops listed→(∀H',GY P (ops.getD i default) (ev fr) H' v)→
 Pf P A nt ops n (listed.setIfInBounds i true) (fr.put (ops.getD i default).dst v) H K→Pf P A nt ops (n+1) listed fr H K:=by
 simp only[KF,and_eq_true,List.all_eq_true,List.mem_range,Bool.or_eq_true,beq_iff_eq]at hf
 obtain⟨⟨hso,hg⟩,hfree⟩:=hf
 have hg:(ops.getD i default).guard=none:=by simpa using hg
 have first:∀(fr:Fr) (H:A0) (K':Fr→A0→Prop),(∀H',GY P (ops.getD i default) (ev fr) H' v)→K' (fr.put (ops.getD i default).dst v) H→Xd P A nt ops (ops.getD i default) fr H K':=fun fr H K' hq hk=>by
  refine⟨hdst,?_⟩
  have:T4 ops fr (ops.getD i default)=some true:=by unfold T4;rw[hg]
  rw[this];exact TR hso (hq H) hk
 intro n
 induction n with
 |zero=>
  intro listed fr H hr hq h;refine⟨fun e=>(by rw[e]at hr;cases hr),fun j hj=>?_⟩
  by_cases hji:j=i
  ·subst hji;exact first fr H _ hq h
  have:=Go.ready_mono hj hji
  rw[h.1]at this;cases this
 | succ n ih=>
  intro listed fr H hr hq h;refine⟨fun e=>(by rw[e]at hr;cases hr),fun j hj=>?_⟩
  by_cases hji:j=i
  ·subst hji;exact first fr H _ hq h
  have h1:=h.2 j (Go.ready_mono hj hji);obtain⟨hjs,hjl,hje⟩:=mem_ready hj;obtain⟨_,hil,_⟩:=mem_ready hr
  have hap:(ops.getD i default).apart ops (ops.getD j default)=true:=by
   rcases hfree j hjs with((e|e)|e)|e
   ·exact absurd e hji
   ·exfalso;have:=hje i e
    rcases Nat.lt_or_ge i listed.size with h'|h'
    ·simp[Array.getD,h']at hil this;rw[hil]at this;cases this
    simp[Array.getD,show¬i<listed.size by omega]at this
   ·exfalso;have:=(mem_ready hr).2.2 j e
    rcases Nat.lt_or_ge j listed.size with h'|h'
    ·simp[Array.getD,h']at hjl this;rw[hjl]at this;cases this
    simp[Array.getD,show¬j<listed.size by omega]at this
   exact e
  obtain⟨p1,p2,p3⟩:=Oper.apart_spec hap
  have hn:∀(u:V) (H':A0),Pf P A nt ops n ((listed.setIfInBounds i true).setIfInBounds j true) ((fr.put (ops.getD i default).dst v).put (ops.getD j default).dst u) H' K→Pf P A nt ops (n+1) (listed.setIfInBounds j true) (fr.put (ops.getD j default).dst u) H' K:=fun u H' hk=>by
   refine ih _ _ _ (Go.ready_mono hr fun e=>hji e.symm) (fun H2=>FZ (fun x hx=>(Ft p3 x hx).symm) (hq H2)) ?_;rw[Array.setIfInBounds_comm _ _ hji,←put_comm p2];exact hk
  obtain⟨hd,hs⟩:=h1;refine⟨hd,?_⟩
  rw[IU p1]at hs
  split at hs
  ·exact Fp (Sr (Ft p1) hs) fun u H' hk=>hn u H' hk
  ·exact hn _ _ hs
  exact hs.elim
end
end Go.Ab
namespace Go.Ab
open Go.RowKit
variable [G7][Ar]
def Qr :List Nat→Nat→Bool
 |[],_=>false
 |a::l,n=>match n==a with|true=>true|false=>Qr l n
theorem OH :∀{l:List Nat} {n:Nat},Qr l n=true→n∈l
 |[],_,h=>by cases h
 |a::l,n,h=>by
  unfold Qr at h
  cases e:n==a with
  |true=>rw[beq_iff_eq.1 e];simp
  |false=>rw[e]at h;exact List.mem_cons_of_mem _ (OH h)
section
variable (E:Bm)(T:Cr)(nt:Nat)(A:Nat→Bool)(ops:Array Oper)(fl:List Nat)
def Ju (o:Oper)(l:Fl):Bool:=
 match o.op with
 | .load _ x=>(match K8 [] l x with| .v (.eref _ _)=>true|_=>false)
 |_=>true
def DV (l:Fl):List Nat→Option Nat
 |[]=>none
 |i::r=>match Qr fl i with
  |true=>(match Ju (ops.getD i default) l with|true=>some i|false=>DV l r)
  |false=>DV l r
def LB :Nat→Array Bool→Fl→A0→(Fl→A0→Prop)→Prop
 |0,listed,l,H,K=>match Region.ready .any ops listed with|[]=>K l H|_::_=>False
 | n +1,listed,l,H,K=>
  match Region.ready .any ops listed with
  |[]=>K l H
  | i::r=>
   match DV ops fl l (i::r)with
   | some j=>
    (match Cj nt (ops.getD j default).dst with
     |true=>xq E T [] (ops.getD j default) l H fun s=>LB n (listed.setIfInBounds j true) (Af (ops.getD j default).dst (Sl.n s) l) H K
     |false=>False)
   |none=>Yb (i::r) fun i=>WR E T nt A ops (ops.getD i default) l H fun l' H'=>LB n (listed.setIfInBounds i true) l' H' K
end
theorem CN {ops:Array Oper} {fl:List Nat} {l:Fl} {j:Nat}:∀{r:List Nat},DV ops fl l r=some j→j∈r∧Qr fl j=true∧Ju (ops.getD j default) l=true
 |[],h=>by cases h
 | i::r,h=>by
  unfold DV at h
  cases h1:Qr fl i with
  |true=>
   rw[h1]at h
   cases h2:Ju (ops.getD i default) l with
   |true=>rw[h2]at h;cases h;exact⟨by simp,h1,h2⟩
   |false=>rw[h2]at h;have:=CN h;exact⟨List.mem_cons_of_mem _ this.1,this.2⟩
  |false=>rw[h1]at h;have:=CN h;exact⟨List.mem_cons_of_mem _ this.1,this.2⟩
section
variable {P:Program}{nt:Nat}{rd:Option Nat}{T:Cr}{A:Nat→Bool}{df:List Nat}
theorem Sp {o:Oper} {ρ:Operand→V} {H:A0} {v:V} (hs:Im o.op=true) (hl:∀t x,o.op= .load t x→∃cs off,ρ x= .eref cs off) (h:GY P o ρ H v) (H':A0):GY P o ρ H' v:=by
 unfold GY at h ⊢
 cases ho:o.op<;>simp only[ho,Im,Bool.false_eq_true]at hs h ⊢ <;>first
  |exact h
  |skip
 ·rename_i t x;obtain⟨cs,off,e⟩:=hl t x ho
  rw[e]at h ⊢
  rcases h with h|h
  ·left
   unfold Dh at h ⊢
   split at h
   ·rename_i h1 h2 h3;cases h3;exact h
   ·rename_i h3;cases h3
   cases h
  exfalso
  unfold GA at h
  split at h
  ·rename_i h3;cases h3
  cases h
 rename_i c
 cases hcc:c.callee with
 | builtin b=>
  rw[hcc]at hs h
  cases b with
  | len=>
   have h:Be P .len c.argTypes.toList (c.args.toList.map ρ) v∨Hf P H .len c.argTypes.toList (c.args.toList.map ρ) v:=h
   have k:∀(ts:List TypeId) (vs:List V),Hf P H .len ts vs v→Hf P H' .len ts vs v:=fun ts vs h=>by
    rcases ts with _|⟨t,_|⟨t2,ts⟩⟩<;>rcases vs with _|⟨x,_|⟨x2,vs⟩⟩<;>first
     |exact h
     |exact h.elim
   exact h.imp id (k _ _)
  |_=>cases hs
 |_=>rw[hcc]at hs;cases hs
theorem BN (hT:ET P T) {ops:Array Oper} {fl:List Nat} (hfl:∀i,Qr fl i=true→KF ops i=true) {K:Fl→A0→Prop}:∀(n:Nat) (listed:Array Bool) (l:Fl) (H:A0),LB (E8 P nt rd) T nt A ops fl n listed l H K→Pf P A nt ops n listed (E0 ⟨l,df⟩) H fun fr H'=>∃l',fr=E0 ⟨l',df⟩∧K l' H'
 |0,listed,l,H,h=>by
  unfold LB at h
  split at h
  ·rename_i e;exact⟨e,l,rfl,h⟩
  exact h.elim
 | n +1,listed,l,H,h=>by
  unfold LB at h
  split at h
  ·rename_i e;exact⟨fun _=>⟨l,rfl,h⟩,fun i hi=>by rw[e]at hi;cases hi⟩
  rename_i i0 r0 e
  split at h
  ·rename_i j hj;obtain⟨j1,j2,j3⟩:=CN hj
   rw[←e]at j1
   obtain⟨js,_,_⟩:=mem_ready j1;have hf:=hfl j j2
   split at h
   ·rename_i hd;obtain⟨s,hq,hk⟩:=Hq (df:=df) hT EU.nil h
    have hso:Im (ops.getD j default).op=true:=by
     have:=hf
     simp only[KF,and_eq_true]at this
     exact this.1.1
    have hst:∀t x,(ops.getD j default).op= .load t x→∃cs off,ev (E0 ⟨l,df⟩) x= .eref cs off:=fun t x ho=>by
     unfold Ju at j3
     rw[ho]at j3
     dsimp only at j3
     split at j3
     ·rename_i cs off he;exact⟨cs,off,by rw[←AZ (df:=df) EU.nil x,he];rfl⟩
     cases j3
    have hall:=BN hT hfl n _ _ _ hk
    rw[H7]at hall
    have hv:SX l (Sl.n s)=s.V:=by cases s<;>rfl
    rw[hv]at hall
    exact SR js hf hd n listed _ H j1 (fun H'=>Sp hso hst hq H') hall
   exact h.elim
  refine⟨(fun e'=>by rw[e]at e';cases e'),fun i hi=>?_⟩
  rw[e]at hi
  have h:=Pd h i hi
  unfold WR at h
  split at h
  ·rename_i hd;refine⟨hd,?_⟩;obtain⟨l',e,h⟩:=AE (df:=df) 4 l h
   have e:E0 ⟨l',df⟩=E0 ⟨l,df⟩:=by simp only[E0,Fr.mk.injEq,and_true];funext t;exact e t
   rcases h with⟨hg,G,wr,hG,hwr,h⟩|⟨hg,h⟩
   ·rw[hg];rw[←e];refine Fp (Ih (df:=df) hT hG h) fun v H' ⟨s,hv,hk⟩=>?_;subst hv;rw[←hwr s,←H7];exact BN hT hfl n _ _ _ hk
   rw[hg];rw[←e]
   rcases h with h|⟨G,d,want,ht,hb,h⟩
   ·have:=BN hT hfl n _ _ _ h
    rw[H7]at this
    exact this
   obtain⟨s,h⟩:=Mt hT ht h;have:=BN hT hfl n _ _ _ h
   rw[H7]at this
   simp only[SX,hb,cond_false]at this
   exact this
  exact h.elim
end
end Go.Ab
namespace Go.Ab
open Go.RowKit
variable [G7][Ar]
def Hb :List Nat→Nat→Bool
 |[],_=>false
 |x::l,n=>match n==x with|true=>true|false=>Hb l n
def SE :List (Nat×Nat)→Nat→Nat
 |[],_=>0
 |(x,y)::l,n=>match Nat.beq n x with|true=>y|false=>SE l n
structure Cf where
 A:List Nat
 hk:List (Nat×Nat)
 J:List (Nat×Nat)
 JB:List Nat
 Z:List (Nat×Nat)
 W:List (Nat×Nat×List Nat)
def wAt :List (Nat×Nat×List Nat)→Nat→Option (Nat×List Nat)
 |[],_=>none
 |(q,d)::l,n=>match Nat.beq n q with|true=>some d|false=>wAt l n
def zAt :List (Nat×Nat)→Nat→List Nat
 |[],_=>[]
 |(q,d)::l,n=>match n==q with|true=>d::zAt l n|false=>zAt l n
def Xu :List (Nat×Nat)→Nat→List Nat
 |[],_=>[]
 |(q,d)::l,n=>match n==q with|true=>d::Xu l n|false=>Xu l n
def YK :List (Nat×Nat)→Nat→Nat→Bool
 |[],_,_=>false
 |(x,y)::l,a,b=>match Nat.beq a x&&Nat.beq b y with|true=>true|false=>YK l a b
def Lq :Code→Nat
 | .region id _ _=>id+1
 | .seq a b=>(match Lq a with|0=>Lq b|n+1=>n+1)
 | .cond _ a b=>(match Lq a with|0=>Lq b|n+1=>n+1)
 | .block _ c=>Lq c
 | .loop c=>Lq c
 | .rangeFunc _ _ a b=>(match Lq a with|0=>Lq b|n+1=>n+1)
 |_=>0
def F4 (cf:Cf):Code→Bool
 | .seq a b=>F4 cf a&&F4 cf b
 | .cond _ a b=>F4 cf a&&F4 cf b
 | .block _ c=>F4 cf c
 | .loop c=>F4 cf c
 | .rangeFunc _ _ a b=>F4 cf a&&F4 cf b
 | .region id ops true=>match Hb cf.JB (id+2000000)with|true=>Kl (BZ cf.hk (id+1000000)) ops&&(BZ cf.hk (id+3000000)).all (KF (hoistAll (BZ cf.hk (id+1000000)) ops))|false=>match Hb cf.JB (id+1000000)with|true=>HV ops (SE cf.hk id)|false=>Kl (BZ cf.hk (id+1000000)) ops&&KN (hoistAll (BZ cf.hk (id+1000000)) ops) (SE cf.hk id)&&decide (BW ((hoistAll (BZ cf.hk (id+1000000)) ops).toList.take (SE cf.hk id))).Nodup
 |_=>true
section
variable (E:Bm)(T:Cr)(nt:Nat)(cf:Cf)
def RD (c:Operand) (st:St) (ra rb:St→Prop):Prop:=
 match K8 [] st.l c with
 | .b true=>ra st
 | .b false=>rb st
 | .v (.bool t)=>
  (match c with
   | .tmp d=>E.br t (fun _=>ra ⟨GS st.l d true,st.df⟩) (fun _=>rb ⟨GS st.l d false,st.df⟩)
   |_=>E.br t (fun _=>ra st) (fun _=>rb st))
 |_=>False
def Nj (id:Nat)(K:Exit→St→A0→Prop)(e:Exit)(st':St)(H':A0):Prop:=
 match e with
 | .exit id'=>(match Nat.beq id' id with|true=>K .normal st' H'|false=>K (.exit id') st' H')
 |e=>K e st' H'
def YM (c:Operand)(a b:Code):Bool:=
 match c with
 | .tmp d=>YK cf.J d (match Lq a with|0=>Lq b|n+1=>n+1)
 |_=>false
def run :Code→St→A0→(Exit→St→A0→Prop)→Prop
 | .skip,st,H,K=>K .normal st H
 | .ret,st,H,K=>K .ret st H
 | .exit id,st,H,K=>K (.exit id) st H
 | .seq a b,st,H,K=>run a st H fun e st' H'=>match e with| .normal=>run b st' H' K|e=>K e st' H'
 | .cond c a b,st,H,K=>
  (match YM cf c a b with
   |true=>E.sim (.cond c a b) st H K
   |false=>RD E c st (fun st=>run a st H K) (fun st=>run b st H K))
 | .block id c,st,H,K=>
  (match Hb cf.JB id with
   |true=>E.sim (.block id c) st H K
   |false=>run c st H (Nj id K))
 | .region _ ops false,st,H,K=>Hr E T nt (Hb cf.A) (zAt cf.Z) ops ops.toList st.l H fun l' H'=>K .normal ⟨l',st.df⟩ H'
 | .region id ops true,st,H,K=>
  (match Hb cf.JB (id+2000000)with
   |true=>E.sim (.region id ops true) st H K
   | false=>
    (match Hb cf.JB (id+1000000)with
     |true=>Xx E T nt (Hb cf.A) (SE cf.hk id) ops st.l H fun l' H'=>K .normal ⟨l',st.df⟩ H'
     |false=>Hs E none (Xu cf.Z (id+400000000)) st.l H fun l H=>Th E T nt (Hb cf.A) (wAt cf.W id) (SE cf.hk id) (hoistAll (BZ cf.hk (id+1000000)) ops) l H fun l' H'=>K .normal ⟨l',st.df⟩ H'))
 |c,st,H,K=>E.sim c st H K
def TD :Code→St→A0→(Exit→St→A0→Prop)→Prop
 | .cond c a b,st,H,K=>RD E c st (fun st=>run E T nt cf a st H K) (fun st=>run E T nt cf b st H K)
 | .block id c,st,H,K=>run E T nt cf c st H (Nj id K)
 | .region id ops true,st,H,K=>
  (match Hb cf.JB (id+2000000)with
   |true=>LB E T nt (Hb cf.A) (hoistAll (BZ cf.hk (id+1000000)) ops) (BZ cf.hk (id+3000000)) ops.size (Array.replicate ops.size false) st.l H fun l' H'=>K .normal ⟨l',st.df⟩ H'
   |false=>run E T nt cf (.region id ops true) st H K)
 |c,st,H,K=>run E T nt cf c st H K
end
section
variable {P:Program}{nt:Nat}{rd:Option Nat}{T:Cr}{cf:Cf}
theorem O3.frLe {c:Code}{fr:Fr}{st:St}{H:A0}{Q:Exit→Fr→A0→Prop}(hf:BH fr st)(h:O3 P nt rd c (E0 st) H Q):O3 P nt rd c fr H Q:=
 h.less hf.s hf.df.symm fun _ _ h=>h
theorem BH.refl (st:St):BH (E0 st) st:=⟨fun _=>Wk.refl _,rfl⟩
theorem O3.of_frz {c:Code} {ds:List Nat} {st:St} {H:A0} {Q:Exit→Fr→A0→Prop} {k:Fl→A0→Prop} (h:Hs (E8 P nt rd) none ds st.l H k) (hk:∀l' H',k l' H'→O3 P nt rd c (E0 ⟨l',st.df⟩) H' Q):O3 P nt rd c (E0 st) H Q:=
 fun r g w a hr hR hF=>by
  obtain⟨g',l',H',s,hR',hF',h'⟩:=U2 none ds st.l H g k (fun _ _ _ _ h=>by cases h) hR hF h;exact wpIn_mono (hk l' H' h' r g' w a (SV.mono hr s) hR' hF') fun _ _ _=>Nt.later s
theorem Jf {c:Operand} {a b:Code} {st:St} {H:A0} {Q:Exit→Fr→A0→Prop} {ra rb:St→Prop} (h:RD (E8 P nt rd) c st ra rb) (ha:∀st',E0 st'=E0 st→ra st'→O3 P nt rd a (E0 st') H Q) (hb:∀st',E0 st'=E0 st→rb st'→O3 P nt rd b (E0 st') H Q):O3 P nt rd (.cond c a b) (E0 st) H Q:=by
 have hev:ev (E0 st) c=(K8 [] st.l c).V:=(AZ (df:=st.df) EU.nil c).symm
 unfold RD at h
 split at h
 ·rename_i he;exact O3.cond (t:=true) (by rw[hev,he];rfl) (fun _=>ha st rfl h) (fun e=>by cases e)
 ·rename_i he;exact O3.cond (t:=false) (by rw[hev,he];rfl) (fun e=>by cases e) (fun _=>hb st rfl h)
 ·rename_i t he
  split at h
  ·rename_i d
   have he':W5 st.l d= .bool t:=by
    have:=Ra (l:=st.l) EU.nil d
    rw[show VP [] st.l d= .v (.bool t)from he]at this
    exact this.symm
   obtain⟨h1,h2⟩:=h;refine O3.cond (t:=t) (by rw[hev,he];rfl) (fun e=>?_) (fun e=>?_)
   ·subst e;have ef:E0 ⟨GS st.l d true,st.df⟩=E0 st:=Iy he';have:=ha _ ef (h1 rfl)
    rwa[ef]at this
   subst e;have ef:E0 ⟨GS st.l d false,st.df⟩=E0 st:=Iy he';have:=hb _ ef (h2 rfl)
   rwa[ef]at this
  obtain⟨h1,h2⟩:=h;exact O3.cond (t:=t) (by rw[hev,he];rfl) (fun e=>ha st rfl (h1 e)) (fun e=>hb st rfl (h2 e))
 exact h.elim
theorem H6 (hT:ET P T) (hm:P.follows .mixedOrders=true):∀(c:Code) (st:St) (H:A0) (K:Exit→St→A0→Prop),F4 cf c=true→run (E8 P nt rd) T nt cf c st H K→O3 P nt rd c (E0 st) H fun e fr' H'=>∃st',BH fr' st'∧K e st' H'
 | .skip,st,H,K,hd,h=>O3.skip ⟨st,BH.refl _,h⟩
 | .ret,st,H,K,hd,h=>O3.ret ⟨st,BH.refl _,h⟩
 | .exit id,st,H,K,hd,h=>O3.exit ⟨st,BH.refl _,h⟩
 | .seq a b,st,H,K,hd,h=>by
  simp only[F4,and_eq_true]at hd
  refine O3.seq ((H6 hT hm a st H _ hd.1 h).mono fun e fr' H' ⟨st',hf,hk⟩=>?_)
  cases e with
  |normal=>exact O3.frLe hf (H6 hT hm b st' H' K hd.2 hk)
  |_=>exact⟨st',hf,hk⟩
 | .cond c a b,st,H,K,hd,h=>by
  simp only[F4,and_eq_true]at hd
  unfold run at h
  split at h
  ·exact h
  exact Jf h (fun st' _ h=>H6 hT hm a st' H K hd.1 h) (fun st' _ h=>H6 hT hm b st' H K hd.2 h)
 | .block id c,st,H,K,hd,h=>by
  unfold run at h
  split at h
  ·exact h
  refine O3.block ((H6 hT hm c st H _ hd h).mono fun e fr' H' ⟨st',hf,hk⟩=>?_)
  cases e with
  |exit id'=>
   unfold Nj at hk
   dsimp only at hk ⊢
   split at hk
   ·rename_i e;rw[if_pos (Nat.eq_of_beq_eq_true e)];exact⟨st',hf,hk⟩
   rename_i e;rw[if_neg (fun x=>by subst x;rw[Nat.beq_refl]at e;cases e)];exact⟨st',hf,hk⟩
  |_=>exact⟨st',hf,hk⟩
 | .region id ops false,st,H,K,hd,h=>by
  unfold run at h
  intro r g w a hr hR hF;refine wpIn_region ?_
  have:=Pm (P:=P) (nt:=nt) (rd:=rd) (T:=T) (A:=Hb cf.A) (Z:=zAt cf.Z) (df:=st.df) hT (ops:=ops) (r:=r) (K:=fun l' H'=>K .normal ⟨l',st.df⟩ H') (Q:=Nt nt g w fun e fr' H'=>∃st',BH fr' st'∧K e st' H') (g0:=g) (w0:=w)
   (fun g' w' a' l' H' s hR hF hK=>⟨g',_,H',s,hR,hF,⟨l',st.df⟩,BH.refl _,hK⟩) ops.size 0 st.l H (by omega) (by simpa using h) g w a (N0.refl _ _) hR hF
  rwa[←List.range_eq_range']at this
 | .region id ops true,st,H,K,hd,h=>by
  cases hj2:Hb cf.JB (id+2000000)with
  |true=>
   unfold run at h
   rw[hj2]at h
   exact h
  |false=>
  cases hj:Hb cf.JB (id+1000000)with
  |true=>
   simp only[F4,hj2,hj]at hd
   unfold run at h
   rw[hj2]at h
   simp only[hj]at h
   refine(Ps (df:=st.df) hT hm hd h).mono fun e fr H' ⟨he,l',hfr,hk⟩=>?_;subst he;subst hfr;exact⟨⟨l',st.df⟩,BH.refl _,hk⟩
  |false=>
   simp only[F4,hj2,hj,and_eq_true,decide_eq_true_eq]at hd
   unfold run at h
   rw[hj2]at h
   simp only[hj]at h
   refine O3.of_frz h fun l1 H1 h=>?_;refine(O3.of_any hm (V4.hoistAll (fun c fr H h=>by cases h.1) _ ops hd.1.1 (RN (df:=st.df) hT hd.1.2 hd.2 h))).mono fun e fr H' ⟨he,l',hfr,hk⟩=>?_;subst he;subst hfr;exact⟨⟨l',st.df⟩,BH.refl _,hk⟩
 | .loop c,st,H,K,hd,h=>h
 | .rangeFunc g ps a b,st,H,K,hd,h=>h
 | .scope c,st,H,K,hd,h=>h
 | .label l,st,H,K,hd,h=>h
 | .goto l,st,H,K,hd,h=>h
 | .refuse w,st,H,K,hd,h=>h
theorem GC :∀(ms:List Nat) (ops:Array Oper),Kl ms ops=true→(hoistAll ms ops).size=ops.size
 |[],ops,_=>rfl
 | m::ms,ops,hok=>by
  simp only[Kl,and_eq_true]at hok
  have hm:m<ops.size:=by
   have h:=hok.1.1
   unfold Jx at h
   simp only[and_eq_true]at h
   exact Nat.le_of_ble_eq_true h.1.1.1.1.1
  exact(GC ms _ hok.2).trans (Ev hm)
theorem PQ (hT:ET P T) (hm:P.follows .mixedOrders=true):∀(c:Code) (st:St) (H:A0) (K:Exit→St→A0→Prop),F4 cf c=true→TD (E8 P nt rd) T nt cf c st H K→O3 P nt rd c (E0 st) H fun e fr' H'=>∃st',BH fr' st'∧K e st' H'
 | .cond c a b,st,H,K,hd,h=>by
  simp only[F4,and_eq_true]at hd
  unfold TD at h
  exact Jf h (fun st' _ h=>H6 hT hm a st' H K hd.1 h) (fun st' _ h=>H6 hT hm b st' H K hd.2 h)
 | .block id c,st,H,K,hd,h=>by
  unfold TD at h
  refine O3.block ((H6 hT hm c st H _ hd h).mono fun e fr' H' ⟨st',hf,hk⟩=>?_)
  cases e with
  |exit id'=>
   unfold Nj at hk
   dsimp only at hk ⊢
   split at hk
   ·rename_i e;rw[if_pos (Nat.eq_of_beq_eq_true e)];exact⟨st',hf,hk⟩
   rename_i e;rw[if_neg (fun x=>by subst x;rw[Nat.beq_refl]at e;cases e)];exact⟨st',hf,hk⟩
  |_=>exact⟨st',hf,hk⟩
 | .skip,st,H,K,hd,h=>H6 hT hm _ st H K hd h
 | .ret,st,H,K,hd,h=>H6 hT hm _ st H K hd h
 | .exit id,st,H,K,hd,h=>H6 hT hm _ st H K hd h
 | .seq a b,st,H,K,hd,h=>H6 hT hm _ st H K hd h
 | .region id ops false,st,H,K,hd,h=>H6 hT hm _ st H K hd h
 | .region id ops true,st,H,K,hd,h=>by
  unfold TD at h
  dsimp only at h
  cases hj2:Hb cf.JB (id+2000000)with
  |false=>rw[hj2]at h;exact H6 hT hm _ st H K hd h
  |true=>
   rw[hj2]at h
   simp only[F4,hj2,and_eq_true]at hd
   obtain⟨hd,hfree⟩:=hd;have h':=BN (df:=st.df) hT (fun i hi=>List.all_eq_true.1 hfree i (OH hi)) _ _ _ _ h;have hsz:(hoistAll (BZ cf.hk (id+1000000)) ops).size=ops.size:=GC _ _ hd
   rw[←hsz]at h'
   refine(O3.of_any hm (V4.hoistAll (fun c fr H h=>h) _ ops hd (V4.all (Q:=fun e fr H'=>match e with| .normal=>∃l',fr=E0 ⟨l',st.df⟩∧K .normal ⟨l',st.df⟩ H'|_=>False) h'))).mono fun e fr H' hq=>?_
   cases e with
   |normal=>obtain⟨l',hfr,hk⟩:=hq;subst hfr;exact⟨⟨l',st.df⟩,BH.refl _,hk⟩
   |_=>exact hq.elim
 | .loop c,st,H,K,hd,h=>h
 | .rangeFunc g ps a b,st,H,K,hd,h=>h
 | .scope c,st,H,K,hd,h=>h
 | .label l,st,H,K,hd,h=>h
 | .goto l,st,H,K,hd,h=>h
 | .refuse w,st,H,K,hd,h=>h
def NY (K:V→A0→Prop)(H:A0)(vs:List V):Prop:=
 match vs with
 |[x]=>K x H
 |l=>K (.tup l) H
theorem Ka {K:V→A0→Prop}{H:A0}{vs:List V}(h:NY K H vs):K (Kk vs) H:=by
 unfold NY at h
 split at h
 ·exact h
 rename_i l hn;unfold Kk
 split
 ·rename_i x;exact absurd rfl (hn x)
 exact h
def YU (v:V)(k:List V→Prop)(vs:List V):Prop:=k (v::vs)
def Lp (E:Bm)(T:Cr)(l:Fl)(H:A0):List ResultVar→(List V→Prop)→Prop
 |[],k=>k []
 | .tmp t::r,k=>Lp E T l H r fun vs=>YU (W5 l t) k vs
 | .cell a t::r,k=>(match W5 l a with| .elem _ _ _ _=>False|x=>QN E T t x H fun v=>Lp E T l H r fun vs=>k (v::vs))
theorem Eh (hT:ET P T) {l:Fl} {H:A0} {df:List Nat}:∀(rs:List ResultVar) (k:List V→Prop),Lp (E8 P nt rd) T l H rs k→∃vs,U4 P (E0 ⟨l,df⟩) H rs=some vs∧k vs
 |[],k,h=>⟨[],rfl,h⟩
 | .tmp t::r,k,h=>by
  obtain⟨vs,h1,h2⟩:=Eh (df:=df) hT r _ h;exact⟨_,by simp only[U4,h1];rfl,h2⟩
 | .cell a t::r,k,h=>by
  unfold Lp at h
  split at h
  ·exact h.elim
  rename_i x hne;obtain⟨v,h1,h2⟩:=EV hT h
  have h1:Dh P H t (W5 l a)=some v:=h1.elim (fun h=>h) fun h=>by
   unfold GA at h
   split at h
   ·rename_i hx;exact absurd hx (hne _ _ _ _)
   cases h
  obtain⟨vs,h3,h4⟩:=Eh (df:=df) hT r _ h2;exact⟨v::vs,by simp only[U4,h3];rw[show(E0 ⟨l,df⟩).s a=W5 l a from rfl,h1],h4⟩
theorem O3.post_le {c:Code}{fr:Fr}{H:A0}{K:Exit→St→A0→Prop}(h:O3 P nt rd c fr H fun e fr' H'=>∃st',BH fr' st'∧K e st' H'):O3 P nt rd c fr H fun e fr' H'=>∃st',fr'=E0 st'∧K e st' H':=by
 intro r g w a hr hR hF;refine wpIn_mono (h r g w a hr hR hF) fun e a' w' ⟨g',fr',H',s,hR',hF',st',hle,hk⟩=>⟨g',E0 st',H',s,hR',⟨hF'.size,fun t=>hle.s t _ _ _ (hF'.s t),?_⟩,st',rfl,hk⟩;have:=hF'.df
 rw[hle.df]at this
 exact this
def X6 :List V→Nat→Fl
 |[],_=>[]
 |v::l,i=>(i,.v v)::X6 l (i+1)
theorem LV :∀(args:List V) (i t:Nat),W5 (X6 args i) t=if i≤t then args.getD (t - i) .bad else .bad
 |[],i,t=>by simp[X6,W5]
 | v::l,i,t=>by
  simp only[X6,W5]
  by_cases h:t=i
  ·subst h;simp[Nat.beq_refl]
  have hb:Nat.beq t i=false:=by
   cases hb:Nat.beq t i with
   |false=>rfl
   |true=>exact absurd (Nat.eq_of_beq_eq_true hb) h
  simp only[hb];rw[LV l (i+1) t]
  by_cases h1:i+1≤t
  ·rw[if_pos h1,if_pos (by omega),show t - i=(t - (i+1))+1 by omega];rfl
  rw[if_neg h1,if_neg (by omega)]
theorem UQ (args:List V):entry args=E0 ⟨X6 args 0,[]⟩:=by
 simp only[entry,E0,Fr.mk.injEq,and_true]
 funext t
 rw[LV];simp
def Iz (E:Bm)(T:Cr)(rs:List ResultVar)(K:V→A0→Prop)(e:Exit)(st:St)(H:A0):Prop:=
 match e with
 | .normal=>(match st.df with|[]=>Lp E T st.l H rs fun vs=>NY K H vs|df=>E.fin df H fun H'=>Lp E T st.l H' rs fun vs=>NY K H' vs)
 | .ret=>(match st.df with|[]=>Lp E T st.l H rs fun vs=>NY K H vs|df=>E.fin df H fun H'=>Lp E T st.l H' rs fun vs=>NY K H' vs)
 |_=>False
theorem SH (hT:ET P T) {fn:Func} {K:V→A0→Prop} {e:Exit} {st:St} {H:A0} (h:Iz (E8 P nt rd) T fn.results.toList K e st H):Ret P fn K e (E0 st) H:=by
 have key:∀(h:match st.df with|[]=>Lp (E8 P nt rd) T st.l H fn.results.toList fun vs=>NY K H vs|df=>(E8 P nt rd).fin df H fun H'=>Lp (E8 P nt rd) T st.l H' fn.results.toList fun vs=>NY K H' vs),
  WE H (E0 st).df∧∃l,U4 P (E0 st) (clear H (E0 st).df) fn.results.toList=some l∧K (Kk l) (clear H (E0 st).df):=by
  obtain⟨l,df⟩:=st;intro h
  cases df with
  | nil=>
   have hcl:clear H []=H:=by funext x;simp[clear]
   obtain⟨vs,h1,h2⟩:=Eh (df:=[]) hT _ _ h;refine⟨⟨by simp[E0],fun id hi=>by simp[E0]at hi⟩,vs,?_,?_⟩
   ·show U4 P (E0 ⟨l,[]⟩) (clear H []) _=_
    rw[hcl];exact h1
   show K _ (clear H [])
   rw[hcl];exact Ka h2
  |cons d ds=>
   obtain⟨hd,h⟩:=h;obtain⟨vs,h1,h2⟩:=Eh (df:=d::ds) hT _ _ h;exact⟨hd,vs,h1,Ka h2⟩
 cases e<;>first|exact h.elim|skip
 ·exact⟨.inl rfl,key h⟩
 exact⟨.inr rfl,key h⟩
theorem O2 {f:FuncId}{fn:Func}{c:Code}{n:Nat}{rs:List ResultVar}{args:List V}{H:A0}{K:V→A0→Prop}(cf:Cf)(hT:ET P T)(hm:P.follows .mixedOrders=true)(hf:P.funcs[f]? =some fn)(hb:fn.body=some c)(hd:F4 cf c=true)(hcall:∀vals w,(callFunc f vals).run P w= .ok (.enter f vals) w)
 (hnt:fn.ntmps=n) (hrs:fn.results.toList=rs) (hn:Nat.ble args.length n=true) (h:∀E:Bm,E=E8 P n none→run E T n cf c ⟨X6 args 0,[]⟩ H (Iz E T rs K)):G2 P f args H K:=by
 subst hnt;subst hrs;refine Lx hf hb hcall (Nat.le_of_ble_eq_true hn) ?_;rw[UQ];refine(O3.post_le (H6 hT hm c _ H _ hd (h _ rfl))).mono fun e fr' H' ⟨st',hfr,hq⟩=>?_;subst hfr;exact SH hT hq
end
end Go.Ab
namespace Go.Ab
open Go.RowKit
variable [G7][Ar]
theorem W6.wk {x y:V}(h:W6 x y):Wk x y:=fun _ _ _ hv=>hv.le h
theorem Args.le {g:Gh}{w:World}{vals:Array Value}{xs ys:List V}(h:Args g w vals xs)(k:G1 xs ys):Args g w vals ys:=
 ⟨h.1.trans k.length,fun i hi=>(h.2 i (k.length▸hi)).le (k.at i)⟩
theorem G2.args {P:Program}{f:FuncId}{xs ys:List V}{H:A0}{K:V→A0→Prop}(h:G2 P f ys H K)(k:G1 xs ys):G2 P f xs H K:=
 fun g w vals hR hA=>h g w vals hR (hA.le k)
theorem W4.args {P:Program}{fv:V}{xs ys:List V}{H:A0}{K:V→A0→Prop}(h:W4 P fv ys H K)(k:G1 xs ys):W4 P fv xs H K:=
 fun g w v vals hR hv hA=>h g w v vals hR hv (hA.le k)
theorem B8.args {P:Program}{f:FuncId}{xs ys:List V}{r:V}(h:B8 P f ys r)(k:G1 xs ys):B8 P f xs r:=fun H=>(h H).args k
theorem Q6.args {P:Program}{fv:V}{xs ys:List V}{r:V}(h:Q6 P fv ys r)(k:G1 xs ys):Q6 P fv xs r:=fun H=>(h H).args k
def Eb (H H':A0):Prop:=∀id b,H id=some b→H' id=some b
theorem Eb.refl (H:A0):Eb H H:=fun _ _ h=>h
theorem Eb.trans {H H' H'':A0}(h:Eb H H')(k:Eb H' H''):Eb H H'':=fun id b e=>k id b (h id b e)
theorem G2.le {P:Program}{f:FuncId}{args:List V}{H:A0}{K:V→A0→Prop}(h:G2 P f args H fun x H'=>∃y H2,W6 x y∧Eb H2 H'∧K y H2):G2 P f args H K:=
 fun g w vals hR hA=>(h g w vals hR hA).mono fun v w' ⟨g',x,H',s,hR',hv,y,H2,hxy,hH,hK⟩=>⟨g',y,H2,s,hR'.less hH,hv.le hxy,hK⟩
inductive En where
 |tl (t:E5)
 |blk (id:Nat) (b:CW)
def En.id :En→Option (Nat×CW)
 | .tl (.tok t)=>some (t,.spare)
 | .tl _=>none
 | .blk id b=>some (id,b)
structure T8 (H0:A0) (L:List En) (H:A0):Prop where
 ext:Eb H0 H
 has:∀(i:Nat) e id b,L[i]? =some e→e.id=some (id,b)→H0 id=none∧H id=some b
 inj:∀(i j:Nat) e e' id b b',L[i]? =some e→L[j]? =some e'→e.id=some (id,b)→e'.id=some (id,b')→i=j
 only:∀x b,H x=some b→H0 x=some b∨∃(i:Nat) (e:En),L[i]? =some e∧e.id=some (x,b)
theorem T8.start (H:A0):T8 H [] H:=⟨Eb.refl H,fun i e id b h=>by simp at h,fun i j e e' id b b' h=>by simp at h,fun x b h=>.inl h⟩
theorem T8.free {H0 H:A0}{L:List En}(h:T8 H0 L H){id:Nat}(hn:H id=none):H0 id=none:=by
 cases e:H0 id with
 |none=>rfl
 |some b=>rw[h.ext id b e]at hn;cases hn
theorem T8.tl0 {H0 H:A0} {L:List En} (h:T8 H0 L H) {t:E5} (ht:(En.tl t).id=none):T8 H0 (.tl t::L) H:=by
 refine⟨h.ext,fun i e id b hi he=>?_,fun i j e e' id b b' hi hj he he'=>?_,fun x b hx=>(h.only x b hx).imp (fun h=>h) fun⟨i,e,h1,h2⟩=>⟨i+1,e,by simpa using h1,h2⟩⟩
 ·cases i with
  |zero=>simp at hi;subst hi;rw[ht]at he;cases he
  |succ i=>exact h.has i e id b (by simpa using hi) he
 cases i with
 |zero=>simp at hi;subst hi;rw[ht]at he;cases he
 |succ i=>
  cases j with
  |zero=>simp at hj;subst hj;rw[ht]at he';cases he'
  |succ j=>rw[h.inj i j e e' id b b' (by simpa using hi) (by simpa using hj) he he']
theorem T8.push {H0 H:A0} {L:List En} (h:T8 H0 L H) {en:En} {id:Nat} {b:CW} (hn:H id=none) (he:en.id=some (id,b)):T8 H0 (en::L) (upd H id (some b)):=by
 refine⟨fun x bb hx=>?_,fun i e x bb hi hx=>?_,fun i j e e' x bb bb' hi hj hx hx'=>?_,fun x bb hx=>?_⟩
 rotate_right
 ·by_cases hxi:x=id
  ·subst hxi;rw[B1]at hx;cases hx;exact .inr ⟨0,en,by simp,he⟩
  rw[A6 _ _ hxi]at hx
  exact(h.only x bb hx).imp (fun h=>h) fun⟨i,e,h1,h2⟩=>⟨i+1,e,by simpa using h1,h2⟩
 ·rw[A6 _ _ (M0 (h.free hn) hx)];exact h.ext x bb hx
 ·cases i with
  |zero=>simp at hi;subst hi;rw[he]at hx;cases hx;exact⟨h.free hn,B1 _ _ _⟩
  |succ i=>
   have:=h.has i e x bb (by simpa using hi) hx;exact⟨this.1,by rw[A6 _ _ (M0 hn this.2)];exact this.2⟩
 cases i with
 | zero=>
  cases j with
  |zero=>rfl
  |succ j=>
   simp at hi;subst hi;rw[he]at hx;cases hx
   have:=(h.has j e' _ bb' (by simpa using hj) hx').2
   rw[hn]at this;cases this
 | succ i=>
  cases j with
  |zero=>
   simp at hj;subst hj;rw[he]at hx';cases hx'
   have:=(h.has i e _ bb (by simpa using hi) hx).2
   rw[hn]at this;cases this
  |succ j=>rw[h.inj i j e e' x bb bb' (by simpa using hi) (by simpa using hj) hx hx']
theorem T8.get {H0 H:A0}{L:List En}(h:T8 H0 L H)(i:Nat){id:Nat}{b:CW}(hi:L[i]? =some (.blk id b)):H id=some b:=(h.has i _ id b hi rfl).2
theorem T8.set {H0 H:A0} {L:List En} (h:T8 H0 L H) (i:Nat) {id:Nat} {b b':CW} (hi:L[i]? =some (.blk id b)):T8 H0 (L.set i (.blk id b')) (upd H id (some b')):=by
 have hid:=h.has i _ id b hi rfl
 have hlt:i<L.length:=by
  rcases Nat.lt_or_ge i L.length with h'|h'
  ·exact h'
  rw[List.getElem?_eq_none h']at hi;cases hi
 have EO:∀(j:Nat) e,(L.set i (.blk id b'))[j]? =some e→(j=i∧e= .blk id b')∨(j≠i∧L[j]? =some e):=fun j e hj=>by
  rw[List.getElem?_set]at hj
  split at hj
  ·rename_i hij;subst hij
   try rw[if_pos hlt]at hj
   exact .inl ⟨rfl,(Option.some.inj hj).symm⟩
  rename_i hij;exact .inr ⟨fun e=>hij e.symm,hj⟩
 refine⟨fun x bb hx=>?_,fun j e x bb hj hx=>?_,fun j k e e' x bb bb' hj hk hx hx'=>?_,fun x bb hx=>?_⟩
 rotate_right
 ·by_cases hxi:x=id
  ·subst hxi;rw[B1]at hx;cases hx
   exact .inr ⟨i,.blk x b',by rw[List.getElem?_set,if_pos rfl,if_pos hlt],rfl⟩
  rw[A6 _ _ hxi]at hx
  refine(h.only x bb hx).imp (fun h=>h) fun⟨j,e,h1,h2⟩=>⟨j,e,?_,h2⟩;rw[List.getElem?_set]
  split
  ·rename_i hij;subst hij;rw[hi]at h1;cases h1;cases h2;exact absurd rfl hxi
  exact h1
 ·rw[A6 _ _ (M0 hid.1 hx)];exact h.ext x bb hx
 ·rcases EO j e hj with⟨_,rfl⟩|⟨hne,hj'⟩
  ·cases hx;exact⟨hid.1,B1 _ _ _⟩
  have:=h.has j e x bb hj' hx
  have hxid:x≠id:=fun eq=>by subst eq;exact hne (h.inj j i e _ x bb b hj' hi hx rfl)
  exact⟨this.1,by rw[A6 _ _ hxid];exact this.2⟩
 rcases EO j e hj with⟨hji,rfl⟩|⟨hne,hj'⟩<;>rcases EO k e' hk with⟨hki,rfl⟩|⟨hne',hk'⟩
 ·rw[hji,hki]
 ·cases hx;exact absurd (h.inj k i e' _ id bb' b hk' hi hx' rfl) hne'
 ·cases hx';exact absurd (h.inj j i e _ id bb b hj' hi hx rfl) hne
 exact h.inj j k e e' x bb bb' hj' hk' hx hx'
theorem T8.tok {H0 H:A0} {L:List En} (h:T8 H0 L H) (i:Nat) {tl:E5} (hi:L[i]? =some (.tl tl)) {t:Nat} (ht:D0 H tl t=none):
 T8 H0 (L.set i (.tl (.tok t))) (upd (D0 H tl) t (some .spare)):=by
 have hlt:i<L.length:=by
  rcases Nat.lt_or_ge i L.length with h'|h'
  ·exact h'
  rw[List.getElem?_eq_none h']at hi;cases hi
 have EO:∀(j:Nat) e,(L.set i (.tl (.tok t)))[j]? =some e→(j=i∧e= .tl (.tok t))∨(j≠i∧L[j]? =some e):=fun j e hj=>by
  rw[List.getElem?_set]at hj
  split at hj
  ·rename_i hij;subst hij
   try rw[if_pos hlt]at hj
   exact .inl ⟨rfl,(Option.some.inj hj).symm⟩
  rename_i hij;exact .inr ⟨fun e=>hij e.symm,hj⟩
 have left:∀x b,H x=some b→(∀t',tl= .tok t'→x≠t')→D0 H tl x=some b:=fun x b hx hne=>by
  cases tl with
  |tok t'=>simp only[D0];rw[A6 _ _ (hne t' rfl)];exact hx
  |_=>exact hx
 have h0:∀x b,H0 x=some b→D0 H tl x=some b:=fun x b hx=>left x b (h.ext x b hx) fun t' e eq=>by
  subst e;subst eq
  rw[(h.has i _ x _ hi rfl).1]at hx;cases hx
 have hoth:∀(j:Nat) e x b,j≠i→L[j]? =some e→e.id=some (x,b)→H0 x=none∧D0 H tl x=some b:=fun j e x b hne hj hx=>by
  have:=h.has j e x b hj hx;refine⟨this.1,left x b this.2 fun t' et eq=>?_⟩;subst et;subst eq;exact hne (h.inj j i e _ x b _ hj hi hx rfl)
 have hid0:H0 t=none:=by
  cases e:H0 t with
  |none=>rfl
  |some b=>rw[h0 t b e]at ht;cases ht
 refine⟨fun x bb hx=>?_,fun j e x bb hj hx=>?_,fun j k e e' x bb bb' hj hk hx hx'=>?_,fun x bb hx=>?_⟩
 rotate_right
 ·by_cases hxi:x=t
  ·subst hxi;rw[B1]at hx;cases hx
   exact .inr ⟨i,.tl (.tok x),by rw[List.getElem?_set,if_pos rfl,if_pos hlt],rfl⟩
  rw[A6 _ _ hxi]at hx
  have hx2:H x=some bb∧∀t',tl= .tok t'→x≠t':=by
   cases tl with
   |tok t'=>
    simp only[D0]at hx
    by_cases e:x=t'
    ·subst e;rw[B1]at hx;cases hx
    rw[A6 _ _ e]at hx
    exact⟨hx,fun t'' e'=>by cases e';exact e⟩
   |_=>exact⟨hx,fun t'' e'=>by cases e'⟩
  refine(h.only x bb hx2.1).imp (fun h=>h) fun⟨j,e,h1,h2⟩=>⟨j,e,?_,h2⟩;rw[List.getElem?_set]
  split
  ·rename_i hij;subst hij;rw[hi]at h1;cases h1
   cases tl with
   |tok t'=>cases h2;exact absurd rfl (hx2.2 _ rfl)
   |_=>cases h2
  exact h1
 ·rw[A6 _ _ (M0 hid0 hx)];exact h0 x bb hx
 ·rcases EO j e hj with⟨_,rfl⟩|⟨hne,hj'⟩
  ·cases hx;exact⟨hid0,B1 _ _ _⟩
  have:=hoth j e x bb hne hj' hx;exact⟨this.1,by rw[A6 _ _ (M0 ht this.2)];exact this.2⟩
 rcases EO j e hj with⟨hji,rfl⟩|⟨hne,hj'⟩<;>rcases EO k e' hk with⟨hki,rfl⟩|⟨hne',hk'⟩
 ·rw[hji,hki]
 ·cases hx;have:=(hoth k e' t bb' hne' hk' hx').2;rw[ht]at this;cases this
 ·cases hx';have:=(hoth j e t bb hne hj' hx).2;rw[ht]at this;cases this
 exact h.inj j k e e' x bb bb' hj' hk' hx hx'
theorem T8.del {H0 H:A0} {L:List En} (h:T8 H0 L H) (i:Nat) {id:Nat} {b:CW} (hi:L[i]? =some (.blk id b)):T8 H0 (L.eraseIdx i) (upd H id none):=by
 have hid:=h.has i _ id b hi rfl
 have EO:∀(j:Nat) e,(L.eraseIdx i)[j]? =some e→∃j',j'≠i∧L[j']? =some e∧(j'=if j<i then j else j+1):=fun j e hj=>by
  rw[List.getElem?_eraseIdx]at hj
  split at hj
  ·rename_i hlt;exact⟨j,by omega,hj,by rw[if_pos hlt]⟩
  rename_i hlt;exact⟨j+1,by omega,hj,by rw[if_neg hlt]⟩
 refine⟨fun x bb hx=>?_,fun j e x bb hj hx=>?_,fun j k e e' x bb bb' hj hk hx hx'=>?_,fun x bb hx=>?_⟩
 rotate_right
 ·by_cases hxi:x=id
  ·subst hxi;rw[B1]at hx;cases hx
  rw[A6 _ _ hxi]at hx
  refine(h.only x bb hx).imp (fun h=>h) fun⟨j,e,h1,h2⟩=>?_
  have hji:j≠i:=fun eq=>by subst eq;rw[hi]at h1;cases h1;cases h2;exact hxi rfl
  rcases Nat.lt_or_ge j i with hlt|hge
  ·exact⟨j,e,by rw[List.getElem?_eraseIdx,if_pos hlt];exact h1,h2⟩
  exact⟨j - 1,e,by rw[List.getElem?_eraseIdx,if_neg (by omega),show j - 1+1=j by omega];exact h1,h2⟩
 ·rw[A6 _ _ (M0 hid.1 hx)];exact h.ext x bb hx
 ·obtain⟨j',hne,hj',_⟩:=EO j e hj;have:=h.has j' e x bb hj' hx
  have hxid:x≠id:=fun eq=>by subst eq;exact hne (h.inj j' i e _ x bb b hj' hi hx rfl)
  exact⟨this.1,by rw[A6 _ _ hxid];exact this.2⟩
 obtain⟨j',hne,hj',ej⟩:=EO j e hj;obtain⟨k',hne',hk',ek⟩:=EO k e' hk;have:=h.inj j' k' e e' x bb bb' hj' hk' hx hx'
 rw[ej,ek]at this
 split at this<;>split at this<;>omega
def Hl (H:A0)(e:En):A0:=
 match e.id with
 |some (id,_)=>upd H id none
 |none=>H
theorem T8.tail {H0 H:A0} {L:List En} {e:En} (h:T8 H0 (e::L) H):T8 H0 L (Hl H e):=by
 have inj0:∀(j:Nat) e' x b b',L[j]? =some e'→e'.id=some (x,b)→e.id=some (x,b')→False:=fun j e' x b b' hj hx hx'=>by
  have:=h.inj (j+1) 0 e' e x b b' (by simpa using hj) (by simp) hx hx';omega
 cases he:e.id with
 |none=>
  have ed:Hl H e=H:=by simp only[Hl,he]
  rw[ed];refine⟨h.ext,fun i e id b hi=>h.has (i+1) e id b (by simpa using hi),fun i j e e' id b b' hi hj he he'=>?_,fun x b hx=>(h.only x b hx).imp (fun h=>h) fun⟨i,e',h1,h2⟩=>?_⟩
  ·have:=h.inj (i+1) (j+1) e e' id b b' (by simpa using hi) (by simpa using hj) he he';omega
  cases i with
  |zero=>simp at h1;subst h1;rw[he]at h2;cases h2
  |succ i=>exact⟨i,e',by simpa using h1,h2⟩
 | some p=>
  obtain⟨id,b0⟩:=p
  have ed:Hl H e=upd H id none:=by simp only[Hl,he]
  rw[ed];have hid:=h.has 0 e id b0 (by simp) he;refine⟨fun x b hx=>?_,fun i e' x b hi hx=>?_,fun i j e e' id b b' hi hj he he'=>?_,fun x b hx=>?_⟩
  ·rw[A6 _ _ (M0 hid.1 hx)];exact h.ext x b hx
  ·have:=h.has (i+1) e' x b (by simpa using hi) hx
   have hne:x≠id:=fun eq=>by subst eq;exact inj0 i e' x b b0 hi hx he
   exact⟨this.1,by rw[A6 _ _ hne];exact this.2⟩
  ·have:=h.inj (i+1) (j+1) e e' id b b' (by simpa using hi) (by simpa using hj) he he';omega
  by_cases hxi:x=id
  ·subst hxi;rw[B1]at hx;cases hx
  rw[A6 _ _ hxi]at hx
  refine(h.only x b hx).imp (fun h=>h) fun⟨i,e',h1,h2⟩=>?_
  cases i with
  |zero=>simp at h1;subst h1;rw[he]at h2;cases h2;exact absurd rfl hxi
  |succ i=>exact⟨i,e',by simpa using h1,h2⟩
theorem Eb.upd {H H':A0}(h:Eb H H')(id:Nat)(b:Option CW):Eb (upd H id b) (upd H' id b):=fun x bb hx=>by
 by_cases e:x=id
 ·subst e;rw[B1]at hx ⊢;exact hx
 rw[A6 _ _ e]at hx ⊢;exact h x bb hx
theorem Eb.less {H H':A0}(h:Eb H H')(id:Nat):Eb (Go.Ab.upd H id none) H':=fun x bb hx=>by
 by_cases e:x=id
 ·subst e;rw[B1]at hx;cases hx
 rw[A6 _ _ e]at hx;exact h x bb hx
theorem Eb.none {H H':A0}(h:Eb H H'){id:Nat}(hn:H' id=none):H id=none:=by
 cases e:H id with
 |none=>rfl
 |some b=>rw[h id b e]at hn;cases hn
theorem F5 :D2 (Eq:A0→A0→Prop):=⟨fun h id b hb=>h▸hb,fun id b h _=>by subst h;rfl⟩
def B7 (Φ:A0→A0→Prop)(F:A0)(L:List En)(H:A0):Prop:=D2 Φ∧∃F' H1,T8 F L F'∧Φ F' H1∧Eb H1 H
section
variable {Φ:A0→A0→Prop}{F H:A0}{L:List En}
theorem B7.start (hs:D2 Φ)(h:Φ F H):B7 Φ F [] H:=⟨hs,F,H,T8.start F,h,Eb.refl H⟩
theorem B7.ext (h:B7 Φ F L H):Eb F H:=by
 obtain⟨hs,F',H1,h0,h1,h2⟩:=h;exact h0.ext.trans fun id b hb=>h2 _ _ (hs.le h1 id b hb)
theorem B7.tl0 (h:B7 Φ F L H){t:E5}(ht:(En.tl t).id=none):B7 Φ F (.tl t::L) H:=by
 obtain⟨hs,F',H1,h0,h1,h2⟩:=h;exact⟨hs,F',H1,h0.tl0 ht,h1,h2⟩
theorem B7.push (h:B7 Φ F L H){en:En}{id:Nat}{b:CW}(hn:H id=none)(he:en.id=some (id,b)):B7 Φ F (en::L) (upd H id (some b)):=by
 obtain⟨hs,F',H1,h0,h1,h2⟩:=h;have hn1:=h2.none hn;have hn':=hs.fresh h1 hn1;exact⟨hs,_,_,h0.push hn' he,hs.chg id (some b) h1 (by rw[hn1,hn']),h2.upd id _⟩
theorem B7.get (h:B7 Φ F L H)(i:Nat){id:Nat}{b:CW}(hi:L[i]? =some (.blk id b)):H id=some b:=by
 obtain⟨hs,F',H1,h0,h1,h2⟩:=h;exact h2 _ _ (hs.le h1 _ _ (h0.get i hi))
theorem B7.set (h:B7 Φ F L H)(i:Nat){id:Nat}{b b':CW}(hi:L[i]? =some (.blk id b)):B7 Φ F (L.set i (.blk id b')) (upd H id (some b')):=by
 obtain⟨hs,F',H1,h0,h1,h2⟩:=h;have e:=h0.get i hi;exact⟨hs,_,_,h0.set i hi,hs.chg id _ h1 (by rw[e,hs.le h1 _ _ e]),h2.upd id _⟩
theorem B7.del (h:B7 Φ F L H)(i:Nat){id:Nat}{b:CW}(hi:L[i]? =some (.blk id b)):B7 Φ F (L.eraseIdx i) (upd H id none):=by
 obtain⟨hs,F',H1,h0,h1,h2⟩:=h;have e:=h0.get i hi;exact⟨hs,_,_,h0.del i hi,hs.chg id _ h1 (by rw[e,hs.le h1 _ _ e]),h2.upd id _⟩
theorem B7.tail {e:En} (h:B7 Φ F (e::L) H):B7 Φ F L H:=by
 obtain⟨hs,F',H1,h0,h1,h2⟩:=h
 cases he:e.id with
 |none=>
  have:=h0.tail
  simp only[Hl,he]at this
  exact⟨hs,_,_,this,h1,h2⟩
 |some p=>
  obtain⟨id,b⟩:=p;have h3:=h0.tail
  simp only[Hl,he]at h3
  have e1:=(h0.has 0 e id b (by simp) he).2;exact⟨hs,_,_,h3,hs.chg id none h1 (by rw[e1,hs.le h1 _ _ e1]),h2.less id⟩
theorem B7.tok (h:B7 Φ F L H) (i:Nat) {tl:E5} (hi:L[i]? =some (.tl tl)) {t:Nat} (ht:D0 H tl t=none):B7 Φ F (L.set i (.tl (.tok t))) (upd (D0 H tl) t (some .spare)):=by
 obtain⟨hs,F',H1,h0,h1,h2⟩:=h
 have h3:Φ (D0 F' tl) (D0 H1 tl):=by
  cases tl with
  |tok t'=>
   have e:=(h0.has i _ t' _ hi rfl).2;exact hs.chg t' none h1 (by rw[e,hs.le h1 _ _ e])
  |_=>exact h1
 have h4:Eb (D0 H1 tl) (D0 H tl):=by
  cases tl with
  |tok t'=>exact h2.upd t' none
  |_=>exact h2
 have ht1:=h4.none ht;have ht':=hs.fresh h3 ht1;exact⟨hs,_,_,h0.tok i hi ht',hs.chg t _ h3 (by rw[ht1,ht']),h4.upd t _⟩
theorem B7.stable (hs:D2 Φ) (L:List En):D2 fun F H=>B7 Φ F L H:=by
 refine⟨fun h id b hb=>h.ext id b hb,fun{F H} id b h e=>?_⟩;obtain⟨hs,F',H1,h0,h1,h2⟩:=h
 have hne:∀(i:Nat) en x bb,L[i]? =some en→en.id=some (x,bb)→x≠id:=fun i en x bb hi he eq=>by
  subst eq;have h3:=h0.has i en x bb hi he;have h4:=h2 _ _ (hs.le h1 _ _ h3.2)
  rw[e,h3.1]at h4;cases h4
 have hF':F' id=F id:=by
  cases hf:F id with
  |some x=>exact h0.ext id x hf
  | none=>
   cases hf':F' id with
   |none=>rfl
   |some x=>
    rcases h0.only id x hf' with h|⟨i,en,hi,he⟩
    ·rw[hf]at h;cases h
    exact absurd rfl (hne i en id x hi he)
 have hH1:H1 id=F id:=by
  cases hf:F id with
  |some x=>rw[←hF']at hf;exact hs.le h1 id x hf
  |none=>rw[hf]at e;exact h2.none e
 refine⟨hs,upd F' id b,upd H1 id b,⟨fun x bb hx=>?_,fun i en x bb hi he=>?_,h0.inj,fun x bb hx=>?_⟩,hs.chg id b h1 (by rw[hF',hH1]),h2.upd id b⟩
 ·by_cases hxi:x=id
  ·subst hxi;rw[B1]at hx ⊢;exact hx
  rw[A6 _ _ hxi]at hx ⊢;exact h0.ext x bb hx
 ·have:=h0.has i en x bb hi he;have hxi:=hne i en x bb hi he;rw[A6 _ _ hxi,A6 _ _ hxi];exact this
 by_cases hxi:x=id
 ·subst hxi;rw[B1]at hx ⊢;exact .inl hx
 rw[A6 _ _ hxi]at hx ⊢;exact h0.only x bb hx
theorem B7.out :∀{L:List En},B7 Φ F L H→∃H1,Φ F H1∧Eb H1 H
 | [],h=>by
  obtain⟨hs,F',H1,h0,h1,h2⟩:=h
  have:F'=F:=by
   funext x
   cases hf:F' x with
   |some b=>
    rcases h0.only x b hf with h|⟨i,e,hi,_⟩
    ·exact h.symm
    simp at hi
   |none=>exact(h0.free hf).symm
  subst this;exact⟨H1,h1,h2⟩
 |_::L,h=>B7.out (L:=L) h.tail
end
theorem D2.ex {ι:Type}{p:ι→Prop}{I:ι→A0→A0→Prop}(h:∀i,D2 (I i)):D2 fun F H=>∃i,p i∧I i F H:=
 ⟨fun⟨i,_,hi⟩=>(h i).le hi,fun id b ⟨i,hp,hi⟩ e=>⟨i,hp,(h i).chg id b hi e⟩⟩
theorem D2.con {p:Prop}{I:A0→A0→Prop}(h:D2 I):D2 fun F H=>p∧I F H:=
 ⟨fun⟨_,hi⟩=>h.le hi,fun id b ⟨hp,hi⟩ e=>⟨hp,h.chg id b hi e⟩⟩
def Bl :E5→Prop
 | .ro=>False
 |_=>True
theorem B7.appOk {Φ:A0→A0→Prop}{F H:A0}{L:List En}(h:B7 Φ F L H)(i:Nat){tl:E5}(hi:L[i]? =some (.tl tl))(ha:Bl tl):Ds H tl:=by
 obtain⟨hs,F',H1,h0,h1,h2⟩:=h
 cases tl with
 |tok t=>exact h2 _ _ (hs.le h1 _ _ (h0.has i _ t _ hi rfl).2)
 |nil=>trivial
 |full=>trivial
 |ro=>exact ha
end Go.Ab
namespace Go.Ab
def D4 {α:Type}(l:List α)(i:Int):Option α:=if 0≤i then l[i.toNat]? else none
def S9 {α:Type} (l:List α) (lo hi mx:Option Int):Option (List α):=
 if 0≤lo.getD 0∧lo.getD 0≤hi.getD l.length∧hi.getD l.length≤mx.getD l.length∧mx.getD l.length≤l.length∧(mx.isSome=true→hi.isSome=true)then
  some ((l.drop (lo.getD 0).toNat).take ((hi.getD l.length).toNat - (lo.getD 0).toNat))
 else none
def BC {α:Type}(l m:List α):Option (List α):=if l.length+m.length≤1073741824 then some (l++m)else none
def GT (b:Bool):Option Unit:=if b=true then some ()else none
def loopN {σ R:Type} (step:σ→Option (σ ⊕ R)):Nat→σ→Option R
 |0,_=>none
 |n+1,s=>
  match step s with
  |none=>none
  |some (.inl s')=>loopN step n s'
  |some (.inr r)=>some r
def P4 {α σ R:Type} (step:σ→α→Option (σ ⊕ R)):List α→σ→Option (σ ⊕ R)
 |[],s=>some (.inl s)
 |x::l,s=>
  match step s x with
  |none=>none
  |some (.inl s')=>P4 step l s'
  |some (.inr r)=>some (.inr r)
def EL {β σ R:Type} (step:σ→Option (List β×(σ ⊕ R))):Nat→σ→Option (List β×R)
 |0,_=>none
 | n+1,s=>
  match step s with
  |none=>none
  | some (w,.inl s')=>
   (match EL step n s' with
    |none=>none
    |some (w',r)=>some (w++w',r))
  |some (w,.inr r)=>some (w,r)
def AL {α β σ R:Type} (step:σ→α→Option (List β×(σ ⊕ R))):List α→σ→Option (List β×(σ ⊕ R))
 |[],s=>some ([],.inl s)
 | x::l,s=>
  match step s x with
  |none=>none
  | some (w,.inl s')=>
   (match AL step l s' with
    |none=>none
    |some (w',o)=>some (w++w',o))
  |some (w,.inr r)=>some (w,.inr r)
def V5 {β σ τ:Type}(m:Option (List β×σ))(f:σ→Option (List β×τ)):Option (List β×τ):=
 m.bind fun q=>(f q.2).bind fun p=>some (q.1++p.1,p.2)
theorem N5 {β σ τ:Type} {m:Option (List β×σ)} {f:σ→Option (List β×τ)} {w:List β} {o:τ} (h:V5 m f=some (w,o)):∃w1 w2 x,m=some (w1,x)∧f x=some (w2,o)∧w=w1++w2:=by
 unfold V5 at h
 cases m with
 |none=>cases h
 | some p=>
  simp only[Option.bind_some]at h
  cases hf:f p.2 with
  |none=>rw[hf]at h;cases h
  |some t=>
   rw[hf]at h
   simp only[Option.bind_some,Option.some.injEq,Prod.mk.injEq]at h
   obtain⟨h1,h2⟩:=h;subst h1;subst h2;exact⟨p.1,t.1,p.2,rfl,hf,rfl⟩
theorem W0 {β σ τ:Type}{a:List β}{x:σ}{f:σ→Option (List β×τ)}{w:List β}{o:τ}(h:V5 (some (a,x)) f=some (w,o)):∃w2,f x=some (w2,o)∧w=a++w2:=by
 obtain⟨w1,w2,y,h1,h2,h3⟩:=N5 h;cases h1;exact⟨w2,h2,h3⟩
theorem E4 {α β:Type}{a c:α}{b d:β}(h:some (a,b)=some (c,d)):a=c∧b=d:=by cases h;exact⟨rfl,rfl⟩
theorem bind_some {α β:Type}{m:Option α}{F:α→Option β}{r:β}(h:m.bind F=some r):∃x,m=some x∧F x=some r:=by
 cases m with
 |none=>cases h
 |some x=>exact⟨x,rfl,h⟩
theorem G0 {α:Type}{a b:α}(h:some a=some b):a=b:=Option.some.inj h
end Go.Ab
namespace Go.Ab
open Go.RowKit
variable [G7][Ar]
def Dr (l:Fl):Fl→Prop
 |[]=>True
 |(k,s)::r=>W6 (W5 l k) s.V∧(∀j w x,s≠ .g j w x)∧Dr l r
theorem Dr.wk {l:Fl}:∀{r:Fl},Dr l r→∀t,Wk (W5 l t) (W5 r t)
 |[],_,t=>Wk.bad _
 | (k,s)::r,h,t=>by
  simp only[W5]
  cases hb:Nat.beq t k with
  |true=>
   have:=Nat.eq_of_beq_eq_true hb;subst this
   cases s with
   |v x=>exact h.1.wk
   |b c=>exact h.1.wk
   |g j w x=>exact absurd rfl (h.2.1 j w x)
  |false=>exact Dr.wk h.2.2 t
theorem Dr.v {l r:Fl}{k:Nat}{x:V}(h:W6 (W5 l k) x)(hr:Dr l r):Dr l ((k,.v x)::r):=⟨h,fun _ _ _ h=>(by cases h),hr⟩
theorem Dr.b {l r:Fl}{k:Nat}{c:Bool}(h:W5 l k= .bool c)(hr:Dr l r):Dr l ((k,.b c)::r):=⟨h▸ .refl _,fun _ _ _ h=>(by cases h),hr⟩
theorem Dr.e {l r:Fl}{k:Nat}{x:V}(h:W5 l k=x)(hr:Dr l r):Dr l ((k,.v x)::r):=⟨h▸ .refl _,fun _ _ _ h=>(by cases h),hr⟩
theorem Dr.z {l:Fl}:Dr l []:=trivial
theorem Wk.trans {x y z:V}(h:Wk x y)(k:Wk y z):Wk x z:=fun g w v hv=>k g w v (h g w v hv)
theorem BH.le {fr:Fr}{l l':Fl}{df:List Nat}(h:BH fr ⟨l,df⟩)(k:Dr l l'):BH fr ⟨l',df⟩:=⟨fun t=>(h.s t).trans (k.wk t),h.df⟩
theorem C1 {α:Type}{f:α→V}:([]:List V)=lst f []:=by rw[lst_eq];rfl
theorem D7 {α:Type}{f:α→V}{v:V}{vs:List V}{x:α}{l:List α}(h:v=f x)(k:vs=lst f l):v::vs=lst f (x::l):=by
 rw[h,k,lst_eq,lst_eq];rfl
theorem Gc {α:Type}{f:α→V}(l m:List α):lst f l++lst f m=lst f (l++m):=by simp[lst_eq]
theorem G3 {α:Type}{f:α→V}(l:List α):(lst f l).length=l.length:=by simp[lst_eq]
theorem He {α:Type}{f:α→V}{sz:Nat}(h:∀x,(f x).cells.length=sz)(l:List α):(lst f l).all (fun x=>x.cells.length==sz)=true:=by
 rw[lst_eq];simp[h]
theorem G1.lst0 {α:Type}{f:α→V}:G1 [] (lst f []):=by rw[←C1];exact .nil
theorem G1.lstc {α:Type}{f:α→V}{v:V}{vs:List V}{x:α}{l:List α}(h:W6 v (f x))(k:G1 vs (lst f l)):G1 (v::vs) (lst f (x::l)):=by
 rw[←D7 rfl rfl];exact .cons h k
theorem W6.eq {v x y:V}(h:y=x)(k:W6 v x):W6 v y:=h▸k
theorem W6.lit {xs ys:List V}(t:E5)(h:xs=ys):W6 (.sl xs t) (.sl ys .ro):=h▸ .ro _ _
section
variable {P:Program}{nt:Nat}{rd:Option Nat}{T:Cr}{E:Bm}
variable (hE:E=E8 P nt rd)
include hE
theorem B0 {R:Type}{c:Bool}{x y:Unit→Prop}{a b:Option R}{r:R}(h:(if c=true then a else b)=some r)(h1:c=true→a=some r→x ())(h2:c=false→b=some r→y ()):E.br c x y:=by
 subst hE;refine⟨fun hc=>?_,fun hc=>?_⟩
 ·rw[if_pos hc]at h;exact h1 hc h
 rw[if_neg (by rw[hc];simp)]at h;exact h2 hc h
theorem Kq {p:Prop}{k:Unit→Prop}(h:p)(hk:k ()):E.need p k:=by subst hE;exact⟨h,hk⟩
theorem Jy {R:Type}{b:Bool}{k:Unit→Prop}{F:Unit→Option R}{r:R}(h:(GT b).bind F=some r)(hk:F ()=some r→k ()):E.needB b k:=by
 subst hE;obtain⟨x,h1,h2⟩:=bind_some h
 unfold GT at h1
 split at h1
 ·rename_i hb;exact⟨hb,hk h2⟩
 cases h1
theorem Gb {b:Bool}{k:Unit→Prop}(hb:b=true)(hk:k ()):E.needB b k:=by subst hE;exact⟨hb,hk⟩
theorem Ea {op:BinOp}{a b:Int}(h:Hm op a b=true):Ar.cmp op a b=true:=by rw[Ar.cmp_eq];exact h
theorem F3 {α:Type}{f:α→V}{l:List α}{k:Int→Prop}(h:k (Ar.len l)):E.ln (lst f l) k:=by
 subst hE
 show k _
 rw[G3,←Ar.len_eq];exact h
theorem D1 {α R:Type} {f g:α→V} (hf:∀x,f x=g x) {l:List α} {i:Int} {k:V→Prop} {F:α→Option R} {r:R} (h:(D4 l i).bind F=some r) (hk:∀x,F x=some r→k (g x)):E.idx (lst f l) i k:=by
 subst hE;obtain⟨x,h1,h2⟩:=bind_some h
 unfold D4 at h1
 split at h1
 ·rename_i h0
  have hlt:i.toNat<l.length:=by
   rcases Nat.lt_or_ge i.toNat l.length with h'|h'
   ·exact h'
   rw[List.getElem?_eq_none h']at h1;cases h1
  refine⟨⟨h0,by rw[G3];omega⟩,?_⟩;rw[lst_eq,List.getD_eq_getElem?_getD,List.getElem?_map,h1];simp only[Option.map_some,Option.getD_some];rw[hf];exact hk x h2
 cases h1
theorem HI {α R:Type} {f:α→V} {sz:Nat} (hsz:∀x,(f x).cells.length=sz) {l:List α} {tl:E5} {lo hi mx:Option Int} {k:V→Prop} {F:List α→Option R} {r:R} (h:(S9 l lo hi mx).bind F=some r)
 (hk:∀x t,F x=some r→k (.sl (lst f x) t)):E.slice sz (lst f l) tl lo hi mx k:=by
 subst hE;obtain⟨x,h1,h2⟩:=bind_some h
 unfold S9 at h1
 split at h1
 ·rename_i hc;obtain⟨c1,c2,c3,c4,c5⟩:=hc;cases h1;refine⟨?_,?_⟩
  ·rw[G3];exact⟨c1,c2,c3,c4,c5,.inr (He hsz l)⟩
  rw[G3,lst_eq,←List.map_drop,←List.map_take];have:=hk _ (Dm (lo.getD 0).toNat (hi.getD l.length).toNat l.length mx tl) h2
  rwa[lst_eq]at this
 cases h1
theorem A8 {R S:Type}{m:Option S}{F:S→Option R}{r:R}{f:FuncId}{args args':List V}{g:S→V}{H:A0}{k:V→A0→Prop}(h:m.bind F=some r)(hc:∀x,m=some x→B8 P f args' (g x))(hl:G1 args args')
 (hk:∀x,F x=some r→k (g x) H):E.call (.func (.func f) [] []) args H k:=by
 subst hE;obtain⟨x,h1,h2⟩:=bind_some h
 exact Q6.at (B8.value (F:=[]) (C:=[]) (by simpa using(hc x h1).args hl)) (hk x h2)
theorem C9 {R S:Type}{m:Option S}{F:S→Option R}{r:R}{f:FuncId}{args args':List V}{g:S→V}{H:A0}{k:V→Prop}(h:m.bind F=some r)(hc:∀x,m=some x→B8 P f args' (g x))(hl:G1 args args')
 (hk:∀x,F x=some r→k (g x)):E.pcall H (.func (.func f) [] []) args k:=by
 subst hE;obtain⟨x,h1,h2⟩:=bind_some h;exact⟨g x,(B8.value (F:=[]) (C:=[]) (by simpa using(hc x h1).args hl)).toH H,hk x h2⟩
theorem V0 {R S:Type}{m:Option S}{F:S→Option R}{r:R}{fv:V}{args args':List V}{g:S→V}{H:A0}{k:V→A0→Prop}(h:m.bind F=some r)(hc:∀x,m=some x→Q6 P fv args' (g x))(hl:G1 args args')
 (hk:∀x,F x=some r→k (g x) H):E.call fv args H k:=by
 subst hE;obtain⟨x,h1,h2⟩:=bind_some h
 exact Q6.at ((hc x h1).args hl) (hk x h2)
theorem TX {R S:Type}{m:Option S}{F:S→Option R}{r:R}{fv:V}{args args':List V}{g:S→V}{H:A0}{k:V→Prop}(h:m.bind F=some r)(hc:∀x,m=some x→Q6 P fv args' (g x))(hl:G1 args args')
 (hk:∀x,F x=some r→k (g x)):E.pcall H fv args k:=by
 subst hE;obtain⟨x,h1,h2⟩:=bind_some h;exact⟨g x,((hc x h1).args hl).toH H,hk x h2⟩
theorem A7 {Φ:A0→A0→Prop}{H0 H:A0}{L:List En}(hO:B7 Φ H0 L H)(i:Nat){id:Nat}{cs:List V}{k:List V→Prop}(hi:L[i]? =some (.blk id (.cells cs)))(hk:k cs):E.load H id k:=by
 subst hE;exact⟨cs,hO.get i hi,hk⟩
theorem A9 {Φ:A0→A0→Prop}{H0 H:A0}{L:List En}(hO:B7 Φ H0 L H)(i:Nat){id off sz:Nat}{cs vs:List V}{k:A0→Prop}(hi:L[i]? =some (.blk id (.cells cs)))(hb:Nat.ble (off+sz) cs.length=true)
 (hk:∀H',B7 Φ H0 (L.set i (.blk id (.cells (L8 cs off vs)))) H'→k H'):E.store H id off sz vs k:=by
 subst hE;exact⟨cs,vs,.refl _,hO.get i hi,hb,hk _ (hO.set i hi)⟩
theorem BT {Φ:A0→A0→Prop}{H0 H:A0}{L:List En}(hO:B7 Φ H0 L H)(i:Nat){id off sz:Nat}{cs vs vs':List V}{k:A0→Prop}(hi:L[i]? =some (.blk id (.cells cs)))(hb:Nat.ble (off+sz) cs.length=true)(hl:G1 vs vs')
 (hk:∀H',B7 Φ H0 (L.set i (.blk id (.cells (L8 cs off vs')))) H'→k H'):E.store H id off sz vs k:=by
 subst hE;exact⟨cs,vs',hl,hO.get i hi,hb,hk _ (hO.set i hi)⟩
theorem C6 {Φ:A0→A0→Prop}{H0 H:A0}{L:List En}(hO:B7 Φ H0 L H){cs:List V}{k:Nat→A0→Prop}(hk:∀id H',B7 Φ H0 (.blk id (.cells cs)::L) H'→k id H'):E.alloc H cs k:=by
 subst hE;exact fun id hid=>hk id _ (hO.push hid rfl)
theorem YI {Φ:A0→A0→Prop}{H0 H:A0}{L:List En}(hO:B7 Φ H0 L H)(i:Nat){id:Nat}{cs:List V}{k:List V→A0→Prop}(hi:L[i]? =some (.blk id (.cells cs)))(hk:∀H',B7 Φ H0 (L.eraseIdx i) H'→k cs H'):E.frzL H id k:=by
 subst hE;exact⟨cs,cs,hO.get i hi,.refl _,hk _ (hO.del i hi)⟩
theorem Ue {α R:Type} {g:α→V} {cs:List V} {off sz n:Nat} {l:List α} {i:Int} {k:V→Prop} {F:α→Option R} {r:R} (hcs:cs=l.flatMap fun x=>(g x).cells) (hsz:∀x,(g x).cells.length=sz) (hn:l.length=n) (ho:off=0)
 (h:(D4 l i).bind F=some r) (hk:∀x,F x=some r→k (.eref (g x).cells 0)):E.elem cs off sz n i k:=by
 subst hE;subst ho;obtain⟨x,h1,h2⟩:=bind_some h
 unfold D4 at h1
 split at h1
 ·rename_i h0
  have key:∀(l:List α) (m:Nat) (x:α),l[m]? =some x→(((l.flatMap fun x=>(g x).cells).drop (m*sz)).take sz)=(g x).cells∧m<l.length∧(l.flatMap fun x=>(g x).cells).length=l.length*sz:=by
   intro l
   induction l with
   |nil=>intro m x h;simp at h
   | cons y l ih=>
    intro m x h
    have hlen:∀l:List α,(l.flatMap fun x=>(g x).cells).length=l.length*sz:=by
     intro l
     induction l with
     |nil=>simp
     |cons z l ih=>simp only[List.flatMap_cons,List.length_append,hsz,ih,List.length_cons,Nat.add_mul,Nat.one_mul];omega
    refine⟨?_,?_,hlen _⟩
    ·cases m with
     |zero=>
      simp at h;subst h
      simp only[List.flatMap_cons,Nat.zero_mul,List.drop_zero];rw[List.take_append_of_le_length (by rw[hsz];exact Nat.le_refl _),List.take_of_length_le (by rw[hsz];exact Nat.le_refl _)]
     |succ m=>
      have:=(ih m x (by simpa using h)).1;rw[List.flatMap_cons,show(m+1)*sz=(g y).cells.length+m*sz by rw[hsz,Nat.add_mul,Nat.one_mul];omega,List.drop_append,];rw[List.drop_eq_nil_of_le (by omega),List.nil_append,show(g y).cells.length+m*sz - (g y).cells.length=m*sz by omega];exact this
    rcases Nat.lt_or_ge m (y::l).length with h'|h'
    ·exact h'
    rw[List.getElem?_eq_none h']at h;cases h
  obtain⟨k1,k2,k3⟩:=key l i.toNat x h1;refine⟨⟨h0,by omega,by rw[hcs,k3,hn];omega⟩,?_⟩;rw[hcs,Nat.zero_add,k1];exact hk x h2
 cases h1
theorem Qg {α R:Type} {f:α→V} {sz by_:Nat} (hsz:∀x,(f x).cells.length=sz) (hby:by_≤131072) {xs ys:List V} {l m:List α} {k:V→Prop} {F:List α→Option R} {r:R} (hx:G1 xs (lst f l)) (hy:G1 ys (lst f m)) (h:(BC l m).bind F=some r)
 (hk:∀x,F x=some r→k (.sl (lst f x) .ro)):E.appq sz by_ xs ys k:=by
 subst hE;obtain⟨x,h1,h2⟩:=bind_some h
 unfold BC at h1
 split at h1
 ·rename_i hc;cases h1;refine⟨_,_,hx,hy,He hsz l,He hsz m,?_,?_⟩
  ·rw[G3,G3];exact Nat.le_trans (Nat.mul_le_mul hc hby) (by decide)
  rw[Gc];exact hk _ h2
 cases h1
theorem Et {α R:Type} {f:α→V} {sz by_:Nat} (hsz:∀x,(f x).cells.length=sz) (hby:by_≤131072) {Φ:A0→A0→Prop} {H0 H:A0} {L:List En} (hO:B7 Φ H0 L H) (i:Nat) {tl:E5} (hi:L[i]? =some (.tl tl)) (ha:Bl tl)
 {xs ys:List V} {l m:List α} {k:V→A0→Prop} {F:List α→Option R} {r:R} (hx:G1 xs (lst f l)) (hy:G1 ys (lst f m)) (h:(BC l m).bind F=some r)
 (hk:∀x tl' H',B7 Φ H0 (L.set i (.tl tl')) H'→Bl tl'→F x=some r→k (.sl (lst f x) tl') H'):E.appn sz by_ H tl xs ys k:=by
 subst hE;obtain⟨x,h1,h2⟩:=bind_some h
 unfold BC at h1
 split at h1
 ·rename_i hc;cases h1;refine⟨_,_,hx,hy,hO.appOk i hi ha,He hsz l,He hsz m,?_,fun hm=>?_,fun t ht hn=>?_⟩
  ·rw[G3,G3];exact Nat.le_trans (Nat.mul_le_mul hc hby) (by decide)
  ·have hm':m=[]:=by
    have:=congrArg List.length hm
    rw[G3]at this
    exact List.eq_nil_of_length_eq_zero (by simpa using this)
   subst hm'
   have:=hk _ tl H (by
    have e:L.set i (.tl tl)=L:=by
     apply List.ext_getElem?;intro j;rw[List.getElem?_set]
     split
     ·rename_i e;subst e
      split
      ·exact hi.symm
      rename_i hl;rw[List.getElem?_eq_none (by omega)]
     rfl
    rw[e];exact hO) ha h2
   rwa[List.append_nil]at this
  rw[Gc];exact hk _ _ _ (hO.tok i hi hn) trivial h2
 cases h1
end
section
variable {P:Program}{nt:Nat}{rd:Option Nat}{T:Cr}{E:Bm}
abbrev Mp (P:Program)(T:Cr):Prop:=ET P T∧P.follows .mixedOrders=true
theorem M1 (cf:Cf)(hE:E=E8 P nt rd)(hP:Mp P T){c:Code}{st:St}{H:A0}{K:Exit→St→A0→Prop}(X:Exit→Fl→A0→Prop)(hd:F4 cf c=true)
 (h:TD E T nt cf c st H fun e st' H'=>∃l,X e l H'∧Dr st'.l l∧st'.df=st.df) (after:∀e l H',X e l H'→K e ⟨l,st.df⟩ H'):E.sim c st H K:=by
 subst hE;refine(PQ hP.1 hP.2 c _ _ _ hd h).mono fun e fr2 H2 ⟨st',hle',l,h3,h1,h2⟩=>?_;exact⟨⟨l,st.df⟩,⟨fun t=>(hle'.s t).trans (h1.wk t),hle'.df.trans h2⟩,after _ _ _ h3⟩
theorem K1 (cf:Cf) (hE:E=E8 P nt rd) (hP:Mp P T) {σ R:Type} {step:σ→Option (σ ⊕ R)} {c:Code} {st:St} {H:A0} {K:Exit→St→A0→Prop} (fm:σ→Fl) (Inv:σ→A0→Prop) (X:R→Exit→Fl→A0→Prop) (hd:F4 cf c=true)
 (round:∀s H o,Inv s H→step s=some o→run E T nt cf c ⟨fm s,st.df⟩ H fun e st' H'=>match e with
  | .normal=>∃s',o= .inl s'∧Dr st'.l (fm s')∧st'.df=st.df∧Inv s' H'
  |e=>∃x l,o= .inr x∧X x e l H'∧Dr st'.l l∧st'.df=st.df)
 {N:Nat} {s0:σ} {r:R} (h:loopN step N s0=some r) (hf:Dr st.l (fm s0)) (hI:Inv s0 H) (after:∀e l H',X r e l H'→K e ⟨l,st.df⟩ H'):E.sim (.loop c) st H K:=by
 subst hE;refine O3.loopN (fun n fr' H'=>∃s,loopN step n s=some r∧BH fr' ⟨fm s,st.df⟩∧Inv s H') N ⟨s0,h,⟨fun t=>hf.wk t,rfl⟩,hI⟩ fun n fr' H' ⟨s,hs,hle,hi⟩=>?_
 cases n with
 |zero=>cases hs
 | succ n=>
  simp only[loopN]at hs
  cases ho:step s with
  |none=>rw[ho]at hs;cases hs
  | some o=>
   rw[ho]at hs
   refine O3.frLe hle ((H6 hP.1 hP.2 c _ _ _ hd (round s H' o hi ho)).mono fun e fr2 H2 ⟨st',hle',hq⟩=>?_)
   cases e with
   |normal=>
    obtain⟨s',h1,h2,h3,h4⟩:=hq;subst h1;exact⟨n,Nat.lt_succ_self n,s',hs,⟨fun t=>(hle'.s t).trans (h2.wk t),hle'.df.trans h3⟩,h4⟩
   |_=>
    obtain⟨x,l,h1,h4,h2,h3⟩:=hq;subst h1;cases hs;exact⟨⟨l,st.df⟩,⟨fun t=>(hle'.s t).trans (h2.wk t),hle'.df.trans h3⟩,after _ _ _ h4⟩
theorem Q7 (cf:Cf) (hE:E=E8 P nt rd) (hP:Mp P T) {σ γ R:Type} {step:σ→Option (σ ⊕ R)} {c:Code} {st:St} {H:A0} {K:Exit→St→A0→Prop} (fm:σ→γ→Fl) (Inv:σ→γ→A0→Prop) (X:R→Exit→Fl→A0→Prop) (hd:F4 cf c=true)
 (round:∀s g H o,Inv s g H→step s=some o→run E T nt cf c ⟨fm s g,st.df⟩ H fun e st' H'=>match e with
  | .normal=>∃s' g',o= .inl s'∧Dr st'.l (fm s' g')∧st'.df=st.df∧Inv s' g' H'
  |e=>∃x l,o= .inr x∧X x e l H'∧Dr st'.l l∧st'.df=st.df)
 {N:Nat} {s0:σ} (g0:γ) {r:R} (h:loopN step N s0=some r) (hf:Dr st.l (fm s0 g0)) (hI:Inv s0 g0 H) (after:∀e l H',X r e l H'→K e ⟨l,st.df⟩ H'):E.sim (.loop c) st H K:=by
 subst hE;refine O3.loopN (fun n fr' H'=>∃s g,loopN step n s=some r∧BH fr' ⟨fm s g,st.df⟩∧Inv s g H') N ⟨s0,g0,h,⟨fun t=>hf.wk t,rfl⟩,hI⟩ fun n fr' H' ⟨s,g,hs,hle,hi⟩=>?_
 cases n with
 |zero=>cases hs
 | succ n=>
  simp only[loopN]at hs
  cases ho:step s with
  |none=>rw[ho]at hs;cases hs
  | some o=>
   rw[ho]at hs
   refine O3.frLe hle ((H6 hP.1 hP.2 c _ _ _ hd (round s g H' o hi ho)).mono fun e fr2 H2 ⟨st',hle',hq⟩=>?_)
   cases e with
   |normal=>
    obtain⟨s',g',h1,h2,h3,h4⟩:=hq;subst h1;exact⟨n,Nat.lt_succ_self n,s',g',hs,⟨fun t=>(hle'.s t).trans (h2.wk t),hle'.df.trans h3⟩,h4⟩
   |_=>
    obtain⟨x,l,h1,h4,h2,h3⟩:=hq;subst h1;cases hs;exact⟨⟨l,st.df⟩,⟨fun t=>(hle'.s t).trans (h2.wk t),hle'.df.trans h3⟩,after _ _ _ h4⟩
theorem Lw {f:FuncId}{fn:Func}{c:Code}{n:Nat}{rs:List ResultVar}{args:List V}{r:V}(cf:Cf)(hP:Mp P T)(hf:P.funcs[f]? =some fn)(hb:fn.body=some c)(hd:F4 cf c=true)
 (hcall:∀vals w,(callFunc f vals).run P w= .ok (.enter f vals) w) (hnt:fn.ntmps=n) (hrs:fn.results.toList=rs) (hn:Nat.ble args.length n=true)
 (h:∀(E:Bm) (H:A0) (K:V→A0→Prop),E=E8 P n none→(∀x L H',B7 Eq H L H'→W6 x r→K x H')→run E T n cf c ⟨X6 args 0,[]⟩ H (Iz E T rs K)):B8 P f args r:=fun H=>by
 refine(O2 (K:=fun x H'=>∃y H2,W6 x y∧Eb H2 H'∧y=r∧H2=H) cf hP.1 hP.2 hf hb hd hcall hnt hrs hn fun E hE=>?_).le;exact h E H _ hE fun x L H' hO hx=>⟨r,H,hx,hO.ext,rfl,rfl⟩
end
end Go.Ab
namespace Go.Ab
open Go.RowKit
variable [G7][Ar]
abbrev DB :CW:=.obj (.deferred (some []))
section
variable {P:Program}{nt:Nat}{rd:Option Nat}{T:Cr}{E:Bm}
theorem DR (hE:E=E8 P nt rd) {Φ:A0→A0→Prop} {H0 H:A0} {L:List En} (hO:B7 Φ H0 L H) (i:Nat) {d:Nat} {k:A0→Prop} (hi:L[i]? =some (.blk d DB)) (hk:∀H',B7 Φ H0 (L.eraseIdx i) H'→k H'):E.fin [d] H k:=by
 subst hE;have hd:=hO.get i hi;refine⟨⟨by simp,fun id hid=>?_⟩,?_⟩
 ·simp at hid;subst hid;exact hd
 have e:clear H [d]=upd H d none:=by
  funext x;simp only[clear,upd,List.mem_singleton]
 rw[e];exact hk _ (hO.del i hi)
def FP (P:Program)(f:FuncId)(args:List V)(Q:V→Prop):Prop:=∀H,G2 P f args H fun x H'=>Q x∧H'=H
theorem FP.args {f:FuncId}{xs ys:List V}{Q:V→Prop}(h:FP P f ys Q)(k:G1 xs ys):FP P f xs Q:=fun H=>(h H).args k
theorem B8.q {f:FuncId}{args:List V}{r:V}{Q:V→Prop}(h:B8 P f args r)(hq:Q r):FP P f args Q:=fun H=>(h H).mono fun x H' ⟨e1,e2⟩=>⟨e1▸hq,e2⟩
theorem Df (hE:E=E8 P nt rd){R S:Type}{m:Option S}{F:S→Option R}{r:R}{f:FuncId}{args args':List V}{Q:S→V→Prop}{H:A0}{k:V→A0→Prop}(h:m.bind F=some r)(hc:∀x,m=some x→FP P f args' (Q x))(hl:G1 args args')
 (hk:∀x v,Q x v→F x=some r→k v H):E.call (.func (.func f) [] []) args H k:=by
 subst hE;obtain⟨x,h1,h2⟩:=bind_some h
 have h3:G2 P f args H k:=((hc x h1).args hl H).mono fun v H' ⟨hq,hH⟩=>by subst hH;exact hk x v hq h2
 exact G2.value (F:=[]) (C:=[]) (by simpa using h3)
theorem GF {f:FuncId}{fn:Func}{c:Code}{n:Nat}{rs:List ResultVar}{args:List V}{Q:V→Prop}(cf:Cf)(hP:Mp P T)(hf:P.funcs[f]? =some fn)(hb:fn.body=some c)(hd:F4 cf c=true)
 (hcall:∀vals w,(callFunc f vals).run P w= .ok (.enter f vals) w) (hnt:fn.ntmps=n) (hrs:fn.results.toList=rs) (hn:Nat.ble args.length n=true)
 (h:∀(E:Bm) (H:A0) (K:V→A0→Prop),E=E8 P n none→(∀x L H',B7 Eq H L H'→Q x→K x H')→run E T n cf c ⟨X6 args 0,[]⟩ H (Iz E T rs K)):FP P f args Q:=fun H=>by
 refine(O2 (K:=fun x H'=>∃y H2,W6 x y∧Eb H2 H'∧Q y∧H2=H) cf hP.1 hP.2 hf hb hd hcall hnt hrs hn fun E hE=>?_).le;exact h E H _ hE fun x L H' hO hx=>⟨x,H,.refl _,hO.ext,hx,rfl⟩
def Oi :List Nat→List V→Fl→Fl
 |p::ps,x::xs,l=>Oi ps xs ((p,.v x)::l)
 |_,_,l=>l
theorem MM :∀(ps:List Nat) (xs:List V) (l:Fl) (t:Nat),CG (fun t=>W5 l t) ps xs t=W5 (Oi ps xs l) t
 |[],xs,l,t=>by cases xs<;>rfl
 |p::ps,[],l,t=>rfl
 |p::ps,x::xs,l,t=>by
  simp only[CG,Oi];rw[←MM ps xs]
  congr 1
  funext q
  rw[Rn];rfl
def Uu :Exit→Option Code
 | .ret=>some .ret
 | .exit k=>some (.exit k)
 |_=>none
variable {α σ R ι:Type}
def RgI (enc:α→List V)(step:σ→α→Option (σ ⊕ R))(o:σ ⊕ R)(Inv:σ→A0→A0→Prop)(l:List (List V))(F H:A0):Prop:=
 ∃q:σ×List α,(l=q.2.map enc∧P4 step q.2 q.1=some o)∧Inv q.1 F H
def RgD (o:σ ⊕ R)(X:R→Exit→A0→A0→Prop)(c:Code)(F H:A0):Prop:=∃q:R×Exit,(o= .inr q.1∧Uu q.2=some c)∧X q.1 q.2 F H
def RgJ (enc:α→List V)(step:σ→α→Option (σ ⊕ R))(o:σ ⊕ R)(fJ:ι→σ→α→Fl)(J:ι→σ→α→A0→A0→Prop)(x:List V)(l:List (List V))(fr:Fr)(F H:A0):Prop:=
 ∃q:ι×σ×α×List α,(x=enc q.2.2.1∧l=q.2.2.2.map enc∧P4 step (q.2.2.1::q.2.2.2) q.2.1=some o∧BH fr ⟨fJ q.1 q.2.1 q.2.2.1,[]⟩)∧J q.1 q.2.1 q.2.2.1 F H
section
variable {enc:α→List V}{step:σ→α→Option (σ ⊕ R)}{g:Operand}{ps:Array Tmp}{asg body:Code}{st:St}{H:A0}{K:Exit→St→A0→Prop}
 {xs:List α} {s0:σ} {o:σ ⊕ R}
theorem Sk (cf:Cf) (hP:Mp P T) {Inv:σ→A0→A0→Prop} {fJ:ι→σ→α→Fl} {J:ι→σ→α→A0→A0→Prop} (hda:F4 cf asg=true)
 (asgP:∀(E':Bm) (id:Nat) y s F H,E'=E8 P nt (some id)→Inv s F H→run E' T nt cf asg ⟨Oi ps.toList (enc y) st.l,[]⟩ H fun e st' H'=>match e with| .normal=>∃i,J i s y F H'∧Dr st'.l (fJ i s y)∧st'.df=[]|_=>False):
 ∀(id:Nat) (L:WL) x l F H,RgI enc step o Inv (x::l) F H→F id=some (.loop L)→x.length=ps.size→O3 P nt (some id) asg ⟨CG (E0 st).s ps.toList x,[]⟩ H fun e fr' H1=>e= .normal∧RgJ enc step o fJ J x l fr' F H1:=by
 intro id L x l F H ⟨⟨s,ys⟩,⟨hl,hr⟩,hi⟩ _ _
 cases ys with
 |nil=>cases hl
 | cons y ys=>
  simp only[List.map_cons,List.cons.injEq]at hl
  obtain⟨rfl,rfl⟩:=hl
  have e:(⟨CG (E0 st).s ps.toList (enc y),[]⟩:Fr)=E0 ⟨Oi ps.toList (enc y) st.l,[]⟩:=by
   simp only[E0,Fr.mk.injEq,and_true]
   funext t
   exact MM _ _ _ _
  rw[e];refine(H6 hP.1 hP.2 asg _ _ _ hda (asgP _ id y s F H rfl hi)).mono fun e fr' H1 ⟨st',hle,hq⟩=>?_
  cases e with
  |normal=>
   obtain⟨i,hj,hl,hdf⟩:=hq;exact⟨rfl,⟨i,s,y,ys⟩,⟨rfl,rfl,hr,fun t=>(hle.s t).trans (hl.wk t),hle.df.trans hdf⟩,hj⟩
  |_=>exact hq.elim
theorem TF (cf:Cf) (hP:Mp P T) {Inv:σ→A0→A0→Prop} {X:R→Exit→A0→A0→Prop} {fJ:ι→σ→α→Fl} {J:ι→σ→α→A0→A0→Prop} (hdb:F4 cf body=true)
 (bodyP:∀(E':Bm) (id:Nat) i y s F H o',E'=E8 P nt (some id)→(∃L,F id=some (.loop L))→step s y=some o'→J i s y F H→run E' T nt cf body ⟨fJ i s y,[]⟩ H fun e _ H'=>match e with
  | .normal=>∃s',o'= .inl s'∧Inv s' F H'
  |e=>∃r,o'= .inr r∧(Uu e).isSome=true∧X r e F H'):
 ∀(id:Nat) (L:WL) x l fr' F H,RgJ enc step o fJ J x l fr' F H→F id=some (.loop L)→O3 P nt (some id) body fr' H fun e _ H'=>ON (RgI enc step o Inv l) (RgD o X) F e H':=by
 intro id L x l fr' F H ⟨⟨i,s,y,ys⟩,⟨hx,hl,hr,hf⟩,hj⟩ hL;subst hx;subst hl
 simp only[P4]at hr
 cases ho:step s y with
 |none=>rw[ho]at hr;cases hr
 | some o'=>
  rw[ho]at hr
  refine O3.frLe hf ((H6 hP.1 hP.2 body _ _ _ hdb (bodyP _ id i y s F H o' rfl ⟨L,hL⟩ ho hj)).mono fun e fr2 H2 ⟨st',hle,hq⟩=>?_)
  cases e with
  |normal=>
   obtain⟨s',h1,h2⟩:=hq;subst h1;exact⟨⟨s',ys⟩,⟨rfl,hr⟩,h2⟩
  |ret=>
   obtain⟨r,h1,h2,h3⟩:=hq;subst h1;exact⟨⟨r,.ret⟩,⟨by cases hr;rfl,rfl⟩,h3⟩
  |exit k=>
   obtain⟨r,h1,h2,h3⟩:=hq;subst h1;exact⟨⟨r,.exit k⟩,⟨by cases hr;rfl,rfl⟩,h3⟩
  |_=>
   obtain⟨r,h1,h2,h3⟩:=hq;cases h2
theorem HJ (cf:Cf) (hE:E=E8 P nt none) (hP:Mp P T) (Inv:σ→A0→A0→Prop) (X:R→Exit→A0→A0→Prop) (fJ:ι→σ→α→Fl) (J:ι→σ→α→A0→A0→Prop)
 (hI:∀s,D2 (Inv s)) (hX:∀r e,D2 (X r e)) (hJ:∀i s y,D2 (J i s y)) (hit:Ld P ((K8 [] st.l g).V) (xs.map enc)) (h:P4 step xs s0=some o) {F:A0} (h0:Inv s0 F H)
 (hnt:∀p∈ps,p<nt) (hps:∀x,(enc x).length=ps.size) (hda:F4 cf asg=true) (hdb:F4 cf body=true)
 (asgP:∀(E':Bm) (id:Nat) y s F H,E'=E8 P nt (some id)→Inv s F H→run E' T nt cf asg ⟨Oi ps.toList (enc y) st.l,[]⟩ H fun e st' H'=>match e with| .normal=>∃i,J i s y F H'∧Dr st'.l (fJ i s y)∧st'.df=[]|_=>False)
 (bodyP:∀(E':Bm) (id:Nat) i y s F H o',E'=E8 P nt (some id)→(∃L,F id=some (.loop L))→step s y=some o'→J i s y F H→run E' T nt cf body ⟨fJ i s y,[]⟩ H fun e _ H'=>match e with
  | .normal=>∃s',o'= .inl s'∧Inv s' F H'
  |e=>∃r,o'= .inr r∧(Uu e).isSome=true∧X r e F H')
 (done:∀d s H',o= .inl s→F d=none→Inv s (upd F d (some DB)) H'→K .normal ⟨st.l,d::st.df⟩ H')
 (stop:∀d r e H',o= .inr r→F d=none→X r e (upd F d (some DB)) H'→K e ⟨st.l,d::st.df⟩ H'):E.sim (.rangeFunc g ps asg body) st H K:=by
 subst hE;have hev:ev (E0 st) g=(K8 [] st.l g).V:=(AZ (df:=st.df) EU.nil g).symm
 rw[←hev]at hit
 have sI:∀l,D2 (RgI enc step o Inv l):=fun l=>D2.ex fun q=>hI q.1;have sD:∀c,D2 (RgD o X c):=fun c=>D2.ex fun q=>hX q.1 q.2;have sJ:∀x l fr,D2 (RgJ enc step o fJ J x l fr):=fun x l fr=>D2.ex fun q=>hJ q.1 q.2.1 q.2.2.1;refine O3.rangeOuter (nt:=nt) hnt (fun x hx=>?_) hit (RgI enc step o Inv) (RgD o X) sI sD (RgJ enc step o fJ J) sJ ⟨⟨s0,xs⟩,⟨rfl,h⟩,h0⟩ (Sk cf hP hda asgP) (TF cf hP hdb bodyP) (fun d H' hd ⟨⟨s,ys⟩,⟨hl,hr⟩,hi⟩=>?_) fun c d H' hd ⟨⟨r,e⟩,⟨ho,hj⟩,hx⟩=>?_
 ·obtain⟨y,_,rfl⟩:=List.mem_map.1 hx;exact hps y
 ·have hys:ys=[]:=by
   cases ys with
   |nil=>rfl
   |cons _ _=>cases hl
  subst hys;cases hr;exact⟨⟨st.l,d::st.df⟩,⟨fun t=>Wk.refl _,rfl⟩,done d s H' rfl hd hi⟩
 have hk:=stop d r e H' ho hd hx
 cases e with
 |ret=>cases hj;exact O3.ret ⟨⟨st.l,d::st.df⟩,⟨fun t=>Wk.refl _,rfl⟩,hk⟩
 |exit k=>cases hj;exact O3.exit ⟨⟨st.l,d::st.df⟩,⟨fun t=>Wk.refl _,rfl⟩,hk⟩
 |_=>cases hj
end
end
theorem B7.dblk {Φ:A0→A0→Prop} {H0 H:A0} {L:List En} {d:Nat} (hd:H0 d=none) (h:B7 Φ (upd H0 d (some DB)) L H):B7 Φ H0 (L++[.blk d DB]) H:=by
 obtain⟨hs,F',H1,h0,h1,h2⟩:=h;refine⟨hs,F',H1,⟨fun x b hx=>h0.ext x b ?_,fun i e x b hi he=>?_,fun i j e e' x b b' hi hj he he'=>?_,fun x b hx=>?_⟩,h1,h2⟩
 rotate_right
 ·rcases h0.only x b hx with h|⟨i,e,hi,he⟩
  ·by_cases hxd:x=d
   ·subst hxd;rw[B1]at h;cases h;exact .inr ⟨L.length,.blk x DB,by simp,rfl⟩
   rw[A6 _ _ hxd]at h;exact .inl h
  refine .inr ⟨i,e,?_,he⟩
  rcases Nat.lt_or_ge i L.length with hlt|hge
  ·rw[List.getElem?_append_left hlt];exact hi
  rw[List.getElem?_eq_none hge]at hi;cases hi
 ·rw[A6 _ _ (M0 hd hx)];exact hx
 ·rcases Nat.lt_or_ge i L.length with hlt|hge
  ·rw[List.getElem?_append_left hlt]at hi
   have:=h0.has i e x b hi he;refine⟨?_,this.2⟩
   have hne:x≠d:=fun eq=>by subst eq;rw[B1]at this;cases this.1
   rw[A6 _ _ hne]at this;exact this.1
  rw[List.getElem?_append_right hge]at hi
  cases hm:i - L.length with
  |zero=>rw[hm]at hi;simp at hi;subst hi;cases he;exact⟨hd,h0.ext _ _ (B1 _ _ _)⟩
  |succ m=>rw[hm]at hi;simp at hi
 have hDB:∀(i:Nat) e,(L++[.blk d DB])[i]? =some e→(i<L.length∧L[i]? =some e)∨(i=L.length∧e= .blk d DB):=fun i e hi=>by
  rcases Nat.lt_or_ge i L.length with hlt|hge
  ·rw[List.getElem?_append_left hlt]at hi;exact .inl ⟨hlt,hi⟩
  rw[List.getElem?_append_right hge]at hi
  cases hm:i - L.length with
  |zero=>rw[hm]at hi;simp at hi;exact .inr ⟨by omega,hi.symm⟩
  |succ m=>rw[hm]at hi;simp at hi
 have nd:∀(i:Nat) e x b,L[i]? =some e→e.id=some (x,b)→x≠d:=fun m e x b hm he eq=>by
  have:=(h0.has m e x b hm he).1
  rw[eq,B1]at this;cases this
 rcases hDB i e hi with⟨_,ki⟩|⟨ki,rfl⟩<;>rcases hDB j e' hj with⟨_,kj⟩|⟨kj,rfl⟩
 ·exact h0.inj i j e e' x b b' ki kj he he'
 ·cases he';exact absurd rfl (nd i e _ b ki he)
 ·cases he;exact absurd rfl (nd j e' _ b' kj he')
 rw[ki,kj]
end Go.Ab
namespace Go.Ab
open Go.RowKit
variable [G7][Ar]
def Ic (P:Program)(yv:V)(I:List (List V)→A0→A0→Prop)(D:A0→A0→Prop):Prop:=
 (yv.one=true∧yv.cells=[yv])∧∀x l F H,I (x::l) F H→W4 P yv x H fun r H'=>(r= .bool true∧I l F H')∨(r= .bool false∧D F H')
def Ie (P:Program)(f:FuncId)(args:V→List V)(xs:List (List V))(rb:V→Bool→Prop):Prop:=
 ∀yv I D,(∀l,D2 (I l))→D2 D→Ic P yv I D→∀tl F H,I (xs++tl) F H→G2 P f (args yv) H fun v H'=>(rb v true∧I tl F H')∨(rb v false∧D F H')
def rbB (v:V)(b:Bool):Prop:=v= .bool b
def rbN (_:V)(_:Bool):Prop:=True
section
variable {P:Program}{nt:Nat}{rd:Option Nat}{T:Cr}{E:Bm}{I:List (List V)→A0→A0→Prop}{D:A0→A0→Prop}
theorem W4.heap {fv:V}{args:List V}{H H1:A0}{K:V→A0→Prop}(h:W4 P fv args H1 K)(hl:Eb H1 H):W4 P fv args H K:=
 fun g w v vals hR hv hA=>h g w v vals (hR.less hl) hv hA
theorem G2.heap {f:FuncId}{args:List V}{H H1:A0}{K:V→A0→Prop}(h:G2 P f args H1 K)(hl:Eb H1 H):G2 P f args H K:=
 fun g w vals hR hA=>h g w vals (hR.less hl) hA
theorem Ga (hE:E=E8 P nt rd)(hI:∀l,D2 (I l))(hD:D2 D){yv:V}(hy:Ic P yv I D){F H:A0}{L:List En}{args x:List V}{l:List (List V)}{k:V→A0→Prop}(hO:B7 (I (x::l)) F L H)(hl:G1 args x)
 (h1:∀H',B7 (I l) F L H'→k (.bool true) H') (h2:∀H',B7 D F L H'→k (.bool false) H'):E.call yv args H k:=by
 subst hE;obtain⟨hs,F',H1,h0,hi,hle⟩:=hO;refine(W4.mono (((hy.2 x l F' H1 hi).heap hle).args hl) fun r H' hr=>?_)
 rcases hr with⟨rfl,hr⟩|⟨rfl,hr⟩
 ·exact h1 H' ⟨hI l,F',H',h0,hr,Eb.refl _⟩
 exact h2 H' ⟨hD,F',H',h0,hr,Eb.refl _⟩
theorem MR (hE:E=E8 P nt rd) (hI:∀l,D2 (I l)) (hD:D2 D) {yv:V} (hy:Ic P yv I D) {f:FuncId} {args':V→List V} {xs tl:List (List V)} {rb:V→Bool→Prop} (hc:Ie P f args' xs rb) {F H:A0} {L:List En} {args:List V} {k:V→A0→Prop} (hO:B7 (I (xs++tl)) F L H)
 (hl:G1 args (args' yv)) (h1:∀v H',rb v true→B7 (I tl) F L H'→k v H') (h2:∀v H',rb v false→B7 D F L H'→k v H'):E.call (.func (.func f) [] []) args H k:=by
 subst hE;obtain⟨hs,F',H1,h0,hi,hle⟩:=hO
 have h3:G2 P f args H k:=(((hc yv I D hI hD hy tl F' H1 hi).heap hle).args hl).mono fun v H' hr=>by
  rcases hr with⟨hb,hr⟩|⟨hb,hr⟩
  ·exact h1 v H' hb ⟨hI tl,F',H',h0,hr,Eb.refl _⟩
  exact h2 v H' hb ⟨hD,F',H',h0,hr,Eb.refl _⟩
 exact G2.value (F:=[]) (C:=[]) (by simpa using h3)
theorem Kr (hE:E=E8 P nt rd){c:Bool}{x y:Unit→Prop}(hc:c=true)(h:x ()):E.br c x y:=by subst hE;exact⟨fun _=>h,fun e=>by rw[hc]at e;cases e⟩
theorem Ks (hE:E=E8 P nt rd){c:Bool}{x y:Unit→Prop}(hc:c=false)(h:y ()):E.br c x y:=by subst hE;exact⟨fun e=>(by rw[hc]at e;cases e),fun _=>h⟩
theorem Ah {f:FuncId} {fn:Func} {c:Code} {n:Nat} {rs:List ResultVar} {args:V→List V} {xs:List (List V)} {rb:V→Bool→Prop} (cf:Cf) (hP:Mp P T) (hf:P.funcs[f]? =some fn) (hb:fn.body=some c) (hd:F4 cf c=true)
 (hcall:∀vals w,(callFunc f vals).run P w= .ok (.enter f vals) w) (hnt:fn.ntmps=n) (hrs:fn.results.toList=rs) (hn:∀yv,Nat.ble (args yv).length n=true)
 (h:∀(yv:V) (I:List (List V)→A0→A0→Prop) (D:A0→A0→Prop),(∀l,D2 (I l))→D2 D→Ic P yv I D→∀(tl:List (List V)) (F:A0) (E:Bm) (H:A0) (K:V→A0→Prop),E=E8 P n none→B7 (I (xs++tl)) F [] H→
  (∀x L H',B7 (I tl) F L H'→rb x true→K x H')→(∀x L H',B7 D F L H'→rb x false→K x H')→run E T n cf c ⟨X6 (args yv) 0,[]⟩ H (Iz E T rs K)):Ie P f args xs rb:=by
 intro yv I D hI hD hy tl F H hi;refine(O2 (K:=fun x H'=>∃y H2,W6 x y∧Eb H2 H'∧((rb y true∧I tl F H2)∨(rb y false∧D F H2))) cf hP.1 hP.2 hf hb hd hcall hnt hrs (hn yv) fun E hE=>?_).le;refine h yv I D hI hD hy tl F E H _ hE (B7.start (hI _) hi) (fun x L H' hO hx=>?_) fun x L H' hO hx=>?_
 ·obtain⟨H2,h1,h2⟩:=hO.out;exact⟨x,H2,.refl _,h2,.inl ⟨hx,h1⟩⟩
 obtain⟨H2,h1,h2⟩:=hO.out;exact⟨x,H2,.refl _,h2,.inr ⟨hx,h1⟩⟩
theorem GB {f:FuncId}{C:List V}{xs:List (List V)}{rb:V→Bool→Prop}(hcall:∀vals w,(callFunc f vals).run P w= .ok (.enter f vals) w)(h:Ie P f (fun yv=>yv::C) xs rb):Ld P (.func (.func f) [] C) xs:=
 ⟨f,C,rfl,hcall,fun yv I D hI hD hy F H hi=>(h yv I D hI hD hy [] F H (by rwa[List.append_nil])).mono fun v H' hr=>hr.imp (fun h=>h.2) fun h=>h.2⟩
noncomputable def Lv (ds:List Nat):List En:=List.rec (motive:=fun _=>List En) [] (fun d _ l=>l++[.blk d DB]) ds
theorem OV (d:Nat)(ds:List Nat):Lv (d::ds)=Lv ds++[.blk d DB]:=rfl
theorem B7.dbs1 {Φ:A0→A0→Prop}{H0 H:A0}{A:List En}{d:Nat}{ds:List Nat}(h:B7 Φ H0 ((A++Lv ds)++[.blk d DB]) H):B7 Φ H0 (A++Lv (d::ds)) H:=by
 rw[OV,←append_assoc];exact h
theorem Wz {Φ:A0→A0→Prop} {H0:A0} {A:List En}:∀{ds:List Nat} {H:A0},B7 Φ H0 (A++Lv ds) H→ds.Nodup∧(∀id,id∈ds→H id=some DB)∧B7 Φ H0 A (clear H ds):=by
 intro ds
 induction ds with
 |nil=>
  intro H h
  have e:clear H []=H:=by funext x;simp[clear]
  rw[e];exact⟨List.nodup_nil,by simp,by simpa[Lv]using h⟩
 | cons d ds ih=>
  intro H h
  rw[OV,←append_assoc]at h
  have hi:((A++Lv ds)++[En.blk d DB])[(A++Lv ds).length]? =some (.blk d DB):=by simp
  have hd:=h.get _ hi;have h1:=h.del _ hi
  have e:((A++Lv ds)++[En.blk d DB]).eraseIdx (A++Lv ds).length=A++Lv ds:=by
   rw[List.eraseIdx_append_of_length_le (Nat.le_refl _)];simp
  rw[e]at h1
  obtain⟨a1,a2,a3⟩:=ih h1;refine⟨List.nodup_cons.2 ⟨fun hm=>?_,a1⟩,fun id hid=>?_,?_⟩
  ·have:=a2 d hm;rw[B1]at this;cases this
  ·rcases List.mem_cons.1 hid with rfl|hid
   ·exact hd
   have:=a2 id hid
   by_cases hx:id=d
   ·subst hx;exact hd
   rwa[A6 _ _ hx]at this
  have e2:clear (upd H d none) ds=clear H (d::ds):=by
   funext x
   simp only[clear,upd,List.mem_cons]
   by_cases h1:x∈ds<;>by_cases h2:x=d<;>simp[h1,h2]
  rwa[e2]at a3
theorem Ud (hE:E=E8 P nt rd){Φ:A0→A0→Prop}{H0 H:A0}{A:List En}{ds:List Nat}(hO:B7 Φ H0 (A++Lv ds) H){k:A0→Prop}(hk:∀H',B7 Φ H0 A H'→k H'):E.fin ds H k:=by
 subst hE;obtain⟨a1,a2,a3⟩:=Wz hO;exact⟨⟨a1,a2⟩,hk _ a3⟩
theorem Uc (cf:Cf) (hE:E=E8 P nt rd) (hP:Mp P T) {β σ γ R:Type} {step:σ→Option (List β×(σ ⊕ R))} {c:Code} {st:St} {H:A0} {K:Exit→St→A0→Prop} (fm:σ→γ→Fl) (Inv:σ→γ→List Nat→List β→A0→Prop) (X:R→Exit→Fl→List Nat→List β→A0→Prop) (Xa:Exit→Fl→List Nat→A0→Prop) (hd:F4 cf c=true)
 (round:∀s g ds w1 w2 H o,Inv s g ds (w1++w2) H→step s=some (w1,o)→run E T nt cf c ⟨fm s g,ds⟩ H fun e st' H'=>match e with
  | .normal=>∃s' g' ds',o= .inl s'∧Dr st'.l (fm s' g')∧st'.df=ds'∧Inv s' g' ds' w2 H'
  |e=>(∃x l ds',o= .inr x∧X x e l ds' w2 H'∧Dr st'.l l∧st'.df=ds')∨∃l ds',Xa e l ds' H'∧Dr st'.l l∧st'.df=ds')
 {N:Nat} {s0:σ} (g0:γ) {w w':List β} {r:R} (h:EL step N s0=some (w,r)) (hdf:st.df=[]) (hf:Dr st.l (fm s0 g0)) (hI:Inv s0 g0 [] (w++w') H) (after:∀e l ds H',X r e l ds w' H'→K e ⟨l,ds⟩ H') (afterA:∀e l ds H',Xa e l ds H'→K e ⟨l,ds⟩ H'):E.sim (.loop c) st H K:=by
 subst hE;refine O3.loopN (fun n fr' H'=>∃s g ds w,EL step n s=some (w,r)∧BH fr' ⟨fm s g,ds⟩∧Inv s g ds (w++w') H') N ⟨s0,g0,[],w,h,⟨fun t=>hf.wk t,hdf⟩,hI⟩ fun n fr' H' ⟨s,g,ds,w,hs,hle,hi⟩=>?_
 cases n with
 |zero=>cases hs
 | succ n=>
  simp only[EL]at hs
  cases ho:step s with
  |none=>rw[ho]at hs;cases hs
  | some p=>
   obtain⟨w1,o⟩:=p
   rw[ho]at hs
   obtain⟨w2,hw,hrest⟩:∃w2,w=w1++w2∧match o with| .inl s'=>EL step n s'=some (w2,r)| .inr x=>x=r∧w2=[]:=by
    cases o with
    |inl s'=>
     simp only at hs
     split at hs
     ·cases hs
     rename_i w2 x hx;cases hs;exact⟨w2,rfl,hx⟩
    |inr x=>cases hs;exact⟨[],by simp,rfl,rfl⟩
   subst hw
   rw[append_assoc]at hi
   refine O3.frLe hle ((H6 hP.1 hP.2 c _ _ _ hd (round s g ds w1 (w2++w') H' o hi ho)).mono fun e fr2 H2 ⟨st',hle',hq⟩=>?_)
   have exits:∀e,((∃x l ds',o= .inr x∧X x e l ds' (w2++w') H2∧Dr st'.l l∧st'.df=ds')∨∃l ds',Xa e l ds' H2∧Dr st'.l l∧st'.df=ds')→∃st'',BH fr2 st''∧K e st'' H2:=by
    intro e hq
    rcases hq with⟨x,l,ds',h1,h4,h2,h3⟩|⟨l,ds',h4,h2,h3⟩
    ·subst h1;obtain⟨rfl,rfl⟩:=hrest;exact⟨⟨l,ds'⟩,⟨fun t=>(hle'.s t).trans (h2.wk t),hle'.df.trans h3⟩,after _ _ _ _ h4⟩
    exact⟨⟨l,ds'⟩,⟨fun t=>(hle'.s t).trans (h2.wk t),hle'.df.trans h3⟩,afterA _ _ _ _ h4⟩
   cases e with
   |normal=>
    obtain⟨s',g',ds',h1,h2,h3,h4⟩:=hq;subst h1;exact⟨n,Nat.lt_succ_self n,s',g',ds',w2,hrest,⟨fun t=>(hle'.s t).trans (h2.wk t),hle'.df.trans h3⟩,h4⟩
   |_=>exact exits _ hq
theorem Rg (cf:Cf) (hE:E=E8 P nt rd) (hP:Mp P T) {β σ γ R:Type} {step:σ→Option (List β×(σ ⊕ R))} {c:Code} {st:St} {H:A0} {K:Exit→St→A0→Prop} (fm:σ→γ→Fl) (Inv:σ→γ→List β→A0→Prop) (X:R→Exit→Fl→List β→A0→Prop) (Xa:Exit→Fl→A0→Prop) (hd:F4 cf c=true)
 (round:∀s g w1 w2 H o,Inv s g (w1++w2) H→step s=some (w1,o)→run E T nt cf c ⟨fm s g,st.df⟩ H fun e st' H'=>match e with
  | .normal=>∃s' g',o= .inl s'∧Dr st'.l (fm s' g')∧st'.df=st.df∧Inv s' g' w2 H'
  |e=>(∃x l,o= .inr x∧X x e l w2 H'∧Dr st'.l l∧st'.df=st.df)∨∃l,Xa e l H'∧Dr st'.l l∧st'.df=st.df)
 {N:Nat} {s0:σ} (g0:γ) {w w':List β} {r:R} (h:EL step N s0=some (w,r)) (hf:Dr st.l (fm s0 g0)) (hI:Inv s0 g0 (w++w') H) (after:∀e l H',X r e l w' H'→K e ⟨l,st.df⟩ H') (afterA:∀e l H',Xa e l H'→K e ⟨l,st.df⟩ H'):E.sim (.loop c) st H K:=by
 subst hE;refine O3.loopN (fun n fr' H'=>∃s g w,EL step n s=some (w,r)∧BH fr' ⟨fm s g,st.df⟩∧Inv s g (w++w') H') N ⟨s0,g0,w,h,⟨fun t=>hf.wk t,rfl⟩,hI⟩ fun n fr' H' ⟨s,g,w,hs,hle,hi⟩=>?_
 cases n with
 |zero=>cases hs
 | succ n=>
  simp only[EL]at hs
  cases ho:step s with
  |none=>rw[ho]at hs;cases hs
  | some p=>
   obtain⟨w1,o⟩:=p
   rw[ho]at hs
   obtain⟨w2,hw,hrest⟩:∃w2,w=w1++w2∧match o with| .inl s'=>EL step n s'=some (w2,r)| .inr x=>x=r∧w2=[]:=by
    cases o with
    |inl s'=>
     simp only at hs
     split at hs
     ·cases hs
     rename_i w2 x hx;cases hs;exact⟨w2,rfl,hx⟩
    |inr x=>cases hs;exact⟨[],by simp,rfl,rfl⟩
   subst hw
   rw[append_assoc]at hi
   refine O3.frLe hle ((H6 hP.1 hP.2 c _ _ _ hd (round s g w1 (w2++w') H' o hi ho)).mono fun e fr2 H2 ⟨st',hle',hq⟩=>?_)
   have exits:∀e,((∃x l,o= .inr x∧X x e l (w2++w') H2∧Dr st'.l l∧st'.df=st.df)∨∃l,Xa e l H2∧Dr st'.l l∧st'.df=st.df)→∃st'',BH fr2 st''∧K e st'' H2:=by
    intro e hq
    rcases hq with⟨x,l,h1,h4,h2,h3⟩|⟨l,h4,h2,h3⟩
    ·subst h1;obtain⟨rfl,rfl⟩:=hrest;exact⟨⟨l,st.df⟩,⟨fun t=>(hle'.s t).trans (h2.wk t),hle'.df.trans h3⟩,after _ _ _ h4⟩
    exact⟨⟨l,st.df⟩,⟨fun t=>(hle'.s t).trans (h2.wk t),hle'.df.trans h3⟩,afterA _ _ _ h4⟩
   cases e with
   |normal=>
    obtain⟨s',g',h1,h2,h3,h4⟩:=hq;subst h1;exact⟨n,Nat.lt_succ_self n,s',g',w2,hrest,⟨fun t=>(hle'.s t).trans (h2.wk t),hle'.df.trans h3⟩,h4⟩
   |_=>exact exits _ hq
end
section
variable {P:Program}{nt:Nat}{T:Cr}{E:Bm}{α β σ R ι:Type}
def REI (enc:α→List V)(step:σ→α→Option (List β×(σ ⊕ R)))(o:σ ⊕ R)(w':List β)(Inv:σ→List β→A0→A0→Prop)(l:List (List V))(F H:A0):Prop:=
 ∃q:σ×List α×List β,(l=q.2.1.map enc∧AL step q.2.1 q.1=some (q.2.2,o))∧Inv q.1 (q.2.2++w') F H
def RED (o:σ ⊕ R)(w':List β)(X:R→Exit→List β→A0→A0→Prop)(Xa:Exit→A0→A0→Prop)(c:Code)(F H:A0):Prop:=
 (∃q:R×Exit,(o= .inr q.1∧Uu q.2=some c)∧X q.1 q.2 w' F H)∨∃q:Exit,Uu q=some c∧Xa q F H
def REJ (enc:α→List V)(step:σ→α→Option (List β×(σ ⊕ R)))(o:σ ⊕ R)(w':List β)(fJ:ι→σ→α→Fl)(J:ι→σ→α→List β→A0→A0→Prop)(x:List V)(l:List (List V))(fr:Fr)(F H:A0):Prop:=
 ∃q:ι×σ×α×List α×List β,(x=enc q.2.2.1∧l=q.2.2.2.1.map enc∧AL step (q.2.2.1::q.2.2.2.1) q.2.1=some (q.2.2.2.2,o)∧BH fr ⟨fJ q.1 q.2.1 q.2.2.1,[]⟩)∧J q.1 q.2.1 q.2.2.1 (q.2.2.2.2++w') F H
theorem D2.or {I J:A0→A0→Prop}(h:D2 I)(k:D2 J):D2 fun F H=>I F H∨J F H:=
 ⟨fun hh=>hh.elim (fun x=>h.le x) fun x=>k.le x,fun id b hh e=>hh.imp (fun x=>h.chg id b x e) fun x=>k.chg id b x e⟩
variable {enc:α→List V}{step:σ→α→Option (List β×(σ ⊕ R))}{g:Operand}{ps:Array Tmp}{asg body:Code}{st:St}{H:A0}{K:Exit→St→A0→Prop}
 {xs:List α} {s0:σ} {o:σ ⊕ R} {w w':List β}
theorem Ko (cf:Cf) (hE:E=E8 P nt none) (hP:Mp P T) (Inv:σ→List β→A0→A0→Prop) (X:R→Exit→List β→A0→A0→Prop) (Xa:Exit→A0→A0→Prop) (fJ:ι→σ→α→Fl) (J:ι→σ→α→List β→A0→A0→Prop)
 (hI:∀s w,D2 (Inv s w)) (hX:∀r e w,D2 (X r e w)) (hXa:∀e,D2 (Xa e)) (hJ:∀i s y w,D2 (J i s y w)) (hit:Ld P ((K8 [] st.l g).V) (xs.map enc)) (h:AL step xs s0=some (w,o)) {F:A0} (h0:Inv s0 (w++w') F H)
 (hnt:∀p∈ps,p<nt) (hps:∀x,(enc x).length=ps.size) (hda:F4 cf asg=true) (hdb:F4 cf body=true)
 (asgP:∀(E':Bm) (id:Nat) y s w F H,E'=E8 P nt (some id)→Inv s w F H→run E' T nt cf asg ⟨Oi ps.toList (enc y) st.l,[]⟩ H fun e st' H'=>match e with| .normal=>∃i,J i s y w F H'∧Dr st'.l (fJ i s y)∧st'.df=[]|_=>False)
 (bodyP:∀(E':Bm) (id:Nat) i y s w1 w2 F H o',E'=E8 P nt (some id)→(∃L,F id=some (.loop L))→step s y=some (w1,o')→J i s y (w1++w2) F H→run E' T nt cf body ⟨fJ i s y,[]⟩ H fun e _ H'=>match e with
  | .normal=>∃s',o'= .inl s'∧Inv s' w2 F H'
  |e=>(∃r,o'= .inr r∧(Uu e).isSome=true∧X r e w2 F H')∨((Uu e).isSome=true∧Xa e F H'))
 (done:∀d s H',o= .inl s→F d=none→Inv s w' (upd F d (some DB)) H'→K .normal ⟨st.l,d::st.df⟩ H')
 (stop:∀d r e H',o= .inr r→F d=none→X r e w' (upd F d (some DB)) H'→K e ⟨st.l,d::st.df⟩ H')
 (stopA:∀d e H',F d=none→Xa e (upd F d (some DB)) H'→K e ⟨st.l,d::st.df⟩ H'):E.sim (.rangeFunc g ps asg body) st H K:=by
 subst hE;have hev:ev (E0 st) g=(K8 [] st.l g).V:=(AZ (df:=st.df) EU.nil g).symm
 rw[←hev]at hit
 have sI:∀l,D2 (REI enc step o w' Inv l):=fun l=>D2.ex fun q=>hI q.1 _;have sD:∀c,D2 (RED o w' X Xa c):=fun c=>D2.or (D2.ex fun q=>hX q.1 q.2 w') (D2.ex fun q=>hXa q);have sJ:∀x l fr,D2 (REJ enc step o w' fJ J x l fr):=fun x l fr=>D2.ex fun q=>hJ q.1 q.2.1 q.2.2.1 _;refine O3.rangeOuter (nt:=nt) hnt (fun x hx=>?_) hit (REI enc step o w' Inv) (RED o w' X Xa) sI sD (REJ enc step o w' fJ J) sJ ⟨⟨s0,xs,w⟩,⟨rfl,h⟩,h0⟩ ?_ ?_ (fun d H' hd ⟨⟨s,ys,w2⟩,⟨hl,hr⟩,hi⟩=>?_) fun c d H' hd hx=>?_
 ·obtain⟨y,_,rfl⟩:=List.mem_map.1 hx;exact hps y
 ·intro id L x l F H ⟨⟨s,ys,w2⟩,⟨hl,hr⟩,hi⟩ _ _
  cases ys with
  |nil=>cases hl
  | cons y ys=>
   simp only[List.map_cons,List.cons.injEq]at hl
   obtain⟨rfl,rfl⟩:=hl
   have e:(⟨CG (E0 st).s ps.toList (enc y),[]⟩:Fr)=E0 ⟨Oi ps.toList (enc y) st.l,[]⟩:=by
    simp only[E0,Fr.mk.injEq,and_true]
    funext t
    exact MM _ _ _ _
   rw[e];refine(H6 hP.1 hP.2 asg _ _ _ hda (asgP _ id y s _ F H rfl hi)).mono fun e fr' H1 ⟨st',hle,hq⟩=>?_
   cases e with
   |normal=>
    obtain⟨i,hj,hl,hdf⟩:=hq;exact⟨rfl,⟨i,s,y,ys,w2⟩,⟨rfl,rfl,hr,fun t=>(hle.s t).trans (hl.wk t),hle.df.trans hdf⟩,hj⟩
   |_=>exact hq.elim
 ·intro id L x l fr' F H ⟨⟨i,s,y,ys,w2⟩,⟨hx,hl,hr,hf⟩,hj⟩ hL;subst hx;subst hl
  simp only[AL]at hr
  cases ho:step s y with
  |none=>rw[ho]at hr;cases hr
  | some p=>
   obtain⟨w1,o'⟩:=p
   rw[ho]at hr
   obtain⟨w3,hw,hrest⟩:∃w3,w2=w1++w3∧match o' with| .inl s'=>AL step ys s'=some (w3,o)| .inr x=>o= .inr x∧w3=[]:=by
    cases o' with
    |inl s'=>
     simp only at hr
     split at hr
     ·cases hr
     rename_i w3 x hx;cases hr;exact⟨w3,rfl,hx⟩
    |inr x=>cases hr;exact⟨[],by simp,rfl,rfl⟩
   subst hw
   dsimp only at hj
   rw[append_assoc]at hj
   refine O3.frLe hf ((H6 hP.1 hP.2 body _ _ _ hdb (bodyP _ id i y s w1 (w3++w') F H o' rfl ⟨L,hL⟩ ho hj)).mono fun e fr2 H2 ⟨st',hle,hq⟩=>?_)
   have out:∀e c,Uu e=some c→((∃r,o'= .inr r∧(Uu e).isSome=true∧X r e (w3++w') F H2)∨((Uu e).isSome=true∧Xa e F H2))→RED o w' X Xa c F H2:=by
    intro e c hc hq
    rcases hq with⟨r,h1,_,h3⟩|⟨_,h3⟩
    ·subst h1;obtain⟨rfl,rfl⟩:=hrest;exact .inl ⟨⟨r,e⟩,⟨rfl,hc⟩,h3⟩
    exact .inr ⟨e,hc,h3⟩
   cases e with
   |normal=>
    obtain⟨s',h1,h2⟩:=hq;subst h1;exact⟨⟨s',ys,w3⟩,⟨rfl,hrest⟩,h2⟩
   |ret=>exact out .ret _ rfl hq
   |exit k=>exact out (.exit k) _ rfl hq
   |_=>rcases hq with⟨_,_,h,_⟩|⟨h,_⟩<;>cases h
 ·have hys:ys=[]:=by
   cases ys with
   |nil=>rfl
   |cons _ _=>cases hl
  subst hys;cases hr;exact⟨⟨st.l,d::st.df⟩,⟨fun t=>Wk.refl _,rfl⟩,done d s H' rfl hd hi⟩
 have fin:∀e,Uu e=some c→K e ⟨st.l,d::st.df⟩ H'→O3 P nt none c {E0 st with df:=d::(E0 st).df} H' fun e fr' H'=>∃st',BH fr' st'∧K e st' H':=by
  intro e hj hk
  cases e with
  |ret=>cases hj;exact O3.ret ⟨⟨st.l,d::st.df⟩,⟨fun t=>Wk.refl _,rfl⟩,hk⟩
  |exit k=>cases hj;exact O3.exit ⟨⟨st.l,d::st.df⟩,⟨fun t=>Wk.refl _,rfl⟩,hk⟩
  |_=>cases hj
 rcases hx with⟨⟨r,e⟩,⟨ho,hj⟩,hx⟩|⟨e,hj,hx⟩
 ·exact fin e hj (stop d r e H' ho hd hx)
 exact fin e hj (stopA d e H' hd hx)
end
end Go.Ab
namespace Go.Ab
def JD {α:Type}(l:List α)(i:Int):Bool:=decide (0≤i∧i<(l.length:Nat))
def Hy {α:Type}(l:List α)(i:Int)(u:α→α):Option (List α):=(D4 l i).map fun x=>l.set i.toNat (u x)
def Ui {α:Type}(n m:Int)(z:α):Option (List α):=if 0≤n∧n≤m∧m≤1073741824 then some (List.replicate n.toNat z)else none
def UD {α:Type}(_:List α)(n:Int):Option (List α):=if 0≤n∧n≤1073741824 then some []else none
end Go.Ab
