/- AbP7 AbP8 AbA24 AbB1 AbS1 AbB2 AbB3 AbB4 AbS2 -/
import Derived.Test.YtanbgjgaafeplaaGreatDoorB06
set_option linter.all false
open Bool (and_eq_true)
open Go.Ab.Ar (lst lst_eq)
namespace Go.Ab
open Go.RowKit
variable [G7]
section
variable {P:Program}
theorem VY {A:Ng} {o:Oper} {ρ ρ':Operand→V} {H:A2} {K:V→A2→Prop} (hρ:∀x∈o.op.operands,ρ x=ρ' x) (h:Es P A o ρ H K):Es P A o ρ' H K:=by
 have hq:∀{v},Ir P o ρ H v→Ir P o ρ' H v:=Hv hρ
 unfold Es at h ⊢
 cases ho:o.op<;>simp only[ho]at h ⊢ hρ<;>first
  |exact h
  |(obtain⟨v,h1,h2⟩:=h;exact⟨v,hq h1,h2⟩)
  | (simp only[Op.operands,List.mem_toArray,List.mem_cons,List.not_mem_nil,or_false,forall_eq_or_imp,forall_eq]at hρ
     first
      |(rw[←hρ];exact h)
      |(rw[←hρ.1,←hρ.2];exact h)
      |(rw[←hρ.1,←hρ.2.1,←hρ.2.2];exact h))
  |skip
 ·rename_i t n ps
  have e:ps.toList.map (fun p=>(p.1,ρ p.2))=ps.toList.map (fun p=>(p.1,ρ' p.2)):=R5 fun p hp=>by rw[hρ p.2 (by simp only[Op.operands,List.mem_toArray,List.mem_map];exact⟨p,hp,rfl⟩)]
  rw[←e];exact h.imp (fun⟨v,h1,h2⟩=>⟨v,hq h1,h2⟩) id
 ·rename_i op t x y _;rw[←hρ x (by simp[Op.operands]),←hρ y (by simp[Op.operands])];exact h.imp (fun⟨v,h1,h2⟩=>⟨v,hq h1,h2⟩) id
 rename_i c;have hargs:c.args.toList.map ρ=c.args.toList.map ρ':=R5 fun p hp=>hρ p (by simp only[Op.operands,Call.operands,Array.mem_append];exact .inr (by simpa using hp));rw[←hargs]
 cases hc:c.callee with
 |value f=>
  simp only[hc]at h ⊢
  rw[←hρ f (by simp[Op.operands,Call.operands,hc])];exact h
 |builtin b=>rw[hc]at h;cases b<;>exact h
 |_=>rw[hc]at h;exact h.elim
def JK :Op→Bool
 | .move _=>true
 | .assign _=>true
 | .pick _ _ _=>true
 | .build _ _=>true
 | .binOp _ _ _ _ _=>true
 | .unOp _ _ _=>true
 | .fieldAddr _ _ _=>true
 | .field _ _ _=>true
 | .extract _ _=>true
 | .load _ _=>true
 | .call c=>match c.callee with| .builtin .len=>true|_=>false
 |_=>false
theorem XS {A:Ng} {o:Oper} {ρ:Operand→V} {H:A2} {K:V→A2→Prop} {v:V} (hs:JK o.op=true) (h:Ir P o ρ H v) (hk:K v H):Es P A o ρ H K:=by
 unfold Es
 cases ho:o.op<;>simp only[ho,JK,Bool.false_eq_true]at hs ⊢ <;>first
  |exact⟨v,h,hk⟩
  |exact .inl ⟨v,h,hk⟩
  |(unfold Ir at h;simp only[ho]at h;subst h;exact .inl hk)
  |skip
 rename_i c
 unfold Ir at h
 simp only[ho]at h
 cases hc:c.callee with
 | builtin b=>
  rw[hc]at hs h
  cases b<;>first
   |exact⟨v,h,hk⟩
   |cases hs
 |_=>rw[hc]at hs;cases hs
variable {A:Ng}{nt:Nat}{ops:Array Oper}
def ME (ops:Array Oper)(i:Nat):Bool:=
 JK (ops.getD i default).op&&(ops.getD i default).guard.isNone&&(List.range ops.size).all fun j=>j==i||Bn (ops.getD j default) i||Bn (ops.getD i default) j||(ops.getD i default).apart ops (ops.getD j default)
theorem WI {i:Nat} (hi:i<ops.size) (hf:ME ops i=true) (hdst:DC nt (ops.getD i default).dst=true) {K:Fr→A2→Prop} {v:V}:∀(n:Nat) (listed:Array Bool) (fr:Fr) (H:A2),i∈Region.ready .any ops listed→(∀H',Ir P (ops.getD i default) (ev fr) H' v)→
 RT P A nt ops n (listed.setIfInBounds i true) (fr.put (ops.getD i default).dst v) H K→RT P A nt ops (n+1) listed fr H K:=by
 simp only[ME,and_eq_true,List.all_eq_true,List.mem_range,Bool.or_eq_true,beq_iff_eq]at hf
 obtain⟨⟨hso,hg⟩,hfree⟩:=hf
 have hg:(ops.getD i default).guard=none:=by simpa using hg
 have first:∀(fr:Fr) (H:A2) (K':Fr→A2→Prop),(∀H',Ir P (ops.getD i default) (ev fr) H' v)→K' (fr.put (ops.getD i default).dst v) H→Af2 P A nt ops (ops.getD i default) fr H K':=fun fr H K' hq hk=>by
  refine⟨hdst,?_⟩
  have:Y8 ops fr (ops.getD i default)=some true:=by unfold Y8;rw[hg]
  rw[this];exact XS hso (hq H) hk
 intro n
 induction n with
 |zero=>
  intro listed fr H hr hq h;refine⟨fun e=>(by rw[e]at hr;cases hr),fun j hj=>?_⟩
  by_cases hji:j=i
  ·subst hji;exact first fr H _ hq h
  have:=Go.ready_mono hj hji
  rw[h.1]at this;cases this
 | succ n ih=>
  intro listed fr H hr hq h;refine⟨fun e=>(by rw[e]at hr;cases hr),fun j hj=>?_⟩
  by_cases hji:j=i
  ·subst hji;exact first fr H _ hq h
  have h1:=h.2 j (Go.ready_mono hj hji);obtain⟨hjs,hjl,hje⟩:=mem_ready hj;obtain⟨_,hil,_⟩:=mem_ready hr
  have hap:(ops.getD i default).apart ops (ops.getD j default)=true:=by
   rcases hfree j hjs with((e|e)|e)|e
   ·exact absurd e hji
   ·exfalso;have:=hje i e
    rcases Nat.lt_or_ge i listed.size with h'|h'
    ·simp[Array.getD,h']at hil this;rw[hil]at this;cases this
    simp[Array.getD,show¬i<listed.size by omega]at this
   ·exfalso;have:=(mem_ready hr).2.2 j e
    rcases Nat.lt_or_ge j listed.size with h'|h'
    ·simp[Array.getD,h']at hjl this;rw[hjl]at this;cases this
    simp[Array.getD,show¬j<listed.size by omega]at this
   exact e
  obtain⟨p1,p2,p3⟩:=Oper.apart_spec hap
  have hn:∀(u:V) (H':A2),RT P A nt ops n ((listed.setIfInBounds i true).setIfInBounds j true) ((fr.put (ops.getD i default).dst v).put (ops.getD j default).dst u) H' K→RT P A nt ops (n+1) (listed.setIfInBounds j true) (fr.put (ops.getD j default).dst u) H' K:=fun u H' hk=>by
   refine ih _ _ _ (Go.ready_mono hr fun e=>hji e.symm) (fun H2=>Hv (fun x hx=>(GR p3 x hx).symm) (hq H2)) ?_;rw[Array.setIfInBounds_comm _ _ hji,←put_comm p2];exact hk
  obtain⟨hd,hs⟩:=h1;refine⟨hd,?_⟩
  rw[Ku p1]at hs
  split at hs
  ·exact GN (VY (GR p1) hs) fun u H' hk=>hn u H' hk
  ·exact hn _ _ hs
  exact hs.elim
end
end Go.Ab
namespace Go.Ab
open Go.RowKit
variable [G7][Ar]
def Tt :List Nat→Nat→Bool
 |[],_=>false
 |a::l,n=>match n==a with|true=>true|false=>Tt l n
theorem Ro :∀{l:List Nat} {n:Nat},Tt l n=true→n∈l
 |[],_,h=>by cases h
 |a::l,n,h=>by
  unfold Tt at h
  cases e:n==a with
  |true=>rw[beq_iff_eq.1 e];simp
  |false=>rw[e]at h;exact List.mem_cons_of_mem _ (Ro h)
section
variable (E:CV)(T:Et)(nt:Nat)(A:Nat→Bool)(ops:Array Oper)(fl:List Nat)
def KT (o:Oper)(l:Fl):Bool:=
 match o.op with
 | .load _ x=>(match N1 [] l x with| .v (.eref _ _)=>true|_=>false)
 |_=>true
def Fx (l:Fl):List Nat→Option Nat
 |[]=>none
 |i::r=>match Tt fl i with
  |true=>(match KT (ops.getD i default) l with|true=>some i|false=>Fx l r)
  |false=>Fx l r
def NF :Nat→Array Bool→Fl→A2→(Fl→A2→Prop)→Prop
 |0,listed,l,H,K=>match Region.ready .any ops listed with|[]=>K l H|_::_=>False
 | n +1,listed,l,H,K=>
  match Region.ready .any ops listed with
  |[]=>K l H
  | i::r=>
   match Fx ops fl l (i::r)with
   | some j=>
    (match DC nt (ops.getD j default).dst with
     |true=>xq E T [] (ops.getD j default) l H fun s=>NF n (listed.setIfInBounds j true) (Bv (ops.getD j default).dst (Sl.n s) l) H K
     |false=>False)
   |none=>Al8 (i::r) fun i=>Ae6 E T nt A ops (ops.getD i default) l H fun l' H'=>NF n (listed.setIfInBounds i true) l' H' K
end
theorem Eh {ops:Array Oper} {fl:List Nat} {l:Fl} {j:Nat}:∀{r:List Nat},Fx ops fl l r=some j→j∈r∧Tt fl j=true∧KT (ops.getD j default) l=true
 |[],h=>by cases h
 | i::r,h=>by
  unfold Fx at h
  cases h1:Tt fl i with
  |true=>
   rw[h1]at h
   cases h2:KT (ops.getD i default) l with
   |true=>rw[h2]at h;cases h;exact⟨by simp,h1,h2⟩
   |false=>rw[h2]at h;have:=Eh h;exact⟨List.mem_cons_of_mem _ this.1,this.2⟩
  |false=>rw[h1]at h;have:=Eh h;exact⟨List.mem_cons_of_mem _ this.1,this.2⟩
section
variable {P:Program}{nt:Nat}{rd:Option Nat}{T:Et}{A:Nat→Bool}{df:List Nat}
theorem VW {o:Oper} {ρ:Operand→V} {H:A2} {v:V} (hs:JK o.op=true) (hl:∀t x,o.op= .load t x→∃cs off,ρ x= .eref cs off) (h:Ir P o ρ H v) (H':A2):Ir P o ρ H' v:=by
 unfold Ir at h ⊢
 cases ho:o.op<;>simp only[ho,JK,Bool.false_eq_true]at hs h ⊢ <;>first
  |exact h
  |skip
 ·rename_i t x;obtain⟨cs,off,e⟩:=hl t x ho
  rw[e]at h ⊢
  rcases h with h|h
  ·left
   unfold EH at h ⊢
   split at h
   ·rename_i h1 h2 h3;cases h3;exact h
   ·rename_i h3;cases h3
   cases h
  exfalso
  unfold HU at h
  split at h
  ·rename_i h3;cases h3
  cases h
 rename_i c
 cases hcc:c.callee with
 | builtin b=>
  rw[hcc]at hs h
  cases b with
  | len=>
   have h:Cs P .len c.argTypes.toList (c.args.toList.map ρ) v∨Ix P H .len c.argTypes.toList (c.args.toList.map ρ) v:=h
   have k:∀(ts:List TypeId) (vs:List V),Ix P H .len ts vs v→Ix P H' .len ts vs v:=fun ts vs h=>by
    rcases ts with _|⟨t,_|⟨t2,ts⟩⟩<;>rcases vs with _|⟨x,_|⟨x2,vs⟩⟩<;>first
     |exact h
     |exact h.elim
   exact h.imp id (k _ _)
  |_=>cases hs
 |_=>rw[hcc]at hs;cases hs
theorem CX (hT:Gt P T) {ops:Array Oper} {fl:List Nat} (hfl:∀i,Tt fl i=true→ME ops i=true) {K:Fl→A2→Prop}:∀(n:Nat) (listed:Array Bool) (l:Fl) (H:A2),NF (E9 P nt rd) T nt A ops fl n listed l H K→RT P A nt ops n listed (D8 ⟨l,df⟩) H fun fr H'=>∃l',fr=D8 ⟨l',df⟩∧K l' H'
 |0,listed,l,H,h=>by
  unfold NF at h
  split at h
  ·rename_i e;exact⟨e,l,rfl,h⟩
  exact h.elim
 | n +1,listed,l,H,h=>by
  unfold NF at h
  split at h
  ·rename_i e;exact⟨fun _=>⟨l,rfl,h⟩,fun i hi=>by rw[e]at hi;cases hi⟩
  rename_i i0 r0 e
  split at h
  ·rename_i j hj;obtain⟨j1,j2,j3⟩:=Eh hj
   rw[←e]at j1
   obtain⟨js,_,_⟩:=mem_ready j1;have hf:=hfl j j2
   split at h
   ·rename_i hd;obtain⟨s,hq,hk⟩:=IL (df:=df) hT Gv.nil h
    have hso:JK (ops.getD j default).op=true:=by
     have:=hf
     simp only[ME,and_eq_true]at this
     exact this.1.1
    have hst:∀t x,(ops.getD j default).op= .load t x→∃cs off,ev (D8 ⟨l,df⟩) x= .eref cs off:=fun t x ho=>by
     unfold KT at j3
     rw[ho]at j3
     dsimp only at j3
     split at j3
     ·rename_i cs off he;exact⟨cs,off,by rw[←Cn (df:=df) Gv.nil x,he];rfl⟩
     cases j3
    have hall:=CX hT hfl n _ _ _ hk
    rw[I6]at hall
    have hv:WP l (Sl.n s)=s.V:=by cases s<;>rfl
    rw[hv]at hall
    exact WI js hf hd n listed _ H j1 (fun H'=>VW hso hst hq H') hall
   exact h.elim
  refine⟨(fun e'=>by rw[e]at e';cases e'),fun i hi=>?_⟩
  rw[e]at hi
  have h:=RQ h i hi
  unfold Ae6 at h
  split at h
  ·rename_i hd;refine⟨hd,?_⟩;obtain⟨l',e,h⟩:=Ca (df:=df) 4 l h
   have e:D8 ⟨l',df⟩=D8 ⟨l,df⟩:=by simp only[D8,Fr.mk.injEq,and_true];funext t;exact e t
   rcases h with⟨hg,G,wr,hG,hwr,h⟩|⟨hg,h⟩
   ·rw[hg];rw[←e];refine GN (JE (df:=df) hT hG h) fun v H' ⟨s,hv,hk⟩=>?_;subst hv;rw[←hwr s,←I6];exact CX hT hfl n _ _ _ hk
   rw[hg];rw[←e]
   rcases h with h|⟨G,d,want,ht,hb,h⟩
   ·have:=CX hT hfl n _ _ _ h
    rw[I6]at this
    exact this
   obtain⟨s,h⟩:=OJ hT ht h;have:=CX hT hfl n _ _ _ h
   rw[I6]at this
   simp only[WP,hb,cond_false]at this
   exact this
  exact h.elim
end
end Go.Ab
namespace Go.Ab
open Go.RowKit
variable [G7][Ar]
def Iv :List Nat→Nat→Bool
 |[],_=>false
 |x::l,n=>match n==x with|true=>true|false=>Iv l n
def Wr :List (Nat×Nat)→Nat→Nat
 |[],_=>0
 |(x,y)::l,n=>match Nat.beq n x with|true=>y|false=>Wr l n
structure Cf where
 A:List Nat
 hk:List (Nat×Nat)
 J:List (Nat×Nat)
 JB:List Nat
 Z:List (Nat×Nat)
 W:List (Nat×Nat×List Nat)
def wAt :List (Nat×Nat×List Nat)→Nat→Option (Nat×List Nat)
 |[],_=>none
 |(q,d)::l,n=>match Nat.beq n q with|true=>some d|false=>wAt l n
def zAt :List (Nat×Nat)→Nat→List Nat
 |[],_=>[]
 |(q,d)::l,n=>match n==q with|true=>d::zAt l n|false=>zAt l n
def Ah5 :List (Nat×Nat)→Nat→List Nat
 |[],_=>[]
 |(q,d)::l,n=>match n==q with|true=>d::Ah5 l n|false=>Ah5 l n
def memP :List (Nat×Nat)→Nat→Nat→Bool
 |[],_,_=>false
 |(x,y)::l,a,b=>match Nat.beq a x&&Nat.beq b y with|true=>true|false=>memP l a b
def Nt :Code→Nat
 | .region id _ _=>id+1
 | .seq a b=>(match Nt a with|0=>Nt b|n+1=>n+1)
 | .cond _ a b=>(match Nt a with|0=>Nt b|n+1=>n+1)
 | .block _ c=>Nt c
 | .loop c=>Nt c
 | .rangeFunc _ _ a b=>(match Nt a with|0=>Nt b|n+1=>n+1)
 |_=>0
def G4 (cf:Cf):Code→Bool
 | .seq a b=>G4 cf a&&G4 cf b
 | .cond _ a b=>G4 cf a&&G4 cf b
 | .block _ c=>G4 cf c
 | .loop c=>G4 cf c
 | .rangeFunc _ _ a b=>G4 cf a&&G4 cf b
 | .region id ops true=>match Iv cf.JB (id+2000000)with|true=>Mc (Dt cf.hk (id+1000000)) ops&&(Dt cf.hk (id+3000000)).all (ME (hoistAll (Dt cf.hk (id+1000000)) ops))|false=>match Iv cf.JB (id+1000000)with|true=>Jq ops (Wr cf.hk id)|false=>Mc (Dt cf.hk (id+1000000)) ops&&MQ (hoistAll (Dt cf.hk (id+1000000)) ops) (Wr cf.hk id)&&decide (Dq ((hoistAll (Dt cf.hk (id+1000000)) ops).toList.take (Wr cf.hk id))).Nodup
 |_=>true
section
variable (E:CV)(T:Et)(nt:Nat)(cf:Cf)
def UT (c:Operand) (st:St) (ra rb:St→Prop):Prop:=
 match N1 [] st.l c with
 | .b true=>ra st
 | .b false=>rb st
 | .v (.bool t)=>
  (match c with
   | .tmp d=>E.br t (fun _=>ra ⟨Il st.l d true,st.df⟩) (fun _=>rb ⟨Il st.l d false,st.df⟩)
   |_=>E.br t (fun _=>ra st) (fun _=>rb st))
 |_=>False
def PH (id:Nat)(K:Exit→St→A2→Prop)(e:Exit)(st':St)(H':A2):Prop:=
 match e with
 | .exit id'=>(match Nat.beq id' id with|true=>K .normal st' H'|false=>K (.exit id') st' H')
 |e=>K e st' H'
def Ap6 (c:Operand)(a b:Code):Bool:=
 match c with
 | .tmp d=>memP cf.J d (match Nt a with|0=>Nt b|n+1=>n+1)
 |_=>false
def run :Code→St→A2→(Exit→St→A2→Prop)→Prop
 | .skip,st,H,K=>K .normal st H
 | .ret,st,H,K=>K .ret st H
 | .exit id,st,H,K=>K (.exit id) st H
 | .seq a b,st,H,K=>run a st H fun e st' H'=>match e with| .normal=>run b st' H' K|e=>K e st' H'
 | .cond c a b,st,H,K=>
  (match Ap6 cf c a b with
   |true=>E.sim (.cond c a b) st H K
   |false=>UT E c st (fun st=>run a st H K) (fun st=>run b st H K))
 | .block id c,st,H,K=>
  (match Iv cf.JB id with
   |true=>E.sim (.block id c) st H K
   |false=>run c st H (PH id K))
 | .region _ ops false,st,H,K=>IM E T nt (Iv cf.A) (zAt cf.Z) ops ops.toList st.l H fun l' H'=>K .normal ⟨l',st.df⟩ H'
 | .region id ops true,st,H,K=>
  (match Iv cf.JB (id+2000000)with
   |true=>E.sim (.region id ops true) st H K
   | false=>
    (match Iv cf.JB (id+1000000)with
     |true=>Ah8 E T nt (Iv cf.A) (Wr cf.hk id) ops st.l H fun l' H'=>K .normal ⟨l',st.df⟩ H'
     |false=>IN E none (Ah5 cf.Z (id+400000000)) st.l H fun l H=>Xb E T nt (Iv cf.A) (wAt cf.W id) (Wr cf.hk id) (hoistAll (Dt cf.hk (id+1000000)) ops) l H fun l' H'=>K .normal ⟨l',st.df⟩ H'))
 |c,st,H,K=>E.sim c st H K
def XD :Code→St→A2→(Exit→St→A2→Prop)→Prop
 | .cond c a b,st,H,K=>UT E c st (fun st=>run E T nt cf a st H K) (fun st=>run E T nt cf b st H K)
 | .block id c,st,H,K=>run E T nt cf c st H (PH id K)
 | .region id ops true,st,H,K=>
  (match Iv cf.JB (id+2000000)with
   |true=>NF E T nt (Iv cf.A) (hoistAll (Dt cf.hk (id+1000000)) ops) (Dt cf.hk (id+3000000)) ops.size (Array.replicate ops.size false) st.l H fun l' H'=>K .normal ⟨l',st.df⟩ H'
   |false=>run E T nt cf (.region id ops true) st H K)
 |c,st,H,K=>run E T nt cf c st H K
end
section
variable {P:Program}{nt:Nat}{rd:Option Nat}{T:Et}{cf:Cf}
theorem S0.frLe {c:Code}{fr:Fr}{st:St}{H:A2}{Q:Exit→Fr→A2→Prop}(hf:Dy fr st)(h:S0 P nt rd c (D8 st) H Q):S0 P nt rd c fr H Q:=
 h.less hf.s hf.df.symm fun _ _ h=>h
theorem Dy.refl (st:St):Dy (D8 st) st:=⟨fun _=>Wk.refl _,rfl⟩
theorem S0.of_frz {c:Code} {ds:List Nat} {st:St} {H:A2} {Q:Exit→Fr→A2→Prop} {k:Fl→A2→Prop} (h:IN (E9 P nt rd) none ds st.l H k) (hk:∀l' H',k l' H'→S0 P nt rd c (D8 ⟨l',st.df⟩) H' Q):S0 P nt rd c (D8 st) H Q:=
 fun r g w a hr hR hF=>by
  obtain⟨g',l',H',s,hR',hF',h'⟩:=Z5 none ds st.l H g k (fun _ _ _ _ h=>by cases h) hR hF h;exact wpIn_mono (hk l' H' h' r g' w a (WM.mono hr s) hR' hF') fun _ _ _=>PX.later s
theorem KI {c:Operand} {a b:Code} {st:St} {H:A2} {Q:Exit→Fr→A2→Prop} {ra rb:St→Prop} (h:UT (E9 P nt rd) c st ra rb) (ha:∀st',D8 st'=D8 st→ra st'→S0 P nt rd a (D8 st') H Q) (hb:∀st',D8 st'=D8 st→rb st'→S0 P nt rd b (D8 st') H Q):S0 P nt rd (.cond c a b) (D8 st) H Q:=by
 have hev:ev (D8 st) c=(N1 [] st.l c).V:=(Cn (df:=st.df) Gv.nil c).symm
 unfold UT at h
 split at h
 ·rename_i he;exact S0.cond (t:=true) (by rw[hev,he];rfl) (fun _=>ha st rfl h) (fun e=>by cases e)
 ·rename_i he;exact S0.cond (t:=false) (by rw[hev,he];rfl) (fun e=>by cases e) (fun _=>hb st rfl h)
 ·rename_i t he
  split at h
  ·rename_i d
   have he':AM st.l d= .bool t:=by
    have:=Un (l:=st.l) Gv.nil d
    rw[show ZX [] st.l d= .v (.bool t)from he]at this
    exact this.symm
   obtain⟨h1,h2⟩:=h;refine S0.cond (t:=t) (by rw[hev,he];rfl) (fun e=>?_) (fun e=>?_)
   ·subst e;have ef:D8 ⟨Il st.l d true,st.df⟩=D8 st:=JY he';have:=ha _ ef (h1 rfl)
    rwa[ef]at this
   subst e;have ef:D8 ⟨Il st.l d false,st.df⟩=D8 st:=JY he';have:=hb _ ef (h2 rfl)
   rwa[ef]at this
  obtain⟨h1,h2⟩:=h;exact S0.cond (t:=t) (by rw[hev,he];rfl) (fun e=>ha st rfl (h1 e)) (fun e=>hb st rfl (h2 e))
 exact h.elim
theorem I8 (hT:Gt P T) (hm:P.follows .mixedOrders=true):∀(c:Code) (st:St) (H:A2) (K:Exit→St→A2→Prop),G4 cf c=true→run (E9 P nt rd) T nt cf c st H K→S0 P nt rd c (D8 st) H fun e fr' H'=>∃st',Dy fr' st'∧K e st' H'
 | .skip,st,H,K,hd,h=>S0.skip ⟨st,Dy.refl _,h⟩
 | .ret,st,H,K,hd,h=>S0.ret ⟨st,Dy.refl _,h⟩
 | .exit id,st,H,K,hd,h=>S0.exit ⟨st,Dy.refl _,h⟩
 | .seq a b,st,H,K,hd,h=>by
  simp only[G4,and_eq_true]at hd
  refine S0.seq ((I8 hT hm a st H _ hd.1 h).mono fun e fr' H' ⟨st',hf,hk⟩=>?_)
  cases e with
  |normal=>exact S0.frLe hf (I8 hT hm b st' H' K hd.2 hk)
  |_=>exact⟨st',hf,hk⟩
 | .cond c a b,st,H,K,hd,h=>by
  simp only[G4,and_eq_true]at hd
  unfold run at h
  split at h
  ·exact h
  exact KI h (fun st' _ h=>I8 hT hm a st' H K hd.1 h) (fun st' _ h=>I8 hT hm b st' H K hd.2 h)
 | .block id c,st,H,K,hd,h=>by
  unfold run at h
  split at h
  ·exact h
  refine S0.block ((I8 hT hm c st H _ hd h).mono fun e fr' H' ⟨st',hf,hk⟩=>?_)
  cases e with
  |exit id'=>
   unfold PH at hk
   dsimp only at hk ⊢
   split at hk
   ·rename_i e;rw[if_pos (Nat.eq_of_beq_eq_true e)];exact⟨st',hf,hk⟩
   rename_i e;rw[if_neg (fun x=>by subst x;rw[Nat.beq_refl]at e;cases e)];exact⟨st',hf,hk⟩
  |_=>exact⟨st',hf,hk⟩
 | .region id ops false,st,H,K,hd,h=>by
  unfold run at h
  intro r g w a hr hR hF;refine wpIn_region ?_
  have:=Sh (P:=P) (nt:=nt) (rd:=rd) (T:=T) (A:=Iv cf.A) (Z:=zAt cf.Z) (df:=st.df) hT (ops:=ops) (r:=r) (K:=fun l' H'=>K .normal ⟨l',st.df⟩ H') (Q:=PX nt g w fun e fr' H'=>∃st',Dy fr' st'∧K e st' H') (g0:=g) (w0:=w)
   (fun g' w' a' l' H' s hR hF hK=>⟨g',_,H',s,hR,hF,⟨l',st.df⟩,Dy.refl _,hK⟩) ops.size 0 st.l H (by omega) (by simpa using h) g w a (P1.refl _ _) hR hF
  rwa[←List.range_eq_range']at this
 | .region id ops true,st,H,K,hd,h=>by
  cases hj2:Iv cf.JB (id+2000000)with
  |true=>
   unfold run at h
   rw[hj2]at h
   exact h
  |false=>
  cases hj:Iv cf.JB (id+1000000)with
  |true=>
   simp only[G4,hj2,hj]at hd
   unfold run at h
   rw[hj2]at h
   simp only[hj]at h
   refine(Sp (df:=st.df) hT hm hd h).mono fun e fr H' ⟨he,l',hfr,hk⟩=>?_;subst he;subst hfr;exact⟨⟨l',st.df⟩,Dy.refl _,hk⟩
  |false=>
   simp only[G4,hj2,hj,and_eq_true,decide_eq_true_eq]at hd
   unfold run at h
   rw[hj2]at h
   simp only[hj]at h
   refine S0.of_frz h fun l1 H1 h=>?_;refine(S0.of_any hm (Ae.hoistAll (fun c fr H h=>by cases h.1) _ ops hd.1.1 (Vf (df:=st.df) hT hd.1.2 hd.2 h))).mono fun e fr H' ⟨he,l',hfr,hk⟩=>?_;subst he;subst hfr;exact⟨⟨l',st.df⟩,Dy.refl _,hk⟩
 | .loop c,st,H,K,hd,h=>h
 | .rangeFunc g ps a b,st,H,K,hd,h=>h
 | .scope c,st,H,K,hd,h=>h
 | .label l,st,H,K,hd,h=>h
 | .goto l,st,H,K,hd,h=>h
 | .refuse w,st,H,K,hd,h=>h
theorem HV :∀(ms:List Nat) (ops:Array Oper),Mc ms ops=true→(hoistAll ms ops).size=ops.size
 |[],ops,_=>rfl
 | m::ms,ops,hok=>by
  simp only[Mc,and_eq_true]at hok
  have hm:m<ops.size:=by
   have h:=hok.1.1
   unfold KY at h
   simp only[and_eq_true]at h
   exact Nat.le_of_ble_eq_true h.1.1.1.1.1
  exact(HV ms _ hok.2).trans (Fs0 hm)
theorem SI (hT:Gt P T) (hm:P.follows .mixedOrders=true):∀(c:Code) (st:St) (H:A2) (K:Exit→St→A2→Prop),G4 cf c=true→XD (E9 P nt rd) T nt cf c st H K→S0 P nt rd c (D8 st) H fun e fr' H'=>∃st',Dy fr' st'∧K e st' H'
 | .cond c a b,st,H,K,hd,h=>by
  simp only[G4,and_eq_true]at hd
  unfold XD at h
  exact KI h (fun st' _ h=>I8 hT hm a st' H K hd.1 h) (fun st' _ h=>I8 hT hm b st' H K hd.2 h)
 | .block id c,st,H,K,hd,h=>by
  unfold XD at h
  refine S0.block ((I8 hT hm c st H _ hd h).mono fun e fr' H' ⟨st',hf,hk⟩=>?_)
  cases e with
  |exit id'=>
   unfold PH at hk
   dsimp only at hk ⊢
   split at hk
   ·rename_i e;rw[if_pos (Nat.eq_of_beq_eq_true e)];exact⟨st',hf,hk⟩
   rename_i e;rw[if_neg (fun x=>by subst x;rw[Nat.beq_refl]at e;cases e)];exact⟨st',hf,hk⟩
  |_=>exact⟨st',hf,hk⟩
 | .skip,st,H,K,hd,h=>I8 hT hm _ st H K hd h
 | .ret,st,H,K,hd,h=>I8 hT hm _ st H K hd h
 | .exit id,st,H,K,hd,h=>I8 hT hm _ st H K hd h
 | .seq a b,st,H,K,hd,h=>I8 hT hm _ st H K hd h
 | .region id ops false,st,H,K,hd,h=>I8 hT hm _ st H K hd h
 | .region id ops true,st,H,K,hd,h=>by
  unfold XD at h
  dsimp only at h
  cases hj2:Iv cf.JB (id+2000000)with
  |false=>rw[hj2]at h;exact I8 hT hm _ st H K hd h
  |true=>
   rw[hj2]at h
   simp only[G4,hj2,and_eq_true]at hd
   obtain⟨hd,hfree⟩:=hd;have h':=CX (df:=st.df) hT (fun i hi=>List.all_eq_true.1 hfree i (Ro hi)) _ _ _ _ h;have hsz:(hoistAll (Dt cf.hk (id+1000000)) ops).size=ops.size:=HV _ _ hd
   rw[←hsz]at h'
   refine(S0.of_any hm (Ae.hoistAll (fun c fr H h=>h) _ ops hd (Ae.all (Q:=fun e fr H'=>match e with| .normal=>∃l',fr=D8 ⟨l',st.df⟩∧K .normal ⟨l',st.df⟩ H'|_=>False) h'))).mono fun e fr H' hq=>?_
   cases e with
   |normal=>obtain⟨l',hfr,hk⟩:=hq;subst hfr;exact⟨⟨l',st.df⟩,Dy.refl _,hk⟩
   |_=>exact hq.elim
 | .loop c,st,H,K,hd,h=>h
 | .rangeFunc g ps a b,st,H,K,hd,h=>h
 | .scope c,st,H,K,hd,h=>h
 | .label l,st,H,K,hd,h=>h
 | .goto l,st,H,K,hd,h=>h
 | .refuse w,st,H,K,hd,h=>h
def QI (K:V→A2→Prop)(H:A2)(vs:List V):Prop:=
 match vs with
 |[x]=>K x H
 |l=>K (.tup l) H
theorem LN {K:V→A2→Prop}{H:A2}{vs:List V}(h:QI K H vs):K (Mb vs) H:=by
 unfold QI at h
 split at h
 ·exact h
 rename_i l hn;unfold Mb
 split
 ·rename_i x;exact absurd rfl (hn x)
 exact h
def Aq9 (v:V)(k:List V→Prop)(vs:List V):Prop:=k (v::vs)
def Np (E:CV)(T:Et)(l:Fl)(H:A2):List ResultVar→(List V→Prop)→Prop
 |[],k=>k []
 | .tmp t::r,k=>Np E T l H r fun vs=>Aq9 (AM l t) k vs
 | .cell a t::r,k=>(match AM l a with| .elem _ _ _ _=>False|x=>TW E T t x H fun v=>Np E T l H r fun vs=>k (v::vs))
theorem FJ (hT:Gt P T) {l:Fl} {H:A2} {df:List Nat}:∀(rs:List ResultVar) (k:List V→Prop),Np (E9 P nt rd) T l H rs k→∃vs,Z6 P (D8 ⟨l,df⟩) H rs=some vs∧k vs
 |[],k,h=>⟨[],rfl,h⟩
 | .tmp t::r,k,h=>by
  obtain⟨vs,h1,h2⟩:=FJ (df:=df) hT r _ h;exact⟨_,by simp only[Z6,h1];rfl,h2⟩
 | .cell a t::r,k,h=>by
  unfold Np at h
  split at h
  ·exact h.elim
  rename_i x hne;obtain⟨v,h1,h2⟩:=Gx hT h
  have h1:EH P H t (AM l a)=some v:=h1.elim (fun h=>h) fun h=>by
   unfold HU at h
   split at h
   ·rename_i hx;exact absurd hx (hne _ _ _ _)
   cases h
  obtain⟨vs,h3,h4⟩:=FJ (df:=df) hT r _ h2;exact⟨v::vs,by simp only[Z6,h3];rw[show(D8 ⟨l,df⟩).s a=AM l a from rfl,h1],h4⟩
theorem S0.post_le {c:Code}{fr:Fr}{H:A2}{K:Exit→St→A2→Prop}(h:S0 P nt rd c fr H fun e fr' H'=>∃st',Dy fr' st'∧K e st' H'):S0 P nt rd c fr H fun e fr' H'=>∃st',fr'=D8 st'∧K e st' H':=by
 intro r g w a hr hR hF;refine wpIn_mono (h r g w a hr hR hF) fun e a' w' ⟨g',fr',H',s,hR',hF',st',hle,hk⟩=>⟨g',D8 st',H',s,hR',⟨hF'.size,fun t=>hle.s t _ _ _ (hF'.s t),?_⟩,st',rfl,hk⟩;have:=hF'.df
 rw[hle.df]at this
 exact this
def BM :List V→Nat→Fl
 |[],_=>[]
 |v::l,i=>(i,.v v)::BM l (i+1)
theorem Ob :∀(args:List V) (i t:Nat),AM (BM args i) t=if i≤t then args.getD (t - i) .bad else .bad
 |[],i,t=>by simp[BM,AM]
 | v::l,i,t=>by
  simp only[BM,AM]
  by_cases h:t=i
  ·subst h;simp[Nat.beq_refl]
  have hb:Nat.beq t i=false:=by
   cases hb:Nat.beq t i with
   |false=>rfl
   |true=>exact absurd (Nat.eq_of_beq_eq_true hb) h
  simp only[hb];rw[Ob l (i+1) t]
  by_cases h1:i+1≤t
  ·rw[if_pos h1,if_pos (by omega),show t - i=(t - (i+1))+1 by omega];rfl
  rw[if_neg h1,if_neg (by omega)]
theorem YS (args:List V):entry args=D8 ⟨BM args 0,[]⟩:=by
 simp only[entry,D8,Fr.mk.injEq,and_true]
 funext t
 rw[Ob];simp
def MI (E:CV)(T:Et)(rs:List ResultVar)(K:V→A2→Prop)(e:Exit)(st:St)(H:A2):Prop:=
 match e with
 | .normal=>(match st.df with|[]=>Np E T st.l H rs fun vs=>QI K H vs|df=>E.fin df H fun H'=>Np E T st.l H' rs fun vs=>QI K H' vs)
 | .ret=>(match st.df with|[]=>Np E T st.l H rs fun vs=>QI K H vs|df=>E.fin df H fun H'=>Np E T st.l H' rs fun vs=>QI K H' vs)
 |_=>False
theorem Ww (hT:Gt P T) {fn:Func} {K:V→A2→Prop} {e:Exit} {st:St} {H:A2} (h:MI (E9 P nt rd) T fn.results.toList K e st H):Ret P fn K e (D8 st) H:=by
 have key:∀(h:match st.df with|[]=>Np (E9 P nt rd) T st.l H fn.results.toList fun vs=>QI K H vs|df=>(E9 P nt rd).fin df H fun H'=>Np (E9 P nt rd) T st.l H' fn.results.toList fun vs=>QI K H' vs),
  Ad1 H (D8 st).df∧∃l,Z6 P (D8 st) (clear H (D8 st).df) fn.results.toList=some l∧K (Mb l) (clear H (D8 st).df):=by
  obtain⟨l,df⟩:=st;intro h
  cases df with
  | nil=>
   have hcl:clear H []=H:=by funext x;simp[clear]
   obtain⟨vs,h1,h2⟩:=FJ (df:=[]) hT _ _ h;refine⟨⟨by simp[D8],fun id hi=>by simp[D8]at hi⟩,vs,?_,?_⟩
   ·show Z6 P (D8 ⟨l,[]⟩) (clear H []) _=_
    rw[hcl];exact h1
   show K _ (clear H [])
   rw[hcl];exact LN h2
  |cons d ds=>
   obtain⟨hd,h⟩:=h;obtain⟨vs,h1,h2⟩:=FJ (df:=d::ds) hT _ _ h;exact⟨hd,vs,h1,LN h2⟩
 cases e<;>first|exact h.elim|skip
 ·exact⟨.inl rfl,key h⟩
 exact⟨.inr rfl,key h⟩
theorem W7 {f:FuncId}{fn:Func}{c:Code}{n:Nat}{rs:List ResultVar}{args:List V}{H:A2}{K:V→A2→Prop}(cf:Cf)(hT:Gt P T)(hm:P.follows .mixedOrders=true)(hf:P.funcs[f]? =some fn)(hb:fn.body=some c)(hd:G4 cf c=true)(hcall:∀vals w,(callFunc f vals).run P w= .ok (.enter f vals) w)
 (hnt:fn.ntmps=n) (hrs:fn.results.toList=rs) (hn:Nat.ble args.length n=true) (h:∀E:CV,E=E9 P n none→run E T n cf c ⟨BM args 0,[]⟩ H (MI E T rs K)):H6 P f args H K:=by
 subst hnt;subst hrs;refine Nz hf hb hcall (Nat.le_of_ble_eq_true hn) ?_;rw[YS];refine(S0.post_le (I8 hT hm c _ H _ hd (h _ rfl))).mono fun e fr' H' ⟨st',hfr,hq⟩=>?_;subst hfr;exact Ww hT hq
end
end Go.Ab
namespace Go.Ab
open Go.RowKit
variable [G7][Ar]
theorem AW.wk {x y:V}(h:AW x y):Wk x y:=fun _ _ _ hv=>hv.le h
theorem Args.le {g:Gh}{w:World}{vals:Array Value}{xs ys:List V}(h:Args g w vals xs)(k:G3 xs ys):Args g w vals ys:=
 ⟨h.1.trans k.length,fun i hi=>(h.2 i (k.length▸hi)).le (k.at i)⟩
theorem H6.args {P:Program}{f:FuncId}{xs ys:List V}{H:A2}{K:V→A2→Prop}(h:H6 P f ys H K)(k:G3 xs ys):H6 P f xs H K:=
 fun g w vals hR hA=>h g w vals hR (hA.le k)
theorem AV.args {P:Program}{fv:V}{xs ys:List V}{H:A2}{K:V→A2→Prop}(h:AV P fv ys H K)(k:G3 xs ys):AV P fv xs H K:=
 fun g w v vals hR hv hA=>h g w v vals hR hv (hA.le k)
theorem B2.args {P:Program}{f:FuncId}{xs ys:List V}{r:V}(h:B2 P f ys r)(k:G3 xs ys):B2 P f xs r:=fun H=>(h H).args k
theorem R9.args {P:Program}{fv:V}{xs ys:List V}{r:V}(h:R9 P fv ys r)(k:G3 xs ys):R9 P fv xs r:=fun H=>(h H).args k
def Gq (H H':A2):Prop:=∀id b,H id=some b→H' id=some b
theorem Gq.refl (H:A2):Gq H H:=fun _ _ h=>h
theorem Gq.trans {H H' H'':A2}(h:Gq H H')(k:Gq H' H''):Gq H H'':=fun id b e=>k id b (h id b e)
theorem H6.le {P:Program}{f:FuncId}{args:List V}{H:A2}{K:V→A2→Prop}(h:H6 P f args H fun x H'=>∃y H2,AW x y∧Gq H2 H'∧K y H2):H6 P f args H K:=
 fun g w vals hR hA=>(h g w vals hR hA).mono fun v w' ⟨g',x,H',s,hR',hv,y,H2,hxy,hH,hK⟩=>⟨g',y,H2,s,hR'.less hH,hv.le hxy,hK⟩
inductive En where
 |tl (t:E3)
 |blk (id:Nat) (b:Eu)
def En.id :En→Option (Nat×Eu)
 | .tl (.tok t)=>some (t,.spare)
 | .tl _=>none
 | .blk id b=>some (id,b)
structure Z2 (H0:A2) (L:List En) (H:A2):Prop where
 ext:Gq H0 H
 has:∀(i:Nat) e id b,L[i]? =some e→e.id=some (id,b)→H0 id=none∧H id=some b
 inj:∀(i j:Nat) e e' id b b',L[i]? =some e→L[j]? =some e'→e.id=some (id,b)→e'.id=some (id,b')→i=j
 only:∀x b,H x=some b→H0 x=some b∨∃(i:Nat) (e:En),L[i]? =some e∧e.id=some (x,b)
theorem Z2.start (H:A2):Z2 H [] H:=⟨Gq.refl H,fun i e id b h=>by simp at h,fun i j e e' id b b' h=>by simp at h,fun x b h=>.inl h⟩
theorem Z2.free {H0 H:A2}{L:List En}(h:Z2 H0 L H){id:Nat}(hn:H id=none):H0 id=none:=by
 cases e:H0 id with
 |none=>rfl
 |some b=>rw[h.ext id b e]at hn;cases hn
theorem Z2.tl0 {H0 H:A2} {L:List En} (h:Z2 H0 L H) {t:E3} (ht:(En.tl t).id=none):Z2 H0 (.tl t::L) H:=by
 refine⟨h.ext,fun i e id b hi he=>?_,fun i j e e' id b b' hi hj he he'=>?_,fun x b hx=>(h.only x b hx).imp (fun h=>h) fun⟨i,e,h1,h2⟩=>⟨i+1,e,by simpa using h1,h2⟩⟩
 ·cases i with
  |zero=>simp at hi;subst hi;rw[ht]at he;cases he
  |succ i=>exact h.has i e id b (by simpa using hi) he
 cases i with
 |zero=>simp at hi;subst hi;rw[ht]at he;cases he
 |succ i=>
  cases j with
  |zero=>simp at hj;subst hj;rw[ht]at he';cases he'
  |succ j=>rw[h.inj i j e e' id b b' (by simpa using hi) (by simpa using hj) he he']
theorem Z2.push {H0 H:A2} {L:List En} (h:Z2 H0 L H) {en:En} {id:Nat} {b:Eu} (hn:H id=none) (he:en.id=some (id,b)):Z2 H0 (en::L) (upd H id (some b)):=by
 refine⟨fun x bb hx=>?_,fun i e x bb hi hx=>?_,fun i j e e' x bb bb' hi hj hx hx'=>?_,fun x bb hx=>?_⟩
 rotate_right
 ·by_cases hxi:x=id
  ·subst hxi;rw[B1]at hx;cases hx;exact .inr ⟨0,en,by simp,he⟩
  rw[A3 _ _ hxi]at hx
  exact(h.only x bb hx).imp (fun h=>h) fun⟨i,e,h1,h2⟩=>⟨i+1,e,by simpa using h1,h2⟩
 ·rw[A3 _ _ (O3 (h.free hn) hx)];exact h.ext x bb hx
 ·cases i with
  |zero=>simp at hi;subst hi;rw[he]at hx;cases hx;exact⟨h.free hn,B1 _ _ _⟩
  |succ i=>
   have:=h.has i e x bb (by simpa using hi) hx;exact⟨this.1,by rw[A3 _ _ (O3 hn this.2)];exact this.2⟩
 cases i with
 | zero=>
  cases j with
  |zero=>rfl
  |succ j=>
   simp at hi;subst hi;rw[he]at hx;cases hx
   have:=(h.has j e' _ bb' (by simpa using hj) hx').2
   rw[hn]at this;cases this
 | succ i=>
  cases j with
  |zero=>
   simp at hj;subst hj;rw[he]at hx';cases hx'
   have:=(h.has i e _ bb (by simpa using hi) hx).2
   rw[hn]at this;cases this
  |succ j=>rw[h.inj i j e e' x bb bb' (by simpa using hi) (by simpa using hj) hx hx']
theorem Z2.get {H0 H:A2}{L:List En}(h:Z2 H0 L H)(i:Nat){id:Nat}{b:Eu}(hi:L[i]? =some (.blk id b)):H id=some b:=(h.has i _ id b hi rfl).2
theorem Z2.set {H0 H:A2} {L:List En} (h:Z2 H0 L H) (i:Nat) {id:Nat} {b b':Eu} (hi:L[i]? =some (.blk id b)):Z2 H0 (L.set i (.blk id b')) (upd H id (some b')):=by
 have hid:=h.has i _ id b hi rfl
 have hlt:i<L.length:=by
  rcases Nat.lt_or_ge i L.length with h'|h'
  ·exact h'
  rw[List.getElem?_eq_none h']at hi;cases hi
 have Gr:∀(j:Nat) e,(L.set i (.blk id b'))[j]? =some e→(j=i∧e= .blk id b')∨(j≠i∧L[j]? =some e):=fun j e hj=>by
  rw[List.getElem?_set]at hj
  split at hj
  ·rename_i hij;subst hij
   try rw[if_pos hlt]at hj
   exact .inl ⟨rfl,(Option.some.inj hj).symm⟩
  rename_i hij;exact .inr ⟨fun e=>hij e.symm,hj⟩
 refine⟨fun x bb hx=>?_,fun j e x bb hj hx=>?_,fun j k e e' x bb bb' hj hk hx hx'=>?_,fun x bb hx=>?_⟩
 rotate_right
 ·by_cases hxi:x=id
  ·subst hxi;rw[B1]at hx;cases hx
   exact .inr ⟨i,.blk x b',by rw[List.getElem?_set,if_pos rfl,if_pos hlt],rfl⟩
  rw[A3 _ _ hxi]at hx
  refine(h.only x bb hx).imp (fun h=>h) fun⟨j,e,h1,h2⟩=>⟨j,e,?_,h2⟩;rw[List.getElem?_set]
  split
  ·rename_i hij;subst hij;rw[hi]at h1;cases h1;cases h2;exact absurd rfl hxi
  exact h1
 ·rw[A3 _ _ (O3 hid.1 hx)];exact h.ext x bb hx
 ·rcases Gr j e hj with⟨_,rfl⟩|⟨hne,hj'⟩
  ·cases hx;exact⟨hid.1,B1 _ _ _⟩
  have:=h.has j e x bb hj' hx
  have hxid:x≠id:=fun eq=>by subst eq;exact hne (h.inj j i e _ x bb b hj' hi hx rfl)
  exact⟨this.1,by rw[A3 _ _ hxid];exact this.2⟩
 rcases Gr j e hj with⟨hji,rfl⟩|⟨hne,hj'⟩<;>rcases Gr k e' hk with⟨hki,rfl⟩|⟨hne',hk'⟩
 ·rw[hji,hki]
 ·cases hx;exact absurd (h.inj k i e' _ id bb' b hk' hi hx' rfl) hne'
 ·cases hx';exact absurd (h.inj j i e _ id bb b hj' hi hx rfl) hne
 exact h.inj j k e e' x bb bb' hj' hk' hx hx'
theorem Z2.tok {H0 H:A2} {L:List En} (h:Z2 H0 L H) (i:Nat) {tl:E3} (hi:L[i]? =some (.tl tl)) {t:Nat} (ht:C7 H tl t=none):
 Z2 H0 (L.set i (.tl (.tok t))) (upd (C7 H tl) t (some .spare)):=by
 have hlt:i<L.length:=by
  rcases Nat.lt_or_ge i L.length with h'|h'
  ·exact h'
  rw[List.getElem?_eq_none h']at hi;cases hi
 have Gr:∀(j:Nat) e,(L.set i (.tl (.tok t)))[j]? =some e→(j=i∧e= .tl (.tok t))∨(j≠i∧L[j]? =some e):=fun j e hj=>by
  rw[List.getElem?_set]at hj
  split at hj
  ·rename_i hij;subst hij
   try rw[if_pos hlt]at hj
   exact .inl ⟨rfl,(Option.some.inj hj).symm⟩
  rename_i hij;exact .inr ⟨fun e=>hij e.symm,hj⟩
 have left:∀x b,H x=some b→(∀t',tl= .tok t'→x≠t')→C7 H tl x=some b:=fun x b hx hne=>by
  cases tl with
  |tok t'=>simp only[C7];rw[A3 _ _ (hne t' rfl)];exact hx
  |_=>exact hx
 have h0:∀x b,H0 x=some b→C7 H tl x=some b:=fun x b hx=>left x b (h.ext x b hx) fun t' e eq=>by
  subst e;subst eq
  rw[(h.has i _ x _ hi rfl).1]at hx;cases hx
 have hoth:∀(j:Nat) e x b,j≠i→L[j]? =some e→e.id=some (x,b)→H0 x=none∧C7 H tl x=some b:=fun j e x b hne hj hx=>by
  have:=h.has j e x b hj hx;refine⟨this.1,left x b this.2 fun t' et eq=>?_⟩;subst et;subst eq;exact hne (h.inj j i e _ x b _ hj hi hx rfl)
 have hid0:H0 t=none:=by
  cases e:H0 t with
  |none=>rfl
  |some b=>rw[h0 t b e]at ht;cases ht
 refine⟨fun x bb hx=>?_,fun j e x bb hj hx=>?_,fun j k e e' x bb bb' hj hk hx hx'=>?_,fun x bb hx=>?_⟩
 rotate_right
 ·by_cases hxi:x=t
  ·subst hxi;rw[B1]at hx;cases hx
   exact .inr ⟨i,.tl (.tok x),by rw[List.getElem?_set,if_pos rfl,if_pos hlt],rfl⟩
  rw[A3 _ _ hxi]at hx
  have hx2:H x=some bb∧∀t',tl= .tok t'→x≠t':=by
   cases tl with
   |tok t'=>
    simp only[C7]at hx
    by_cases e:x=t'
    ·subst e;rw[B1]at hx;cases hx
    rw[A3 _ _ e]at hx
    exact⟨hx,fun t'' e'=>by cases e';exact e⟩
   |_=>exact⟨hx,fun t'' e'=>by cases e'⟩
  refine(h.only x bb hx2.1).imp (fun h=>h) fun⟨j,e,h1,h2⟩=>⟨j,e,?_,h2⟩;rw[List.getElem?_set]
  split
  ·rename_i hij;subst hij;rw[hi]at h1;cases h1
   cases tl with
   |tok t'=>cases h2;exact absurd rfl (hx2.2 _ rfl)
   |_=>cases h2
  exact h1
 ·rw[A3 _ _ (O3 hid0 hx)];exact h0 x bb hx
 ·rcases Gr j e hj with⟨_,rfl⟩|⟨hne,hj'⟩
  ·cases hx;exact⟨hid0,B1 _ _ _⟩
  have:=hoth j e x bb hne hj' hx;exact⟨this.1,by rw[A3 _ _ (O3 ht this.2)];exact this.2⟩
 rcases Gr j e hj with⟨hji,rfl⟩|⟨hne,hj'⟩<;>rcases Gr k e' hk with⟨hki,rfl⟩|⟨hne',hk'⟩
 ·rw[hji,hki]
 ·cases hx;have:=(hoth k e' t bb' hne' hk' hx').2;rw[ht]at this;cases this
 ·cases hx';have:=(hoth j e t bb hne hj' hx).2;rw[ht]at this;cases this
 exact h.inj j k e e' x bb bb' hj' hk' hx hx'
theorem Z2.del {H0 H:A2} {L:List En} (h:Z2 H0 L H) (i:Nat) {id:Nat} {b:Eu} (hi:L[i]? =some (.blk id b)):Z2 H0 (L.eraseIdx i) (upd H id none):=by
 have hid:=h.has i _ id b hi rfl
 have Gr:∀(j:Nat) e,(L.eraseIdx i)[j]? =some e→∃j',j'≠i∧L[j']? =some e∧(j'=if j<i then j else j+1):=fun j e hj=>by
  rw[List.getElem?_eraseIdx]at hj
  split at hj
  ·rename_i hlt;exact⟨j,by omega,hj,by rw[if_pos hlt]⟩
  rename_i hlt;exact⟨j+1,by omega,hj,by rw[if_neg hlt]⟩
 refine⟨fun x bb hx=>?_,fun j e x bb hj hx=>?_,fun j k e e' x bb bb' hj hk hx hx'=>?_,fun x bb hx=>?_⟩
 rotate_right
 ·by_cases hxi:x=id
  ·subst hxi;rw[B1]at hx;cases hx
  rw[A3 _ _ hxi]at hx
  refine(h.only x bb hx).imp (fun h=>h) fun⟨j,e,h1,h2⟩=>?_
  have hji:j≠i:=fun eq=>by subst eq;rw[hi]at h1;cases h1;cases h2;exact hxi rfl
  rcases Nat.lt_or_ge j i with hlt|hge
  ·exact⟨j,e,by rw[List.getElem?_eraseIdx,if_pos hlt];exact h1,h2⟩
  exact⟨j - 1,e,by rw[List.getElem?_eraseIdx,if_neg (by omega),show j - 1+1=j by omega];exact h1,h2⟩
 ·rw[A3 _ _ (O3 hid.1 hx)];exact h.ext x bb hx
 ·obtain⟨j',hne,hj',_⟩:=Gr j e hj;have:=h.has j' e x bb hj' hx
  have hxid:x≠id:=fun eq=>by subst eq;exact hne (h.inj j' i e _ x bb b hj' hi hx rfl)
  exact⟨this.1,by rw[A3 _ _ hxid];exact this.2⟩
 obtain⟨j',hne,hj',ej⟩:=Gr j e hj;obtain⟨k',hne',hk',ek⟩:=Gr k e' hk;have:=h.inj j' k' e e' x bb bb' hj' hk' hx hx'
 rw[ej,ek]at this
 split at this<;>split at this<;>omega
def IH (H:A2)(e:En):A2:=
 match e.id with
 |some (id,_)=>upd H id none
 |none=>H
theorem Z2.tail {H0 H:A2} {L:List En} {e:En} (h:Z2 H0 (e::L) H):Z2 H0 L (IH H e):=by
 have inj0:∀(j:Nat) e' x b b',L[j]? =some e'→e'.id=some (x,b)→e.id=some (x,b')→False:=fun j e' x b b' hj hx hx'=>by
  have:=h.inj (j+1) 0 e' e x b b' (by simpa using hj) (by simp) hx hx';omega
 cases he:e.id with
 |none=>
  have ed:IH H e=H:=by simp only[IH,he]
  rw[ed];refine⟨h.ext,fun i e id b hi=>h.has (i+1) e id b (by simpa using hi),fun i j e e' id b b' hi hj he he'=>?_,fun x b hx=>(h.only x b hx).imp (fun h=>h) fun⟨i,e',h1,h2⟩=>?_⟩
  ·have:=h.inj (i+1) (j+1) e e' id b b' (by simpa using hi) (by simpa using hj) he he';omega
  cases i with
  |zero=>simp at h1;subst h1;rw[he]at h2;cases h2
  |succ i=>exact⟨i,e',by simpa using h1,h2⟩
 | some p=>
  obtain⟨id,b0⟩:=p
  have ed:IH H e=upd H id none:=by simp only[IH,he]
  rw[ed];have hid:=h.has 0 e id b0 (by simp) he;refine⟨fun x b hx=>?_,fun i e' x b hi hx=>?_,fun i j e e' id b b' hi hj he he'=>?_,fun x b hx=>?_⟩
  ·rw[A3 _ _ (O3 hid.1 hx)];exact h.ext x b hx
  ·have:=h.has (i+1) e' x b (by simpa using hi) hx
   have hne:x≠id:=fun eq=>by subst eq;exact inj0 i e' x b b0 hi hx he
   exact⟨this.1,by rw[A3 _ _ hne];exact this.2⟩
  ·have:=h.inj (i+1) (j+1) e e' id b b' (by simpa using hi) (by simpa using hj) he he';omega
  by_cases hxi:x=id
  ·subst hxi;rw[B1]at hx;cases hx
  rw[A3 _ _ hxi]at hx
  refine(h.only x b hx).imp (fun h=>h) fun⟨i,e',h1,h2⟩=>?_
  cases i with
  |zero=>simp at h1;subst h1;rw[he]at h2;cases h2;exact absurd rfl hxi
  |succ i=>exact⟨i,e',by simpa using h1,h2⟩
theorem Gq.upd {H H':A2}(h:Gq H H')(id:Nat)(b:Option Eu):Gq (upd H id b) (upd H' id b):=fun x bb hx=>by
 by_cases e:x=id
 ·subst e;rw[B1]at hx ⊢;exact hx
 rw[A3 _ _ e]at hx ⊢;exact h x bb hx
theorem Gq.less {H H':A2}(h:Gq H H')(id:Nat):Gq (Go.Ab.upd H id none) H':=fun x bb hx=>by
 by_cases e:x=id
 ·subst e;rw[B1]at hx;cases hx
 rw[A3 _ _ e]at hx;exact h x bb hx
theorem Gq.none {H H':A2}(h:Gq H H'){id:Nat}(hn:H' id=none):H id=none:=by
 cases e:H id with
 |none=>rfl
 |some b=>rw[h id b e]at hn;cases hn
theorem G0 :E0 (Eq:A2→A2→Prop):=⟨fun h id b hb=>h▸hb,fun id b h _=>by subst h;rfl⟩
def B7 (Φ:A2→A2→Prop)(F:A2)(L:List En)(H:A2):Prop:=E0 Φ∧∃F' H1,Z2 F L F'∧Φ F' H1∧Gq H1 H
section
variable {Φ:A2→A2→Prop}{F H:A2}{L:List En}
theorem B7.start (hs:E0 Φ)(h:Φ F H):B7 Φ F [] H:=⟨hs,F,H,Z2.start F,h,Gq.refl H⟩
theorem B7.ext (h:B7 Φ F L H):Gq F H:=by
 obtain⟨hs,F',H1,h0,h1,h2⟩:=h;exact h0.ext.trans fun id b hb=>h2 _ _ (hs.le h1 id b hb)
theorem B7.tl0 (h:B7 Φ F L H){t:E3}(ht:(En.tl t).id=none):B7 Φ F (.tl t::L) H:=by
 obtain⟨hs,F',H1,h0,h1,h2⟩:=h;exact⟨hs,F',H1,h0.tl0 ht,h1,h2⟩
theorem B7.push (h:B7 Φ F L H){en:En}{id:Nat}{b:Eu}(hn:H id=none)(he:en.id=some (id,b)):B7 Φ F (en::L) (upd H id (some b)):=by
 obtain⟨hs,F',H1,h0,h1,h2⟩:=h;have hn1:=h2.none hn;have hn':=hs.fresh h1 hn1;exact⟨hs,_,_,h0.push hn' he,hs.chg id (some b) h1 (by rw[hn1,hn']),h2.upd id _⟩
theorem B7.get (h:B7 Φ F L H)(i:Nat){id:Nat}{b:Eu}(hi:L[i]? =some (.blk id b)):H id=some b:=by
 obtain⟨hs,F',H1,h0,h1,h2⟩:=h;exact h2 _ _ (hs.le h1 _ _ (h0.get i hi))
theorem B7.set (h:B7 Φ F L H)(i:Nat){id:Nat}{b b':Eu}(hi:L[i]? =some (.blk id b)):B7 Φ F (L.set i (.blk id b')) (upd H id (some b')):=by
 obtain⟨hs,F',H1,h0,h1,h2⟩:=h;have e:=h0.get i hi;exact⟨hs,_,_,h0.set i hi,hs.chg id _ h1 (by rw[e,hs.le h1 _ _ e]),h2.upd id _⟩
theorem B7.del (h:B7 Φ F L H)(i:Nat){id:Nat}{b:Eu}(hi:L[i]? =some (.blk id b)):B7 Φ F (L.eraseIdx i) (upd H id none):=by
 obtain⟨hs,F',H1,h0,h1,h2⟩:=h;have e:=h0.get i hi;exact⟨hs,_,_,h0.del i hi,hs.chg id _ h1 (by rw[e,hs.le h1 _ _ e]),h2.upd id _⟩
theorem B7.tail {e:En} (h:B7 Φ F (e::L) H):B7 Φ F L H:=by
 obtain⟨hs,F',H1,h0,h1,h2⟩:=h
 cases he:e.id with
 |none=>
  have:=h0.tail
  simp only[IH,he]at this
  exact⟨hs,_,_,this,h1,h2⟩
 |some p=>
  obtain⟨id,b⟩:=p;have h3:=h0.tail
  simp only[IH,he]at h3
  have e1:=(h0.has 0 e id b (by simp) he).2;exact⟨hs,_,_,h3,hs.chg id none h1 (by rw[e1,hs.le h1 _ _ e1]),h2.less id⟩
theorem B7.tok (h:B7 Φ F L H) (i:Nat) {tl:E3} (hi:L[i]? =some (.tl tl)) {t:Nat} (ht:C7 H tl t=none):B7 Φ F (L.set i (.tl (.tok t))) (upd (C7 H tl) t (some .spare)):=by
 obtain⟨hs,F',H1,h0,h1,h2⟩:=h
 have h3:Φ (C7 F' tl) (C7 H1 tl):=by
  cases tl with
  |tok t'=>
   have e:=(h0.has i _ t' _ hi rfl).2;exact hs.chg t' none h1 (by rw[e,hs.le h1 _ _ e])
  |_=>exact h1
 have h4:Gq (C7 H1 tl) (C7 H tl):=by
  cases tl with
  |tok t'=>exact h2.upd t' none
  |_=>exact h2
 have ht1:=h4.none ht;have ht':=hs.fresh h3 ht1;exact⟨hs,_,_,h0.tok i hi ht',hs.chg t _ h3 (by rw[ht1,ht']),h4.upd t _⟩
theorem B7.stable (hs:E0 Φ) (L:List En):E0 fun F H=>B7 Φ F L H:=by
 refine⟨fun h id b hb=>h.ext id b hb,fun{F H} id b h e=>?_⟩;obtain⟨hs,F',H1,h0,h1,h2⟩:=h
 have hne:∀(i:Nat) en x bb,L[i]? =some en→en.id=some (x,bb)→x≠id:=fun i en x bb hi he eq=>by
  subst eq;have h3:=h0.has i en x bb hi he;have h4:=h2 _ _ (hs.le h1 _ _ h3.2)
  rw[e,h3.1]at h4;cases h4
 have hF':F' id=F id:=by
  cases hf:F id with
  |some x=>exact h0.ext id x hf
  | none=>
   cases hf':F' id with
   |none=>rfl
   |some x=>
    rcases h0.only id x hf' with h|⟨i,en,hi,he⟩
    ·rw[hf]at h;cases h
    exact absurd rfl (hne i en id x hi he)
 have hH1:H1 id=F id:=by
  cases hf:F id with
  |some x=>rw[←hF']at hf;exact hs.le h1 id x hf
  |none=>rw[hf]at e;exact h2.none e
 refine⟨hs,upd F' id b,upd H1 id b,⟨fun x bb hx=>?_,fun i en x bb hi he=>?_,h0.inj,fun x bb hx=>?_⟩,hs.chg id b h1 (by rw[hF',hH1]),h2.upd id b⟩
 ·by_cases hxi:x=id
  ·subst hxi;rw[B1]at hx ⊢;exact hx
  rw[A3 _ _ hxi]at hx ⊢;exact h0.ext x bb hx
 ·have:=h0.has i en x bb hi he;have hxi:=hne i en x bb hi he;rw[A3 _ _ hxi,A3 _ _ hxi];exact this
 by_cases hxi:x=id
 ·subst hxi;rw[B1]at hx ⊢;exact .inl hx
 rw[A3 _ _ hxi]at hx ⊢;exact h0.only x bb hx
theorem B7.out :∀{L:List En},B7 Φ F L H→∃H1,Φ F H1∧Gq H1 H
 | [],h=>by
  obtain⟨hs,F',H1,h0,h1,h2⟩:=h
  have:F'=F:=by
   funext x
   cases hf:F' x with
   |some b=>
    rcases h0.only x b hf with h|⟨i,e,hi,_⟩
    ·exact h.symm
    simp at hi
   |none=>exact(h0.free hf).symm
  subst this;exact⟨H1,h1,h2⟩
 |_::L,h=>B7.out (L:=L) h.tail
end
theorem E0.ex {ι:Type}{p:ι→Prop}{I:ι→A2→A2→Prop}(h:∀i,E0 (I i)):E0 fun F H=>∃i,p i∧I i F H:=
 ⟨fun⟨i,_,hi⟩=>(h i).le hi,fun id b ⟨i,hp,hi⟩ e=>⟨i,hp,(h i).chg id b hi e⟩⟩
theorem E0.con {p:Prop}{I:A2→A2→Prop}(h:E0 I):E0 fun F H=>p∧I F H:=
 ⟨fun⟨_,hi⟩=>h.le hi,fun id b ⟨hp,hi⟩ e=>⟨hp,h.chg id b hi e⟩⟩
def BF :E3→Prop
 | .ro=>False
 |_=>True
theorem B7.appOk {Φ:A2→A2→Prop}{F H:A2}{L:List En}(h:B7 Φ F L H)(i:Nat){tl:E3}(hi:L[i]? =some (.tl tl))(ha:BF tl):EV H tl:=by
 obtain⟨hs,F',H1,h0,h1,h2⟩:=h
 cases tl with
 |tok t=>exact h2 _ _ (hs.le h1 _ _ (h0.has i _ t _ hi rfl).2)
 |nil=>trivial
 |full=>trivial
 |ro=>exact ha
end Go.Ab
namespace Go.Ab
def B9 {α:Type}(l:List α)(i:Int):Option α:=if 0≤i then l[i.toNat]? else none
def Y2 {α:Type} (l:List α) (lo hi mx:Option Int):Option (List α):=
 if 0≤lo.getD 0∧lo.getD 0≤hi.getD l.length∧hi.getD l.length≤mx.getD l.length∧mx.getD l.length≤l.length∧(mx.isSome=true→hi.isSome=true)then
  some ((l.drop (lo.getD 0).toNat).take ((hi.getD l.length).toNat - (lo.getD 0).toNat))
 else none
def S1 {α:Type}(l m:List α):Option (List α):=if l.length+m.length≤1073741824 then some (l++m)else none
def Uj (b:Bool):Option Unit:=if b=true then some ()else none
def loopN {σ R:Type} (step:σ→Option (σ ⊕ R)):Nat→σ→Option R
 |0,_=>none
 |n+1,s=>
  match step s with
  |none=>none
  |some (.inl s')=>loopN step n s'
  |some (.inr r)=>some r
def H7 {α σ R:Type} (step:σ→α→Option (σ ⊕ R)):List α→σ→Option (σ ⊕ R)
 |[],s=>some (.inl s)
 |x::l,s=>
  match step s x with
  |none=>none
  |some (.inl s')=>H7 step l s'
  |some (.inr r)=>some (.inr r)
def V4 {β σ R:Type} (step:σ→Option (List β×(σ ⊕ R))):Nat→σ→Option (List β×R)
 |0,_=>none
 | n+1,s=>
  match step s with
  |none=>none
  | some (w,.inl s')=>
   (match V4 step n s' with
    |none=>none
    |some (w',r)=>some (w++w',r))
  |some (w,.inr r)=>some (w,r)
def Bl {α β σ R:Type} (step:σ→α→Option (List β×(σ ⊕ R))):List α→σ→Option (List β×(σ ⊕ R))
 |[],s=>some ([],.inl s)
 | x::l,s=>
  match step s x with
  |none=>none
  | some (w,.inl s')=>
   (match Bl step l s' with
    |none=>none
    |some (w',o)=>some (w++w',o))
  |some (w,.inr r)=>some (w,.inr r)
def N3 {β σ τ:Type}(m:Option (List β×σ))(f:σ→Option (List β×τ)):Option (List β×τ):=
 m.bind fun q=>(f q.2).bind fun p=>some (q.1++p.1,p.2)
theorem P8 {β σ τ:Type} {m:Option (List β×σ)} {f:σ→Option (List β×τ)} {w:List β} {o:τ} (h:N3 m f=some (w,o)):∃w1 w2 x,m=some (w1,x)∧f x=some (w2,o)∧w=w1++w2:=by
 unfold N3 at h
 cases m with
 |none=>cases h
 | some p=>
  simp only[Option.bind_some]at h
  cases hf:f p.2 with
  |none=>rw[hf]at h;cases h
  |some t=>
   rw[hf]at h
   simp only[Option.bind_some,Option.some.injEq,Prod.mk.injEq]at h
   obtain⟨h1,h2⟩:=h;subst h1;subst h2;exact⟨p.1,t.1,p.2,rfl,hf,rfl⟩
theorem U8 {β σ τ:Type}{a:List β}{x:σ}{f:σ→Option (List β×τ)}{w:List β}{o:τ}(h:N3 (some (a,x)) f=some (w,o)):∃w2,f x=some (w2,o)∧w=a++w2:=by
 obtain⟨w1,w2,y,h1,h2,h3⟩:=P8 h;cases h1;exact⟨w2,h2,h3⟩
theorem C6 {α β:Type}{a c:α}{b d:β}(h:some (a,b)=some (c,d)):a=c∧b=d:=by cases h;exact⟨rfl,rfl⟩
theorem bind_some {α β:Type}{m:Option α}{F:α→Option β}{r:β}(h:m.bind F=some r):∃x,m=some x∧F x=some r:=by
 cases m with
 |none=>cases h
 |some x=>exact⟨x,rfl,h⟩
theorem AP {α:Type}{a b:α}(h:some a=some b):a=b:=Option.some.inj h
end Go.Ab
namespace Go.Ab
open Go.RowKit
variable [G7][Ar]
def Gp (l:Fl):Fl→Prop
 |[]=>True
 |(k,s)::r=>AW (AM l k) s.V∧(∀j w x,s≠ .g j w x)∧Gp l r
theorem Gp.wk {l:Fl}:∀{r:Fl},Gp l r→∀t,Wk (AM l t) (AM r t)
 |[],_,t=>Wk.bad _
 | (k,s)::r,h,t=>by
  simp only[AM]
  cases hb:Nat.beq t k with
  |true=>
   have:=Nat.eq_of_beq_eq_true hb;subst this
   cases s with
   |v x=>exact h.1.wk
   |b c=>exact h.1.wk
   |g j w x=>exact absurd rfl (h.2.1 j w x)
  |false=>exact Gp.wk h.2.2 t
theorem Gp.v {l r:Fl}{k:Nat}{x:V}(h:AW (AM l k) x)(hr:Gp l r):Gp l ((k,.v x)::r):=⟨h,fun _ _ _ h=>(by cases h),hr⟩
theorem Gp.b {l r:Fl}{k:Nat}{c:Bool}(h:AM l k= .bool c)(hr:Gp l r):Gp l ((k,.b c)::r):=⟨h▸ .refl _,fun _ _ _ h=>(by cases h),hr⟩
theorem Gp.e {l r:Fl}{k:Nat}{x:V}(h:AM l k=x)(hr:Gp l r):Gp l ((k,.v x)::r):=⟨h▸ .refl _,fun _ _ _ h=>(by cases h),hr⟩
theorem Gp.z {l:Fl}:Gp l []:=trivial
theorem Wk.trans {x y z:V}(h:Wk x y)(k:Wk y z):Wk x z:=fun g w v hv=>k g w v (h g w v hv)
theorem Dy.le {fr:Fr}{l l':Fl}{df:List Nat}(h:Dy fr ⟨l,df⟩)(k:Gp l l'):Dy fr ⟨l',df⟩:=⟨fun t=>(h.s t).trans (k.wk t),h.df⟩
theorem F3 {α:Type}{f:α→V}:([]:List V)=lst f []:=by rw[lst_eq];rfl
theorem F6 {α:Type}{f:α→V}{v:V}{vs:List V}{x:α}{l:List α}(h:v=f x)(k:vs=lst f l):v::vs=lst f (x::l):=by
 rw[h,k,lst_eq,lst_eq];rfl
theorem Le {α:Type}{f:α→V}(l m:List α):lst f l++lst f m=lst f (l++m):=by simp[lst_eq]
theorem J4 {α:Type}{f:α→V}(l:List α):(lst f l).length=l.length:=by simp[lst_eq]
theorem JT {α:Type}{f:α→V}{sz:Nat}(h:∀x,(f x).cells.length=sz)(l:List α):(lst f l).all (fun x=>x.cells.length==sz)=true:=by
 rw[lst_eq];simp[h]
theorem G3.lst0 {α:Type}{f:α→V}:G3 [] (lst f []):=by rw[←F3];exact .nil
theorem G3.lstc {α:Type}{f:α→V}{v:V}{vs:List V}{x:α}{l:List α}(h:AW v (f x))(k:G3 vs (lst f l)):G3 (v::vs) (lst f (x::l)):=by
 rw[←F6 rfl rfl];exact .cons h k
theorem AW.eq {v x y:V}(h:y=x)(k:AW v x):AW v y:=h▸k
theorem AW.lit {xs ys:List V}(t:E3)(h:xs=ys):AW (.sl xs t) (.sl ys .ro):=h▸ .ro _ _
section
variable {P:Program}{nt:Nat}{rd:Option Nat}{T:Et}{E:CV}
variable (hE:E=E9 P nt rd)
include hE
theorem A9 {R:Type}{c:Bool}{x y:Unit→Prop}{a b:Option R}{r:R}(h:(if c=true then a else b)=some r)(h1:c=true→a=some r→x ())(h2:c=false→b=some r→y ()):E.br c x y:=by
 subst hE;refine⟨fun hc=>?_,fun hc=>?_⟩
 ·rw[if_pos hc]at h;exact h1 hc h
 rw[if_neg (by rw[hc];simp)]at h;exact h2 hc h
theorem Ag2 {c:Bool}{x y:Unit→Prop}(h1:c=true→x ())(h2:c=false→y ()):E.br c x y:=by subst hE;exact⟨h1,h2⟩
theorem Mk {p:Prop}{k:Unit→Prop}(h:p)(hk:k ()):E.need p k:=by subst hE;exact⟨h,hk⟩
theorem Aa4 {R:Type}{b:Bool}{k:Unit→Prop}{F:Unit→Option R}{r:R}(h:(Uj b).bind F=some r)(hk:F ()=some r→k ()):E.needB b k:=by
 subst hE;obtain⟨x,h1,h2⟩:=bind_some h
 unfold Uj at h1
 split at h1
 ·rename_i hb;exact⟨hb,hk h2⟩
 cases h1
theorem E5 {α:Type}{f:α→V}{l:List α}{k:Int→Prop}(h:k (Ar.len l)):E.ln (lst f l) k:=by
 subst hE
 show k _
 rw[J4,←Ar.len_eq];exact h
theorem Ap3 {xs:List V}{k:Int→Prop}{n:Int}(hn:(xs.length:Int)=n)(h:k n):E.ln xs k:=by
 subst hE;subst hn;exact h
theorem C5 {α R:Type} {f g:α→V} (hf:∀x,f x=g x) {l:List α} {i:Int} {k:V→Prop} {F:α→Option R} {r:R} (h:(B9 l i).bind F=some r) (hk:∀x,F x=some r→k (g x)):E.idx (lst f l) i k:=by
 subst hE;obtain⟨x,h1,h2⟩:=bind_some h
 unfold B9 at h1
 split at h1
 ·rename_i h0
  have hlt:i.toNat<l.length:=by
   rcases Nat.lt_or_ge i.toNat l.length with h'|h'
   ·exact h'
   rw[List.getElem?_eq_none h']at h1;cases h1
  refine⟨⟨h0,by rw[J4];omega⟩,?_⟩;rw[lst_eq,List.getD_eq_getElem?_getD,List.getElem?_map,h1];simp only[Option.map_some,Option.getD_some];rw[hf];exact hk x h2
 cases h1
theorem KZ {α R:Type} {f:α→V} {sz:Nat} (hsz:∀x,(f x).cells.length=sz) {l:List α} {tl:E3} {lo hi mx:Option Int} {k:V→Prop} {F:List α→Option R} {r:R} (h:(Y2 l lo hi mx).bind F=some r)
 (hk:∀x t,F x=some r→k (.sl (lst f x) t)):E.slice sz (lst f l) tl lo hi mx k:=by
 subst hE;obtain⟨x,h1,h2⟩:=bind_some h
 unfold Y2 at h1
 split at h1
 ·rename_i hc;obtain⟨c1,c2,c3,c4,c5⟩:=hc;cases h1;refine⟨?_,?_⟩
  ·rw[J4];exact⟨c1,c2,c3,c4,c5,.inr (JT hsz l)⟩
  rw[J4,lst_eq,←List.map_drop,←List.map_take];have:=hk _ (FX (lo.getD 0).toNat (hi.getD l.length).toNat l.length mx tl) h2
  rwa[lst_eq]at this
 cases h1
theorem A5 {R S:Type}{m:Option S}{F:S→Option R}{r:R}{f:FuncId}{args args':List V}{g:S→V}{H:A2}{k:V→A2→Prop}(h:m.bind F=some r)(hc:∀x,m=some x→B2 P f args' (g x))(hl:G3 args args')
 (hk:∀x,F x=some r→k (g x) H):E.call (.func (.func f) [] []) args H k:=by
 subst hE;obtain⟨x,h1,h2⟩:=bind_some h
 exact R9.at (B2.value (F:=[]) (C:=[]) (by simpa using(hc x h1).args hl)) (hk x h2)
theorem D1 {R S:Type}{m:Option S}{F:S→Option R}{r:R}{f:FuncId}{args args':List V}{g:S→V}{H:A2}{k:V→Prop}(h:m.bind F=some r)(hc:∀x,m=some x→B2 P f args' (g x))(hl:G3 args args')
 (hk:∀x,F x=some r→k (g x)):E.pcall H (.func (.func f) [] []) args k:=by
 subst hE;obtain⟨x,h1,h2⟩:=bind_some h;exact⟨g x,(B2.value (F:=[]) (C:=[]) (by simpa using(hc x h1).args hl)).toH H,hk x h2⟩
theorem Y0 {R S:Type}{m:Option S}{F:S→Option R}{r:R}{fv:V}{args args':List V}{g:S→V}{H:A2}{k:V→A2→Prop}(h:m.bind F=some r)(hc:∀x,m=some x→R9 P fv args' (g x))(hl:G3 args args')
 (hk:∀x,F x=some r→k (g x) H):E.call fv args H k:=by
 subst hE;obtain⟨x,h1,h2⟩:=bind_some h
 exact R9.at ((hc x h1).args hl) (hk x h2)
theorem XY {R S:Type}{m:Option S}{F:S→Option R}{r:R}{fv:V}{args args':List V}{g:S→V}{H:A2}{k:V→Prop}(h:m.bind F=some r)(hc:∀x,m=some x→R9 P fv args' (g x))(hl:G3 args args')
 (hk:∀x,F x=some r→k (g x)):E.pcall H fv args k:=by
 subst hE;obtain⟨x,h1,h2⟩:=bind_some h;exact⟨g x,((hc x h1).args hl).toH H,hk x h2⟩
theorem B5 {Φ:A2→A2→Prop}{H0 H:A2}{L:List En}(hO:B7 Φ H0 L H)(i:Nat){id:Nat}{cs:List V}{k:List V→Prop}(hi:L[i]? =some (.blk id (.cells cs)))(hk:k cs):E.load H id k:=by
 subst hE;exact⟨cs,hO.get i hi,hk⟩
theorem B4 {Φ:A2→A2→Prop}{H0 H:A2}{L:List En}(hO:B7 Φ H0 L H)(i:Nat){id off sz:Nat}{cs vs:List V}{k:A2→Prop}(hi:L[i]? =some (.blk id (.cells cs)))(hb:Nat.ble (off+sz) cs.length=true)
 (hk:∀H',B7 Φ H0 (L.set i (.blk id (.cells (P0 cs off vs)))) H'→k H'):E.store H id off sz vs k:=by
 subst hE;exact⟨cs,vs,.refl _,hO.get i hi,hb,hk _ (hO.set i hi)⟩
theorem D0 {Φ:A2→A2→Prop}{H0 H:A2}{L:List En}(hO:B7 Φ H0 L H){cs:List V}{k:Nat→A2→Prop}(hk:∀id H',B7 Φ H0 (.blk id (.cells cs)::L) H'→k id H'):E.alloc H cs k:=by
 subst hE;exact fun id hid=>hk id _ (hO.push hid rfl)
theorem Aj7 {Φ:A2→A2→Prop}{H0 H:A2}{L:List En}(hO:B7 Φ H0 L H)(i:Nat){id:Nat}{cs ds:List V}{k:List V→A2→Prop}(hi:L[i]? =some (.blk id (.cells cs)))(hl:G3 cs ds)(hk:∀H',B7 Φ H0 (L.eraseIdx i) H'→k ds H'):E.frzL H id k:=by
 subst hE;exact⟨cs,ds,hO.get i hi,hl,hk _ (hO.del i hi)⟩
theorem Ya {α R:Type} {g:α→V} {cs:List V} {off sz n:Nat} {l:List α} {i:Int} {k:V→Prop} {F:α→Option R} {r:R} (hcs:cs=l.flatMap fun x=>(g x).cells) (hsz:∀x,(g x).cells.length=sz) (hn:l.length=n) (ho:off=0)
 (h:(B9 l i).bind F=some r) (hk:∀x,F x=some r→k (.eref (g x).cells 0)):E.elem cs off sz n i k:=by
 subst hE;subst ho;obtain⟨x,h1,h2⟩:=bind_some h
 unfold B9 at h1
 split at h1
 ·rename_i h0
  have key:∀(l:List α) (m:Nat) (x:α),l[m]? =some x→(((l.flatMap fun x=>(g x).cells).drop (m*sz)).take sz)=(g x).cells∧m<l.length∧(l.flatMap fun x=>(g x).cells).length=l.length*sz:=by
   intro l
   induction l with
   |nil=>intro m x h;simp at h
   | cons y l ih=>
    intro m x h
    have hlen:∀l:List α,(l.flatMap fun x=>(g x).cells).length=l.length*sz:=by
     intro l
     induction l with
     |nil=>simp
     |cons z l ih=>simp only[List.flatMap_cons,List.length_append,hsz,ih,List.length_cons,Nat.add_mul,Nat.one_mul];omega
    refine⟨?_,?_,hlen _⟩
    ·cases m with
     |zero=>
      simp at h;subst h
      simp only[List.flatMap_cons,Nat.zero_mul,List.drop_zero];rw[List.take_append_of_le_length (by rw[hsz];exact Nat.le_refl _),List.take_of_length_le (by rw[hsz];exact Nat.le_refl _)]
     |succ m=>
      have:=(ih m x (by simpa using h)).1;rw[List.flatMap_cons,show(m+1)*sz=(g y).cells.length+m*sz by rw[hsz,Nat.add_mul,Nat.one_mul];omega,List.drop_append,];rw[List.drop_eq_nil_of_le (by omega),List.nil_append,show(g y).cells.length+m*sz - (g y).cells.length=m*sz by omega];exact this
    rcases Nat.lt_or_ge m (y::l).length with h'|h'
    ·exact h'
    rw[List.getElem?_eq_none h']at h;cases h
  obtain⟨k1,k2,k3⟩:=key l i.toNat x h1;refine⟨⟨h0,by omega,by rw[hcs,k3,hn];omega⟩,?_⟩;rw[hcs,Nat.zero_add,k1];exact hk x h2
 cases h1
theorem Yd {α R:Type} {f:α→V} {sz by_:Nat} (hsz:∀x,(f x).cells.length=sz) (hby:by_≤131072) {xs ys:List V} {l m:List α} {k:V→Prop} {F:List α→Option R} {r:R} (hx:G3 xs (lst f l)) (hy:G3 ys (lst f m)) (h:(S1 l m).bind F=some r)
 (hk:∀x,F x=some r→k (.sl (lst f x) .ro)):E.appq sz by_ xs ys k:=by
 subst hE;obtain⟨x,h1,h2⟩:=bind_some h
 unfold S1 at h1
 split at h1
 ·rename_i hc;cases h1;refine⟨_,_,hx,hy,JT hsz l,JT hsz m,?_,?_⟩
  ·rw[J4,J4];exact Nat.le_trans (Nat.mul_le_mul hc hby) (by decide)
  rw[Le];exact hk _ h2
 cases h1
theorem FO {α R:Type} {f:α→V} {sz by_:Nat} (hsz:∀x,(f x).cells.length=sz) (hby:by_≤131072) {Φ:A2→A2→Prop} {H0 H:A2} {L:List En} (hO:B7 Φ H0 L H) (i:Nat) {tl:E3} (hi:L[i]? =some (.tl tl)) (ha:BF tl)
 {xs ys:List V} {l m:List α} {k:V→A2→Prop} {F:List α→Option R} {r:R} (hx:G3 xs (lst f l)) (hy:G3 ys (lst f m)) (h:(S1 l m).bind F=some r)
 (hk:∀x tl' H',B7 Φ H0 (L.set i (.tl tl')) H'→BF tl'→F x=some r→k (.sl (lst f x) tl') H'):E.appn sz by_ H tl xs ys k:=by
 subst hE;obtain⟨x,h1,h2⟩:=bind_some h
 unfold S1 at h1
 split at h1
 ·rename_i hc;cases h1;refine⟨_,_,hx,hy,hO.appOk i hi ha,JT hsz l,JT hsz m,?_,fun hm=>?_,fun t ht hn=>?_⟩
  ·rw[J4,J4];exact Nat.le_trans (Nat.mul_le_mul hc hby) (by decide)
  ·have hm':m=[]:=by
    have:=congrArg List.length hm
    rw[J4]at this
    exact List.eq_nil_of_length_eq_zero (by simpa using this)
   subst hm'
   have:=hk _ tl H (by
    have e:L.set i (.tl tl)=L:=by
     apply List.ext_getElem?;intro j;rw[List.getElem?_set]
     split
     ·rename_i e;subst e
      split
      ·exact hi.symm
      rename_i hl;rw[List.getElem?_eq_none (by omega)]
     rfl
    rw[e];exact hO) ha h2
   rwa[List.append_nil]at this
  rw[Le];exact hk _ _ _ (hO.tok i hi hn) trivial h2
 cases h1
end
section
variable {P:Program}{nt:Nat}{rd:Option Nat}{T:Et}{E:CV}
abbrev RX (P:Program)(T:Et):Prop:=Gt P T∧P.follows .mixedOrders=true
theorem Z8 (cf:Cf)(hE:E=E9 P nt rd)(hP:RX P T){c:Code}{st:St}{H:A2}{K:Exit→St→A2→Prop}(X:Exit→Fl→A2→Prop)(hd:G4 cf c=true)
 (h:XD E T nt cf c st H fun e st' H'=>∃l,X e l H'∧Gp st'.l l∧st'.df=st.df) (after:∀e l H',X e l H'→K e ⟨l,st.df⟩ H'):E.sim c st H K:=by
 subst hE;refine(SI hP.1 hP.2 c _ _ _ hd h).mono fun e fr2 H2 ⟨st',hle',l,h3,h1,h2⟩=>?_;exact⟨⟨l,st.df⟩,⟨fun t=>(hle'.s t).trans (h1.wk t),hle'.df.trans h2⟩,after _ _ _ h3⟩
theorem G6 (cf:Cf) (hE:E=E9 P nt rd) (hP:RX P T) {σ R:Type} {step:σ→Option (σ ⊕ R)} {c:Code} {st:St} {H:A2} {K:Exit→St→A2→Prop} (fm:σ→Fl) (Inv:σ→A2→Prop) (X:R→Exit→Fl→A2→Prop) (hd:G4 cf c=true)
 (round:∀s H o,Inv s H→step s=some o→run E T nt cf c ⟨fm s,st.df⟩ H fun e st' H'=>match e with
  | .normal=>∃s',o= .inl s'∧Gp st'.l (fm s')∧st'.df=st.df∧Inv s' H'
  |e=>∃x l,o= .inr x∧X x e l H'∧Gp st'.l l∧st'.df=st.df)
 {N:Nat} {s0:σ} {r:R} (h:loopN step N s0=some r) (hf:Gp st.l (fm s0)) (hI:Inv s0 H) (after:∀e l H',X r e l H'→K e ⟨l,st.df⟩ H'):E.sim (.loop c) st H K:=by
 subst hE;refine S0.loopN (fun n fr' H'=>∃s,loopN step n s=some r∧Dy fr' ⟨fm s,st.df⟩∧Inv s H') N ⟨s0,h,⟨fun t=>hf.wk t,rfl⟩,hI⟩ fun n fr' H' ⟨s,hs,hle,hi⟩=>?_
 cases n with
 |zero=>cases hs
 | succ n=>
  simp only[loopN]at hs
  cases ho:step s with
  |none=>rw[ho]at hs;cases hs
  | some o=>
   rw[ho]at hs
   refine S0.frLe hle ((I8 hP.1 hP.2 c _ _ _ hd (round s H' o hi ho)).mono fun e fr2 H2 ⟨st',hle',hq⟩=>?_)
   cases e with
   |normal=>
    obtain⟨s',h1,h2,h3,h4⟩:=hq;subst h1;exact⟨n,Nat.lt_succ_self n,s',hs,⟨fun t=>(hle'.s t).trans (h2.wk t),hle'.df.trans h3⟩,h4⟩
   |_=>
    obtain⟨x,l,h1,h4,h2,h3⟩:=hq;subst h1;cases hs;exact⟨⟨l,st.df⟩,⟨fun t=>(hle'.s t).trans (h2.wk t),hle'.df.trans h3⟩,after _ _ _ h4⟩
theorem Bd (cf:Cf) (hE:E=E9 P nt rd) (hP:RX P T) {σ γ R:Type} {step:σ→Option (σ ⊕ R)} {c:Code} {st:St} {H:A2} {K:Exit→St→A2→Prop} (fm:σ→γ→Fl) (Inv:σ→γ→A2→Prop) (X:R→Exit→Fl→A2→Prop) (hd:G4 cf c=true)
 (round:∀s g H o,Inv s g H→step s=some o→run E T nt cf c ⟨fm s g,st.df⟩ H fun e st' H'=>match e with
  | .normal=>∃s' g',o= .inl s'∧Gp st'.l (fm s' g')∧st'.df=st.df∧Inv s' g' H'
  |e=>∃x l,o= .inr x∧X x e l H'∧Gp st'.l l∧st'.df=st.df)
 {N:Nat} {s0:σ} (g0:γ) {r:R} (h:loopN step N s0=some r) (hf:Gp st.l (fm s0 g0)) (hI:Inv s0 g0 H) (after:∀e l H',X r e l H'→K e ⟨l,st.df⟩ H'):E.sim (.loop c) st H K:=by
 subst hE;refine S0.loopN (fun n fr' H'=>∃s g,loopN step n s=some r∧Dy fr' ⟨fm s g,st.df⟩∧Inv s g H') N ⟨s0,g0,h,⟨fun t=>hf.wk t,rfl⟩,hI⟩ fun n fr' H' ⟨s,g,hs,hle,hi⟩=>?_
 cases n with
 |zero=>cases hs
 | succ n=>
  simp only[loopN]at hs
  cases ho:step s with
  |none=>rw[ho]at hs;cases hs
  | some o=>
   rw[ho]at hs
   refine S0.frLe hle ((I8 hP.1 hP.2 c _ _ _ hd (round s g H' o hi ho)).mono fun e fr2 H2 ⟨st',hle',hq⟩=>?_)
   cases e with
   |normal=>
    obtain⟨s',g',h1,h2,h3,h4⟩:=hq;subst h1;exact⟨n,Nat.lt_succ_self n,s',g',hs,⟨fun t=>(hle'.s t).trans (h2.wk t),hle'.df.trans h3⟩,h4⟩
   |_=>
    obtain⟨x,l,h1,h4,h2,h3⟩:=hq;subst h1;cases hs;exact⟨⟨l,st.df⟩,⟨fun t=>(hle'.s t).trans (h2.wk t),hle'.df.trans h3⟩,after _ _ _ h4⟩
theorem Ny {f:FuncId}{fn:Func}{c:Code}{n:Nat}{rs:List ResultVar}{args:List V}{r:V}(cf:Cf)(hP:RX P T)(hf:P.funcs[f]? =some fn)(hb:fn.body=some c)(hd:G4 cf c=true)
 (hcall:∀vals w,(callFunc f vals).run P w= .ok (.enter f vals) w) (hnt:fn.ntmps=n) (hrs:fn.results.toList=rs) (hn:Nat.ble args.length n=true)
 (h:∀(E:CV) (H:A2) (K:V→A2→Prop),E=E9 P n none→(∀x L H',B7 Eq H L H'→AW x r→K x H')→run E T n cf c ⟨BM args 0,[]⟩ H (MI E T rs K)):B2 P f args r:=fun H=>by
 refine(W7 (K:=fun x H'=>∃y H2,AW x y∧Gq H2 H'∧y=r∧H2=H) cf hP.1 hP.2 hf hb hd hcall hnt hrs hn fun E hE=>?_).le;exact h E H _ hE fun x L H' hO hx=>⟨r,H,hx,hO.ext,rfl,rfl⟩
end
end Go.Ab
namespace Go.Ab
open Go.RowKit
variable [G7][Ar]
abbrev DB :Eu:=.obj (.deferred (some []))
section
variable {P:Program}{nt:Nat}{rd:Option Nat}{T:Et}{E:CV}
theorem Jc (hE:E=E9 P nt rd) {Φ:A2→A2→Prop} {H0 H:A2} {L:List En} (hO:B7 Φ H0 L H) (i:Nat) {d:Nat} {k:A2→Prop} (hi:L[i]? =some (.blk d DB)) (hk:∀H',B7 Φ H0 (L.eraseIdx i) H'→k H'):E.fin [d] H k:=by
 subst hE;have hd:=hO.get i hi;refine⟨⟨by simp,fun id hid=>?_⟩,?_⟩
 ·simp at hid;subst hid;exact hd
 have e:clear H [d]=upd H d none:=by
  funext x;simp only[clear,upd,List.mem_singleton]
 rw[e];exact hk _ (hO.del i hi)
def An (P:Program)(f:FuncId)(args:List V)(Q:V→Prop):Prop:=∀H,H6 P f args H fun x H'=>Q x∧H'=H
theorem An.args {f:FuncId}{xs ys:List V}{Q:V→Prop}(h:An P f ys Q)(k:G3 xs ys):An P f xs Q:=fun H=>(h H).args k
theorem B2.q {f:FuncId}{args:List V}{r:V}{Q:V→Prop}(h:B2 P f args r)(hq:Q r):An P f args Q:=fun H=>(h H).mono fun x H' ⟨e1,e2⟩=>⟨e1▸hq,e2⟩
theorem Hy (hE:E=E9 P nt rd){R S:Type}{m:Option S}{F:S→Option R}{r:R}{f:FuncId}{args args':List V}{Q:S→V→Prop}{H:A2}{k:V→A2→Prop}(h:m.bind F=some r)(hc:∀x,m=some x→An P f args' (Q x))(hl:G3 args args')
 (hk:∀x v,Q x v→F x=some r→k v H):E.call (.func (.func f) [] []) args H k:=by
 subst hE;obtain⟨x,h1,h2⟩:=bind_some h
 have h3:H6 P f args H k:=((hc x h1).args hl H).mono fun v H' ⟨hq,hH⟩=>by subst hH;exact hk x v hq h2
 exact H6.value (F:=[]) (C:=[]) (by simpa using h3)
theorem Q9 {f:FuncId}{fn:Func}{c:Code}{n:Nat}{rs:List ResultVar}{args:List V}{Q:V→Prop}(cf:Cf)(hP:RX P T)(hf:P.funcs[f]? =some fn)(hb:fn.body=some c)(hd:G4 cf c=true)
 (hcall:∀vals w,(callFunc f vals).run P w= .ok (.enter f vals) w) (hnt:fn.ntmps=n) (hrs:fn.results.toList=rs) (hn:Nat.ble args.length n=true)
 (h:∀(E:CV) (H:A2) (K:V→A2→Prop),E=E9 P n none→(∀x L H',B7 Eq H L H'→Q x→K x H')→run E T n cf c ⟨BM args 0,[]⟩ H (MI E T rs K)):An P f args Q:=fun H=>by
 refine(W7 (K:=fun x H'=>∃y H2,AW x y∧Gq H2 H'∧Q y∧H2=H) cf hP.1 hP.2 hf hb hd hcall hnt hrs hn fun E hE=>?_).le;exact h E H _ hE fun x L H' hO hx=>⟨x,H,.refl _,hO.ext,hx,rfl⟩
def QU :List Nat→List V→Fl→Fl
 |p::ps,x::xs,l=>QU ps xs ((p,.v x)::l)
 |_,_,l=>l
theorem Pg :∀(ps:List Nat) (xs:List V) (l:Fl) (t:Nat),DX (fun t=>AM l t) ps xs t=AM (QU ps xs l) t
 |[],xs,l,t=>by cases xs<;>rfl
 |p::ps,[],l,t=>rfl
 |p::ps,x::xs,l,t=>by
  simp only[DX,QU];rw[←Pg ps xs]
  congr 1
  funext q
  rw[UF];rfl
def Yt :Exit→Option Code
 | .ret=>some .ret
 | .exit k=>some (.exit k)
 |_=>none
variable {α σ R ι:Type}
def RgI (enc:α→List V)(step:σ→α→Option (σ ⊕ R))(o:σ ⊕ R)(Inv:σ→A2→A2→Prop)(l:List (List V))(F H:A2):Prop:=
 ∃q:σ×List α,(l=q.2.map enc∧H7 step q.2 q.1=some o)∧Inv q.1 F H
def RgD (o:σ ⊕ R)(X:R→Exit→A2→A2→Prop)(c:Code)(F H:A2):Prop:=∃q:R×Exit,(o= .inr q.1∧Yt q.2=some c)∧X q.1 q.2 F H
def RgJ (enc:α→List V)(step:σ→α→Option (σ ⊕ R))(o:σ ⊕ R)(fJ:ι→σ→α→Fl)(J:ι→σ→α→A2→A2→Prop)(x:List V)(l:List (List V))(fr:Fr)(F H:A2):Prop:=
 ∃q:ι×σ×α×List α,(x=enc q.2.2.1∧l=q.2.2.2.map enc∧H7 step (q.2.2.1::q.2.2.2) q.2.1=some o∧Dy fr ⟨fJ q.1 q.2.1 q.2.2.1,[]⟩)∧J q.1 q.2.1 q.2.2.1 F H
section
variable {enc:α→List V}{step:σ→α→Option (σ ⊕ R)}{g:Operand}{ps:Array Tmp}{asg body:Code}{st:St}{H:A2}{K:Exit→St→A2→Prop}
 {xs:List α} {s0:σ} {o:σ ⊕ R}
theorem VN (cf:Cf) (hP:RX P T) {Inv:σ→A2→A2→Prop} {fJ:ι→σ→α→Fl} {J:ι→σ→α→A2→A2→Prop} (hda:G4 cf asg=true)
 (asgP:∀(E':CV) (id:Nat) y s F H,E'=E9 P nt (some id)→Inv s F H→run E' T nt cf asg ⟨QU ps.toList (enc y) st.l,[]⟩ H fun e st' H'=>match e with| .normal=>∃i,J i s y F H'∧Gp st'.l (fJ i s y)∧st'.df=[]|_=>False):
 ∀(id:Nat) (L:LpI) x l F H,RgI enc step o Inv (x::l) F H→F id=some (.loop L)→x.length=ps.size→S0 P nt (some id) asg ⟨DX (D8 st).s ps.toList x,[]⟩ H fun e fr' H1=>e= .normal∧RgJ enc step o fJ J x l fr' F H1:=by
 intro id L x l F H ⟨⟨s,ys⟩,⟨hl,hr⟩,hi⟩ _ _
 cases ys with
 |nil=>cases hl
 | cons y ys=>
  simp only[List.map_cons,List.cons.injEq]at hl
  obtain⟨rfl,rfl⟩:=hl
  have e:(⟨DX (D8 st).s ps.toList (enc y),[]⟩:Fr)=D8 ⟨QU ps.toList (enc y) st.l,[]⟩:=by
   simp only[D8,Fr.mk.injEq,and_true]
   funext t
   exact Pg _ _ _ _
  rw[e];refine(I8 hP.1 hP.2 asg _ _ _ hda (asgP _ id y s F H rfl hi)).mono fun e fr' H1 ⟨st',hle,hq⟩=>?_
  cases e with
  |normal=>
   obtain⟨i,hj,hl,hdf⟩:=hq;exact⟨rfl,⟨i,s,y,ys⟩,⟨rfl,rfl,hr,fun t=>(hle.s t).trans (hl.wk t),hle.df.trans hdf⟩,hj⟩
  |_=>exact hq.elim
theorem XE (cf:Cf) (hP:RX P T) {Inv:σ→A2→A2→Prop} {X:R→Exit→A2→A2→Prop} {fJ:ι→σ→α→Fl} {J:ι→σ→α→A2→A2→Prop} (hdb:G4 cf body=true)
 (bodyP:∀(E':CV) (id:Nat) i y s F H o',E'=E9 P nt (some id)→(∃L,F id=some (.loop L))→step s y=some o'→J i s y F H→run E' T nt cf body ⟨fJ i s y,[]⟩ H fun e _ H'=>match e with
  | .normal=>∃s',o'= .inl s'∧Inv s' F H'
  |e=>∃r,o'= .inr r∧(Yt e).isSome=true∧X r e F H'):
 ∀(id:Nat) (L:LpI) x l fr' F H,RgJ enc step o fJ J x l fr' F H→F id=some (.loop L)→S0 P nt (some id) body fr' H fun e _ H'=>Ry (RgI enc step o Inv l) (RgD o X) F e H':=by
 intro id L x l fr' F H ⟨⟨i,s,y,ys⟩,⟨hx,hl,hr,hf⟩,hj⟩ hL;subst hx;subst hl
 simp only[H7]at hr
 cases ho:step s y with
 |none=>rw[ho]at hr;cases hr
 | some o'=>
  rw[ho]at hr
  refine S0.frLe hf ((I8 hP.1 hP.2 body _ _ _ hdb (bodyP _ id i y s F H o' rfl ⟨L,hL⟩ ho hj)).mono fun e fr2 H2 ⟨st',hle,hq⟩=>?_)
  cases e with
  |normal=>
   obtain⟨s',h1,h2⟩:=hq;subst h1;exact⟨⟨s',ys⟩,⟨rfl,hr⟩,h2⟩
  |ret=>
   obtain⟨r,h1,h2,h3⟩:=hq;subst h1;exact⟨⟨r,.ret⟩,⟨by cases hr;rfl,rfl⟩,h3⟩
  |exit k=>
   obtain⟨r,h1,h2,h3⟩:=hq;subst h1;exact⟨⟨r,.exit k⟩,⟨by cases hr;rfl,rfl⟩,h3⟩
  |_=>
   obtain⟨r,h1,h2,h3⟩:=hq;cases h2
theorem La (cf:Cf) (hE:E=E9 P nt none) (hP:RX P T) (Inv:σ→A2→A2→Prop) (X:R→Exit→A2→A2→Prop) (fJ:ι→σ→α→Fl) (J:ι→σ→α→A2→A2→Prop)
 (hI:∀s,E0 (Inv s)) (hX:∀r e,E0 (X r e)) (hJ:∀i s y,E0 (J i s y)) (hit:EU P ((N1 [] st.l g).V) (xs.map enc)) (h:H7 step xs s0=some o) {F:A2} (h0:Inv s0 F H)
 (hnt:∀p∈ps,p<nt) (hps:∀x,(enc x).length=ps.size) (hda:G4 cf asg=true) (hdb:G4 cf body=true)
 (asgP:∀(E':CV) (id:Nat) y s F H,E'=E9 P nt (some id)→Inv s F H→run E' T nt cf asg ⟨QU ps.toList (enc y) st.l,[]⟩ H fun e st' H'=>match e with| .normal=>∃i,J i s y F H'∧Gp st'.l (fJ i s y)∧st'.df=[]|_=>False)
 (bodyP:∀(E':CV) (id:Nat) i y s F H o',E'=E9 P nt (some id)→(∃L,F id=some (.loop L))→step s y=some o'→J i s y F H→run E' T nt cf body ⟨fJ i s y,[]⟩ H fun e _ H'=>match e with
  | .normal=>∃s',o'= .inl s'∧Inv s' F H'
  |e=>∃r,o'= .inr r∧(Yt e).isSome=true∧X r e F H')
 (done:∀d s H',o= .inl s→F d=none→Inv s (upd F d (some DB)) H'→K .normal ⟨st.l,d::st.df⟩ H')
 (stop:∀d r e H',o= .inr r→F d=none→X r e (upd F d (some DB)) H'→K e ⟨st.l,d::st.df⟩ H'):E.sim (.rangeFunc g ps asg body) st H K:=by
 subst hE;have hev:ev (D8 st) g=(N1 [] st.l g).V:=(Cn (df:=st.df) Gv.nil g).symm
 rw[←hev]at hit
 have sI:∀l,E0 (RgI enc step o Inv l):=fun l=>E0.ex fun q=>hI q.1;have sD:∀c,E0 (RgD o X c):=fun c=>E0.ex fun q=>hX q.1 q.2;have sJ:∀x l fr,E0 (RgJ enc step o fJ J x l fr):=fun x l fr=>E0.ex fun q=>hJ q.1 q.2.1 q.2.2.1;refine S0.rangeOuter (nt:=nt) hnt (fun x hx=>?_) hit (RgI enc step o Inv) (RgD o X) sI sD (RgJ enc step o fJ J) sJ ⟨⟨s0,xs⟩,⟨rfl,h⟩,h0⟩ (VN cf hP hda asgP) (XE cf hP hdb bodyP) (fun d H' hd ⟨⟨s,ys⟩,⟨hl,hr⟩,hi⟩=>?_) fun c d H' hd ⟨⟨r,e⟩,⟨ho,hj⟩,hx⟩=>?_
 ·obtain⟨y,_,rfl⟩:=List.mem_map.1 hx;exact hps y
 ·have hys:ys=[]:=by
   cases ys with
   |nil=>rfl
   |cons _ _=>cases hl
  subst hys;cases hr;exact⟨⟨st.l,d::st.df⟩,⟨fun t=>Wk.refl _,rfl⟩,done d s H' rfl hd hi⟩
 have hk:=stop d r e H' ho hd hx
 cases e with
 |ret=>cases hj;exact S0.ret ⟨⟨st.l,d::st.df⟩,⟨fun t=>Wk.refl _,rfl⟩,hk⟩
 |exit k=>cases hj;exact S0.exit ⟨⟨st.l,d::st.df⟩,⟨fun t=>Wk.refl _,rfl⟩,hk⟩
 |_=>cases hj
end
end
theorem B7.dblk {Φ:A2→A2→Prop} {H0 H:A2} {L:List En} {d:Nat} (hd:H0 d=none) (h:B7 Φ (upd H0 d (some DB)) L H):B7 Φ H0 (L++[.blk d DB]) H:=by
 obtain⟨hs,F',H1,h0,h1,h2⟩:=h;refine⟨hs,F',H1,⟨fun x b hx=>h0.ext x b ?_,fun i e x b hi he=>?_,fun i j e e' x b b' hi hj he he'=>?_,fun x b hx=>?_⟩,h1,h2⟩
 rotate_right
 ·rcases h0.only x b hx with h|⟨i,e,hi,he⟩
  ·by_cases hxd:x=d
   ·subst hxd;rw[B1]at h;cases h;exact .inr ⟨L.length,.blk x DB,by simp,rfl⟩
   rw[A3 _ _ hxd]at h;exact .inl h
  refine .inr ⟨i,e,?_,he⟩
  rcases Nat.lt_or_ge i L.length with hlt|hge
  ·rw[List.getElem?_append_left hlt];exact hi
  rw[List.getElem?_eq_none hge]at hi;cases hi
 ·rw[A3 _ _ (O3 hd hx)];exact hx
 ·rcases Nat.lt_or_ge i L.length with hlt|hge
  ·rw[List.getElem?_append_left hlt]at hi
   have:=h0.has i e x b hi he;refine⟨?_,this.2⟩
   have hne:x≠d:=fun eq=>by subst eq;rw[B1]at this;cases this.1
   rw[A3 _ _ hne]at this;exact this.1
  rw[List.getElem?_append_right hge]at hi
  cases hm:i - L.length with
  |zero=>rw[hm]at hi;simp at hi;subst hi;cases he;exact⟨hd,h0.ext _ _ (B1 _ _ _)⟩
  |succ m=>rw[hm]at hi;simp at hi
 have hDB:∀(i:Nat) e,(L++[.blk d DB])[i]? =some e→(i<L.length∧L[i]? =some e)∨(i=L.length∧e= .blk d DB):=fun i e hi=>by
  rcases Nat.lt_or_ge i L.length with hlt|hge
  ·rw[List.getElem?_append_left hlt]at hi;exact .inl ⟨hlt,hi⟩
  rw[List.getElem?_append_right hge]at hi
  cases hm:i - L.length with
  |zero=>rw[hm]at hi;simp at hi;exact .inr ⟨by omega,hi.symm⟩
  |succ m=>rw[hm]at hi;simp at hi
 have nd:∀(i:Nat) e x b,L[i]? =some e→e.id=some (x,b)→x≠d:=fun m e x b hm he eq=>by
  have:=(h0.has m e x b hm he).1
  rw[eq,B1]at this;cases this
 rcases hDB i e hi with⟨_,ki⟩|⟨ki,rfl⟩<;>rcases hDB j e' hj with⟨_,kj⟩|⟨kj,rfl⟩
 ·exact h0.inj i j e e' x b b' ki kj he he'
 ·cases he';exact absurd rfl (nd i e _ b ki he)
 ·cases he;exact absurd rfl (nd j e' _ b' kj he')
 rw[ki,kj]
end Go.Ab
namespace Go.Ab
open Go.RowKit
variable [G7][Ar]
def Lp (P:Program)(yv:V)(I:List (List V)→A2→A2→Prop)(D:A2→A2→Prop):Prop:=
 (yv.one=true∧yv.cells=[yv])∧∀x l F H,I (x::l) F H→AV P yv x H fun r H'=>(r= .bool true∧I l F H')∨(r= .bool false∧D F H')
def FE (P:Program)(f:FuncId)(args:V→List V)(xs:List (List V))(rb:V→Bool→Prop):Prop:=
 ∀yv I D,(∀l,E0 (I l))→E0 D→Lp P yv I D→∀tl F H,I (xs++tl) F H→H6 P f (args yv) H fun v H'=>(rb v true∧I tl F H')∨(rb v false∧D F H')
def rbB (v:V)(b:Bool):Prop:=v= .bool b
def rbN (_:V)(_:Bool):Prop:=True
section
variable {P:Program}{nt:Nat}{rd:Option Nat}{T:Et}{E:CV}{I:List (List V)→A2→A2→Prop}{D:A2→A2→Prop}
theorem AV.heap {fv:V}{args:List V}{H H1:A2}{K:V→A2→Prop}(h:AV P fv args H1 K)(hl:Gq H1 H):AV P fv args H K:=
 fun g w v vals hR hv hA=>h g w v vals (hR.less hl) hv hA
theorem H6.heap {f:FuncId}{args:List V}{H H1:A2}{K:V→A2→Prop}(h:H6 P f args H1 K)(hl:Gq H1 H):H6 P f args H K:=
 fun g w vals hR hA=>h g w vals (hR.less hl) hA
theorem DG (hE:E=E9 P nt rd)(hI:∀l,E0 (I l))(hD:E0 D){yv:V}(hy:Lp P yv I D){F H:A2}{L:List En}{args x:List V}{l:List (List V)}{k:V→A2→Prop}(hO:B7 (I (x::l)) F L H)(hl:G3 args x)
 (h1:∀H',B7 (I l) F L H'→k (.bool true) H') (h2:∀H',B7 D F L H'→k (.bool false) H'):E.call yv args H k:=by
 subst hE;obtain⟨hs,F',H1,h0,hi,hle⟩:=hO;refine(AV.mono (((hy.2 x l F' H1 hi).heap hle).args hl) fun r H' hr=>?_)
 rcases hr with⟨rfl,hr⟩|⟨rfl,hr⟩
 ·exact h1 H' ⟨hI l,F',H',h0,hr,Gq.refl _⟩
 exact h2 H' ⟨hD,F',H',h0,hr,Gq.refl _⟩
theorem Pj (hE:E=E9 P nt rd) (hI:∀l,E0 (I l)) (hD:E0 D) {yv:V} (hy:Lp P yv I D) {f:FuncId} {args':V→List V} {xs tl:List (List V)} {rb:V→Bool→Prop} (hc:FE P f args' xs rb) {F H:A2} {L:List En} {args:List V} {k:V→A2→Prop} (hO:B7 (I (xs++tl)) F L H)
 (hl:G3 args (args' yv)) (h1:∀v H',rb v true→B7 (I tl) F L H'→k v H') (h2:∀v H',rb v false→B7 D F L H'→k v H'):E.call (.func (.func f) [] []) args H k:=by
 subst hE;obtain⟨hs,F',H1,h0,hi,hle⟩:=hO
 have h3:H6 P f args H k:=(((hc yv I D hI hD hy tl F' H1 hi).heap hle).args hl).mono fun v H' hr=>by
  rcases hr with⟨hb,hr⟩|⟨hb,hr⟩
  ·exact h1 v H' hb ⟨hI tl,F',H',h0,hr,Gq.refl _⟩
  exact h2 v H' hb ⟨hD,F',H',h0,hr,Gq.refl _⟩
 exact H6.value (F:=[]) (C:=[]) (by simpa using h3)
theorem HR (hE:E=E9 P nt rd){c:Bool}{x y:Unit→Prop}(hc:c=true)(h:x ()):E.br c x y:=by subst hE;exact⟨fun _=>h,fun e=>by rw[hc]at e;cases e⟩
theorem HS (hE:E=E9 P nt rd){c:Bool}{x y:Unit→Prop}(hc:c=false)(h:y ()):E.br c x y:=by subst hE;exact⟨fun e=>(by rw[hc]at e;cases e),fun _=>h⟩
theorem N4 {f:FuncId} {fn:Func} {c:Code} {n:Nat} {rs:List ResultVar} {args:V→List V} {xs:List (List V)} {rb:V→Bool→Prop} (cf:Cf) (hP:RX P T) (hf:P.funcs[f]? =some fn) (hb:fn.body=some c) (hd:G4 cf c=true)
 (hcall:∀vals w,(callFunc f vals).run P w= .ok (.enter f vals) w) (hnt:fn.ntmps=n) (hrs:fn.results.toList=rs) (hn:∀yv,Nat.ble (args yv).length n=true)
 (h:∀(yv:V) (I:List (List V)→A2→A2→Prop) (D:A2→A2→Prop),(∀l,E0 (I l))→E0 D→Lp P yv I D→∀(tl:List (List V)) (F:A2) (E:CV) (H:A2) (K:V→A2→Prop),E=E9 P n none→B7 (I (xs++tl)) F [] H→
  (∀x L H',B7 (I tl) F L H'→rb x true→K x H')→(∀x L H',B7 D F L H'→rb x false→K x H')→run E T n cf c ⟨BM (args yv) 0,[]⟩ H (MI E T rs K)):FE P f args xs rb:=by
 intro yv I D hI hD hy tl F H hi;refine(W7 (K:=fun x H'=>∃y H2,AW x y∧Gq H2 H'∧((rb y true∧I tl F H2)∨(rb y false∧D F H2))) cf hP.1 hP.2 hf hb hd hcall hnt hrs (hn yv) fun E hE=>?_).le;refine h yv I D hI hD hy tl F E H _ hE (B7.start (hI _) hi) (fun x L H' hO hx=>?_) fun x L H' hO hx=>?_
 ·obtain⟨H2,h1,h2⟩:=hO.out;exact⟨x,H2,.refl _,h2,.inl ⟨hx,h1⟩⟩
 obtain⟨H2,h1,h2⟩:=hO.out;exact⟨x,H2,.refl _,h2,.inr ⟨hx,h1⟩⟩
theorem U6 {f:FuncId}{C:List V}{xs:List (List V)}{rb:V→Bool→Prop}(hcall:∀vals w,(callFunc f vals).run P w= .ok (.enter f vals) w)(h:FE P f (fun yv=>yv::C) xs rb):EU P (.func (.func f) [] C) xs:=
 ⟨f,C,rfl,hcall,fun yv I D hI hD hy F H hi=>(h yv I D hI hD hy [] F H (by rwa[List.append_nil])).mono fun v H' hr=>hr.imp (fun h=>h.2) fun h=>h.2⟩
theorem B7.cast {Φ:A2→A2→Prop}{H0 H:A2}{L L':List En}(h:B7 Φ H0 L H)(e:L=L'):B7 Φ H0 L' H:=e▸h
theorem Ci (cf:Cf) (hE:E=E9 P nt rd) (hP:RX P T) {β σ γ R:Type} {step:σ→Option (List β×(σ ⊕ R))} {c:Code} {st:St} {H:A2} {K:Exit→St→A2→Prop} (fm:σ→γ→Fl) (Inv:σ→γ→List β→A2→Prop) (X:R→Exit→Fl→List β→A2→Prop) (Xa:Exit→Fl→A2→Prop) (hd:G4 cf c=true)
 (round:∀s g w1 w2 H o,Inv s g (w1++w2) H→step s=some (w1,o)→run E T nt cf c ⟨fm s g,st.df⟩ H fun e st' H'=>match e with
  | .normal=>∃s' g',o= .inl s'∧Gp st'.l (fm s' g')∧st'.df=st.df∧Inv s' g' w2 H'
  |e=>(∃x l,o= .inr x∧X x e l w2 H'∧Gp st'.l l∧st'.df=st.df)∨∃l,Xa e l H'∧Gp st'.l l∧st'.df=st.df)
 {N:Nat} {s0:σ} (g0:γ) {w w':List β} {r:R} (h:V4 step N s0=some (w,r)) (hf:Gp st.l (fm s0 g0)) (hI:Inv s0 g0 (w++w') H) (after:∀e l H',X r e l w' H'→K e ⟨l,st.df⟩ H') (afterA:∀e l H',Xa e l H'→K e ⟨l,st.df⟩ H'):E.sim (.loop c) st H K:=by
 subst hE;refine S0.loopN (fun n fr' H'=>∃s g w,V4 step n s=some (w,r)∧Dy fr' ⟨fm s g,st.df⟩∧Inv s g (w++w') H') N ⟨s0,g0,w,h,⟨fun t=>hf.wk t,rfl⟩,hI⟩ fun n fr' H' ⟨s,g,w,hs,hle,hi⟩=>?_
 cases n with
 |zero=>cases hs
 | succ n=>
  simp only[V4]at hs
  cases ho:step s with
  |none=>rw[ho]at hs;cases hs
  | some p=>
   obtain⟨w1,o⟩:=p
   rw[ho]at hs
   obtain⟨w2,hw,hrest⟩:∃w2,w=w1++w2∧match o with| .inl s'=>V4 step n s'=some (w2,r)| .inr x=>x=r∧w2=[]:=by
    cases o with
    |inl s'=>
     simp only at hs
     split at hs
     ·cases hs
     rename_i w2 x hx;cases hs;exact⟨w2,rfl,hx⟩
    |inr x=>cases hs;exact⟨[],by simp,rfl,rfl⟩
   subst hw
   rw[List.append_assoc]at hi
   refine S0.frLe hle ((I8 hP.1 hP.2 c _ _ _ hd (round s g w1 (w2++w') H' o hi ho)).mono fun e fr2 H2 ⟨st',hle',hq⟩=>?_)
   have exits:∀e,((∃x l,o= .inr x∧X x e l (w2++w') H2∧Gp st'.l l∧st'.df=st.df)∨∃l,Xa e l H2∧Gp st'.l l∧st'.df=st.df)→∃st'',Dy fr2 st''∧K e st'' H2:=by
    intro e hq
    rcases hq with⟨x,l,h1,h4,h2,h3⟩|⟨l,h4,h2,h3⟩
    ·subst h1;obtain⟨rfl,rfl⟩:=hrest;exact⟨⟨l,st.df⟩,⟨fun t=>(hle'.s t).trans (h2.wk t),hle'.df.trans h3⟩,after _ _ _ h4⟩
    exact⟨⟨l,st.df⟩,⟨fun t=>(hle'.s t).trans (h2.wk t),hle'.df.trans h3⟩,afterA _ _ _ h4⟩
   cases e with
   |normal=>
    obtain⟨s',g',h1,h2,h3,h4⟩:=hq;subst h1;exact⟨n,Nat.lt_succ_self n,s',g',w2,hrest,⟨fun t=>(hle'.s t).trans (h2.wk t),hle'.df.trans h3⟩,h4⟩
   |_=>exact exits _ hq
end
section
variable {P:Program}{nt:Nat}{T:Et}{E:CV}{α β σ R ι:Type}
def REI (enc:α→List V)(step:σ→α→Option (List β×(σ ⊕ R)))(o:σ ⊕ R)(w':List β)(Inv:σ→List β→A2→A2→Prop)(l:List (List V))(F H:A2):Prop:=
 ∃q:σ×List α×List β,(l=q.2.1.map enc∧Bl step q.2.1 q.1=some (q.2.2,o))∧Inv q.1 (q.2.2++w') F H
def RED (o:σ ⊕ R)(w':List β)(X:R→Exit→List β→A2→A2→Prop)(Xa:Exit→A2→A2→Prop)(c:Code)(F H:A2):Prop:=
 (∃q:R×Exit,(o= .inr q.1∧Yt q.2=some c)∧X q.1 q.2 w' F H)∨∃q:Exit,Yt q=some c∧Xa q F H
def REJ (enc:α→List V)(step:σ→α→Option (List β×(σ ⊕ R)))(o:σ ⊕ R)(w':List β)(fJ:ι→σ→α→Fl)(J:ι→σ→α→List β→A2→A2→Prop)(x:List V)(l:List (List V))(fr:Fr)(F H:A2):Prop:=
 ∃q:ι×σ×α×List α×List β,(x=enc q.2.2.1∧l=q.2.2.2.1.map enc∧Bl step (q.2.2.1::q.2.2.2.1) q.2.1=some (q.2.2.2.2,o)∧Dy fr ⟨fJ q.1 q.2.1 q.2.2.1,[]⟩)∧J q.1 q.2.1 q.2.2.1 (q.2.2.2.2++w') F H
theorem E0.or {I J:A2→A2→Prop}(h:E0 I)(k:E0 J):E0 fun F H=>I F H∨J F H:=
 ⟨fun hh=>hh.elim (fun x=>h.le x) fun x=>k.le x,fun id b hh e=>hh.imp (fun x=>h.chg id b x e) fun x=>k.chg id b x e⟩
variable {enc:α→List V}{step:σ→α→Option (List β×(σ ⊕ R))}{g:Operand}{ps:Array Tmp}{asg body:Code}{st:St}{H:A2}{K:Exit→St→A2→Prop}
 {xs:List α} {s0:σ} {o:σ ⊕ R} {w w':List β}
theorem XX (cf:Cf) (hE:E=E9 P nt none) (hP:RX P T) (Inv:σ→List β→A2→A2→Prop) (X:R→Exit→List β→A2→A2→Prop) (Xa:Exit→A2→A2→Prop) (fJ:ι→σ→α→Fl) (J:ι→σ→α→List β→A2→A2→Prop)
 (hI:∀s w,E0 (Inv s w)) (hX:∀r e w,E0 (X r e w)) (hXa:∀e,E0 (Xa e)) (hJ:∀i s y w,E0 (J i s y w)) (hit:EU P ((N1 [] st.l g).V) (xs.map enc)) (h:Bl step xs s0=some (w,o)) {F:A2} (h0:Inv s0 (w++w') F H)
 (hnt:∀p∈ps,p<nt) (hps:∀x,(enc x).length=ps.size) (hda:G4 cf asg=true) (hdb:G4 cf body=true)
 (asgP:∀(E':CV) (id:Nat) y s w F H,E'=E9 P nt (some id)→Inv s w F H→run E' T nt cf asg ⟨QU ps.toList (enc y) st.l,[]⟩ H fun e st' H'=>match e with| .normal=>∃i,J i s y w F H'∧Gp st'.l (fJ i s y)∧st'.df=[]|_=>False)
 (bodyP:∀(E':CV) (id:Nat) i y s w1 w2 F H o',E'=E9 P nt (some id)→(∃L,F id=some (.loop L))→step s y=some (w1,o')→J i s y (w1++w2) F H→run E' T nt cf body ⟨fJ i s y,[]⟩ H fun e _ H'=>match e with
  | .normal=>∃s',o'= .inl s'∧Inv s' w2 F H'
  |e=>(∃r,o'= .inr r∧(Yt e).isSome=true∧X r e w2 F H')∨((Yt e).isSome=true∧Xa e F H'))
 (done:∀d s H',o= .inl s→F d=none→Inv s w' (upd F d (some DB)) H'→K .normal ⟨st.l,d::st.df⟩ H')
 (stop:∀d r e H',o= .inr r→F d=none→X r e w' (upd F d (some DB)) H'→K e ⟨st.l,d::st.df⟩ H')
 (stopA:∀d e H',F d=none→Xa e (upd F d (some DB)) H'→K e ⟨st.l,d::st.df⟩ H'):E.sim (.rangeFunc g ps asg body) st H K:=by
 subst hE;have hev:ev (D8 st) g=(N1 [] st.l g).V:=(Cn (df:=st.df) Gv.nil g).symm
 rw[←hev]at hit
 have sI:∀l,E0 (REI enc step o w' Inv l):=fun l=>E0.ex fun q=>hI q.1 _;have sD:∀c,E0 (RED o w' X Xa c):=fun c=>E0.or (E0.ex fun q=>hX q.1 q.2 w') (E0.ex fun q=>hXa q);have sJ:∀x l fr,E0 (REJ enc step o w' fJ J x l fr):=fun x l fr=>E0.ex fun q=>hJ q.1 q.2.1 q.2.2.1 _;refine S0.rangeOuter (nt:=nt) hnt (fun x hx=>?_) hit (REI enc step o w' Inv) (RED o w' X Xa) sI sD (REJ enc step o w' fJ J) sJ ⟨⟨s0,xs,w⟩,⟨rfl,h⟩,h0⟩ ?_ ?_ (fun d H' hd ⟨⟨s,ys,w2⟩,⟨hl,hr⟩,hi⟩=>?_) fun c d H' hd hx=>?_
 ·obtain⟨y,_,rfl⟩:=List.mem_map.1 hx;exact hps y
 ·intro id L x l F H ⟨⟨s,ys,w2⟩,⟨hl,hr⟩,hi⟩ _ _
  cases ys with
  |nil=>cases hl
  | cons y ys=>
   simp only[List.map_cons,List.cons.injEq]at hl
   obtain⟨rfl,rfl⟩:=hl
   have e:(⟨DX (D8 st).s ps.toList (enc y),[]⟩:Fr)=D8 ⟨QU ps.toList (enc y) st.l,[]⟩:=by
    simp only[D8,Fr.mk.injEq,and_true]
    funext t
    exact Pg _ _ _ _
   rw[e];refine(I8 hP.1 hP.2 asg _ _ _ hda (asgP _ id y s _ F H rfl hi)).mono fun e fr' H1 ⟨st',hle,hq⟩=>?_
   cases e with
   |normal=>
    obtain⟨i,hj,hl,hdf⟩:=hq;exact⟨rfl,⟨i,s,y,ys,w2⟩,⟨rfl,rfl,hr,fun t=>(hle.s t).trans (hl.wk t),hle.df.trans hdf⟩,hj⟩
   |_=>exact hq.elim
 ·intro id L x l fr' F H ⟨⟨i,s,y,ys,w2⟩,⟨hx,hl,hr,hf⟩,hj⟩ hL;subst hx;subst hl
  simp only[Bl]at hr
  cases ho:step s y with
  |none=>rw[ho]at hr;cases hr
  | some p=>
   obtain⟨w1,o'⟩:=p
   rw[ho]at hr
   obtain⟨w3,hw,hrest⟩:∃w3,w2=w1++w3∧match o' with| .inl s'=>Bl step ys s'=some (w3,o)| .inr x=>o= .inr x∧w3=[]:=by
    cases o' with
    |inl s'=>
     simp only at hr
     split at hr
     ·cases hr
     rename_i w3 x hx;cases hr;exact⟨w3,rfl,hx⟩
    |inr x=>cases hr;exact⟨[],by simp,rfl,rfl⟩
   subst hw
   dsimp only at hj
   rw[List.append_assoc]at hj
   refine S0.frLe hf ((I8 hP.1 hP.2 body _ _ _ hdb (bodyP _ id i y s w1 (w3++w') F H o' rfl ⟨L,hL⟩ ho hj)).mono fun e fr2 H2 ⟨st',hle,hq⟩=>?_)
   have out:∀e c,Yt e=some c→((∃r,o'= .inr r∧(Yt e).isSome=true∧X r e (w3++w') F H2)∨((Yt e).isSome=true∧Xa e F H2))→RED o w' X Xa c F H2:=by
    intro e c hc hq
    rcases hq with⟨r,h1,_,h3⟩|⟨_,h3⟩
    ·subst h1;obtain⟨rfl,rfl⟩:=hrest;exact .inl ⟨⟨r,e⟩,⟨rfl,hc⟩,h3⟩
    exact .inr ⟨e,hc,h3⟩
   cases e with
   |normal=>
    obtain⟨s',h1,h2⟩:=hq;subst h1;exact⟨⟨s',ys,w3⟩,⟨rfl,hrest⟩,h2⟩
   |ret=>exact out .ret _ rfl hq
   |exit k=>exact out (.exit k) _ rfl hq
   |_=>rcases hq with⟨_,_,h,_⟩|⟨h,_⟩<;>cases h
 ·have hys:ys=[]:=by
   cases ys with
   |nil=>rfl
   |cons _ _=>cases hl
  subst hys;cases hr;exact⟨⟨st.l,d::st.df⟩,⟨fun t=>Wk.refl _,rfl⟩,done d s H' rfl hd hi⟩
 have fin:∀e,Yt e=some c→K e ⟨st.l,d::st.df⟩ H'→S0 P nt none c {D8 st with df:=d::(D8 st).df} H' fun e fr' H'=>∃st',Dy fr' st'∧K e st' H':=by
  intro e hj hk
  cases e with
  |ret=>cases hj;exact S0.ret ⟨⟨st.l,d::st.df⟩,⟨fun t=>Wk.refl _,rfl⟩,hk⟩
  |exit k=>cases hj;exact S0.exit ⟨⟨st.l,d::st.df⟩,⟨fun t=>Wk.refl _,rfl⟩,hk⟩
  |_=>cases hj
 rcases hx with⟨⟨r,e⟩,⟨ho,hj⟩,hx⟩|⟨e,hj,hx⟩
 ·exact fin e hj (stop d r e H' ho hd hx)
 exact fin e hj (stopA d e H' hd hx)
end
end Go.Ab
namespace Go.Ab
def inR {α:Type}(l:List α)(i:Int):Bool:=decide (0≤i∧i<(l.length:Nat))
def HG {α:Type}(l:List α)(i:Int)(u:α→α):Option (List α):=(B9 l i).map fun x=>l.set i.toNat (u x)
def WQ {α:Type}(n m:Int)(z:α):Option (List α):=if 0≤n∧n≤m∧m≤1073741824 then some (List.replicate n.toNat z)else none
end Go.Ab
