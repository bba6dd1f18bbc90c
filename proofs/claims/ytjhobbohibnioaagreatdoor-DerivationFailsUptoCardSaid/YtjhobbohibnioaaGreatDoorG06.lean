/- . -/
import Derived.Test.YtjhobbohibnioaaGreatDoorG05
set_option linter.all false
open Go.Ab.Ar (lst lst_eq)
namespace Go.Ab
open Go.RowKit
variable [O6]
section
variable {P:Program}
def Ay8 {A:XY} {o:Oper} {ρ ρ':Operand→V} {H:A5} {K:V→A5→Prop} (hρ:∀x∈o.op.operands,ρ x=ρ' x) (h:IG P A o ρ H K):IG P A o ρ' H K:=by
 have hq:∀{v},Pq P o ρ H v→Pq P o ρ' H v:=QI hρ
 unfold IG at h ⊢
 cases ho:o.op<;>simp only[ho]at h ⊢ hρ<;>first
  |exact h
  |(obtain⟨v,h1,h2⟩:=h;exact⟨v,hq h1,h2⟩)
  | (simp only[Op.operands,GH,GC,BC,or_false,forall_eq_or_imp,forall_eq]at hρ
     first
      |(rw[←hρ];exact h)
      |(rw[←hρ.1,←hρ.2];exact h)
      |(rw[←hρ.1,←hρ.2.1,←hρ.2.2];exact h))
  |skip
 ·rename_i t n ps
  have e:ps.toList.map (fun p=>(p.1,ρ p.2))=ps.toList.map (fun p=>(p.1,ρ' p.2)):=Ai fun p hp=>by rw[hρ p.2 (by simp only[Op.operands,GH,GA];grind)]
  rw[←e]
  grind
 ·rename_i op t x y _;rw[←hρ x (by simp[Op.operands]),←hρ y (by simp[Op.operands])]
  grind
 rename_i c;have hargs:c.args.toList.map ρ=c.args.toList.map ρ':=Ai fun p hp=>hρ p (by simp only[Op.operands,Call.operands,IT];simp_all);rw[←hargs]
 cases hc:c.callee with
 |value f=>
  simp only[hc]at h ⊢
  rw[←hρ f (by simp[Op.operands,Call.operands,hc])];exact h
 |builtin b=>rw[hc]at h;cases b<;>exact h
 |_=>rw[hc]at h;exact h.elim
def QB:Op→Bool
 | .move _=>true
 | .assign _=>true
 | .pick _ _ _=>true
 | .build _ _=>true
 | .binOp _ _ _ _ _=>true
 | .unOp _ _ _=>true
 | .fieldAddr _ _ _=>true
 | .field _ _ _=>true
 | .extract _ _=>true
 | .load _ _=>true
 | .call c=>match c.callee with| .builtin .len=>true|_=>false
 |_=>false
def AJ1 {A:XY}{o:Oper}{ρ:Operand→V}{H:A5}{K:V→A5→Prop}{v:V}(hs:QB o.op=true)(h:Pq P o ρ H v)(hk:K v H):IG P A o ρ H K:=by
 grind[IG,QB,Pq]
variable {A:XY}{nt:Nat}{ops:Array Oper}
def Ul (ops:Array Oper)(i:Nat):Bool:=
 QB (ops.getD i default).op&&(ops.getD i default).guard.isNone&&(List.range ops.size).all fun j=>j==i||Hn (ops.getD j default) i||Hn (ops.getD i default) j||(ops.getD i default).apart ops (ops.getD j default)
theorem AC6 {i:Nat} (hi:i<ops.size) (hf:Ul ops i=true) (hdst:Ht nt (ops.getD i default).dst=true) {K:Fr→A5→Prop} {v:V}:∀(n:Nat) (listed:Array Bool) (fr:Fr) (H:A5),i∈Region.ready .any ops listed→(∀H',Pq P (ops.getD i default) (ev fr) H' v)→
 Ad2 P A nt ops n (listed.setIfInBounds i true) (fr.put (ops.getD i default).dst v) H K→Ad2 P A nt ops (n+1) listed fr H K:=by
 simp only[Ul,K3,Ek,Cj,Y7,Gy]at hf
 obtain⟨⟨hso,hg⟩,hfree⟩:=hf
 have hg:(ops.getD i default).guard=none:=by simpa using hg
 have first:∀(fr:Fr) (H:A5) (K':Fr→A5→Prop),(∀H',Pq P (ops.getD i default) (ev fr) H' v)→K' (fr.put (ops.getD i default).dst v) H→Bc5 P A nt ops (ops.getD i default) fr H K':=fun fr H K' hq hk=>by
  refine⟨hdst,?_⟩
  have:BZ ops fr (ops.getD i default)=some true:=by simp_all[BZ]
  rw[this];exact AJ1 hso (hq H) hk
 intro n
 induction n with
 |zero=>
  intro listed fr H hr hq h;refine⟨fun e=>(by rw[e]at hr;cases hr),fun j hj=>?_⟩
  by_cases hji:j=i
  ·simp_all
  have:=Go.ready_mono hj hji
  rw[h.1]at this;cases this
 | succ n ih=>
  intro listed fr H hr hq h;refine⟨fun e=>(by rw[e]at hr;cases hr),fun j hj=>?_⟩
  by_cases hji:j=i
  ·simp_all
  have h1:=h.2 j (Go.ready_mono hj hji);obtain⟨hjs,hjl,hje⟩:=Ga hj;obtain⟨_,hil,_⟩:=Ga hr
  have hap:(ops.getD i default).apart ops (ops.getD j default)=true:=by
   grind
  obtain⟨p1,p2,p3⟩:=Oper.apart_spec hap
  have hn:∀(u:V) (H':A5),Ad2 P A nt ops n ((listed.setIfInBounds i true).setIfInBounds j true) ((fr.put (ops.getD i default).dst v).put (ops.getD j default).dst u) H' K→Ad2 P A nt ops (n+1) (listed.setIfInBounds j true) (fr.put (ops.getD j default).dst u) H' K:=fun u H' hk=>by
   refine ih _ _ _ (Go.ready_mono hr fun e=>hji e.symm) (fun H2=>QI (fun x hx=>(MG p3 x hx).symm) (hq H2)) ?_;rw[Array.setIfInBounds_comm _ _ hji,←Zj p2];exact hk
  obtain⟨hd,hs⟩:=h1;refine⟨hd,?_⟩
  rw[RF p1]at hs
  split at hs
  ·exact PN (Ay8 (MG p1) hs) fun u H' hk=>hn u H' hk
  ·grind
  omega
end
end Go.Ab
namespace Go.Ab
open Go.RowKit
variable [O6][Ar]
def Ak6:List Nat→Nat→Bool
 |[],_=>false
 |a::l,n=>match n==a with|true=>true|false=>Ak6 l n
def ZQ:∀{l:List Nat} {n:Nat},Ak6 l n=true→n∈l
 |[],_,h=>by cases h
 |a::l,n,h=>by
  unfold Ak6 at h
  cases e:n==a with
  |true=>rw[beq_iff_eq.1 e];simp
  |false=>rw[e]at h;exact Dc _ (ZQ h)
section
variable (E:FN)(T:ID)(nt:Nat)(A:Nat→Bool)(ops:Array Oper)(fl:List Nat)
def Ss (o:Oper)(l:Fl):Bool:=
 match o.op with
 | .load _ x=>(match X0 [] l x with| .v (.eref _ _)=>true|_=>false)
 |_=>true
def Kx (l:Fl):List Nat→Option Nat
 |[]=>none
 |i::r=>match Ak6 fl i with
  |true=>(match Ss (ops.getD i default) l with|true=>some i|false=>Kx l r)
  |false=>Kx l r
def Vp:Nat→Array Bool→Fl→A5→(Fl→A5→Prop)→Prop
 |0,listed,l,H,K=>match Region.ready .any ops listed with|[]=>K l H|_::_=>False
 | n +1,listed,l,H,K=>
  match Region.ready .any ops listed with
  |[]=>K l H
  | i::r=>
   match Kx ops fl l (i::r)with
   | some j=>
    (match Ht nt (ops.getD j default).dst with
     |true=>xq E T [] (ops.getD j default) l H fun s=>Vp n (listed.setIfInBounds j true) (Ex (ops.getD j default).dst (Sl.n s) l) H K
     |false=>False)
   |none=>Bi3 (i::r) fun i=>Bb7 E T nt A ops (ops.getD i default) l H fun l' H'=>Vp n (listed.setIfInBounds i true) l' H' K
end
def Iq {ops:Array Oper} {fl:List Nat} {l:Fl} {j:Nat}:∀{r:List Nat},Kx ops fl l r=some j→j∈r∧Ak6 fl j=true∧Ss (ops.getD j default) l=true
 |[],h=>by cases h
 | i::r,h=>by
  unfold Kx at h
  cases h1:Ak6 fl i with
  |true=>
   rw[h1]at h
   cases h2:Ss (ops.getD i default) l with
   |true=>rw[h2]at h;simp_all
   |false=>rw[h2]at h;have:=Iq h;simp_all
  |false=>rw[h1]at h;have:=Iq h;simp_all
section
variable {P:Program}{nt:Nat}{rd:Option Nat}{T:ID}{A:Nat→Bool}{df:List Nat}
theorem Ay6 {o:Oper} {ρ:Operand→V} {H:A5} {v:V} (hs:QB o.op=true) (hl:∀t x,o.op= .load t x→∃cs off,ρ x= .eref cs off) (h:Pq P o ρ H v) (H':A5):Pq P o ρ H' v:=by
 unfold Pq at h ⊢
 cases ho:o.op<;>simp only[ho,QB,J2]at hs h ⊢ <;>first
  |exact h
  |skip
 ·rename_i t x;obtain⟨cs,off,e⟩:=hl t x ho
  rw[e]at h ⊢
  rcases h with h|h
  ·left
   unfold JF at h ⊢
   grind
  simp_all[Oa]
 rename_i c
 cases hcc:c.callee with
 | builtin b=>
  rw[hcc]at hs h
  cases b with
  | len=>
   have h:DE P .len c.argTypes.toList (c.args.toList.map ρ) v∨OR P H .len c.argTypes.toList (c.args.toList.map ρ) v:=h
   have k:∀(ts:List TypeId) (vs:List V),OR P H .len ts vs v→OR P H' .len ts vs v:=fun ts vs h=>by
    rcases ts with _|⟨t,_|⟨t2,ts⟩⟩<;>rcases vs with _|⟨x,_|⟨x2,vs⟩⟩<;>first
     |exact h
     |exact h.elim
   grind
  |_=>cases hs
 |_=>rw[hcc]at hs;cases hs
def GR (hT:Lz P T) {ops:Array Oper} {fl:List Nat} (hfl:∀i,Ak6 fl i=true→Ul ops i=true) {K:Fl→A5→Prop}:∀(n:Nat) (listed:Array Bool) (l:Fl) (H:A5),Vp (I0 P nt rd) T nt A ops fl n listed l H K→Ad2 P A nt ops n listed (I9 ⟨l,df⟩) H fun fr H'=>∃l',fr=I9 ⟨l',df⟩∧K l' H'
 |0,listed,l,H,h=>by
  unfold Vp at h
  split at h
  ·rename_i e;exact⟨e,l,rfl,h⟩
  grind
 | n +1,listed,l,H,h=>by
  unfold Vp at h
  split at h
  ·rename_i e;exact⟨fun _=>⟨l,rfl,h⟩,fun i hi=>by rw[e]at hi;cases hi⟩
  rename_i i0 r0 e
  split at h
  ·rename_i j hj;obtain⟨j1,j2,j3⟩:=Iq hj
   rw[←e]at j1
   obtain⟨js,_,_⟩:=Ga j1;have hf:=hfl j j2
   split at h
   ·rename_i hd;obtain⟨s,hq,hk⟩:=Pr (df:=df) hT MZ.nil h
    have hso:QB (ops.getD j default).op=true:=by
     have:=hf
     simp_all[Ul]
    have hst:∀t x,(ops.getD j default).op= .load t x→∃cs off,ev (I9 ⟨l,df⟩) x= .eref cs off:=fun t x ho=>by
     unfold Ss at j3
     rw[ho]at j3
     dsimp only at j3
     split at j3
     ·rename_i cs off he;exact⟨cs,off,by rw[←Ge (df:=df) MZ.nil x,he];rfl⟩
     cases j3
    have hall:=GR hT hfl n _ _ _ hk
    rw[Q5]at hall
    have hv:slV l (Sl.n s)=s.V:=by cases s<;>rfl
    rw[hv]at hall
    grind[AC6,Ay6]
   grind
  refine⟨(fun e'=>by rw[e]at e';cases e'),fun i hi=>?_⟩
  rw[e]at hi
  have h:=Ad1 h i hi
  unfold Bb7 at h
  split at h
  ·rename_i hd;refine⟨hd,?_⟩;obtain⟨l',e,h⟩:=Fc (df:=df) 4 l h
   have e:I9 ⟨l',df⟩=I9 ⟨l,df⟩:=by simp_all[I9]
   rcases h with⟨hg,G,wr,hG,hwr,h⟩|⟨hg,h⟩
   ·rw[hg];rw[←e];refine PN (Qx (df:=df) hT hG h) fun v H' ⟨s,hv,hk⟩=>?_;subst hv;rw[←hwr s,←Q5];exact GR hT hfl n _ _ _ hk
   rw[hg];rw[←e]
   rcases h with h|⟨G,d,want,ht,hb,h⟩
   ·have:=GR hT hfl n _ _ _ h
    rw[Q5]at this
    exact this
   obtain⟨s,h⟩:=WD hT ht h;have:=GR hT hfl n _ _ _ h
   rw[Q5]at this
   simp_all[slV]
  grind
end
def TV:List Nat→Nat→Bool
 |[],_=>false
 |x::l,n=>match n==x with|true=>true|false=>TV l n
def AY3:List (Nat×Nat)→Nat→Nat
 |[],_=>0
 |(x,y)::l,n=>match Nat.beq n x with|true=>y|false=>AY3 l n
def Xv:List (Nat×Nat)→Nat→List Nat
 |[],_=>[]
 |(x,y)::l,n=>match n==x with|true=>y::Xv l n|false=>Xv l n
structure Cf where
 A:List Nat
 hk:List (Nat×Nat)
 J:List (Nat×Nat)
 JB:List Nat
 Z:List (Nat×Nat)
 W:List (Nat×Nat×List Nat)
def wAt:List (Nat×Nat×List Nat)→Nat→Option (Nat×List Nat)
 |[],_=>none
 |(q,d)::l,n=>match Nat.beq n q with|true=>some d|false=>wAt l n
def zAt:List (Nat×Nat)→Nat→List Nat
 |[],_=>[]
 |(q,d)::l,n=>match n==q with|true=>d::zAt l n|false=>zAt l n
def Be6:List (Nat×Nat)→Nat→List Nat
 |[],_=>[]
 |(q,d)::l,n=>match n==q with|true=>d::Be6 l n|false=>Be6 l n
def memP:List (Nat×Nat)→Nat→Nat→Bool
 |[],_,_=>false
 |(x,y)::l,a,b=>match Nat.beq a x&&Nat.beq b y with|true=>true|false=>memP l a b
def Vf:Code→Nat
 | .region id _ _=>id+1
 | .seq a b=>(match Vf a with|0=>Vf b|n+1=>n+1)
 | .cond _ a b=>(match Vf a with|0=>Vf b|n+1=>n+1)
 | .block _ c=>Vf c
 | .loop c=>Vf c
 | .rangeFunc _ _ a b=>(match Vf a with|0=>Vf b|n+1=>n+1)
 |_=>0
def M6 (cf:Cf):Code→Bool
 | .seq a b=>M6 cf a&&M6 cf b
 | .cond _ a b=>M6 cf a&&M6 cf b
 | .block _ c=>M6 cf c
 | .loop c=>M6 cf c
 | .rangeFunc _ _ a b=>M6 cf a&&M6 cf b
 | .region id ops true=>match TV cf.JB (id+2000000)with|true=>(Xv cf.hk (id+3000000)).all (Ul ops)|false=>Uu ops (AY3 cf.hk id)&&decide (Hh (ops.toList.take (AY3 cf.hk id))).Nodup
 |_=>true
section
variable (E:FN)(T:ID)(nt:Nat)(cf:Cf)
def At6 (c:Operand) (st:St) (ra rb:St→Prop):Prop:=
 match X0 [] st.l c with
 | .b true=>ra st
 | .b false=>rb st
 | .v (.bool t)=>
  (match c with
   | .tmp d=>E.br t (fun _=>ra ⟨Oz st.l d true,st.df⟩) (fun _=>rb ⟨Oz st.l d false,st.df⟩)
   |_=>E.br t (fun _=>ra st) (fun _=>rb st))
 |_=>False
def XL (id:Nat)(K:Exit→St→A5→Prop)(e:Exit)(st':St)(H':A5):Prop:=
 match e with
 | .exit id'=>(match Nat.beq id' id with|true=>K .normal st' H'|false=>K (.exit id') st' H')
 |e=>K e st' H'
def Bl8 (c:Operand)(a b:Code):Bool:=
 match c with
 | .tmp d=>memP cf.J d (match Vf a with|0=>Vf b|n+1=>n+1)
 |_=>false
def run:Code→St→A5→(Exit→St→A5→Prop)→Prop
 | .skip,st,H,K=>K .normal st H
 | .ret,st,H,K=>K .ret st H
 | .exit id,st,H,K=>K (.exit id) st H
 | .seq a b,st,H,K=>run a st H fun e st' H'=>match e with| .normal=>run b st' H' K|e=>K e st' H'
 | .cond c a b,st,H,K=>
  (match Bl8 cf c a b with
   |true=>E.sim (.cond c a b) st H K
   |false=>At6 E c st (fun st=>run a st H K) (fun st=>run b st H K))
 | .block id c,st,H,K=>
  (match TV cf.JB id with
   |true=>E.sim (.block id c) st H K
   |false=>run c st H (XL id K))
 | .region _ ops false,st,H,K=>Ps E T nt (TV cf.A) (zAt cf.Z) ops ops.toList st.l H fun l' H'=>K .normal ⟨l',st.df⟩ H'
 | .region id ops true,st,H,K=>
  (match TV cf.JB (id+2000000)with
   |true=>E.sim (.region id ops true) st H K
   |false=>
    Pt E none (Be6 cf.Z (id+400000000)) st.l H fun l H=>AE1 E T nt (TV cf.A) (wAt cf.W id) (AY3 cf.hk id) ops l H fun l' H'=>K .normal ⟨l',st.df⟩ H')
 |c,st,H,K=>E.sim c st H K
def AH1:Code→St→A5→(Exit→St→A5→Prop)→Prop
 | .cond c a b,st,H,K=>At6 E c st (fun st=>run E T nt cf a st H K) (fun st=>run E T nt cf b st H K)
 | .block id c,st,H,K=>run E T nt cf c st H (XL id K)
 | .region id ops true,st,H,K=>
  (match TV cf.JB (id+2000000)with
   |true=>Vp E T nt (TV cf.A) ops (Xv cf.hk (id+3000000)) ops.size (Array.replicate ops.size false) st.l H fun l' H'=>K .normal ⟨l',st.df⟩ H'
   |false=>run E T nt cf (.region id ops true) st H K)
 |c,st,H,K=>run E T nt cf c st H K
end
section
variable {P:Program}{nt:Nat}{rd:Option Nat}{T:ID}{cf:Cf}
def Ap.frLe {c:Code}{fr:Fr}{st:St}{H:A5}{Q:Exit→Fr→A5→Prop}(hf:Hi fr st)(h:Ap P nt rd c (I9 st) H Q):Ap P nt rd c fr H Q:=
 h.less hf.s hf.df.symm fun _ _ h=>h
theorem Hi.refl (st:St):Hi (I9 st) st:=⟨fun _=>Wk.refl _,rfl⟩
def Ap.of_frz {c:Code} {ds:List Nat} {st:St} {H:A5} {Q:Exit→Fr→A5→Prop} {k:Fl→A5→Prop} (h:Pt (I0 P nt rd) none ds st.l H k) (hk:∀l' H',k l' H'→Ap P nt rd c (I9 ⟨l',st.df⟩) H' Q):Ap P nt rd c (I9 st) H Q:=
 fun r g w a hr hR hF=>by
  obtain⟨g',l',H',s,hR',hF',h'⟩:=Cr none ds st.l H g k (fun _ _ _ _ h=>by cases h) hR hF h;exact wpIn_mono (hk l' H' h' r g' w a (AC9.mono hr s) hR' hF') fun _ _ _=>XT.later s
def RU {c:Operand} {a b:Code} {st:St} {H:A5} {Q:Exit→Fr→A5→Prop} {ra rb:St→Prop} (h:At6 (I0 P nt rd) c st ra rb) (ha:∀st',I9 st'=I9 st→ra st'→Ap P nt rd a (I9 st') H Q) (hb:∀st',I9 st'=I9 st→rb st'→Ap P nt rd b (I9 st') H Q):Ap P nt rd (.cond c a b) (I9 st) H Q:=by
 have hev:ev (I9 st) c=(X0 [] st.l c).V:=(Ge (df:=st.df) MZ.nil c).symm
 unfold At6 at h
 split at h
 ·rename_i he;exact Ap.cond (t:=true) (by rw[hev,he];rfl) (fun _=>ha st rfl h) (fun e=>by cases e)
 ·rename_i he;exact Ap.cond (t:=false) (by rw[hev,he];rfl) (fun e=>by cases e) (fun _=>hb st rfl h)
 ·rename_i t he
  split at h
  ·rename_i d
   have he':CZ st.l d= .bool t:=by
    have:=Ap5 (l:=st.l) MZ.nil d
    rw[show AV2 [] st.l d= .v (.bool t)from he]at this
    exact this.symm
   obtain⟨h1,h2⟩:=h;refine Ap.cond (t:=t) (by rw[hev,he];rfl) (fun e=>?_) (fun e=>?_)
   ·subst e;have ef:I9 ⟨Oz st.l d true,st.df⟩=I9 st:=QP he';have:=ha _ ef (h1 rfl)
    rwa[ef]at this
   subst e;have ef:I9 ⟨Oz st.l d false,st.df⟩=I9 st:=QP he';have:=hb _ ef (h2 rfl)
   rwa[ef]at this
  obtain⟨h1,h2⟩:=h;exact Ap.cond (t:=t) (by rw[hev,he];rfl) (fun e=>ha st rfl (h1 e)) (fun e=>hb st rfl (h2 e))
 grind
def O9 (hT:Lz P T) (hm:P.follows .mixedOrders=true):∀(c:Code) (st:St) (H:A5) (K:Exit→St→A5→Prop),M6 cf c=true→run (I0 P nt rd) T nt cf c st H K→Ap P nt rd c (I9 st) H fun e fr' H'=>∃st',Hi fr' st'∧K e st' H'
 | .skip,st,H,K,hd,h=>Ap.skip ⟨st,Hi.refl _,h⟩
 | .ret,st,H,K,hd,h=>Ap.ret ⟨st,Hi.refl _,h⟩
 | .exit id,st,H,K,hd,h=>Ap.exit ⟨st,Hi.refl _,h⟩
 | .seq a b,st,H,K,hd,h=>by
  simp only[M6,K3]at hd
  refine Ap.seq ((O9 hT hm a st H _ hd.1 h).mono fun e fr' H' ⟨st',hf,hk⟩=>?_)
  cases e with
  |normal=>exact Ap.frLe hf (O9 hT hm b st' H' K hd.2 hk)
  |_=>exact⟨st',hf,hk⟩
 | .cond c a b,st,H,K,hd,h=>by
  simp only[M6,K3]at hd
  unfold run at h
  split at h
  ·exact h
  exact RU h (fun st' _ h=>O9 hT hm a st' H K hd.1 h) (fun st' _ h=>O9 hT hm b st' H K hd.2 h)
 | .block id c,st,H,K,hd,h=>by
  unfold run at h
  split at h
  ·exact h
  refine Ap.block ((O9 hT hm c st H _ hd h).mono fun e fr' H' ⟨st',hf,hk⟩=>?_)
  cases e with
  |exit id'=>
   unfold XL at hk
   dsimp only at hk ⊢
   split at hk
   ·rename_i e;rw[A1 (FT e)];grind
   rename_i e;rw[A0 (fun x=>by simp_all)];grind
  |_=>exact⟨st',hf,hk⟩
 | .region id ops false,st,H,K,hd,h=>by
  unfold run at h
  intro r g w a hr hR hF;refine wpIn_region ?_
  have:=Ae3 (P:=P) (nt:=nt) (rd:=rd) (T:=T) (A:=TV cf.A) (Z:=zAt cf.Z) (df:=st.df) hT (ops:=ops) (r:=r) (K:=fun l' H'=>K .normal ⟨l',st.df⟩ H') (Q:=XT nt g w fun e fr' H'=>∃st',Hi fr' st'∧K e st' H') (g0:=g) (w0:=w)
   (fun g' w' a' l' H' s hR hF hK=>⟨g',_,H',s,hR,hF,⟨l',st.df⟩,Hi.refl _,hK⟩) ops.size 0 st.l H (by omega) (by grind) g w a (Af.refl _ _) hR hF
  rwa[←GP]at this
 | .region id ops true,st,H,K,hd,h=>by
  cases hj2:TV cf.JB (id+2000000)with
  |true=>
   unfold run at h
   rw[hj2]at h
   exact h
  |false=>
   simp only[M6,hj2,K3,G1]at hd
   unfold run at h
   rw[hj2]at h
   refine Ap.of_frz h fun l1 H1 h=>?_;refine(Ap.of_any hm (Av2 (df:=st.df) hT hd.1 hd.2 h)).mono fun e fr H' ⟨he,l',hfr,hk⟩=>?_;subst he;subst hfr;exact⟨⟨l',st.df⟩,Hi.refl _,hk⟩
 | .loop c,st,H,K,hd,h=>h
 | .rangeFunc g ps a b,st,H,K,hd,h=>h
 | .scope c,st,H,K,hd,h=>h
 | .label l,st,H,K,hd,h=>h
 | .goto l,st,H,K,hd,h=>h
 | .refuse w,st,H,K,hd,h=>h
def Ag5 (hT:Lz P T) (hm:P.follows .mixedOrders=true):∀(c:Code) (st:St) (H:A5) (K:Exit→St→A5→Prop),M6 cf c=true→AH1 (I0 P nt rd) T nt cf c st H K→Ap P nt rd c (I9 st) H fun e fr' H'=>∃st',Hi fr' st'∧K e st' H'
 | .cond c a b,st,H,K,hd,h=>by
  simp only[M6,K3]at hd
  unfold AH1 at h
  exact RU h (fun st' _ h=>O9 hT hm a st' H K hd.1 h) (fun st' _ h=>O9 hT hm b st' H K hd.2 h)
 | .block id c,st,H,K,hd,h=>by
  unfold AH1 at h
  refine Ap.block ((O9 hT hm c st H _ hd h).mono fun e fr' H' ⟨st',hf,hk⟩=>?_)
  cases e with
  |exit id'=>
   unfold XL at hk
   dsimp only at hk ⊢
   split at hk
   ·rename_i e;rw[A1 (FT e)];grind
   rename_i e;rw[A0 (fun x=>by simp_all)];grind
  |_=>exact⟨st',hf,hk⟩
 | .skip,st,H,K,hd,h=>O9 hT hm _ st H K hd h
 | .ret,st,H,K,hd,h=>O9 hT hm _ st H K hd h
 | .exit id,st,H,K,hd,h=>O9 hT hm _ st H K hd h
 | .seq a b,st,H,K,hd,h=>O9 hT hm _ st H K hd h
 | .region id ops false,st,H,K,hd,h=>O9 hT hm _ st H K hd h
 | .region id ops true,st,H,K,hd,h=>by
  unfold AH1 at h
  dsimp only at h
  cases hj2:TV cf.JB (id+2000000)with
  |false=>rw[hj2]at h;exact O9 hT hm _ st H K hd h
  |true=>
   rw[hj2]at h
   simp only[M6,hj2]at hd
   have h':=GR (df:=st.df) hT (fun i hi=>List.all_eq_true.1 hd i (ZQ hi)) _ _ _ _ h;refine(Ap.of_any hm (Li.all (Q:=fun e fr H'=>match e with| .normal=>∃l',fr=I9 ⟨l',st.df⟩∧K .normal ⟨l',st.df⟩ H'|_=>False) h')).mono fun e fr H' hq=>?_
   cases e with
   |normal=>obtain⟨l',hfr,hk⟩:=hq;subst hfr;exact⟨⟨l',st.df⟩,Hi.refl _,hk⟩
   |_=>exact hq.elim
 | .loop c,st,H,K,hd,h=>h
 | .rangeFunc g ps a b,st,H,K,hd,h=>h
 | .scope c,st,H,K,hd,h=>h
 | .label l,st,H,K,hd,h=>h
 | .goto l,st,H,K,hd,h=>h
 | .refuse w,st,H,K,hd,h=>h
def YX (K:V→A5→Prop)(H:A5)(vs:List V):Prop:=
 match vs with
 |[x]=>K x H
 |l=>K (.tup l) H
def Tp {K:V→A5→Prop}{H:A5}{vs:List V}(h:YX K H vs):K (RD vs) H:=by
 unfold YX at h
 grind[RD]
def Bn0 (v:V)(k:List V→Prop)(vs:List V):Prop:=k (v::vs)
def Vc (E:FN)(T:ID)(l:Fl)(H:A5):List ResultVar→(List V→Prop)→Prop
 |[],k=>k []
 | .tmp t::r,k=>Vc E T l H r fun vs=>Bn0 (CZ l t) k vs
 | .cell a t::r,k=>(match CZ l a with| .elem _ _ _ _=>False|x=>An5 E T t x H fun v=>Vc E T l H r fun vs=>k (v::vs))
def KL (hT:Lz P T) {l:Fl} {H:A5} {df:List Nat}:∀(rs:List ResultVar) (k:List V→Prop),Vc (I0 P nt rd) T l H rs k→∃vs,CP P (I9 ⟨l,df⟩) H rs=some vs∧k vs
 |[],k,h=>⟨[],rfl,h⟩
 | .tmp t::r,k,h=>by
  obtain⟨vs,h1,h2⟩:=KL (df:=df) hT r _ h;exact⟨_,by simp_all[CP,I9],h2⟩
 | .cell a t::r,k,h=>by
  unfold Vc at h
  split at h
  ·exact h.elim
  rename_i x hne;obtain⟨v,h1,h2⟩:=Ml hT h
  have h1:JF P H t (CZ l a)=some v:=h1.elim (fun h=>h) fun h=>by
   unfold Oa at h
   simp_all
  obtain⟨vs,h3,h4⟩:=KL (df:=df) hT r _ h2
  simp_all[CP,I9]
def Ap.post_le {c:Code}{fr:Fr}{H:A5}{K:Exit→St→A5→Prop}(h:Ap P nt rd c fr H fun e fr' H'=>∃st',Hi fr' st'∧K e st' H'):Ap P nt rd c fr H fun e fr' H'=>∃st',fr'=I9 st'∧K e st' H':=by
 intro r g w a hr hR hF;refine wpIn_mono (h r g w a hr hR hF) fun e a' w' ⟨g',fr',H',s,hR',hF',st',hle,hk⟩=>⟨g',I9 st',H',s,hR',⟨hF'.size,fun t=>hle.s t _ _ _ (hF'.s t),?_⟩,st',rfl,hk⟩;have:=hF'.df
 rw[hle.df]at this
 exact this
def CN:List V→Nat→Fl
 |[],_=>[]
 |v::l,i=>(i,.v v)::CN l (i+1)
def VV:∀(args:List V) (i t:Nat),CZ (CN args i) t=if i≤t then args.getD (t-i) .bad else .bad
 |[],i,t=>by simp[CZ,CN]
 | v::l,i,t=>by
  simp only[CN,CZ]
  by_cases h:t=i
  ·simp_all
  have hb:Nat.beq t i=false:=by
   cases hb:Nat.beq t i with
   |false=>rfl
   |true=>simp_all
  simp only[hb];rw[VV l (i+1) t]
  grind
def AO3 (args:List V):entry args=I9 ⟨CN args 0,[]⟩:=by
 simp only[entry,I9,Fr.mk.injEq,O3]
 funext t
 rw[VV];simp
def Qe (E:FN)(T:ID)(rs:List ResultVar)(K:V→A5→Prop)(e:Exit)(st:St)(H:A5):Prop:=
 match e with
 | .normal=>(match st.df with|[]=>Vc E T st.l H rs fun vs=>YX K H vs|df=>E.fin df H fun H'=>Vc E T st.l H' rs fun vs=>YX K H' vs)
 | .ret=>(match st.df with|[]=>Vc E T st.l H rs fun vs=>YX K H vs|df=>E.fin df H fun H'=>Vc E T st.l H' rs fun vs=>YX K H' vs)
 |_=>False
def AB2 (hT:Lz P T) {fn:Func} {K:V→A5→Prop} {e:Exit} {st:St} {H:A5} (h:Qe (I0 P nt rd) T fn.results.toList K e st H):Ret P fn K e (I9 st) H:=by
 have key:∀(h:match st.df with|[]=>Vc (I0 P nt rd) T st.l H fn.results.toList fun vs=>YX K H vs|df=>(I0 P nt rd).fin df H fun H'=>Vc (I0 P nt rd) T st.l H' fn.results.toList fun vs=>YX K H' vs),
  AZ7 H (I9 st).df∧∃l,CP P (I9 st) (clear H (I9 st).df) fn.results.toList=some l∧K (RD l) (clear H (I9 st).df):=by
  obtain⟨l,df⟩:=st;intro h
  cases df with
  |nil=>
   have hcl:clear H []=H:=by funext x;simp[clear]
   obtain⟨vs,h1,h2⟩:=KL (df:=[]) hT _ _ h;refine⟨⟨by simp[I9],fun id hi=>by simp[I9]at hi⟩,vs,?_,?_⟩
   ·simp_all[I9]
   show K _ (clear H [])
   rw[hcl];exact Tp h2
  |cons d ds=>
   obtain⟨hd,h⟩:=h;obtain⟨vs,h1,h2⟩:=KL (df:=d::ds) hT _ _ h;exact⟨hd,vs,h1,Tp h2⟩
 cases e<;>first|exact h.elim|skip
 ·exact⟨.inl rfl,key h⟩
 exact⟨.inr rfl,key h⟩
def X8 {f:FuncId}{fn:Func}{c:Code}{n:Nat}{rs:List ResultVar}{args:List V}{H:A5}{K:V→A5→Prop}(cf:Cf)(hT:Lz P T)(hm:P.follows .mixedOrders=true)(hf:P.funcs[f]? =some fn)(hb:fn.body=some c)(hd:M6 cf c=true)(hcall:∀vals w,(callFunc f vals).run P w= .ok (.enter f vals) w)
 (hnt:fn.ntmps=n) (hrs:fn.results.toList=rs) (hn:Nat.ble args.length n=true) (h:∀E:FN,E=I0 P n none→run E T n cf c ⟨CN args 0,[]⟩ H (Qe E T rs K)):M8 P f args H K:=by
 subst hnt;subst hrs;refine Vk hf hb hcall (Me hn) ?_;rw[AO3];refine(Ap.post_le (O9 hT hm c _ H _ hd (h _ rfl))).mono fun e fr' H' ⟨st',hfr,hq⟩=>?_;subst hfr;exact AB2 hT hq
end
def DF.wk {x y:V}(h:DF x y):Wk x y:=fun _ _ _ hv=>hv.le h
theorem Args.le {g:Gh}{w:World}{vals:Array Value}{xs ys:List V}(h:Args g w vals xs)(k:M3 xs ys):Args g w vals ys:=
 ⟨h.1.trans k.length,fun i hi=>(h.2 i (k.length▸hi)).le (k.at i)⟩
def M8.args {P:Program}{f:FuncId}{xs ys:List V}{H:A5}{K:V→A5→Prop}(h:M8 P f ys H K)(k:M3 xs ys):M8 P f xs H K:=
 fun g w vals hR hA=>h g w vals hR (hA.le k)
def CW.args {P:Program}{fv:V}{xs ys:List V}{H:A5}{K:V→A5→Prop}(h:CW P fv ys H K)(k:M3 xs ys):CW P fv xs H K:=
 fun g w v vals hR hv hA=>h g w v vals hR hv (hA.le k)
def C2.args {P:Program}{f:FuncId}{xs ys:List V}{r:V}(h:C2 P f ys r)(k:M3 xs ys):C2 P f xs r:=fun H=>(h H).args k
def AA.args {P:Program}{fv:V}{xs ys:List V}{r:V}(h:AA P fv ys r)(k:M3 xs ys):AA P fv xs r:=fun H=>(h H).args k
def HU (H H':A5):Prop:=∀id b,H id=some b→H' id=some b
theorem HU.refl (H:A5):HU H H:=fun _ _ h=>h
def HU.trans {H H' H'':A5}(h:HU H H')(k:HU H' H''):HU H H'':=fun id b e=>k id b (h id b e)
theorem M8.le {P:Program}{f:FuncId}{args:List V}{H:A5}{K:V→A5→Prop}(h:M8 P f args H fun x H'=>∃y H2,DF x y∧HU H2 H'∧K y H2):M8 P f args H K:=
 fun g w vals hR hA=>(h g w vals hR hA).mono fun v w' ⟨g',x,H',s,hR',hv,y,H2,hxy,hH,hK⟩=>⟨g',y,H2,s,hR'.less hH,hv.le hxy,hK⟩
inductive En where
 |tl (t:K1)
 |blk (id:Nat) (b:IF)
def En.id:En→Option (Nat×IF)
 | .tl (.tok t)=>some (t,.spare)
 | .tl _=>none
 | .blk id b=>some (id,b)
structure Ce (H0:A5) (L:List En) (H:A5):Prop where
 ext:HU H0 H
 has:∀(i:Nat) e id b,L[i]? =some e→e.id=some (id,b)→H0 id=none∧H id=some b
 inj:∀(i j:Nat) e e' id b b',L[i]? =some e→L[j]? =some e'→e.id=some (id,b)→e'.id=some (id,b')→i=j
 only:∀x b,H x=some b→H0 x=some b∨∃(i:Nat) (e:En),L[i]? =some e∧e.id=some (x,b)
def Ce.start (H:A5):Ce H [] H:=⟨HU.refl H,fun i e id b h=>by simp at h,fun i j e e' id b b' h=>by simp at h,fun x b h=>.inl h⟩
def Ce.free {H0 H:A5}{L:List En}(h:Ce H0 L H){id:Nat}(hn:H id=none):H0 id=none:=by
 cases e:H0 id with
 |none=>rfl
 |some b=>rw[h.ext id b e]at hn;cases hn
theorem Ce.tl0 {H0 H:A5} {L:List En} (h:Ce H0 L H) {t:K1} (ht:(En.tl t).id=none):Ce H0 (.tl t::L) H:=by
 refine⟨h.ext,fun i e id b hi he=>?_,fun i j e e' id b b' hi hj he he'=>?_,fun x b hx=>(h.only x b hx).imp (fun h=>h) fun⟨i,e,h1,h2⟩=>⟨i+1,e,by grind,h2⟩⟩
 ·cases i with
  |zero=>simp_all
  |succ i=>exact h.has i e id b (by grind) he
 cases i with
 |zero=>simp_all
 |succ i=>
  cases j with
  |zero=>simp_all
  |succ j=>rw[h.inj i j e e' id b b' (by grind) (by grind) he he']
def Ce.push {H0 H:A5} {L:List En} (h:Ce H0 L H) {en:En} {id:Nat} {b:IF} (hn:H id=none) (he:en.id=some (id,b)):Ce H0 (en::L) (upd H id (some b)):=by
 refine⟨fun x bb hx=>?_,fun i e x bb hi hx=>?_,fun i j e e' x bb bb' hi hj hx hx'=>?_,fun x bb hx=>?_⟩
 rotate_right
 ·by_cases hxi:x=id
  ·subst hxi;rw[F5]at hx;cases hx;exact .inr ⟨0,en,by simp,he⟩
  rw[C9 _ _ hxi]at hx
  exact(h.only x bb hx).imp (fun h=>h) fun⟨i,e,h1,h2⟩=>⟨i+1,e,by grind,h2⟩
 ·rw[C9 _ _ (Bb (h.free hn) hx)];exact h.ext x bb hx
 ·cases i with
  |zero=>simp at hi;subst hi;rw[he]at hx;cases hx;exact⟨h.free hn,F5 _ _ _⟩
  |succ i=>
   have:=h.has i e x bb (by grind) hx
   grind[upd]
 cases i with
 | zero=>
  cases j with
  |zero=>rfl
  |succ j=>
   simp at hi;subst hi;rw[he]at hx;cases hx
   have:=(h.has j e' _ bb' (by grind) hx').2
   rw[hn]at this;cases this
 | succ i=>
  cases j with
  |zero=>
   simp at hj;subst hj;rw[he]at hx';cases hx'
   have:=(h.has i e _ bb (by grind) hx).2
   rw[hn]at this;cases this
  |succ j=>rw[h.inj i j e e' x bb bb' (by grind) (by grind) hx hx']
def Ce.get {H0 H:A5}{L:List En}(h:Ce H0 L H)(i:Nat){id:Nat}{b:IF}(hi:L[i]? =some (.blk id b)):H id=some b:=(h.has i _ id b hi rfl).2
def Ce.set {H0 H:A5} {L:List En} (h:Ce H0 L H) (i:Nat) {id:Nat} {b b':IF} (hi:L[i]? =some (.blk id b)):Ce H0 (L.set i (.blk id b')) (upd H id (some b')):=by
 have hid:=h.has i _ id b hi rfl
 have hlt:i<L.length:=by
  grind
 have NN:∀(j:Nat) e,(L.set i (.blk id b'))[j]? =some e→(j=i∧e= .blk id b')∨(j≠i∧L[j]? =some e):=fun j e hj=>by
  rw[Au]at hj
  grind
 refine⟨fun x bb hx=>?_,fun j e x bb hj hx=>?_,fun j k e e' x bb bb' hj hk hx hx'=>?_,fun x bb hx=>?_⟩
 rotate_right
 ·by_cases hxi:x=id
  ·grind[En.id,upd]
  rw[C9 _ _ hxi]at hx
  refine(h.only x bb hx).imp (fun h=>h) fun⟨j,e,h1,h2⟩=>⟨j,e,?_,h2⟩;rw[Au]
  grind[En.id]
 ·rw[C9 _ _ (Bb hid.1 hx)];exact h.ext x bb hx
 ·rcases NN j e hj with⟨_,rfl⟩|⟨hne,hj'⟩
  ·grind[upd,En.id]
  have:=h.has j e x bb hj' hx
  have hxid:x≠id:=fun eq=>by subst eq;exact hne (h.inj j i e _ x bb b hj' hi hx rfl)
  simp_all[upd]
 rcases NN j e hj with⟨hji,rfl⟩|⟨hne,hj'⟩<;>rcases NN k e' hk with⟨hki,rfl⟩|⟨hne',hk'⟩
 ·rw[hji,hki]
 ·cases hx;exact absurd (h.inj k i e' _ id bb' b hk' hi hx' rfl) hne'
 ·cases hx';exact absurd (h.inj j i e _ id bb b hj' hi hx rfl) hne
 exact h.inj j k e e' x bb bb' hj' hk' hx hx'
theorem Ce.tok {H0 H:A5} {L:List En} (h:Ce H0 L H) (i:Nat) {tl:K1} (hi:L[i]? =some (.tl tl)) {t:Nat} (ht:L8 H tl t=none):
 Ce H0 (L.set i (.tl (.tok t))) (upd (L8 H tl) t (some .spare)):=by
 have hlt:i<L.length:=by
  grind
 have NN:∀(j:Nat) e,(L.set i (.tl (.tok t)))[j]? =some e→(j=i∧e= .tl (.tok t))∨(j≠i∧L[j]? =some e):=fun j e hj=>by
  rw[Au]at hj
  grind
 have left:∀x b,H x=some b→(∀t',tl= .tok t'→x≠t')→L8 H tl x=some b:=fun x b hx hne=>by
  cases tl with
  |tok t'=>simp_all[L8,C9]
  |_=>exact hx
 have h0:∀x b,H0 x=some b→L8 H tl x=some b:=fun x b hx=>left x b (h.ext x b hx) fun t' e eq=>by
  subst e;subst eq
  rw[(h.has i _ x _ hi rfl).1]at hx;cases hx
 have hoth:∀(j:Nat) e x b,j≠i→L[j]? =some e→e.id=some (x,b)→H0 x=none∧L8 H tl x=some b:=fun j e x b hne hj hx=>by
  have:=h.has j e x b hj hx;refine⟨this.1,left x b this.2 fun t' et eq=>?_⟩;subst et;subst eq;exact hne (h.inj j i e _ x b _ hj hi hx rfl)
 have hid0:H0 t=none:=by
  cases e:H0 t with
  |none=>rfl
  |some b=>rw[h0 t b e]at ht;cases ht
 refine⟨fun x bb hx=>?_,fun j e x bb hj hx=>?_,fun j k e e' x bb bb' hj hk hx hx'=>?_,fun x bb hx=>?_⟩
 rotate_right
 ·by_cases hxi:x=t
  ·grind[En.id,upd]
  rw[C9 _ _ hxi]at hx
  have hx2:H x=some bb∧∀t',tl= .tok t'→x≠t':=by
   cases tl with
   |tok t'=>
    simp_all[L8,upd]
   |_=>exact⟨hx,fun t'' e'=>by cases e'⟩
  refine(h.only x bb hx2.1).imp (fun h=>h) fun⟨j,e,h1,h2⟩=>⟨j,e,?_,h2⟩;rw[Au]
  split
  ·rename_i hij;subst hij;rw[hi]at h1;cases h1
   cases tl with
   |tok t'=>cases h2;simp_all
   |_=>cases h2
  exact h1
 ·rw[C9 _ _ (Bb hid0 hx)];simp_all
 ·grind[upd,En.id]
 rcases NN j e hj with⟨hji,rfl⟩|⟨hne,hj'⟩<;>rcases NN k e' hk with⟨hki,rfl⟩|⟨hne',hk'⟩
 ·rw[hji,hki]
 ·grind[En.id]
 ·grind[En.id]
 exact h.inj j k e e' x bb bb' hj' hk' hx hx'
def Ce.del {H0 H:A5} {L:List En} (h:Ce H0 L H) (i:Nat) {id:Nat} {b:IF} (hi:L[i]? =some (.blk id b)):Ce H0 (L.eraseIdx i) (upd H id none):=by
 have hid:=h.has i _ id b hi rfl
 have NN:∀(j:Nat) e,(L.eraseIdx i)[j]? =some e→∃j',j'≠i∧L[j']? =some e∧(j'=if j<i then j else j+1):=fun j e hj=>by
  rw[Mg]at hj
  grind
 refine⟨fun x bb hx=>?_,fun j e x bb hj hx=>?_,fun j k e e' x bb bb' hj hk hx hx'=>?_,fun x bb hx=>?_⟩
 rotate_right
 ·by_cases hxi:x=id
  ·simp_all[upd]
  rw[C9 _ _ hxi]at hx
  refine(h.only x bb hx).imp (fun h=>h) fun⟨j,e,h1,h2⟩=>?_
  have hji:j≠i:=fun eq=>by grind[En.id]
  rcases Bn j i with hlt|hge
  ·exact⟨j,e,by rw[Mg,A1 hlt];exact h1,h2⟩
  exact⟨j-1,e,by rw[Mg,A0 (by omega),show j-1+1=j by omega];exact h1,h2⟩
 ·rw[C9 _ _ (Bb hid.1 hx)];exact h.ext x bb hx
 ·obtain⟨j',hne,hj',_⟩:=NN j e hj;have:=h.has j' e x bb hj' hx
  have hxid:x≠id:=fun eq=>by subst eq;exact hne (h.inj j' i e _ x bb b hj' hi hx rfl)
  simp_all[upd]
 obtain⟨j',hne,hj',ej⟩:=NN j e hj;obtain⟨k',hne',hk',ek⟩:=NN k e' hk;have:=h.inj j' k' e e' x bb bb' hj' hk' hx hx'
 rw[ej,ek]at this
 split at this<;>split at this<;>omega
def Pf (H:A5)(e:En):A5:=
 match e.id with
 |some (id,_)=>upd H id none
 |none=>H
def Ce.tail {H0 H:A5} {L:List En} {e:En} (h:Ce H0 (e::L) H):Ce H0 L (Pf H e):=by
 have inj0:∀(j:Nat) e' x b b',L[j]? =some e'→e'.id=some (x,b)→e.id=some (x,b')→False:=fun j e' x b b' hj hx hx'=>by
  have:=h.inj (j+1) 0 e' e x b b' (by grind) (by simp) hx hx';omega
 cases he:e.id with
 |none=>
  have ed:Pf H e=H:=by simp_all[Pf]
  rw[ed];refine⟨h.ext,fun i e id b hi=>h.has (i+1) e id b (by grind),fun i j e e' id b b' hi hj he he'=>?_,fun x b hx=>(h.only x b hx).imp (fun h=>h) fun⟨i,e',h1,h2⟩=>?_⟩
  ·have:=h.inj (i+1) (j+1) e e' id b b' (by grind) (by grind) he he';omega
  grind
 | some p=>
  obtain⟨id,b0⟩:=p
  have ed:Pf H e=upd H id none:=by grind[Pf]
  rw[ed];have hid:=h.has 0 e id b0 (by simp) he;refine⟨fun x b hx=>?_,fun i e' x b hi hx=>?_,fun i j e e' id b b' hi hj he he'=>?_,fun x b hx=>?_⟩
  ·rw[C9 _ _ (Bb hid.1 hx)];exact h.ext x b hx
  ·have:=h.has (i+1) e' x b (by grind) hx
   have hne:x≠id:=fun eq=>by grind
   simp_all[upd]
  ·have:=h.inj (i+1) (j+1) e e' id b b' (by grind) (by grind) he he';omega
  by_cases hxi:x=id
  ·simp_all[upd]
  rw[C9 _ _ hxi]at hx
  refine(h.only x b hx).imp (fun h=>h) fun⟨i,e',h1,h2⟩=>?_
  grind
theorem HU.upd {H H':A5}(h:HU H H')(id:Nat)(b:Option IF):HU (upd H id b) (upd H' id b):=fun x bb hx=>by
 by_cases e:x=id
 ·grind[F5]
 rw[C9 _ _ e]at hx ⊢;exact h x bb hx
def HU.less {H H':A5}(h:HU H H')(id:Nat):HU (Go.Ab.upd H id none) H':=fun x bb hx=>by
 by_cases e:x=id
 ·grind[F5]
 rw[C9 _ _ e]at hx;exact h x bb hx
def HU.none {H H':A5}(h:HU H H'){id:Nat}(hn:H' id=none):H id=none:=by
 cases e:H id with
 |none=>rfl
 |some b=>rw[h id b e]at hn;cases hn
def M2:G5 (Eq:A5→A5→Prop):=⟨fun h id b hb=>h▸hb,fun id b h _=>by subst h;rfl⟩
def C8 (Φ:A5→A5→Prop)(F:A5)(L:List En)(H:A5):Prop:=G5 Φ∧∃F' H1,Ce F L F'∧Φ F' H1∧HU H1 H
section
variable {Φ:A5→A5→Prop}{F H:A5}{L:List En}
def C8.start (hs:G5 Φ)(h:Φ F H):C8 Φ F [] H:=⟨hs,F,H,Ce.start F,h,HU.refl H⟩
def C8.ext (h:C8 Φ F L H):HU F H:=by
 obtain⟨hs,F',H1,h0,h1,h2⟩:=h;exact h0.ext.trans fun id b hb=>h2 _ _ (hs.le h1 id b hb)
theorem C8.tl0 (h:C8 Φ F L H){t:K1}(ht:(En.tl t).id=none):C8 Φ F (.tl t::L) H:=by
 obtain⟨hs,F',H1,h0,h1,h2⟩:=h;exact⟨hs,F',H1,h0.tl0 ht,h1,h2⟩
def C8.push (h:C8 Φ F L H){en:En}{id:Nat}{b:IF}(hn:H id=none)(he:en.id=some (id,b)):C8 Φ F (en::L) (upd H id (some b)):=by
 obtain⟨hs,F',H1,h0,h1,h2⟩:=h;have hn1:=h2.none hn;have hn':=hs.fresh h1 hn1;exact⟨hs,_,_,h0.push hn' he,hs.chg id (some b) h1 (by rw[hn1,hn']),h2.upd id _⟩
def C8.get (h:C8 Φ F L H)(i:Nat){id:Nat}{b:IF}(hi:L[i]? =some (.blk id b)):H id=some b:=by
 obtain⟨hs,F',H1,h0,h1,h2⟩:=h;exact h2 _ _ (hs.le h1 _ _ (h0.get i hi))
def C8.set (h:C8 Φ F L H)(i:Nat){id:Nat}{b b':IF}(hi:L[i]? =some (.blk id b)):C8 Φ F (L.set i (.blk id b')) (upd H id (some b')):=by
 obtain⟨hs,F',H1,h0,h1,h2⟩:=h;have e:=h0.get i hi;exact⟨hs,_,_,h0.set i hi,hs.chg id _ h1 (by rw[e,hs.le h1 _ _ e]),h2.upd id _⟩
def C8.del (h:C8 Φ F L H)(i:Nat){id:Nat}{b:IF}(hi:L[i]? =some (.blk id b)):C8 Φ F (L.eraseIdx i) (upd H id none):=by
 obtain⟨hs,F',H1,h0,h1,h2⟩:=h;have e:=h0.get i hi;exact⟨hs,_,_,h0.del i hi,hs.chg id _ h1 (by rw[e,hs.le h1 _ _ e]),h2.upd id _⟩
def C8.tail {e:En} (h:C8 Φ F (e::L) H):C8 Φ F L H:=by
 obtain⟨hs,F',H1,h0,h1,h2⟩:=h
 cases he:e.id with
 |none=>
  have:=h0.tail
  grind[C8,Pf]
 |some p=>
  obtain⟨id,b⟩:=p;have h3:=h0.tail
  simp only[Pf,he]at h3
  have e1:=(h0.has 0 e id b (by simp) he).2;exact⟨hs,_,_,h3,hs.chg id none h1 (by rw[e1,hs.le h1 _ _ e1]),h2.less id⟩
theorem C8.tok (h:C8 Φ F L H) (i:Nat) {tl:K1} (hi:L[i]? =some (.tl tl)) {t:Nat} (ht:L8 H tl t=none):C8 Φ F (L.set i (.tl (.tok t))) (upd (L8 H tl) t (some .spare)):=by
 obtain⟨hs,F',H1,h0,h1,h2⟩:=h
 have h3:Φ (L8 F' tl) (L8 H1 tl):=by
  cases tl with
  |tok t'=>
   have e:=(h0.has i _ t' _ hi rfl).2;exact hs.chg t' none h1 (by rw[e,hs.le h1 _ _ e])
  |_=>exact h1
 have h4:HU (L8 H1 tl) (L8 H tl):=by
  cases tl with
  |tok t'=>exact h2.upd t' none
  |_=>exact h2
 have ht1:=h4.none ht;have ht':=hs.fresh h3 ht1;exact⟨hs,_,_,h0.tok i hi ht',hs.chg t _ h3 (by rw[ht1,ht']),h4.upd t _⟩
def C8.stable (hs:G5 Φ) (L:List En):G5 fun F H=>C8 Φ F L H:=by
 refine⟨fun h id b hb=>h.ext id b hb,fun{F H} id b h e=>?_⟩;obtain⟨hs,F',H1,h0,h1,h2⟩:=h
 have hne:∀(i:Nat) en x bb,L[i]? =some en→en.id=some (x,bb)→x≠id:=fun i en x bb hi he eq=>by
  subst eq;have h3:=h0.has i en x bb hi he;have h4:=h2 _ _ (hs.le h1 _ _ h3.2)
  rw[e,h3.1]at h4;cases h4
 have hF':F' id=F id:=by
  cases hf:F id with
  |some x=>exact h0.ext id x hf
  | none=>
   cases hf':F' id with
   |none=>rfl
   |some x=>
    rcases h0.only id x hf' with h|⟨i,en,hi,he⟩
    ·rw[hf]at h;cases h
    grind
 have hH1:H1 id=F id:=by
  cases hf:F id with
  |some x=>rw[←hF']at hf;exact hs.le h1 id x hf
  |none=>rw[hf]at e;exact h2.none e
 refine⟨hs,upd F' id b,upd H1 id b,⟨fun x bb hx=>?_,fun i en x bb hi he=>?_,h0.inj,fun x bb hx=>?_⟩,hs.chg id b h1 (by rw[hF',hH1]),h2.upd id b⟩
 ·by_cases hxi:x=id
  ·simp_all[upd]
  rw[C9 _ _ hxi]at hx ⊢;exact h0.ext x bb hx
 ·have:=h0.has i en x bb hi he;have hxi:=hne i en x bb hi he;rw[C9 _ _ hxi,C9 _ _ hxi];exact this
 by_cases hxi:x=id
 ·simp_all[upd]
 rw[C9 _ _ hxi]at hx ⊢;exact h0.only x bb hx
def C8.out:∀{L:List En},C8 Φ F L H→∃H1,Φ F H1∧HU H1 H
 | [],h=>by
  obtain⟨hs,F',H1,h0,h1,h2⟩:=h
  have:F'=F:=by
   funext x
   cases hf:F' x with
   |some b=>
    rcases h0.only x b hf with h|⟨i,e,hi,_⟩
    ·exact h.symm
    grind
   |none=>exact(h0.free hf).symm
  grind
 |_::L,h=>C8.out (L:=L) h.tail
end
def G5.ex {ι:Type}{p:ι→Prop}{I:ι→A5→A5→Prop}(h:∀i,G5 (I i)):G5 fun F H=>∃i,p i∧I i F H:=
 ⟨fun⟨i,_,hi⟩=>(h i).le hi,fun id b ⟨i,hp,hi⟩ e=>⟨i,hp,(h i).chg id b hi e⟩⟩
def G5.con {p:Prop}{I:A5→A5→Prop}(h:G5 I):G5 fun F H=>p∧I F H:=
 ⟨fun⟨_,hi⟩=>h.le hi,fun id b ⟨hp,hi⟩ e=>⟨hp,h.chg id b hi e⟩⟩
def FI:K1→Prop
 | .ro=>False
 |_=>True
def C8.appOk {Φ:A5→A5→Prop}{F H:A5}{L:List En}(h:C8 Φ F L H)(i:Nat){tl:K1}(hi:L[i]? =some (.tl tl))(ha:FI tl):KF H tl:=by
 obtain⟨hs,F',H1,h0,h1,h2⟩:=h
 cases tl with
 |tok t=>exact h2 _ _ (hs.le h1 _ _ (h0.has i _ t _ hi rfl).2)
 |nil=>trivial
 |full=>trivial
 |ro=>exact ha
end Go.Ab
namespace Go.Ab
def B9 {α:Type}(l:List α)(i:Int):Option α:=if 0≤i then l[i.toNat]? else none
def O5 {α:Type} (l:List α) (lo hi mx:Option Int):Option (List α):=
 if 0≤lo.getD 0∧lo.getD 0≤hi.getD l.length∧hi.getD l.length≤mx.getD l.length∧mx.getD l.length≤l.length∧(mx.isSome=true→hi.isSome=true)then
  some ((l.drop (lo.getD 0).toNat).take ((hi.getD l.length).toNat-(lo.getD 0).toNat))
 else none
def P9 {α:Type}(l m:List α):Option (List α):=if l.length+m.length≤1073741824 then some (l++m)else none
def FL (b:Bool):Option Unit:=if b=true then some ()else none
def loopN {σ R:Type} (step:σ→Option (σ⊕R)):Nat→σ→Option R
 |0,_=>none
 |n+1,s=>
  match step s with
  |none=>none
  |some (.inl s')=>loopN step n s'
  |some (.inr r)=>some r
def L6 {α σ R:Type} (step:σ→α→Option (σ⊕R)):List α→σ→Option (σ⊕R)
 |[],s=>some (.inl s)
 |x::l,s=>
  match step s x with
  |none=>none
  |some (.inl s')=>L6 step l s'
  |some (.inr r)=>some (.inr r)
def DA {β σ R:Type} (step:σ→Option (List β×(σ⊕R))):Nat→σ→Option (List β×R)
 |0,_=>none
 | n+1,s=>
  match step s with
  |none=>none
  | some (w,.inl s')=>
   (match DA step n s' with
    |none=>none
    |some (w',r)=>some (w++w',r))
  |some (w,.inr r)=>some (w,r)
def Ax {α β σ R:Type} (step:σ→α→Option (List β×(σ⊕R))):List α→σ→Option (List β×(σ⊕R))
 |[],s=>some ([],.inl s)
 | x::l,s=>
  match step s x with
  |none=>none
  | some (w,.inl s')=>
   (match Ax step l s' with
    |none=>none
    |some (w',o)=>some (w++w',o))
  |some (w,.inr r)=>some (w,.inr r)
def W5 {β σ τ:Type}(m:Option (List β×σ))(f:σ→Option (List β×τ)):Option (List β×τ):=
 m.bind fun q=>(f q.2).bind fun p=>some (q.1++p.1,p.2)
def Z1 {β σ τ:Type} {m:Option (List β×σ)} {f:σ→Option (List β×τ)} {w:List β} {o:τ} (h:W5 m f=some (w,o)):∃w1 w2 x,m=some (w1,x)∧f x=some (w2,o)∧w=w1++w2:=by
 unfold W5 at h
 cases m with
 |none=>cases h
 | some p=>
  simp only[A3]at h
  cases hf:f p.2 with
  |none=>rw[hf]at h;cases h
  |some t=>
   rw[hf]at h
   grind
def CB {β σ τ:Type}{a:List β}{x:σ}{f:σ→Option (List β×τ)}{w:List β}{o:τ}(h:W5 (some (a,x)) f=some (w,o)):∃w2,f x=some (w2,o)∧w=a++w2:=by
 obtain⟨w1,w2,y,h1,h2,h3⟩:=Z1 h
 simp_all
def J5 {α β:Type}{a c:α}{b d:β}(h:some (a,b)=some (c,d)):a=c∧b=d:=by simp_all
def bind_some {α β:Type}{m:Option α}{F:α→Option β}{r:β}(h:m.bind F=some r):∃x,m=some x∧F x=some r:=by
 cases m with
 |none=>cases h
 |some x=>simp_all
def M1 {α:Type}{a b:α}(h:some a=some b):a=b:=Co h
end Go.Ab
namespace Go.Ab
open Go.RowKit
variable [O6][Ar]
def JS (l:Fl):Fl→Prop
 |[]=>True
 |(k,s)::r=>DF (CZ l k) s.V∧(∀j w x,s≠ .g j w x)∧JS l r
def JS.wk {l:Fl}:∀{r:Fl},JS l r→∀t,Wk (CZ l t) (CZ r t)
 |[],_,t=>Wk.bad _
 | (k,s)::r,h,t=>by
  simp only[CZ]
  cases hb:Nat.beq t k with
  |true=>
   have:=FT hb;subst this
   cases s with
   |v x=>exact h.1.wk
   |b c=>exact h.1.wk
   |g j w x=>exact absurd rfl (h.2.1 j w x)
  |false=>exact JS.wk h.2.2 t
def JS.v {l r:Fl}{k:Nat}{x:V}(h:DF (CZ l k) x)(hr:JS l r):JS l ((k,.v x)::r):=⟨h,fun _ _ _ h=>(by cases h),hr⟩
def JS.b {l r:Fl}{k:Nat}{c:Bool}(h:CZ l k= .bool c)(hr:JS l r):JS l ((k,.b c)::r):=⟨h▸ .refl _,fun _ _ _ h=>(by cases h),hr⟩
def JS.e {l r:Fl}{k:Nat}{x:V}(h:CZ l k=x)(hr:JS l r):JS l ((k,.v x)::r):=⟨h▸ .refl _,fun _ _ _ h=>(by cases h),hr⟩
def JS.z {l:Fl}:JS l []:=trivial
def Wk.trans {x y z:V}(h:Wk x y)(k:Wk y z):Wk x z:=fun g w v hv=>k g w v (h g w v hv)
theorem Hi.le {fr:Fr}{l l':Fl}{df:List Nat}(h:Hi fr ⟨l,df⟩)(k:JS l l'):Hi fr ⟨l',df⟩:=⟨fun t=>(h.s t).trans (k.wk t),h.df⟩
def F3 {α:Type}{f:α→V}:([]:List V)=lst f []:=by rw[lst_eq];rfl
def H8 {α:Type}{f:α→V}{v:V}{vs:List V}{x:α}{l:List α}(h:v=f x)(k:vs=lst f l):v::vs=lst f (x::l):=by
 rw[h,k,lst_eq,lst_eq];rfl
theorem Nw {α:Type}{f:α→V}(l m:List α):lst f l++lst f m=lst f (l++m):=by simp[lst_eq]
def N3 {α:Type}{f:α→V}(l:List α):(lst f l).length=l.length:=by simp[lst_eq]
def OO {α:Type}{f:α→V}{sz:Nat}(h:∀x,(f x).cells.length=sz)(l:List α):(lst f l).all (fun x=>x.cells.length==sz)=true:=by
 rw[lst_eq];simp[h]
def M3.lst0 {α:Type}{f:α→V}:M3 [] (lst f []):=by rw[←F3];exact .nil
def M3.lstc {α:Type}{f:α→V}{v:V}{vs:List V}{x:α}{l:List α}(h:DF v (f x))(k:M3 vs (lst f l)):M3 (v::vs) (lst f (x::l)):=by
 rw[←H8 rfl rfl];exact .cons h k
def DF.eq {v x y:V}(h:y=x)(k:DF v x):DF v y:=h▸k
def DF.lit {xs ys:List V}(t:K1)(h:xs=ys):DF (.sl xs t) (.sl ys .ro):=h▸ .ro _ _
section
variable {P:Program}{nt:Nat}{rd:Option Nat}{T:ID}{E:FN}
variable (hE:E=I0 P nt rd)
include hE
theorem C7 {R:Type}{c:Bool}{x y:Unit→Prop}{a b:Option R}{r:R}(h:(if c=true then a else b)=some r)(h1:c=true→a=some r→x ())(h2:c=false→b=some r→y ()):E.br c x y:=by
 grind[I0]
theorem TN {p:Prop}{k:Unit→Prop}(h:p)(hk:k ()):E.need p k:=by simp_all[I0]
theorem PS {R:Type}{b:Bool}{k:Unit→Prop}{F:Unit→Option R}{r:R}(h:(FL b).bind F=some r)(hk:F ()=some r→k ()):E.needB b k:=by
 grind[I0,FL]
theorem Aq5 {b:Bool}{k:Unit→Prop}(hb:b=true)(hk:k ()):E.needB b k:=by simp_all[I0]
theorem Ac0 {op:BinOp}{a b:Int}(h:Pi op a b=true):Ar.cmp op a b=true:=by rw[Ar.cmp_eq];exact h
theorem K9 {α:Type}{f:α→V}{l:List α}{k:Int→Prop}(h:k (Ar.len l)):E.ln (lst f l) k:=by
 subst hE
 show k _
 rw[N3,←Ar.len_eq];exact h
theorem F6 {α R:Type} {f g:α→V} (hf:∀x,f x=g x) {l:List α} {i:Int} {k:V→Prop} {F:α→Option R} {r:R} (h:(B9 l i).bind F=some r) (hk:∀x,F x=some r→k (g x)):E.idx (lst f l) i k:=by
 subst hE;obtain⟨x,h1,h2⟩:=bind_some h
 unfold B9 at h1
 split at h1
 ·rename_i h0
  have hlt:i.toNat<l.length:=by
   grind
  refine⟨⟨h0,by rw[N3];omega⟩,?_⟩;rw[lst_eq,Z0,S5,h1]
  simp_all
 cases h1
theorem Sz {α R:Type} {f:α→V} {sz:Nat} (hsz:∀x,(f x).cells.length=sz) {l:List α} {tl:K1} {lo hi mx:Option Int} {k:V→Prop} {F:List α→Option R} {r:R} (h:(O5 l lo hi mx).bind F=some r)
 (hk:∀x t,F x=some r→k (.sl (lst f x) t)):E.slice sz (lst f l) tl lo hi mx k:=by
 subst hE;obtain⟨x,h1,h2⟩:=bind_some h
 unfold O5 at h1
 split at h1
 ·rename_i hc;obtain⟨c1,c2,c3,c4,c5⟩:=hc;cases h1;refine⟨?_,?_⟩
  ·rw[N3]
   simp_all[OO]
  rw[N3,lst_eq,←List.map_drop,←List.map_take];have:=hk _ (JP (lo.getD 0).toNat (hi.getD l.length).toNat l.length mx tl) h2
  rwa[lst_eq]at this
 cases h1
theorem B3 {R S:Type}{m:Option S}{F:S→Option R}{r:R}{f:FuncId}{args args':List V}{g:S→V}{H:A5}{k:V→A5→Prop}(h:m.bind F=some r)(hc:∀x,m=some x→C2 P f args' (g x))(hl:M3 args args')
 (hk:∀x,F x=some r→k (g x) H):E.call (.func (.func f) [] []) args H k:=by
 subst hE;obtain⟨x,h1,h2⟩:=bind_some h
 exact AA.at (C2.value (F:=[]) (C:=[]) (by simpa using(hc x h1).args hl)) (hk x h2)
theorem E9 {R S:Type}{m:Option S}{F:S→Option R}{r:R}{f:FuncId}{args args':List V}{g:S→V}{H:A5}{k:V→Prop}(h:m.bind F=some r)(hc:∀x,m=some x→C2 P f args' (g x))(hl:M3 args args')
 (hk:∀x,F x=some r→k (g x)):E.pcall H (.func (.func f) [] []) args k:=by
 subst hE;obtain⟨x,h1,h2⟩:=bind_some h;exact⟨g x,(C2.value (F:=[]) (C:=[]) (by simpa using(hc x h1).args hl)).toH H,hk x h2⟩
theorem BR {R S:Type}{m:Option S}{F:S→Option R}{r:R}{fv:V}{args args':List V}{g:S→V}{H:A5}{k:V→A5→Prop}(h:m.bind F=some r)(hc:∀x,m=some x→AA P fv args' (g x))(hl:M3 args args')
 (hk:∀x,F x=some r→k (g x) H):E.call fv args H k:=by
 subst hE;obtain⟨x,h1,h2⟩:=bind_some h
 exact AA.at ((hc x h1).args hl) (hk x h2)
theorem AK0 {R S:Type}{m:Option S}{F:S→Option R}{r:R}{fv:V}{args args':List V}{g:S→V}{H:A5}{k:V→Prop}(h:m.bind F=some r)(hc:∀x,m=some x→AA P fv args' (g x))(hl:M3 args args')
 (hk:∀x,F x=some r→k (g x)):E.pcall H fv args k:=by
 subst hE;obtain⟨x,h1,h2⟩:=bind_some h;exact⟨g x,((hc x h1).args hl).toH H,hk x h2⟩
theorem C6 {Φ:A5→A5→Prop}{H0 H:A5}{L:List En}(hO:C8 Φ H0 L H)(i:Nat){id:Nat}{cs:List V}{k:List V→Prop}(hi:L[i]? =some (.blk id (.cells cs)))(hk:k cs):E.load H id k:=by
 subst hE;exact⟨cs,hO.get i hi,hk⟩
theorem D1 {Φ:A5→A5→Prop}{H0 H:A5}{L:List En}(hO:C8 Φ H0 L H)(i:Nat){id off sz:Nat}{cs vs:List V}{k:A5→Prop}(hi:L[i]? =some (.blk id (.cells cs)))(hb:Nat.ble (off+sz) cs.length=true)
 (hk:∀H',C8 Φ H0 (L.set i (.blk id (.cells (Ah cs off vs)))) H'→k H'):E.store H id off sz vs k:=by
 subst hE;exact⟨cs,vs,.refl _,hO.get i hi,hb,hk _ (hO.set i hi)⟩
theorem ME {Φ:A5→A5→Prop}{H0 H:A5}{L:List En}(hO:C8 Φ H0 L H)(i:Nat){id off sz:Nat}{cs vs vs':List V}{k:A5→Prop}(hi:L[i]? =some (.blk id (.cells cs)))(hb:Nat.ble (off+sz) cs.length=true)(hl:M3 vs vs')
 (hk:∀H',C8 Φ H0 (L.set i (.blk id (.cells (Ah cs off vs')))) H'→k H'):E.store H id off sz vs k:=by
 subst hE;exact⟨cs,vs',hl,hO.get i hi,hb,hk _ (hO.set i hi)⟩
theorem F2 {Φ:A5→A5→Prop}{H0 H:A5}{L:List En}(hO:C8 Φ H0 L H){cs:List V}{k:Nat→A5→Prop}(hk:∀id H',C8 Φ H0 (.blk id (.cells cs)::L) H'→k id H'):E.alloc H cs k:=by
 subst hE;exact fun id hid=>hk id _ (hO.push hid rfl)
theorem Bl5 {Φ:A5→A5→Prop}{H0 H:A5}{L:List En}(hO:C8 Φ H0 L H)(i:Nat){id:Nat}{cs:List V}{k:List V→A5→Prop}(hi:L[i]? =some (.blk id (.cells cs)))(hk:∀H',C8 Φ H0 (L.eraseIdx i) H'→k cs H'):E.frzL H id k:=by
 subst hE;exact⟨cs,cs,hO.get i hi,.refl _,hk _ (hO.del i hi)⟩
theorem AK8 {α R:Type} {g:α→V} {cs:List V} {off sz n:Nat} {l:List α} {i:Int} {k:V→Prop} {F:α→Option R} {r:R} (hcs:cs=l.flatMap fun x=>(g x).cells) (hsz:∀x,(g x).cells.length=sz) (hn:l.length=n) (ho:off=0)
 (h:(B9 l i).bind F=some r) (hk:∀x,F x=some r→k (.eref (g x).cells 0)):E.elem cs off sz n i k:=by
 subst hE;subst ho;obtain⟨x,h1,h2⟩:=bind_some h
 unfold B9 at h1
 split at h1
 ·rename_i h0
  have key:∀(l:List α) (m:Nat) (x:α),l[m]? =some x→(((l.flatMap fun x=>(g x).cells).drop (m*sz)).take sz)=(g x).cells∧m<l.length∧(l.flatMap fun x=>(g x).cells).length=l.length*sz:=by
   intro l
   induction l with
   |nil=>simp_all
   | cons y l ih=>
    intro m x h
    have hlen:∀l:List α,(l.flatMap fun x=>(g x).cells).length=l.length*sz:=by
     intro l
     induction l with
     |nil=>simp
     |cons z l ih=>grind
    refine⟨?_,?_,hlen _⟩
    ·cases m with
     |zero=>
      simp_all
     |succ m=>
      have:=(ih m x (by grind)).1;rw[W3,show(m+1)*sz=(g y).cells.length+m*sz by rw[hsz,E2,U0];omega,List.drop_append,];rw[Dg (by omega),I5,show(g y).cells.length+m*sz-(g y).cells.length=m*sz by omega];exact this
    grind
  grind[I0]
 cases h1
theorem Ai8 {α R:Type} {f:α→V} {sz by_:Nat} (hsz:∀x,(f x).cells.length=sz) (hby:by_≤131072) {xs ys:List V} {l m:List α} {k:V→Prop} {F:List α→Option R} {r:R} (hx:M3 xs (lst f l)) (hy:M3 ys (lst f m)) (h:(P9 l m).bind F=some r)
 (hk:∀x,F x=some r→k (.sl (lst f x) .ro)):E.appq sz by_ xs ys k:=by
 subst hE;obtain⟨x,h1,h2⟩:=bind_some h
 unfold P9 at h1
 split at h1
 ·rename_i hc;cases h1;refine⟨_,_,hx,hy,OO hsz l,OO hsz m,?_,?_⟩
  ·rw[N3,N3];exact N0 (S4 hc hby) (by decide)
  grind[Nw]
 cases h1
theorem JX {α R:Type} {f:α→V} {sz by_:Nat} (hsz:∀x,(f x).cells.length=sz) (hby:by_≤131072) {Φ:A5→A5→Prop} {H0 H:A5} {L:List En} (hO:C8 Φ H0 L H) (i:Nat) {tl:K1} (hi:L[i]? =some (.tl tl)) (ha:FI tl)
 {xs ys:List V} {l m:List α} {k:V→A5→Prop} {F:List α→Option R} {r:R} (hx:M3 xs (lst f l)) (hy:M3 ys (lst f m)) (h:(P9 l m).bind F=some r)
 (hk:∀x tl' H',C8 Φ H0 (L.set i (.tl tl')) H'→FI tl'→F x=some r→k (.sl (lst f x) tl') H'):E.appn sz by_ H tl xs ys k:=by
 subst hE;obtain⟨x,h1,h2⟩:=bind_some h
 unfold P9 at h1
 split at h1
 ·rename_i hc;cases h1;refine⟨_,_,hx,hy,hO.appOk i hi ha,OO hsz l,OO hsz m,?_,fun hm=>?_,fun t ht hn=>?_⟩
  ·rw[N3,N3];exact N0 (S4 hc hby) (by decide)
  ·have hm':m=[]:=by
    have:=I4 List.length hm
    rw[N3]at this
    simp_all
   subst hm'
   have:=hk _ tl H (by
    have e:L.set i (.tl tl)=L:=by
     apply BD
     grind
    rw[e];exact hO) ha h2
   rwa[G4]at this
  rw[Nw];exact hk _ _ _ (hO.tok i hi hn) trivial h2
 cases h1
end
section
variable {P:Program}{nt:Nat}{rd:Option Nat}{T:ID}{E:FN}
abbrev Vm (P:Program)(T:ID):Prop:=Lz P T∧P.follows .mixedOrders=true
def R8 (cf:Cf)(hE:E=I0 P nt rd)(hP:Vm P T){c:Code}{st:St}{H:A5}{K:Exit→St→A5→Prop}(X:Exit→Fl→A5→Prop)(hd:M6 cf c=true)
 (h:AH1 E T nt cf c st H fun e st' H'=>∃l,X e l H'∧JS st'.l l∧st'.df=st.df) (after:∀e l H',X e l H'→K e ⟨l,st.df⟩ H'):E.sim c st H K:=by
 subst hE;refine(Ag5 hP.1 hP.2 c _ _ _ hd h).mono fun e fr2 H2 ⟨st',hle',l,h3,h1,h2⟩=>?_;exact⟨⟨l,st.df⟩,⟨fun t=>(hle'.s t).trans (h1.wk t),hle'.df.trans h2⟩,after _ _ _ h3⟩
def I7 (cf:Cf) (hE:E=I0 P nt rd) (hP:Vm P T) {σ R:Type} {step:σ→Option (σ⊕R)} {c:Code} {st:St} {H:A5} {K:Exit→St→A5→Prop} (fm:σ→Fl) (Inv:σ→A5→Prop) (X:R→Exit→Fl→A5→Prop) (hd:M6 cf c=true)
 (round:∀s H o,Inv s H→step s=some o→run E T nt cf c ⟨fm s,st.df⟩ H fun e st' H'=>match e with
  | .normal=>∃s',o= .inl s'∧JS st'.l (fm s')∧st'.df=st.df∧Inv s' H'
  |e=>∃x l,o= .inr x∧X x e l H'∧JS st'.l l∧st'.df=st.df)
 {N:Nat} {s0:σ} {r:R} (h:loopN step N s0=some r) (hf:JS st.l (fm s0)) (hI:Inv s0 H) (after:∀e l H',X r e l H'→K e ⟨l,st.df⟩ H'):E.sim (.loop c) st H K:=by
 subst hE;refine Ap.loopN (fun n fr' H'=>∃s,loopN step n s=some r∧Hi fr' ⟨fm s,st.df⟩∧Inv s H') N ⟨s0,h,⟨fun t=>hf.wk t,rfl⟩,hI⟩ fun n fr' H' ⟨s,hs,hle,hi⟩=>?_
 cases n with
 |zero=>cases hs
 | succ n=>
  simp only[loopN]at hs
  cases ho:step s with
  |none=>rw[ho]at hs;cases hs
  | some o=>
   rw[ho]at hs
   refine Ap.frLe hle ((O9 hP.1 hP.2 c _ _ _ hd (round s H' o hi ho)).mono fun e fr2 H2 ⟨st',hle',hq⟩=>?_)
   cases e with
   |normal=>
    obtain⟨s',h1,h2,h3,h4⟩:=hq;subst h1;exact⟨n,IS n,s',hs,⟨fun t=>(hle'.s t).trans (h2.wk t),hle'.df.trans h3⟩,h4⟩
   |_=>
    obtain⟨x,l,h1,h4,h2,h3⟩:=hq;subst h1;cases hs;exact⟨⟨l,st.df⟩,⟨fun t=>(hle'.s t).trans (h2.wk t),hle'.df.trans h3⟩,after _ _ _ h4⟩
def Bd (cf:Cf) (hE:E=I0 P nt rd) (hP:Vm P T) {σ γ R:Type} {step:σ→Option (σ⊕R)} {c:Code} {st:St} {H:A5} {K:Exit→St→A5→Prop} (fm:σ→γ→Fl) (Inv:σ→γ→A5→Prop) (X:R→Exit→Fl→A5→Prop) (hd:M6 cf c=true)
 (round:∀s g H o,Inv s g H→step s=some o→run E T nt cf c ⟨fm s g,st.df⟩ H fun e st' H'=>match e with
  | .normal=>∃s' g',o= .inl s'∧JS st'.l (fm s' g')∧st'.df=st.df∧Inv s' g' H'
  |e=>∃x l,o= .inr x∧X x e l H'∧JS st'.l l∧st'.df=st.df)
 {N:Nat} {s0:σ} (g0:γ) {r:R} (h:loopN step N s0=some r) (hf:JS st.l (fm s0 g0)) (hI:Inv s0 g0 H) (after:∀e l H',X r e l H'→K e ⟨l,st.df⟩ H'):E.sim (.loop c) st H K:=by
 subst hE;refine Ap.loopN (fun n fr' H'=>∃s g,loopN step n s=some r∧Hi fr' ⟨fm s g,st.df⟩∧Inv s g H') N ⟨s0,g0,h,⟨fun t=>hf.wk t,rfl⟩,hI⟩ fun n fr' H' ⟨s,g,hs,hle,hi⟩=>?_
 cases n with
 |zero=>cases hs
 | succ n=>
  simp only[loopN]at hs
  cases ho:step s with
  |none=>rw[ho]at hs;cases hs
  | some o=>
   rw[ho]at hs
   refine Ap.frLe hle ((O9 hP.1 hP.2 c _ _ _ hd (round s g H' o hi ho)).mono fun e fr2 H2 ⟨st',hle',hq⟩=>?_)
   cases e with
   |normal=>
    obtain⟨s',g',h1,h2,h3,h4⟩:=hq;subst h1;exact⟨n,IS n,s',g',hs,⟨fun t=>(hle'.s t).trans (h2.wk t),hle'.df.trans h3⟩,h4⟩
   |_=>
    obtain⟨x,l,h1,h4,h2,h3⟩:=hq;subst h1;cases hs;exact⟨⟨l,st.df⟩,⟨fun t=>(hle'.s t).trans (h2.wk t),hle'.df.trans h3⟩,after _ _ _ h4⟩
def Vj {f:FuncId}{fn:Func}{c:Code}{n:Nat}{rs:List ResultVar}{args:List V}{r:V}(cf:Cf)(hP:Vm P T)(hf:P.funcs[f]? =some fn)(hb:fn.body=some c)(hd:M6 cf c=true)
 (hcall:∀vals w,(callFunc f vals).run P w= .ok (.enter f vals) w) (hnt:fn.ntmps=n) (hrs:fn.results.toList=rs) (hn:Nat.ble args.length n=true)
 (h:∀(E:FN) (H:A5) (K:V→A5→Prop),E=I0 P n none→(∀x L H',C8 Eq H L H'→DF x r→K x H')→run E T n cf c ⟨CN args 0,[]⟩ H (Qe E T rs K)):C2 P f args r:=fun H=>by
 refine(X8 (K:=fun x H'=>∃y H2,DF x y∧HU H2 H'∧y=r∧H2=H) cf hP.1 hP.2 hf hb hd hcall hnt hrs hn fun E hE=>?_).le;exact h E H _ hE fun x L H' hO hx=>⟨r,H,hx,hO.ext,rfl,rfl⟩
end
abbrev DB:IF:=.obj (.deferred (some []))
section
variable {P:Program}{nt:Nat}{rd:Option Nat}{T:ID}{E:FN}
def Kr (hE:E=I0 P nt rd) {Φ:A5→A5→Prop} {H0 H:A5} {L:List En} (hO:C8 Φ H0 L H) (i:Nat) {d:Nat} {k:A5→Prop} (hi:L[i]? =some (.blk d DB)) (hk:∀H',C8 Φ H0 (L.eraseIdx i) H'→k H'):E.fin [d] H k:=by
 subst hE;have hd:=hO.get i hi;refine⟨⟨by simp,fun id hid=>?_⟩,?_⟩
 ·simp_all
 have e:clear H [d]=upd H d none:=by
  funext x;simp[clear,upd]
 rw[e];exact hk _ (hO.del i hi)
def Nb (P:Program)(f:FuncId)(args:List V)(Q:V→Prop):Prop:=∀H,M8 P f args H fun x H'=>Q x∧H'=H
def Nb.args {f:FuncId}{xs ys:List V}{Q:V→Prop}(h:Nb P f ys Q)(k:M3 xs ys):Nb P f xs Q:=fun H=>(h H).args k
def C2.q {f:FuncId}{args:List V}{r:V}{Q:V→Prop}(h:C2 P f args r)(hq:Q r):Nb P f args Q:=fun H=>(h H).mono fun x H' ⟨e1,e2⟩=>⟨e1▸hq,e2⟩
def JC (hE:E=I0 P nt rd){R S:Type}{m:Option S}{F:S→Option R}{r:R}{f:FuncId}{args args':List V}{Q:S→V→Prop}{H:A5}{k:V→A5→Prop}(h:m.bind F=some r)(hc:∀x,m=some x→Nb P f args' (Q x))(hl:M3 args args')
 (hk:∀x v,Q x v→F x=some r→k v H):E.call (.func (.func f) [] []) args H k:=by
 subst hE;obtain⟨x,h1,h2⟩:=bind_some h
 have h3:M8 P f args H k:=((hc x h1).args hl H).mono fun v H' ⟨hq,hH⟩=>by grind
 exact M8.value (F:=[]) (C:=[]) (by grind)
def Og {f:FuncId}{fn:Func}{c:Code}{n:Nat}{rs:List ResultVar}{args:List V}{Q:V→Prop}(cf:Cf)(hP:Vm P T)(hf:P.funcs[f]? =some fn)(hb:fn.body=some c)(hd:M6 cf c=true)
 (hcall:∀vals w,(callFunc f vals).run P w= .ok (.enter f vals) w) (hnt:fn.ntmps=n) (hrs:fn.results.toList=rs) (hn:Nat.ble args.length n=true)
 (h:∀(E:FN) (H:A5) (K:V→A5→Prop),E=I0 P n none→(∀x L H',C8 Eq H L H'→Q x→K x H')→run E T n cf c ⟨CN args 0,[]⟩ H (Qe E T rs K)):Nb P f args Q:=fun H=>by
 refine(X8 (K:=fun x H'=>∃y H2,DF x y∧HU H2 H'∧Q y∧H2=H) cf hP.1 hP.2 hf hb hd hcall hnt hrs hn fun E hE=>?_).le;exact h E H _ hE fun x L H' hO hx=>⟨x,H,.refl _,hO.ext,hx,rfl⟩
def Zo:List Nat→List V→Fl→Fl
 |p::ps,x::xs,l=>Zo ps xs ((p,.v x)::l)
 |_,_,l=>l
theorem Xg:∀(ps:List Nat) (xs:List V) (l:Fl) (t:Nat),Ii (fun t=>CZ l t) ps xs t=CZ (Zo ps xs l) t
 |[],xs,l,t=>by cases xs<;>rfl
 |p::ps,[],l,t=>rfl
 |p::ps,x::xs,l,t=>by
  simp only[Ii,Zo];rw[←Xg ps xs]
  congr 1
  funext q
  rw[Ar7];rfl
def jmp:Exit→Option Code
 | .ret=>some .ret
 | .exit k=>some (.exit k)
 |_=>none
variable {α σ R ι:Type}
def RgI (enc:α→List V)(step:σ→α→Option (σ⊕R))(o:σ⊕R)(Inv:σ→A5→A5→Prop)(l:List (List V))(F H:A5):Prop:=
 ∃q:σ×List α,(l=q.2.map enc∧L6 step q.2 q.1=some o)∧Inv q.1 F H
def RgD (o:σ⊕R)(X:R→Exit→A5→A5→Prop)(c:Code)(F H:A5):Prop:=∃q:R×Exit,(o= .inr q.1∧jmp q.2=some c)∧X q.1 q.2 F H
def RgJ (enc:α→List V)(step:σ→α→Option (σ⊕R))(o:σ⊕R)(fJ:ι→σ→α→Fl)(J:ι→σ→α→A5→A5→Prop)(x:List V)(l:List (List V))(fr:Fr)(F H:A5):Prop:=
 ∃q:ι×σ×α×List α,(x=enc q.2.2.1∧l=q.2.2.2.map enc∧L6 step (q.2.2.1::q.2.2.2) q.2.1=some o∧Hi fr ⟨fJ q.1 q.2.1 q.2.2.1,[]⟩)∧J q.1 q.2.1 q.2.2.1 F H
section
variable {enc:α→List V}{step:σ→α→Option (σ⊕R)}{g:Operand}{ps:Array Tmp}{asg body:Code}{st:St}{H:A5}{K:Exit→St→A5→Prop}
 {xs:List α} {s0:σ} {o:σ⊕R}
def Ax8 (cf:Cf) (hP:Vm P T) {Inv:σ→A5→A5→Prop} {fJ:ι→σ→α→Fl} {J:ι→σ→α→A5→A5→Prop} (hda:M6 cf asg=true)
 (asgP:∀(E':FN) (id:Nat) y s F H,E'=I0 P nt (some id)→Inv s F H→run E' T nt cf asg ⟨Zo ps.toList (enc y) st.l,[]⟩ H fun e st' H'=>match e with| .normal=>∃i,J i s y F H'∧JS st'.l (fJ i s y)∧st'.df=[]|_=>False):
 ∀(id:Nat) (L:LpI) x l F H,RgI enc step o Inv (x::l) F H→F id=some (.loop L)→x.length=ps.size→Ap P nt (some id) asg ⟨Ii (I9 st).s ps.toList x,[]⟩ H fun e fr' H1=>e= .normal∧RgJ enc step o fJ J x l fr' F H1:=by
 intro id L x l F H ⟨⟨s,ys⟩,⟨hl,hr⟩,hi⟩ _ _
 cases ys with
 |nil=>cases hl
 | cons y ys=>
  simp only[D9,U1]at hl
  obtain⟨rfl,rfl⟩:=hl
  have e:(⟨Ii (I9 st).s ps.toList (enc y),[]⟩:Fr)=I9 ⟨Zo ps.toList (enc y) st.l,[]⟩:=by
   simp only[I9,Fr.mk.injEq,O3]
   funext t
   grind[Xg]
  rw[e];refine(O9 hP.1 hP.2 asg _ _ _ hda (asgP _ id y s F H rfl hi)).mono fun e fr' H1 ⟨st',hle,hq⟩=>?_
  cases e with
  |normal=>
   obtain⟨i,hj,hl,hdf⟩:=hq;exact⟨rfl,⟨i,s,y,ys⟩,⟨rfl,rfl,hr,fun t=>(hle.s t).trans (hl.wk t),hle.df.trans hdf⟩,hj⟩
  |_=>exact hq.elim
def AH5 (cf:Cf) (hP:Vm P T) {Inv:σ→A5→A5→Prop} {X:R→Exit→A5→A5→Prop} {fJ:ι→σ→α→Fl} {J:ι→σ→α→A5→A5→Prop} (hdb:M6 cf body=true)
 (bodyP:∀(E':FN) (id:Nat) i y s F H o',E'=I0 P nt (some id)→(∃L,F id=some (.loop L))→step s y=some o'→J i s y F H→run E' T nt cf body ⟨fJ i s y,[]⟩ H fun e _ H'=>match e with
  | .normal=>∃s',o'= .inl s'∧Inv s' F H'
  |e=>∃r,o'= .inr r∧(jmp e).isSome=true∧X r e F H'):
 ∀(id:Nat) (L:LpI) x l fr' F H,RgJ enc step o fJ J x l fr' F H→F id=some (.loop L)→Ap P nt (some id) body fr' H fun e _ H'=>Aa1 (RgI enc step o Inv l) (RgD o X) F e H':=by
 intro id L x l fr' F H ⟨⟨i,s,y,ys⟩,⟨hx,hl,hr,hf⟩,hj⟩ hL;subst hx;subst hl
 simp only[L6]at hr
 cases ho:step s y with
 |none=>rw[ho]at hr;cases hr
 | some o'=>
  rw[ho]at hr
  refine Ap.frLe hf ((O9 hP.1 hP.2 body _ _ _ hdb (bodyP _ id i y s F H o' rfl ⟨L,hL⟩ ho hj)).mono fun e fr2 H2 ⟨st',hle,hq⟩=>?_)
  cases e with
  |normal=>
   obtain⟨s',h1,h2⟩:=hq;subst h1;exact⟨⟨s',ys⟩,⟨rfl,hr⟩,h2⟩
  |ret=>
   obtain⟨r,h1,h2,h3⟩:=hq;subst h1;exact⟨⟨r,.ret⟩,⟨by grind,rfl⟩,h3⟩
  |exit k=>
   obtain⟨r,h1,h2,h3⟩:=hq;subst h1;exact⟨⟨r,.exit k⟩,⟨by grind,rfl⟩,h3⟩
  |_=>
   obtain⟨r,h1,h2,h3⟩:=hq;cases h2
def PQ (cf:Cf) (hE:E=I0 P nt none) (hP:Vm P T) (Inv:σ→A5→A5→Prop) (X:R→Exit→A5→A5→Prop) (fJ:ι→σ→α→Fl) (J:ι→σ→α→A5→A5→Prop)
 (hI:∀s,G5 (Inv s)) (hX:∀r e,G5 (X r e)) (hJ:∀i s y,G5 (J i s y)) (hit:UR P ((X0 [] st.l g).V) (xs.map enc)) (h:L6 step xs s0=some o) {F:A5} (h0:Inv s0 F H)
 (hnt:∀p∈ps,p<nt) (hps:∀x,(enc x).length=ps.size) (hda:M6 cf asg=true) (hdb:M6 cf body=true)
 (asgP:∀(E':FN) (id:Nat) y s F H,E'=I0 P nt (some id)→Inv s F H→run E' T nt cf asg ⟨Zo ps.toList (enc y) st.l,[]⟩ H fun e st' H'=>match e with| .normal=>∃i,J i s y F H'∧JS st'.l (fJ i s y)∧st'.df=[]|_=>False)
 (bodyP:∀(E':FN) (id:Nat) i y s F H o',E'=I0 P nt (some id)→(∃L,F id=some (.loop L))→step s y=some o'→J i s y F H→run E' T nt cf body ⟨fJ i s y,[]⟩ H fun e _ H'=>match e with
  | .normal=>∃s',o'= .inl s'∧Inv s' F H'
  |e=>∃r,o'= .inr r∧(jmp e).isSome=true∧X r e F H')
 (done:∀d s H',o= .inl s→F d=none→Inv s (upd F d (some DB)) H'→K .normal ⟨st.l,d::st.df⟩ H')
 (stop:∀d r e H',o= .inr r→F d=none→X r e (upd F d (some DB)) H'→K e ⟨st.l,d::st.df⟩ H'):E.sim (.rangeFunc g ps asg body) st H K:=by
 subst hE;have hev:ev (I9 st) g=(X0 [] st.l g).V:=(Ge (df:=st.df) MZ.nil g).symm
 rw[←hev]at hit
 have sI:∀l,G5 (RgI enc step o Inv l):=fun l=>G5.ex fun q=>hI q.1;have sD:∀c,G5 (RgD o X c):=fun c=>G5.ex fun q=>hX q.1 q.2;have sJ:∀x l fr,G5 (RgJ enc step o fJ J x l fr):=fun x l fr=>G5.ex fun q=>hJ q.1 q.2.1 q.2.2.1;refine Ap.rangeOuter (nt:=nt) hnt (fun x hx=>?_) hit (RgI enc step o Inv) (RgD o X) sI sD (RgJ enc step o fJ J) sJ ⟨⟨s0,xs⟩,⟨rfl,h⟩,h0⟩ (Ax8 cf hP hda asgP) (AH5 cf hP hdb bodyP) (fun d H' hd ⟨⟨s,ys⟩,⟨hl,hr⟩,hi⟩=>?_) fun c d H' hd ⟨⟨r,e⟩,⟨ho,hj⟩,hx⟩=>?_
 ·grind
 ·have hys:ys=[]:=by
   simp_all
  subst hys;cases hr;exact⟨⟨st.l,d::st.df⟩,⟨fun t=>Wk.refl _,rfl⟩,done d s H' rfl hd hi⟩
 have hk:=stop d r e H' ho hd hx
 cases e with
 |ret=>cases hj;exact Ap.ret ⟨⟨st.l,d::st.df⟩,⟨fun t=>Wk.refl _,rfl⟩,hk⟩
 |exit k=>cases hj;exact Ap.exit ⟨⟨st.l,d::st.df⟩,⟨fun t=>Wk.refl _,rfl⟩,hk⟩
 |_=>cases hj
end
end
def C8.dblk {Φ:A5→A5→Prop} {H0 H:A5} {L:List En} {d:Nat} (hd:H0 d=none) (h:C8 Φ (upd H0 d (some DB)) L H):C8 Φ H0 (L++[.blk d DB]) H:=by
 obtain⟨hs,F',H1,h0,h1,h2⟩:=h;refine⟨hs,F',H1,⟨fun x b hx=>h0.ext x b ?_,fun i e x b hi he=>?_,fun i j e e' x b b' hi hj he he'=>?_,fun x b hx=>?_⟩,h1,h2⟩
 rotate_right
 ·rcases h0.only x b hx with h|⟨i,e,hi,he⟩
  ·by_cases hxd:x=d
   ·subst hxd;rw[F5]at h;cases h;exact .inr ⟨L.length,.blk x DB,by simp,rfl⟩
   simp_all[upd]
  refine .inr ⟨i,e,?_,he⟩
  grind
 ·rw[C9 _ _ (Bb hd hx)];exact hx
 ·rcases Bn i L.length with hlt|hge
  ·rw[Jh hlt]at hi
   have:=h0.has i e x b hi he
   grind[C9]
  rw[FU hge]at hi
  cases hm:i-L.length with
  |zero=>rw[hm]at hi;simp at hi;subst hi;cases he;exact⟨hd,h0.ext _ _ (F5 _ _ _)⟩
  |succ m=>rw[hm]at hi;simp at hi
 have hDB:∀(i:Nat) e,(L++[.blk d DB])[i]? =some e→(i<L.length∧L[i]? =some e)∨(i=L.length∧e= .blk d DB):=fun i e hi=>by
  grind
 have nd:∀(i:Nat) e x b,L[i]? =some e→e.id=some (x,b)→x≠d:=fun m e x b hm he eq=>by
  have:=(h0.has m e x b hm he).1
  rw[eq,F5]at this;cases this
 rcases hDB i e hi with⟨_,ki⟩|⟨ki,rfl⟩<;>rcases hDB j e' hj with⟨_,kj⟩|⟨kj,rfl⟩
 ·exact h0.inj i j e e' x b b' ki kj he he'
 ·cases he';grind
 ·cases he;grind
 omega
def Qs (P:Program)(yv:V)(I:List (List V)→A5→A5→Prop)(D:A5→A5→Prop):Prop:=
 (yv.one=true∧yv.cells=[yv])∧∀x l F H,I (x::l) F H→CW P yv x H fun r H'=>(r= .bool true∧I l F H')∨(r= .bool false∧D F H')
def Qv (P:Program)(f:FuncId)(args:V→List V)(xs:List (List V))(rb:V→Bool→Prop):Prop:=
 ∀yv I D,(∀l,G5 (I l))→G5 D→Qs P yv I D→∀tl F H,I (xs++tl) F H→M8 P f (args yv) H fun v H'=>(rb v true∧I tl F H')∨(rb v false∧D F H')
def rbB (v:V)(b:Bool):Prop:=v= .bool b
def rbN (_:V)(_:Bool):Prop:=True
section
variable {P:Program}{nt:Nat}{rd:Option Nat}{T:ID}{E:FN}{I:List (List V)→A5→A5→Prop}{D:A5→A5→Prop}
def CW.heap {fv:V}{args:List V}{H H1:A5}{K:V→A5→Prop}(h:CW P fv args H1 K)(hl:HU H1 H):CW P fv args H K:=
 fun g w v vals hR hv hA=>h g w v vals (hR.less hl) hv hA
def M8.heap {f:FuncId}{args:List V}{H H1:A5}{K:V→A5→Prop}(h:M8 P f args H1 K)(hl:HU H1 H):M8 P f args H K:=
 fun g w vals hR hA=>h g w vals (hR.less hl) hA
def Nu (hE:E=I0 P nt rd)(hI:∀l,G5 (I l))(hD:G5 D){yv:V}(hy:Qs P yv I D){F H:A5}{L:List En}{args x:List V}{l:List (List V)}{k:V→A5→Prop}(hO:C8 (I (x::l)) F L H)(hl:M3 args x)
 (h1:∀H',C8 (I l) F L H'→k (.bool true) H') (h2:∀H',C8 D F L H'→k (.bool false) H'):E.call yv args H k:=by
 subst hE;obtain⟨hs,F',H1,h0,hi,hle⟩:=hO;refine(CW.mono (((hy.2 x l F' H1 hi).heap hle).args hl) fun r H' hr=>?_)
 rcases hr with⟨rfl,hr⟩|⟨rfl,hr⟩
 ·exact h1 H' ⟨hI l,F',H',h0,hr,HU.refl _⟩
 exact h2 H' ⟨hD,F',H',h0,hr,HU.refl _⟩
def Xk (hE:E=I0 P nt rd) (hI:∀l,G5 (I l)) (hD:G5 D) {yv:V} (hy:Qs P yv I D) {f:FuncId} {args':V→List V} {xs tl:List (List V)} {rb:V→Bool→Prop} (hc:Qv P f args' xs rb) {F H:A5} {L:List En} {args:List V} {k:V→A5→Prop} (hO:C8 (I (xs++tl)) F L H)
 (hl:M3 args (args' yv)) (h1:∀v H',rb v true→C8 (I tl) F L H'→k v H') (h2:∀v H',rb v false→C8 D F L H'→k v H'):E.call (.func (.func f) [] []) args H k:=by
 subst hE;obtain⟨hs,F',H1,h0,hi,hle⟩:=hO
 have h3:M8 P f args H k:=(((hc yv I D hI hD hy tl F' H1 hi).heap hle).args hl).mono fun v H' hr=>by
  rcases hr with⟨hb,hr⟩|⟨hb,hr⟩
  ·exact h1 v H' hb ⟨hI tl,F',H',h0,hr,HU.refl _⟩
  exact h2 v H' hb ⟨hD,F',H',h0,hr,HU.refl _⟩
 exact M8.value (F:=[]) (C:=[]) (by grind)
def TO (hE:E=I0 P nt rd){c:Bool}{x y:Unit→Prop}(hc:c=true)(h:x ()):E.br c x y:=by simp_all[I0]
def TP (hE:E=I0 P nt rd){c:Bool}{x y:Unit→Prop}(hc:c=false)(h:y ()):E.br c x y:=by simp_all[I0]
def Ed {f:FuncId} {fn:Func} {c:Code} {n:Nat} {rs:List ResultVar} {args:V→List V} {xs:List (List V)} {rb:V→Bool→Prop} (cf:Cf) (hP:Vm P T) (hf:P.funcs[f]? =some fn) (hb:fn.body=some c) (hd:M6 cf c=true)
 (hcall:∀vals w,(callFunc f vals).run P w= .ok (.enter f vals) w) (hnt:fn.ntmps=n) (hrs:fn.results.toList=rs) (hn:∀yv,Nat.ble (args yv).length n=true)
 (h:∀(yv:V) (I:List (List V)→A5→A5→Prop) (D:A5→A5→Prop),(∀l,G5 (I l))→G5 D→Qs P yv I D→∀(tl:List (List V)) (F:A5) (E:FN) (H:A5) (K:V→A5→Prop),E=I0 P n none→C8 (I (xs++tl)) F [] H→
  (∀x L H',C8 (I tl) F L H'→rb x true→K x H')→(∀x L H',C8 D F L H'→rb x false→K x H')→run E T n cf c ⟨CN (args yv) 0,[]⟩ H (Qe E T rs K)):Qv P f args xs rb:=by
 intro yv I D hI hD hy tl F H hi;refine(X8 (K:=fun x H'=>∃y H2,DF x y∧HU H2 H'∧((rb y true∧I tl F H2)∨(rb y false∧D F H2))) cf hP.1 hP.2 hf hb hd hcall hnt hrs (hn yv) fun E hE=>?_).le;refine h yv I D hI hD hy tl F E H _ hE (C8.start (hI _) hi) (fun x L H' hO hx=>?_) fun x L H' hO hx=>?_
 ·obtain⟨H2,h1,h2⟩:=hO.out;exact⟨x,H2,.refl _,h2,.inl ⟨hx,h1⟩⟩
 obtain⟨H2,h1,h2⟩:=hO.out;exact⟨x,H2,.refl _,h2,.inr ⟨hx,h1⟩⟩
def Ob {f:FuncId}{C:List V}{xs:List (List V)}{rb:V→Bool→Prop}(hcall:∀vals w,(callFunc f vals).run P w= .ok (.enter f vals) w)(h:Qv P f (fun yv=>yv::C) xs rb):UR P (.func (.func f) [] C) xs:=
 ⟨f,C,rfl,hcall,fun yv I D hI hD hy F H hi=>(h yv I D hI hD hy [] F H (by rwa[G4])).mono fun v H' hr=>hr.imp (fun h=>h.2) fun h=>h.2⟩
noncomputable def Vi (ds:List Nat):List En:=List.rec (motive:=fun _=>List En) [] (fun d _ l=>l++[.blk d DB]) ds
def Ab2 (d:Nat)(ds:List Nat):Vi (d::ds)=Vi ds++[.blk d DB]:=rfl
def C8.dbs1 {Φ:A5→A5→Prop}{H0 H:A5}{A:List En}{d:Nat}{ds:List Nat}(h:C8 Φ H0 ((A++Vi ds)++[.blk d DB]) H):C8 Φ H0 (A++Vi (d::ds)) H:=by
 rw[Ab2,←E7];exact h
def AY6 {Φ:A5→A5→Prop} {H0:A5} {A:List En}:∀{ds:List Nat} {H:A5},C8 Φ H0 (A++Vi ds) H→ds.Nodup∧(∀id,id∈ds→H id=some DB)∧C8 Φ H0 A (clear H ds):=by
 intro ds
 induction ds with
 |nil=>
  intro H h
  have e:clear H []=H:=by funext x;simp[clear]
  rw[e]
  grind[Vi]
 | cons d ds ih=>
  intro H h
  rw[Ab2,←E7]at h
  have hi:((A++Vi ds)++[En.blk d DB])[(A++Vi ds).length]? =some (.blk d DB):=by simp
  have hd:=h.get _ hi;have h1:=h.del _ hi
  have e:((A++Vi ds)++[En.blk d DB]).eraseIdx (A++Vi ds).length=A++Vi ds:=by
   rw[List.eraseIdx_append_of_length_le (B1 _)];simp
  rw[e]at h1
  obtain⟨a1,a2,a3⟩:=ih h1;refine⟨List.nodup_cons.2 ⟨fun hm=>?_,a1⟩,fun id hid=>?_,?_⟩
  ·have:=a2 d hm;rw[F5]at this;cases this
  ·grind[C9]
  have e2:clear (upd H d none) ds=clear H (d::ds):=by
   funext x
   grind[clear,upd]
  rwa[e2]at a3
def AK7 (hE:E=I0 P nt rd){Φ:A5→A5→Prop}{H0 H:A5}{A:List En}{ds:List Nat}(hO:C8 Φ H0 (A++Vi ds) H){k:A5→Prop}(hk:∀H',C8 Φ H0 A H'→k H'):E.fin ds H k:=by
 subst hE;obtain⟨a1,a2,a3⟩:=AY6 hO;exact⟨⟨a1,a2⟩,hk _ a3⟩
def AK6 (cf:Cf) (hE:E=I0 P nt rd) (hP:Vm P T) {β σ γ R:Type} {step:σ→Option (List β×(σ⊕R))} {c:Code} {st:St} {H:A5} {K:Exit→St→A5→Prop} (fm:σ→γ→Fl) (Inv:σ→γ→List Nat→List β→A5→Prop) (X:R→Exit→Fl→List Nat→List β→A5→Prop) (Xa:Exit→Fl→List Nat→A5→Prop) (hd:M6 cf c=true)
 (round:∀s g ds w1 w2 H o,Inv s g ds (w1++w2) H→step s=some (w1,o)→run E T nt cf c ⟨fm s g,ds⟩ H fun e st' H'=>match e with
  | .normal=>∃s' g' ds',o= .inl s'∧JS st'.l (fm s' g')∧st'.df=ds'∧Inv s' g' ds' w2 H'
  |e=>(∃x l ds',o= .inr x∧X x e l ds' w2 H'∧JS st'.l l∧st'.df=ds')∨∃l ds',Xa e l ds' H'∧JS st'.l l∧st'.df=ds')
 {N:Nat} {s0:σ} (g0:γ) {w w':List β} {r:R} (h:DA step N s0=some (w,r)) (hdf:st.df=[]) (hf:JS st.l (fm s0 g0)) (hI:Inv s0 g0 [] (w++w') H) (after:∀e l ds H',X r e l ds w' H'→K e ⟨l,ds⟩ H') (afterA:∀e l ds H',Xa e l ds H'→K e ⟨l,ds⟩ H'):E.sim (.loop c) st H K:=by
 subst hE;refine Ap.loopN (fun n fr' H'=>∃s g ds w,DA step n s=some (w,r)∧Hi fr' ⟨fm s g,ds⟩∧Inv s g ds (w++w') H') N ⟨s0,g0,[],w,h,⟨fun t=>hf.wk t,hdf⟩,hI⟩ fun n fr' H' ⟨s,g,ds,w,hs,hle,hi⟩=>?_
 cases n with
 |zero=>cases hs
 | succ n=>
  simp only[DA]at hs
  cases ho:step s with
  |none=>rw[ho]at hs;cases hs
  | some p=>
   obtain⟨w1,o⟩:=p
   rw[ho]at hs
   obtain⟨w2,hw,hrest⟩:∃w2,w=w1++w2∧match o with| .inl s'=>DA step n s'=some (w2,r)| .inr x=>x=r∧w2=[]:=by
    cases o with
    |inl s'=>
     grind
    |inr x=>grind
   subst hw
   rw[E7]at hi
   refine Ap.frLe hle ((O9 hP.1 hP.2 c _ _ _ hd (round s g ds w1 (w2++w') H' o hi ho)).mono fun e fr2 H2 ⟨st',hle',hq⟩=>?_)
   have exits:∀e,((∃x l ds',o= .inr x∧X x e l ds' (w2++w') H2∧JS st'.l l∧st'.df=ds')∨∃l ds',Xa e l ds' H2∧JS st'.l l∧st'.df=ds')→∃st'',Hi fr2 st''∧K e st'' H2:=by
    intro e hq
    rcases hq with⟨x,l,ds',h1,h4,h2,h3⟩|⟨l,ds',h4,h2,h3⟩
    ·subst h1;obtain⟨rfl,rfl⟩:=hrest;exact⟨⟨l,ds'⟩,⟨fun t=>(hle'.s t).trans (h2.wk t),hle'.df.trans h3⟩,after _ _ _ _ h4⟩
    exact⟨⟨l,ds'⟩,⟨fun t=>(hle'.s t).trans (h2.wk t),hle'.df.trans h3⟩,afterA _ _ _ _ h4⟩
   cases e with
   |normal=>
    obtain⟨s',g',ds',h1,h2,h3,h4⟩:=hq;subst h1;exact⟨n,IS n,s',g',ds',w2,hrest,⟨fun t=>(hle'.s t).trans (h2.wk t),hle'.df.trans h3⟩,h4⟩
   |_=>exact exits _ hq
def Aq7 (cf:Cf) (hE:E=I0 P nt rd) (hP:Vm P T) {β σ γ R:Type} {step:σ→Option (List β×(σ⊕R))} {c:Code} {st:St} {H:A5} {K:Exit→St→A5→Prop} (fm:σ→γ→Fl) (Inv:σ→γ→List β→A5→Prop) (X:R→Exit→Fl→List β→A5→Prop) (Xa:Exit→Fl→A5→Prop) (hd:M6 cf c=true)
 (round:∀s g w1 w2 H o,Inv s g (w1++w2) H→step s=some (w1,o)→run E T nt cf c ⟨fm s g,st.df⟩ H fun e st' H'=>match e with
  | .normal=>∃s' g',o= .inl s'∧JS st'.l (fm s' g')∧st'.df=st.df∧Inv s' g' w2 H'
  |e=>(∃x l,o= .inr x∧X x e l w2 H'∧JS st'.l l∧st'.df=st.df)∨∃l,Xa e l H'∧JS st'.l l∧st'.df=st.df)
 {N:Nat} {s0:σ} (g0:γ) {w w':List β} {r:R} (h:DA step N s0=some (w,r)) (hf:JS st.l (fm s0 g0)) (hI:Inv s0 g0 (w++w') H) (after:∀e l H',X r e l w' H'→K e ⟨l,st.df⟩ H') (afterA:∀e l H',Xa e l H'→K e ⟨l,st.df⟩ H'):E.sim (.loop c) st H K:=by
 subst hE;refine Ap.loopN (fun n fr' H'=>∃s g w,DA step n s=some (w,r)∧Hi fr' ⟨fm s g,st.df⟩∧Inv s g (w++w') H') N ⟨s0,g0,w,h,⟨fun t=>hf.wk t,rfl⟩,hI⟩ fun n fr' H' ⟨s,g,w,hs,hle,hi⟩=>?_
 cases n with
 |zero=>cases hs
 | succ n=>
  simp only[DA]at hs
  cases ho:step s with
  |none=>rw[ho]at hs;cases hs
  | some p=>
   obtain⟨w1,o⟩:=p
   rw[ho]at hs
   obtain⟨w2,hw,hrest⟩:∃w2,w=w1++w2∧match o with| .inl s'=>DA step n s'=some (w2,r)| .inr x=>x=r∧w2=[]:=by
    cases o with
    |inl s'=>
     grind
    |inr x=>grind
   subst hw
   rw[E7]at hi
   refine Ap.frLe hle ((O9 hP.1 hP.2 c _ _ _ hd (round s g w1 (w2++w') H' o hi ho)).mono fun e fr2 H2 ⟨st',hle',hq⟩=>?_)
   have exits:∀e,((∃x l,o= .inr x∧X x e l (w2++w') H2∧JS st'.l l∧st'.df=st.df)∨∃l,Xa e l H2∧JS st'.l l∧st'.df=st.df)→∃st'',Hi fr2 st''∧K e st'' H2:=by
    intro e hq
    rcases hq with⟨x,l,h1,h4,h2,h3⟩|⟨l,h4,h2,h3⟩
    ·subst h1;obtain⟨rfl,rfl⟩:=hrest;exact⟨⟨l,st.df⟩,⟨fun t=>(hle'.s t).trans (h2.wk t),hle'.df.trans h3⟩,after _ _ _ h4⟩
    exact⟨⟨l,st.df⟩,⟨fun t=>(hle'.s t).trans (h2.wk t),hle'.df.trans h3⟩,afterA _ _ _ h4⟩
   cases e with
   |normal=>
    obtain⟨s',g',h1,h2,h3,h4⟩:=hq;subst h1;exact⟨n,IS n,s',g',w2,hrest,⟨fun t=>(hle'.s t).trans (h2.wk t),hle'.df.trans h3⟩,h4⟩
   |_=>exact exits _ hq
end
section
variable {P:Program}{nt:Nat}{T:ID}{E:FN}{α β σ R ι:Type}
def REI (enc:α→List V)(step:σ→α→Option (List β×(σ⊕R)))(o:σ⊕R)(w':List β)(Inv:σ→List β→A5→A5→Prop)(l:List (List V))(F H:A5):Prop:=
 ∃q:σ×List α×List β,(l=q.2.1.map enc∧Ax step q.2.1 q.1=some (q.2.2,o))∧Inv q.1 (q.2.2++w') F H
def RED (o:σ⊕R)(w':List β)(X:R→Exit→List β→A5→A5→Prop)(Xa:Exit→A5→A5→Prop)(c:Code)(F H:A5):Prop:=
 (∃q:R×Exit,(o= .inr q.1∧jmp q.2=some c)∧X q.1 q.2 w' F H)∨∃q:Exit,jmp q=some c∧Xa q F H
def REJ (enc:α→List V)(step:σ→α→Option (List β×(σ⊕R)))(o:σ⊕R)(w':List β)(fJ:ι→σ→α→Fl)(J:ι→σ→α→List β→A5→A5→Prop)(x:List V)(l:List (List V))(fr:Fr)(F H:A5):Prop:=
 ∃q:ι×σ×α×List α×List β,(x=enc q.2.2.1∧l=q.2.2.2.1.map enc∧Ax step (q.2.2.1::q.2.2.2.1) q.2.1=some (q.2.2.2.2,o)∧Hi fr ⟨fJ q.1 q.2.1 q.2.2.1,[]⟩)∧J q.1 q.2.1 q.2.2.1 (q.2.2.2.2++w') F H
def G5.or {I J:A5→A5→Prop}(h:G5 I)(k:G5 J):G5 fun F H=>I F H∨J F H:=
 ⟨fun hh=>hh.elim (fun x=>h.le x) fun x=>k.le x,fun id b hh e=>hh.imp (fun x=>h.chg id b x e) fun x=>k.chg id b x e⟩
variable {enc:α→List V}{step:σ→α→Option (List β×(σ⊕R))}{g:Operand}{ps:Array Tmp}{asg body:Code}{st:St}{H:A5}{K:Exit→St→A5→Prop}
 {xs:List α} {s0:σ} {o:σ⊕R} {w w':List β}
def TK (cf:Cf) (hE:E=I0 P nt none) (hP:Vm P T) (Inv:σ→List β→A5→A5→Prop) (X:R→Exit→List β→A5→A5→Prop) (Xa:Exit→A5→A5→Prop) (fJ:ι→σ→α→Fl) (J:ι→σ→α→List β→A5→A5→Prop)
 (hI:∀s w,G5 (Inv s w)) (hX:∀r e w,G5 (X r e w)) (hXa:∀e,G5 (Xa e)) (hJ:∀i s y w,G5 (J i s y w)) (hit:UR P ((X0 [] st.l g).V) (xs.map enc)) (h:Ax step xs s0=some (w,o)) {F:A5} (h0:Inv s0 (w++w') F H)
 (hnt:∀p∈ps,p<nt) (hps:∀x,(enc x).length=ps.size) (hda:M6 cf asg=true) (hdb:M6 cf body=true)
 (asgP:∀(E':FN) (id:Nat) y s w F H,E'=I0 P nt (some id)→Inv s w F H→run E' T nt cf asg ⟨Zo ps.toList (enc y) st.l,[]⟩ H fun e st' H'=>match e with| .normal=>∃i,J i s y w F H'∧JS st'.l (fJ i s y)∧st'.df=[]|_=>False)
 (bodyP:∀(E':FN) (id:Nat) i y s w1 w2 F H o',E'=I0 P nt (some id)→(∃L,F id=some (.loop L))→step s y=some (w1,o')→J i s y (w1++w2) F H→run E' T nt cf body ⟨fJ i s y,[]⟩ H fun e _ H'=>match e with
  | .normal=>∃s',o'= .inl s'∧Inv s' w2 F H'
  |e=>(∃r,o'= .inr r∧(jmp e).isSome=true∧X r e w2 F H')∨((jmp e).isSome=true∧Xa e F H'))
 (done:∀d s H',o= .inl s→F d=none→Inv s w' (upd F d (some DB)) H'→K .normal ⟨st.l,d::st.df⟩ H')
 (stop:∀d r e H',o= .inr r→F d=none→X r e w' (upd F d (some DB)) H'→K e ⟨st.l,d::st.df⟩ H')
 (stopA:∀d e H',F d=none→Xa e (upd F d (some DB)) H'→K e ⟨st.l,d::st.df⟩ H'):E.sim (.rangeFunc g ps asg body) st H K:=by
 subst hE;have hev:ev (I9 st) g=(X0 [] st.l g).V:=(Ge (df:=st.df) MZ.nil g).symm
 rw[←hev]at hit
 have sI:∀l,G5 (REI enc step o w' Inv l):=fun l=>G5.ex fun q=>hI q.1 _;have sD:∀c,G5 (RED o w' X Xa c):=fun c=>G5.or (G5.ex fun q=>hX q.1 q.2 w') (G5.ex fun q=>hXa q);have sJ:∀x l fr,G5 (REJ enc step o w' fJ J x l fr):=fun x l fr=>G5.ex fun q=>hJ q.1 q.2.1 q.2.2.1 _;refine Ap.rangeOuter (nt:=nt) hnt (fun x hx=>?_) hit (REI enc step o w' Inv) (RED o w' X Xa) sI sD (REJ enc step o w' fJ J) sJ ⟨⟨s0,xs,w⟩,⟨rfl,h⟩,h0⟩ ?_ ?_ (fun d H' hd ⟨⟨s,ys,w2⟩,⟨hl,hr⟩,hi⟩=>?_) fun c d H' hd hx=>?_
 ·grind
 ·intro id L x l F H ⟨⟨s,ys,w2⟩,⟨hl,hr⟩,hi⟩ _ _
  cases ys with
  |nil=>cases hl
  | cons y ys=>
   simp only[D9,U1]at hl
   obtain⟨rfl,rfl⟩:=hl
   have e:(⟨Ii (I9 st).s ps.toList (enc y),[]⟩:Fr)=I9 ⟨Zo ps.toList (enc y) st.l,[]⟩:=by
    simp only[I9,Fr.mk.injEq,O3]
    funext t
    grind[Xg]
   rw[e];refine(O9 hP.1 hP.2 asg _ _ _ hda (asgP _ id y s _ F H rfl hi)).mono fun e fr' H1 ⟨st',hle,hq⟩=>?_
   cases e with
   |normal=>
    obtain⟨i,hj,hl,hdf⟩:=hq;exact⟨rfl,⟨i,s,y,ys,w2⟩,⟨rfl,rfl,hr,fun t=>(hle.s t).trans (hl.wk t),hle.df.trans hdf⟩,hj⟩
   |_=>exact hq.elim
 ·intro id L x l fr' F H ⟨⟨i,s,y,ys,w2⟩,⟨hx,hl,hr,hf⟩,hj⟩ hL;subst hx;subst hl
  simp only[Ax]at hr
  cases ho:step s y with
  |none=>rw[ho]at hr;cases hr
  | some p=>
   obtain⟨w1,o'⟩:=p
   rw[ho]at hr
   obtain⟨w3,hw,hrest⟩:∃w3,w2=w1++w3∧match o' with| .inl s'=>Ax step ys s'=some (w3,o)| .inr x=>o= .inr x∧w3=[]:=by
    cases o' with
    |inl s'=>
     grind
    |inr x=>grind
   subst hw
   dsimp only at hj
   rw[E7]at hj
   refine Ap.frLe hf ((O9 hP.1 hP.2 body _ _ _ hdb (bodyP _ id i y s w1 (w3++w') F H o' rfl ⟨L,hL⟩ ho hj)).mono fun e fr2 H2 ⟨st',hle,hq⟩=>?_)
   have out:∀e c,jmp e=some c→((∃r,o'= .inr r∧(jmp e).isSome=true∧X r e (w3++w') F H2)∨((jmp e).isSome=true∧Xa e F H2))→RED o w' X Xa c F H2:=by
    intro e c hc hq
    rcases hq with⟨r,h1,_,h3⟩|⟨_,h3⟩
    ·subst h1;obtain⟨rfl,rfl⟩:=hrest;exact .inl ⟨⟨r,e⟩,⟨rfl,hc⟩,h3⟩
    grind[RED]
   cases e with
   |normal=>
    obtain⟨s',h1,h2⟩:=hq;subst h1;exact⟨⟨s',ys,w3⟩,⟨rfl,hrest⟩,h2⟩
   |ret=>exact out .ret _ rfl hq
   |exit k=>exact out (.exit k) _ rfl hq
   |_=>rcases hq with⟨_,_,h,_⟩|⟨h,_⟩<;>cases h
 ·have hys:ys=[]:=by
   simp_all
  subst hys;cases hr;exact⟨⟨st.l,d::st.df⟩,⟨fun t=>Wk.refl _,rfl⟩,done d s H' rfl hd hi⟩
 have fin:∀e,jmp e=some c→K e ⟨st.l,d::st.df⟩ H'→Ap P nt none c {I9 st with df:=d::(I9 st).df} H' fun e fr' H'=>∃st',Hi fr' st'∧K e st' H':=by
  intro e hj hk
  cases e with
  |ret=>cases hj;exact Ap.ret ⟨⟨st.l,d::st.df⟩,⟨fun t=>Wk.refl _,rfl⟩,hk⟩
  |exit k=>cases hj;exact Ap.exit ⟨⟨st.l,d::st.df⟩,⟨fun t=>Wk.refl _,rfl⟩,hk⟩
  |_=>cases hj
 rcases hx with⟨⟨r,e⟩,⟨ho,hj⟩,hx⟩|⟨e,hj,hx⟩
 ·grind
 grind
end
end Go.Ab
namespace Go.Ab
def Lu {α:Type}(l:List α)(i:Int):Bool:=decide (0≤i∧i<(l.length:Nat))
def FJ {α:Type}(l:List α)(i:Int)(u:α→α):Option (List α):=(B9 l i).map fun x=>l.set i.toNat (u x)
def mkL {α:Type}(n m:Int)(z:α):Option (List α):=if 0≤n∧n≤m∧m≤1073741824 then some (List.replicate n.toNat z)else none
def SI {α:Type}(l:List α)(i j:Int):Option (List α):=if 0≤i∧i≤j∧j≤(l.length:Nat)then some (l.take i.toNat++l.drop j.toNat)else none
def As6 {α:Type}(_:List α)(n:Int):Option (List α):=if 0≤n∧n≤1073741824 then some []else none
end Go.Ab
