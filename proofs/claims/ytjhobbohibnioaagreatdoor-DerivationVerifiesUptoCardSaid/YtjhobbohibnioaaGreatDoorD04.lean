/- AbA12 AbA13 AbA14 AbA15 AbA16 AbA17 AbA18 AbA19 -/
import Derived.Test.YtjhobbohibnioaaGreatDoorD03
import Derived.RangeFuncRecord
import Derived.OrdersIn
import Derived.RangeFuncNested
set_option linter.all false
open Bool (and_eq_true)
open Array (all_eq_true any_eq_true)
namespace Go.Ab
open Go.RowKit
variable [J9]
def Fw (r:Option Nat):Fence:={fn:=fun _=>True,depth:=none,alive:=false,round:=r}
theorem NY {r:Option Nat}{P:Program}{f:FuncId}{args:Array Value}{w:World}{R:Ending→World→Prop}(h:CallsIn Fence.wide 0 P f args w R):CallsIn (Fw r) 0 P f args w R:=h
theorem Un {r:Option Nat}{P:Program}{l:Nat}{f:FuncId}{tmps:Array Value}{c d:Code}{w:World}{R:Ending→World→Prop}(h:RoundIn Fence.wide 0 P l f tmps c d w R):RoundIn (Fw r) 0 P l f tmps c d w R:=h
theorem Sv {P:Program}{A:Ra}{o:Oper}{ρ:Operand→V}{H:A2}{K:V→A2→Prop}(h:Gb P A o ρ H K):∀c,o.op≠ .defer c:=by
 intro c hc
 simp[Gb,JG,hc]at h
theorem GF {P:Program} {r:Option Nat} {o:Oper} {a:Act} {next:Act→World→Prop} {Q:Exit→Act→World→Prop} {K:Value→World→Prop} {x:Result Next} (h:G1 P K x)
 (hk:∀v w,K v w→next (a.put o.dst v) w):o.uponIn (Fw r) 0 P a next Q x:=by
 cases x with
 |halt x w=>exact h.elim
 | ok n w=>
  cases n<;>first
   |exact h.elim
   |exact hk _ _ h
   |exact⟨fun h=>by simp[Fw]at h,(NY h).mono fun e w' ⟨v,e1,e2⟩=>by subst e1;exact hk _ _ e2⟩
   |exact⟨fun h=>by simp[Fw]at h,(Un h).mono fun e w' ⟨v,e1,e2⟩=>by subst e1;exact hk _ _ e2⟩
def DZ (nt:Nat):Option Tmp→Bool
 |some d=>d<nt
 |none=>true
def Z4 (ops:Array Oper) (fr:Fr) (o:Oper):Option Bool:=
 match o.guard with
 |none=>some true
 | some (j,want)=>
  match(ops[j]?).bind (·.dst)with
  |some d=>
   match fr.s d with
   | .bool b=>some (b==want)
   | .tup _=>some false
   |_=>none
  |none=>none
def GD (P:Program) (A:Ra) (nt:Nat) (ops:Array Oper):List Oper→Fr→A2→(Fr→A2→Prop)→Prop
 |[],fr,H,K=>K fr H
 | o::rest,fr,H,K=>
  DZ nt o.dst=true∧
   match Z4 ops fr o with
   |some true=>Gb P A o (ev fr) H fun v H'=>GD P A nt ops rest (fr.put o.dst v) H' K
   |some false=>GD P A nt ops rest (fr.put o.dst (.tup [])) H K
   |none=>False
def TE (nt:Nat)(g:Gh)(w:World)(Q:Exit→Fr→A2→Prop)(e:Exit)(a':Act)(w':World):Prop:=
 ∃g' fr' H',T4 g w g' w'∧Rl g' H' w'∧FR nt g' w' a' fr'∧Q e fr' H'
def XI (g:Gh):Option Nat→Option Nat→Prop
 |none,r=>r=none
 |some id,r=>∃b,g.mu id=some b∧r=some b
theorem XI.mono {g g':Gh}{w w':World}{rd r:Option Nat}(h:XI g rd r)(s:T4 g w g' w'):XI g' rd r:=by
 cases rd with
 |none=>exact h
 |some id=>obtain⟨b,h1,h2⟩:=h;exact⟨b,s.mu _ _ h1,h2⟩
def T9 (P:Program)(nt:Nat)(rd:Option Nat)(c:Code)(fr:Fr)(H:A2)(Q:Exit→Fr→A2→Prop):Prop:=
 ∀r g w a,XI g rd r→Rl g H w→FR nt g w a fr→c.wpIn (Fw r) 0 P (TE nt g w Q) a w
theorem TE.later {nt:Nat}{g g':Gh}{w w':World}{Q:Exit→Fr→A2→Prop}{e:Exit}{a:Act}{w2:World}(s:T4 g w g' w')(h:TE nt g' w' Q e a w2):TE nt g w Q e a w2:=
 let⟨g2,fr,H,s2,x⟩:=h;⟨g2,fr,H,s.trans s2,x⟩
theorem TE.mono {nt:Nat}{g:Gh}{w:World}{Q Q':Exit→Fr→A2→Prop}(hq:∀e fr H,Q e fr H→Q' e fr H){e:Exit}{a:Act}{w2:World}(h:TE nt g w Q e a w2):TE nt g w Q' e a w2:=
 let⟨g2,fr,H,s2,a,b,c⟩:=h;⟨g2,fr,H,s2,a,b,hq _ _ _ c⟩
theorem T9.mono {P:Program}{nt:Nat}{rd:Option Nat}{c:Code}{fr:Fr}{H:A2}{Q Q':Exit→Fr→A2→Prop}(h:T9 P nt rd c fr H Q)(hq:∀e fr H,Q e fr H→Q' e fr H):T9 P nt rd c fr H Q':=
 fun r g w a hr hR hF=>wpIn_mono (h r g w a hr hR hF) fun _ _ _=>TE.mono hq
section
variable {P:Program}{nt:Nat}{rd:Option Nat}{fr:Fr}{H:A2}{Q:Exit→Fr→A2→Prop}
theorem R8 {ops:Array Oper} {g:Gh} {w:World} {a:Act} {o:Oper} {b:Bool} (hE:ER g w a fr) (h:Z4 ops fr o=some b):Region.wanted o (yielded ops a.tmps)=b:=by
 unfold Z4 at h
 unfold Region.wanted
 split at h
 ·rename_i hg;cases h;simp[hg]
 rename_i j want hg;simp only[hg]
 split at h
 ·rename_i d hd
  split at h
  ·rename_i c hc;cases h;have:=hE d
   rw[hc]at this
   have hv:=this.bool_inv
   have ht:a.tmps[d]? =some (.bool c):=by
    rw[Array.getD_eq_getD_getElem?]at hv
    cases hx:a.tmps[d]? with
    |none=>rw[hx]at hv;simp[undef]at hv
    |some y=>rw[hx]at hv;simpa using hv
   simp only[yielded,hd,Option.bind_some,ht];cases c<;>cases want<;>rfl
  ·rename_i vs hc;cases h;have:=hE d
   rw[hc]at this
   have hv:∃us,a.tmps.getD d undef= .tuple us:=by
    generalize a.tmps.getD d undef=z at this
    cases this with
    |tup h1 h2=>exact⟨_,rfl⟩
   obtain⟨us,hv⟩:=hv
   have hy:yielded ops a.tmps j=none:=by
    unfold yielded;simp only[hd,Option.bind_some]
    rw[Array.getD_eq_getD_getElem?]at hv
    cases hx:a.tmps[d]? with
    |none=>rfl
    |some y=>rw[hx]at hv;simp at hv;subst hv;rfl
   rw[hy];cases want<;>rfl
  cases h
 cases h
theorem OI {A:Ra}{r:Option Nat}{g:Gh}{w:World}{a:Act}{o:Oper}{K:V→A2→Prop}{next:Act→World→Prop}{Q:Exit→Act→World→Prop}(hR:Rl g H w)(hF:FR nt g w a fr)(hd:DZ nt o.dst=true)
 (h:Gb P A o (ev fr) H K) (hk:∀g' w' a' v H',T4 g w g' w'→Rl g' H' w'→FR nt g' w' a' (fr.put o.dst v)→K v H'→next a' w'):o.wpIn (Fw r) 0 P a w next Q:=by
 refine⟨fun _ _=>trivial,?_⟩;rw[Oper.semAt_eq _ _ _ (Sv h)];refine GF (Xc h g w a hR hF.s) fun v w' ⟨g',x,H',s,hR',hv,hK⟩=>?_;refine hk g' w' _ x H' s hR' ((hF.mono s).put (fun t ht=>?_) hv) hK
 rw[ht]at hd;simpa[DZ]using hd
theorem Nm {A:Ra} {ops:Array Oper} {r:Option Nat} {K:Fr→A2→Prop} {Q:Exit→Act→World→Prop} {g0:Gh} {w0:World} (hQ:∀g w a fr H,T4 g0 w0 g w→Rl g H w→FR nt g w a fr→K fr H→Q .normal a w):
 ∀(m i:Nat) (fr:Fr) (H:A2),i+m=ops.size→GD P A nt ops (ops.toList.drop i) fr H K→∀g w a,T4 g0 w0 g w→Rl g H w→FR nt g w a fr→wpOpsIn (Fw r) 0 P ops Q (List.range' i m) a w
 |0,i,fr,H,hi,h,g,w,a,s,hR,hF=>by
  have:ops.toList.drop i=[]:=by simp;omega
  rw[this]at h
  exact hQ g w a fr H s hR hF h
 | m+1,i,fr,H,hi,h,g,w,a,s,hR,hF=>by
  have hlt:i<ops.toList.length:=by simp;omega
  have hlt':i<ops.size:=by omega
  rw[List.drop_eq_getElem_cons hlt]at h
  simp only[GD,Array.getElem_toList]at h
  obtain⟨hd,h⟩:=h;simp only[List.range'_succ,wpOpsIn,Array.getElem?_eq_getElem hlt'];have ih:=Nm (A:=A) (ops:=ops) (r:=r) (K:=K) hQ m (i+1)
  split at h
  ·rename_i hg;rw[if_pos (R8 hF.s hg)];exact OI hR hF hd h fun g' w' a' v H' s' hR' hF' hK=>ih _ _ (by omega) hK g' w' a' (s.trans s') hR' hF'
  ·rename_i hg;rw[if_neg (by rw[R8 hF.s hg];simp)];refine⟨fun _ _=>trivial,ih _ _ (by omega) h g w _ s hR (hF.put (fun t ht=>?_) (VR.und _ _))⟩
   rw[ht]at hd;simpa[DZ]using hd
  exact h.elim
theorem T9.region {A:Ra} {id:Nat} {ops:Array Oper} (h:GD P A nt ops ops.toList fr H (Q .normal)):T9 P nt rd (.region id ops false) fr H Q:=by
 intro r g w a hr hR hF;refine wpIn_region ?_
 have:=Nm (P:=P) (A:=A) (nt:=nt) (ops:=ops) (r:=r) (K:=Q .normal) (Q:=TE nt g w Q) (g0:=g) (w0:=w) (fun g' w' a' fr' H' s hR hF hK=>⟨g',fr',H',s,hR,hF,hK⟩) ops.size 0 fr H (by omega)
  (by simpa using h) g w a (T4.refl _ _) hR hF
 rwa[←List.range_eq_range']at this
theorem T9.skip (h:Q .normal fr H):T9 P nt rd .skip fr H Q:=fun r g w a hr hR hF=>wpIn_skip ⟨g,fr,H,T4.refl _ _,hR,hF,h⟩
theorem T9.ret (h:Q .ret fr H):T9 P nt rd .ret fr H Q:=fun r g w a hr hR hF=>wpIn_ret ⟨g,fr,H,T4.refl _ _,hR,hF,h⟩
theorem T9.exit {id:Nat}(h:Q (.exit id) fr H):T9 P nt rd (.exit id) fr H Q:=fun r g w a hr hR hF=>wpIn_exit ⟨g,fr,H,T4.refl _ _,hR,hF,h⟩
theorem T9.seq {x y:Code}(h:T9 P nt rd x fr H fun e fr' H'=>match e with| .normal=>T9 P nt rd y fr' H' Q|e=>Q e fr' H'):T9 P nt rd (.seq x y) fr H Q:=by
 intro r g w a hr hR hF;refine wpIn_seq (wpIn_mono (h r g w a hr hR hF) fun e a' w' ⟨g',fr',H',s,hR',hF',hq⟩=>?_)
 cases e with
 |normal=>exact wpIn_mono (hq r g' w' a' (hr.mono s) hR' hF') fun _ _ _=>TE.later s
 |_=>exact⟨g',fr',H',s,hR',hF',hq⟩
theorem T9.cond {c:Operand}{x y:Code}{t:Bool}(hc:ev fr c= .bool t)(h1:t=true→T9 P nt rd x fr H Q)(h2:t=false→T9 P nt rd y fr H Q):T9 P nt rd (.cond c x y) fr H Q:=by
 intro r g w a hr hR hF;have hv:=D9 hR hF.s c
 rw[hc]at hv
 refine wpIn_cond hv.bool_inv ?_;cases t
 ·exact h2 rfl r g w a hr hR hF
 exact h1 rfl r g w a hr hR hF
theorem T9.block {id:Nat} {c:Code} (h:T9 P nt rd c fr H fun e fr' H'=>match e with| .exit id'=>if id'=id then Q .normal fr' H' else Q (.exit id') fr' H'|e=>Q e fr' H'):T9 P nt rd (.block id c) fr H Q:=by
 intro r g w a hr hR hF;refine wpIn_block (wpIn_mono (h r g w a hr hR hF) fun e a' w' ⟨g',fr',H',s,hR',hF',hq⟩=>?_)
 cases e with
 |exit id'=>
  simp only[Exit.inBlock]
  dsimp only at hq
  split<;>rename_i hid
  ·rw[if_pos hid]at hq;exact⟨g',fr',H',s,hR',hF',hq⟩
  rw[if_neg hid]at hq;exact⟨g',fr',H',s,hR',hF',hq⟩
 |_=>exact⟨g',fr',H',s,hR',hF',hq⟩
theorem T9.loopN {c:Code} (I:Nat→Fr→A2→Prop) (n0:Nat) (h0:I n0 fr H)
 (round:∀n fr H,I n fr H→T9 P nt rd c fr H fun e fr' H'=>match e with| .normal=>∃n',n'<n∧I n' fr' H'|e=>Q e fr' H'):T9 P nt rd (.loop c) fr H Q:=by
 intro r g w a hr hR hF;intro b k cs hro hb hrm
 have key:∀n fr H,I n fr H→∀g' w' a,T4 g w g' w'→Rl g' H w'→FR nt g' w' a fr→
  ∃e a' w2,TE nt g w Q e a' w2∧ArrivesIn (Machine.fenced P (Fw r)) P (lone (b.atR a (.code c:: .inLoop c::k)) cs w') b k cs e a' w2:=by
  intro n
  induction n using Nat.strongRecOn with
  | _ n ih=>
   intro fr H hI g' w' a s hR hF;obtain⟨e,a₁,w₁,⟨g1,fr1,H1,s1,hR1,hF1,hq⟩,harr⟩:=round n fr H hI r g' w' a (hr.mono s) hR hF b (.inLoop c::k) cs hro hb hrm
   cases e with
   |normal=>
    obtain⟨n',hlt,hI₁⟩:=hq;obtain⟨e₂,a₂,w₂,hq₂,harr₂⟩:=ih n' hlt fr1 H1 hI₁ g1 w₁ a₁ (s.trans s1) hR1 hF1;exact⟨e₂,a₂,w₂,hq₂,.of_steps (StepsIn.trans harr (.one (fenced_calm hb hrm rfl) stepR_inLoop)) harr₂⟩
   |exit id=>exact⟨_,a₁,w₁,⟨g1,fr1,H1,s.trans s1,hR1,hF1,hq⟩,.pass (x:=.inLoop c) rfl (fun _ _=>.inl (by simp)) harr⟩
   |goto l=>exact⟨_,a₁,w₁,⟨g1,fr1,H1,s.trans s1,hR1,hF1,hq⟩,.pass (x:=.inLoop c) rfl (fun _ _=>.inl (by simp)) harr⟩
   |ret=>exact⟨_,a₁,w₁,⟨g1,fr1,H1,s.trans s1,hR1,hF1,hq⟩,.pass (x:=.inLoop c) rfl (fun _ _=>.inl (by simp)) harr⟩
   |panic ch=>exact⟨_,a₁,w₁,⟨g1,fr1,H1,s.trans s1,hR1,hF1,hq⟩,.pass (x:=.inLoop c) rfl (fun _ _=>.inl (by simp)) harr⟩
   |outgrown=>exact⟨_,a₁,w₁,⟨g1,fr1,H1,s.trans s1,hR1,hF1,hq⟩,.pass (x:=.inLoop c) rfl (fun _ _=>.inl (by simp)) harr⟩
 obtain⟨e,a',w',hq,harr⟩:=key _ fr H h0 g w a (T4.refl _ _) hR hF;exact⟨e,a',w',hq,.of_steps (.one (fenced_calm hb hrm rfl) stepR_loop) harr⟩
theorem T9.loop {c:Code} (I:Fr→A2→Prop) (μ:Fr→A2→Nat) (h0:I fr H)
 (round:∀fr H,I fr H→T9 P nt rd c fr H fun e fr' H'=>match e with| .normal=>I fr' H'∧μ fr' H'<μ fr H|e=>Q e fr' H'):T9 P nt rd (.loop c) fr H Q:=
 T9.loopN (fun n fr H=>I fr H∧μ fr H=n) _ ⟨h0,rfl⟩ fun n fr H ⟨hI,hn⟩=>(round fr H hI).mono fun e fr' H' hq=>by
  cases e with
  |normal=>exact⟨_,hn▸hq.2,hq.1,rfl⟩
  |_=>exact hq
theorem T9.less {c:Code}{fr':Fr}{H':A2}(h:T9 P nt rd c fr' H' Q)(hs:∀t,Wk (fr.s t) (fr'.s t))(hd:fr'.df=fr.df)(hl:∀id b,H' id=some b→H id=some b):T9 P nt rd c fr H Q:=by
 intro r g w a hr hR hF;refine h r g w a hr (hR.less hl) ⟨hF.size,fun t=>hs t _ _ _ (hF.s t),?_⟩;rw[hd];exact hF.df
theorem T9.freeze {c:Code} {t id off:Nat} {cs:List V} (ht:fr.s t= .ref id off) (hk:H id=some (.cells cs)) (h:T9 P nt rd c (fr.put (some t) (.eref cs off)) (upd H id none) Q):T9 P nt rd c fr H Q:=by
 intro r g w a hr hR hF;obtain⟨g',s,hR',hv⟩:=hR.freeze hk;refine wpIn_mono (h r g' w a (hr.mono s) hR' ?_) fun _ _ _=>TE.later s;have hF':=hF.mono s;refine⟨hF'.size,fun x=>?_,hF'.df⟩;simp only[Fr.put]
 split
 ·rename_i e;subst e;have:=hF.s x
  rw[ht]at this
  exact hv _ _ this
 exact hF'.s x
end
end Go.Ab
namespace Go.Ab
open Go.RowKit
variable [J9]
def Ai (P:Program) (fr:Fr) (H:A2):List ResultVar→Option (List V)
 |[]=>some []
 | .tmp t::r=>(Ai P fr H r).map (fr.s t:: ·)
 | .cell a t::r=>
  match Fs P H t (fr.s a),Ai P fr H r with
  |some v,some l=>some (v::l)
  |_,_=>none
def Nn :List V→V
 |[x]=>x
 |l=>.tup l
def Ai1 (H:A2)(df:List Nat):Prop:=df.Nodup∧∀id∈df,H id=some (.obj (.deferred (some [])))
def clear (H:A2)(df:List Nat):A2:=fun x=>if x∈df then none else H x
section
variable {P:Program}
theorem Zf {g:Gh} {w:World} {H:A2} (hR:Rl g H w) {t:TypeId} {v:Value} {X x:V} (hv:VR g w v X) (hl:Fs P H t X=some x):
 ∃b q u,v= .pointer (some ⟨b,q,none⟩)∧(loadVar t ⟨b,q,none⟩).run P w= .ok u w∧VR g w u x:=by
 unfold Fs at hl
 split at hl
 ·rename_i ag sz cs off ha hs
  cases hv with
  |eref vs hf hw h1 hvv=>
   rename_i b q;obtain⟨u,hu,hr⟩:=EJ (P:=P) (g:=g) (w:=w) (b:=b) (q:=q) (cs:=cs) (fun j hj=>⟨vs j,hw j hj,h1 j hj,hvv j hj⟩) ha hs hl;exact⟨b,q+off,u,rfl,hu,hr⟩
 ·rename_i ag sz id off ha hs
  cases hv with
  | ref hm=>
   rename_i b
   split at hl
   ·rename_i cs hk;obtain⟨u,hu,hr⟩:=EJ (P:=P) (LX hR hk hm) ha hs hl
    rw[Nat.zero_add]at hu
    exact⟨b,off,u,rfl,hu,hr⟩
   cases hl
 cases hl
theorem Hv {nt:Nat} {g:Gh} {w:World} {H:A2} {a:Act} {fr:Fr} (hR:Rl g H w) (hE:ER g w a fr):∀(rs:List ResultVar) (l:List V),Ai P fr H rs=some l→
 ∃vs:List Value,(rs.mapM (m:=Sem) fun| .tmp t=>pure (a.tmps.getD t undef)| .cell x t=>do loadVar t (←asAddr (a.tmps.getD x undef))).run P w= .ok vs w∧vs.length=l.length∧
  ∀i,i<l.length→VR g w (vs.getD i undef) (l.getD i .bad)
 |[],l,h=>by simp only[Ai,Option.some.injEq]at h;subst h;exact⟨[],rfl,rfl,fun i hi=>by simp at hi⟩
 | .tmp t::r,l,h=>by
  simp only[Ai]at h
  cases hr:Ai P fr H r with
  |none=>simp[hr]at h
  |some l'=>
   simp only[hr,Option.map_some,Option.some.injEq]at h
   subst h;obtain⟨vs,h1,h2,h3⟩:=Hv (nt:=nt) hR hE r l' hr;refine⟨a.tmps.getD t undef::vs,?_,by simp[h2],fun i hi=>?_⟩
   ·simp only[List.mapM_cons,Sem.run_bind,Sem.run_pure,Result.andThen_ok,h1]
   cases i with
   |zero=>exact hE t
   |succ i=>exact h3 i (by simpa using hi)
 | .cell x t::r,l,h=>by
  simp only[Ai]at h
  split at h
  ·rename_i v l' hv hr;cases h;obtain⟨vs,h1,h2,h3⟩:=Hv (nt:=nt) hR hE r l' hr;obtain⟨b,q,u,e1,e2,e3⟩:=Zf hR (hE x) hv;refine⟨u::vs,?_,by simp[h2],fun i hi=>?_⟩
   ·have ea:(asAddr (.pointer (some ⟨b,q,none⟩))).run P w= .ok ⟨b,q,none⟩ w:=rfl;simp only[List.mapM_cons,e1,ea,Sem.run_bind,Sem.run_pure,Result.andThen_ok,e2,h1]
   cases i with
   |zero=>exact e3
   |succ i=>exact h3 i (by simpa using hi)
  cases h
theorem RZ {nt:Nat} {g:Gh} {w:World} {H:A2} {a:Act} {fr:Fr} {fn:Func} (hR:Rl g H w) (hE:ER g w a fr) {l:List V} (h:Ai P fr H fn.results.toList=some l):
 ∃v,(results fn a.tmps).run P w= .ok v w∧VR g w v (Nn l):=by
 obtain⟨vs,h1,h2,h3⟩:=Hv (nt:=nt) hR hE _ _ h
 have hm:(results fn a.tmps).run P w= .ok (if h:vs.toArray.size=1 then vs.toArray[0]else .tuple vs.toArray) w:=by
  unfold results;rw[Array.mapM_eq_mapM_toList];simp only[Sem.run_bind,Sem.run_map]
  erw [h1]
  rfl
 refine⟨_,hm,?_⟩
 match l,vs,h2,h3 with
 |[x],[v],_,h3=>exact h3 0 (by simp)
 |[],[],_,_=>exact .tup rfl fun i hi=>by simp at hi
 |x::y::l,u::v::vs,h2,h3=>
  simp only[List.size_toArray,List.length_cons,Nn];rw[dif_neg (by omega)];refine .tup (by simpa using h2) fun i hi=>?_;have:=h3 i hi
  simpa[Array.getD_eq_getD_getElem?,List.getD_eq_getElem?_getD]using this
theorem Pi {nt:Nat} {fn:Func} {a:Act} {R:Ending→World→Prop} {g:Gh} {fr:Fr} {l:List V}:∀(df:List Nat) (bs:List Nat) (H:A2) (w:World),Rl g H w→ER g w a fr→bs.length=df.length→
 (∀i,i<bs.length→g.mu (df.getD i 0)=some (bs.getD i 0))→Ai1 H df→Ai P fr (clear H df) fn.results.toList=some l→
 (∀w' v,T4 g w g w'→Rl g (clear H df) w'→VR g w' v (Nn l)→R (.returned v) w')→
 LeavesInM Fence.wide 0 P fn a.tmps R (bs.map fun b=>{target:=.collected b,args:= #[]}) .returning w
 |[],[],H,w,hR,hE,_,_,_,hl,hr=>by
  have hcl:clear H []=H:=by funext x;simp[clear]
  rw[hcl]at hl hr
  obtain⟨v,h1,h2⟩:=RZ (nt:=nt) hR hE hl;exact⟨v,h1,hr w v (T4.refl _ _) hR h2⟩
 | id::df,b::bs,H,w,hR,hE,hlen,hmu,hdf,hl,hr=>by
  have hb:g.mu id=some b:=hmu 0 (by simp);have hk:=hdf.2 id (by simp);have hnd:=List.nodup_cons.1 hdf.1;obtain⟨s,hR'⟩:=hR.putObj (o':=.deferred none) hk hb rfl;obtain⟨b',h1,h2,h3,h4⟩:=hR.blk id _ hk
  rw[hb]at h1;cases h1
  refine⟨by simp,.inl ⟨b,w.putObj b (.deferred none),rfl,run_takeDeferred h3,?_⟩⟩
  have hlt:∀id' b',(upd H id none) id'=some b'→(upd H id (some (.obj (.deferred none)))) id'=some b':=by
   intro id' b' h
   by_cases e:id'=id
   ·subst e;rw[B7]at h;cases h
   rw[A7 _ _ e]at h ⊢;exact h
  have hcl:clear (upd H id none) df=clear H (id::df):=by
   funext x
   simp only[clear,upd,List.mem_cons]
   by_cases e:x=id
   ·subst e;simp
   simp[e]
  refine Pi (nt:=nt) df bs (upd H id none) (w.putObj b (.deferred none)) (hR'.less hlt) (hE.mono s) (by simpa using hlen) (fun i hi=>?_) ⟨hnd.2,fun id' hi'=>?_⟩ (by rw[hcl];exact hl) fun w' v s' hR2 hv=>?_
  ·have:=hmu (i+1) (by simpa using hi)
   simpa using this
  ·have hne:id'≠id:=fun e=>by subst e;exact hnd.1 hi'
   rw[A7 _ _ hne];exact hdf.2 id' (by simp[hi'])
  rw[hcl]at hR2
  exact hr w' v (s.trans s') hR2 hv
 |[],_::_,_,_,_,_,h,_,_,_,_=>by simp at h
 |_::_,[],_,_,_,_,h,_,_,_,_=>by simp at h
def Ret (P:Program)(fn:Func)(K:V→A2→Prop)(e:Exit)(fr:Fr)(H:A2):Prop:=
 (e= .normal∨e= .ret)∧Ai1 H fr.df∧∃l,Ai P fr (clear H fr.df) fn.results.toList=some l∧K (Nn l) (clear H fr.df)
def entry (args:List V):Fr:=⟨fun t=>args.getD t .bad,[]⟩
theorem OC {f:FuncId} {fn:Func} {c:Code} {args:List V} {H:A2} {K:V→A2→Prop} (hf:P.funcs[f]? =some fn) (hb:fn.body=some c) (hcall:∀vals w,(callFunc f vals).run P w= .ok (.enter f vals) w)
 (hn:args.length≤fn.ntmps) (h:T9 P fn.ntmps none c (entry args) H (Ret P fn K)):I0 P f args H K:=by
 intro g w vals hR hA;rw[hcall]
 show CallsIn Fence.wide 0 P f vals w _
 refine callsIn_of_wp_marks hf hb trivial ?_
 have hF:FR fn.ntmps g w {tmps:=vals++Array.replicate (fn.ntmps - vals.size) undef,defers:=[]} (entry args):=by
  refine⟨by have:=hA.1;simp;omega,fun t=>?_,⟨[],rfl,fun i hi=>by simp at hi,rfl⟩⟩
  by_cases ht:t<args.length
  ·have e:(vals++Array.replicate (fn.ntmps - vals.size) undef).getD t undef=vals.getD t undef:=by
    simp only[Array.getD_eq_getD_getElem?,Array.getElem?_append,hA.1,if_pos ht]
   simp only[e];exact hA.2 t ht
  have:(entry args).s t= .bad:=by simp[entry,List.getD,List.getElem?_eq_none (Nat.le_of_not_lt ht)]
  rw[this];exact .bad _
 refine wpIn_mono (h none g w _ rfl hR hF) fun e a' w' ⟨g',fr',H',s,hR',hF',he,hdf,l,hl,hK⟩=>?_;obtain⟨bs,k1,k2,k3⟩:=hF'.df;have key:=Pi (P:=P) (nt:=fn.ntmps) (fn:=fn) (a:=a') (R:=fun e w'=>∃v,e= .returned v∧J7 g w K v w') fr'.df bs H' w' hR' hF'.s k1 k2 hdf hl fun w2 v s2 hR2 hv=>⟨v,rfl,g',_,_,s.trans s2,hR2,hv,hK⟩
 rw[←k3]at key
 rcases he with rfl|rfl
 ·exact key
 exact key
end
end Go.Ab
namespace Go.Ab
open Go.RowKit
variable [J9]
def Ag4 :Op→Bool
 | .alloc _=>true
 |_=>false
def MC :Op→Bool
 | .store _ _ _=>true
 |_=>false
def DT (o:Oper)(j:Nat):Bool:=o.after.any fun e=>e.on==j&&Region.binds .any e
def EX (o:Oper)(i:Nat):Bool:=o.after.all fun e=> !Region.binds .any e||e.on<i
def KB (ops:Array Oper)(x y:Oper):Bool:=x.apart ops y&& !(MC x.op&&MC y.op)
def Nc (ops:Array Oper):Nat→Nat→Nat→Bool
 |0,i,j=>DT (ops.getD i default) j
 |n+1,i,j=>DT (ops.getD i default) j||(ops.getD i default).after.any fun e=>Region.binds .any e&&(Nat.blt j e.on&&Nc ops n e.on j)
def Uq :Nat:=20
def NR (ops:Array Oper) (k:Nat):Bool:=
 k ≤ops.size&&(List.range ops.size).all fun i=>
  EX (ops.getD i default) i&&
   (List.range i).all fun j=>(i<k&&KB ops (ops.getD j default) (ops.getD i default))||Nc ops Uq i j
section
variable {P:Program}{nt:Nat}{ops:Array Oper}{H0:A2}
theorem S6 {α β:Type}{f g:α→β}:∀{l:List α},(∀x∈l,f x=g x)→l.map f=l.map g
 |[],_=>rfl
 |x::l,h=>by rw[List.map_cons,List.map_cons,h x (by simp),S6 fun y hy=>h y (by simp[hy])]
theorem FI {α β:Type}{f g:α→β}:∀{l:Option α},(∀x∈l,f x=g x)→l.map f=l.map g
 |none,_=>rfl
 |some x,h=>by rw[Option.map_some,Option.map_some,h x rfl]
theorem IA {o:Oper} {ρ ρ':Operand→V} {H:A2} {v:V} (hρ:∀x∈o.op.operands,ρ x=ρ' x) (h:JG P o ρ H v):JG P o ρ' H v:=by
 unfold JG at h ⊢
 cases ho:o.op<;>simp only[ho]at h ⊢ hρ<;>first
  |exact h.elim
  | (simp only[Op.operands,List.mem_toArray,List.mem_cons,List.not_mem_nil,or_false,forall_eq_or_imp,forall_eq]at hρ
     first
      |(rw[←hρ];exact h)
      |(rw[←hρ.1,←hρ.2];exact h)
      |(rw[←hρ.1,←hρ.2.1,←hρ.2.2];exact h))
  |skip
 ·
  rename_i t ps;rw[←S6 (l:=ps.toList) (f:=fun p=>(p.1,ρ p.2)) (g:=fun p=>(p.1,ρ' p.2)) fun p hp=>by rw[hρ p.2 (by simp only[Op.operands,List.mem_toArray,List.mem_map];exact⟨p,hp,rfl⟩)]];exact h
 ·rename_i t n ps;rw[←S6 (l:=ps.toList) (f:=fun p=>(p.1,ρ p.2)) (g:=fun p=>(p.1,ρ' p.2)) fun p hp=>by rw[hρ p.2 (by simp only[Op.operands,List.mem_toArray,List.mem_map];exact⟨p,hp,rfl⟩)]];exact h
 ·rename_i fn fs cs
  rw[←S6 (l:=fs.toList) (f:=ρ) (g:=ρ') fun p hp=>hρ p (by simp only[Op.operands,Array.mem_append];exact .inl (by simpa using hp)),
   ←S6 (l:=cs.toList) (f:=ρ) (g:=ρ') fun p hp=>hρ p (by simp only[Op.operands,Array.mem_append];exact .inr (by simpa using hp))]
  exact h
 ·rename_i t x lo hi mx
  rw[←hρ x (by simp[Op.operands]),←FI (l:=lo) (f:=ρ) (g:=ρ') fun p hp=>hρ p (by simp[Op.operands,Option.mem_def.1 hp]),
   ←FI (l:=hi) (f:=ρ) (g:=ρ') fun p hp=>hρ p (by simp[Op.operands,Option.mem_def.1 hp]),←FI (l:=mx) (f:=ρ) (g:=ρ') fun p hp=>hρ p (by simp[Op.operands,Option.mem_def.1 hp])]
  exact h
 rename_i c;have hargs:c.args.toList.map ρ=c.args.toList.map ρ':=S6 fun p hp=>hρ p (by simp only[Op.operands,Call.operands,Array.mem_append];exact .inr (by simpa using hp));rw[←hargs]
 cases hc:c.callee<;>simp only[hc]at h ⊢
 ·rename_i f;rw[←hρ f (by simp[Op.operands,Call.operands,hc])];exact h
 exact h
theorem UV {fr:Fr} {d:Option Tmp} {v:V} {x:Operand} (h:∀t,d=some t→x≠ .tmp t):ev (fr.put d v) x=ev fr x:=by
 cases d with
 |none=>rfl
 | some d=>
  cases x with
  |tmp t=>
   have hne:t≠d:=fun e=>h d rfl (by rw[e]);simp[ev,Fr.put,hne]
  |_=>rfl
theorem HN {fr:Fr}{d:Option Tmp}{v:V}{y:Oper}(h:∀t,d=some t→t∉y.looksAt ops):∀x∈y.op.operands,ev (fr.put d v) x=ev fr x:=by
 intro x hx;refine UV fun t ht e=>h t ht ?_;subst e;exact List.mem_append_left _ (List.mem_filterMap.2 ⟨.tmp t,by simpa using hx,rfl⟩)
theorem LN {fr:Fr} {d:Option Tmp} {v:V} {y:Oper} (h:∀t,d=some t→t∉y.looksAt ops):Z4 ops (fr.put d v) y=Z4 ops fr y:=by
 unfold Z4
 cases hg:y.guard with
 |none=>rfl
 | some p=>
  obtain⟨j,want⟩:=p
  dsimp only
  cases hd:(ops[j]?).bind (·.dst)with
  |none=>rfl
  | some t=>
   have hne:∀d',d=some d'→t≠d':=by
    intro d' e1 e2;subst e2;refine h t e1 (List.mem_append_right _ ?_);simp[hg,hd]
   cases d with
   |none=>rfl
   |some d=>
    have:=hne d rfl;simp[Fr.put,this]
theorem Sk {fr:Fr} {d e:Option Tmp} {v u:V} (h:∀t,d=some t→e≠some t):(fr.put d v).put e u=(fr.put e u).put d v:=by
 cases d with
 |none=>rfl
 | some d=>
  cases e with
  |none=>rfl
  |some e=>
   have hne:d≠e:=fun x=>h d rfl (by rw[x]);simp only[Fr.put,Fr.mk.injEq,and_true]
   funext t
   by_cases h1:t=d
   ·subst h1;simp[hne]
   simp[h1]
theorem ML (H:A2){a b:Nat}(x y:Option Fa)(h:a≠b):upd (upd H a x) b y=upd (upd H b y) a x:=by
 funext t
 simp only[upd]
 by_cases h1:t=a
 ·subst h1;simp[h]
 simp[h1]
end
end Go.Ab
namespace Go.Ab
open Go.RowKit
variable [J9]
inductive Pk where
 |inl (d:Nat)
 |inr (n:Nat)
 |tk (d:Nat)
 |ex
deriving DecidableEq
def Pk.var :Pk→Bool
 | .tk _=>false
 | .ex=>false
 |_=>true
abbrev Pv :=Pk→Option (List V)
def L6 (pv:Pv)(d:Pk)(cs:List V):Pv:=fun x=>if x=d then some cs else pv x
def P8 (pv:Pv):Option Tmp→Prop
 |some d=>pv (.inl d)=none∧pv (.tk d)=none
 |none=>True
def U0 (pv:Pv):Option Pk→Pv
 |some d=>fun x=>if x=d then none else pv x
 |none=>pv
theorem Nj {pv:Pv}{s:Option Pk}{x:Pk}(h:pv x=none):U0 pv s x=none:=by
 cases s with
 |none=>exact h
 |some d=>simp only[U0];split;rfl;exact h
theorem P3 {pv:Pv} {s:Option Pk} {x:Pk} {c:List V} (h:U0 pv s x=some c):pv x=some c∧∀d,s=some d→x≠d:=by
 cases s with
 |none=>exact⟨h,fun d e=>by cases e⟩
 |some d=>
  simp only[U0]at h
  split at h
  ·cases h
  rename_i hn;exact⟨h,fun d' e=>by cases e;exact hn⟩
theorem M7 {pv:Pv}{s:Option Pk}{x:Pk}(h:∀d,s=some d→x≠d):U0 pv s x=pv x:=by
 cases s with
 |none=>rfl
 |some d=>simp only[U0,if_neg (h d rfl)]
theorem V3 {pv:Pv} {d:Pk} {cs:List V} {D:Option Tmp} (h:P8 (L6 pv d cs) D):P8 pv D:=by
 cases D with
 |none=>trivial
 |some e=>
  simp only[P8,L6]at h ⊢
  obtain⟨h1,h2⟩:=h
  split at h1
  ·cases h1
  split at h2
  ·cases h2
  exact⟨h1,h2⟩
theorem S8 {pv:Pv} {d:Pk} {cs:List V} {D:Option Tmp} (h:P8 pv D) (hn:∀e,D=some e→d≠ .inl e∧d≠ .tk e):P8 (L6 pv d cs) D:=by
 cases D with
 |none=>trivial
 |some e=>
  have h1:(Pk.inl e:Pk)≠d:=fun x=>(hn e rfl).1 x.symm;have h2:(Pk.tk e:Pk)≠d:=fun x=>(hn e rfl).2 x.symm
  simp only[P8,L6,if_neg h1,if_neg h2]at h ⊢
  exact h
theorem Fy {pv:Pv}{s:Option Pk}{D:Option Tmp}(h:P8 pv D):P8 (U0 pv s) D:=by
 cases D with
 |none=>trivial
 |some e=>exact⟨Nj h.1,Nj h.2⟩
theorem Oz {pv:Pv} {s:Option Pk} {D:Option Tmp} (h:P8 (U0 pv s) D) (hn:∀e k,D=some e→s=some k→k≠ .inl e∧k≠ .tk e):P8 pv D:=by
 cases D with
 |none=>trivial
 |some e=>
  refine⟨?_,?_⟩
  ·have:=h.1;rwa[M7 fun k hk x=>(hn e k rfl hk).1 x.symm]at this
  have:=h.2;rwa[M7 fun k hk x=>(hn e k rfl hk).2 x.symm]at this
def Me (fr:Fr)(pv:Pv)(d:Nat)(k:Pk)(off:Nat)(cs:List V):Prop:=
 (k= .inl d∧off=0∧pv (.inl d)=some cs)∨∃id,k= .inr id∧fr.s d= .ref id off∧pv (.inl d)=none∧pv (.inr id)=some cs
theorem Me.at {fr:Fr}{pv:Pv}{d off:Nat}{k:Pk}{cs:List V}(h:Me fr pv d k off cs):pv k=some cs:=by
 rcases h with⟨rfl,_,h⟩|⟨id,rfl,_,_,h⟩<;>exact h
theorem Me.put {fr:Fr} {pv:Pv} {d off:Nat} {k:Pk} {cs:List V} {D:Option Tmp} {v:V} (hn:∀e,D=some e→d≠e):Me (fr.put D v) pv d k off cs↔Me fr pv d k off cs:=by
 have:(fr.put D v).s d=fr.s d:=by
  cases D with
  |none=>rfl
  |some e=>simp[Fr.put,hn e rfl]
 unfold Me;rw[this]
theorem Me.set {fr:Fr}{pv:Pv}{d off:Nat}{k:Pk}{cs:List V}{e:Nat}{c:List V}(hn:d≠e):Me fr (L6 pv (.inl e) c) d k off cs↔Me fr pv d k off cs:=by
 unfold Me L6;simp only[Pk.inl.injEq,if_neg hn,reduceCtorEq,if_false]
section
variable {P:Program}{nt:Nat}{ops:Array Oper}{H0:A2}
def Mf (P:Program)(ops:Array Oper)(H0:A2)(o:Oper)(fr:Fr)(v:V):Prop:=
 match Z4 ops fr o with
 |some true=>JG P o (ev fr) H0 v
 |some false=>v= .tup []
 |none=>False
def AppC (P:Program)(sT yT:TypeId)(xs ys xs' ys':List V):Prop:=∃e sz by_ z,Fc P sT=some e∧(Fc P yT).isSome=true∧Ed P e=some sz∧0<sz∧Oc P e=some by_∧0<by_∧Gt P e=some z∧z.one=true∧z.cells.length=sz∧
 H9 xs xs'∧H9 ys ys'∧xs'.all (fun x=>x.cells.length==sz)=true∧ys'.all (fun x=>x.cells.length==sz)=true∧(xs'.length+ys'.length)*by_≤140737488355328
def Mq (pv:Pv)(sx:Operand)(tlx:E4):Option Pk→Prop
 |none=>tlx= .nil∨tlx= .full
 |some (.tk d)=>sx= .tmp d∧tlx= .ro∧(pv (.tk d)).isSome=true
 |some .ex=>pv .ex=some [.sl [] tlx]
 |some _=>False
theorem Mq.key {pv:Pv}{sx:Operand}{tlx:E4}{src:Option Pk}(h:Mq pv sx tlx src):∀k,src=some k→(∃d,k= .tk d)∨k= .ex:=by
 intro k hk;subst hk
 cases k with
 |inl d=>exact h.elim
 |inr d=>exact h.elim
 |tk d=>exact .inl ⟨d,rfl⟩
 |ex=>exact .inr rfl
theorem Mq.ninl {pv:Pv}{sx:Operand}{tlx:E4}{src:Option Pk}(h:Mq pv sx tlx src)(e:Nat):∀k,src=some k→Pk.inl e≠k:=by
 intro k hk x;subst x
 rcases h.key _ hk with⟨d,h⟩|h<;>cases h
def PApp (P:Program)(o:Oper)(fr:Fr)(pv:Pv)(src:Option Pk)(u:V):Prop:=
 o.guard=none∧∃sx sy sT yT xs tlx ys tly xs' ys',o.op= .call {callee:=.builtin .append,args:= #[sx,sy],argTypes:= #[sT,yT]}∧ev fr sx= .sl xs tlx∧ev fr sy= .sl ys tly∧Mq pv sx tlx src∧AppC P sT yT xs ys xs' ys'∧u= .sl (xs'++ys') .ro
def Eff (P:Program)(ops:Array Oper)(H0:A2)(o:Oper)(fr:Fr)(pv:Pv)(u:V)(pv':Pv):Prop:=
 (Ag4 o.op=false∧MC o.op=false∧Mf P ops H0 o fr u∧pv'=pv)∨
 (∃t z d,o.op= .alloc t∧o.guard=none∧o.dst=some d∧Gt P t=some z∧z.one=true∧u= .bad∧pv'=L6 pv (.inl d) z.cells)∨
 (∃t d y k off cs,o.op= .store t (.tmp d) y∧o.guard=none∧Me fr pv d k off cs∧(ev fr y).one=true∧Ed P t=some (ev fr y).cells.length∧off+(ev fr y).cells.length≤cs.length∧u= .bad∧pv'=L6 pv k (S3 cs off (ev fr y).cells))∨
 (∃d src,o.dst=some d∧PApp P o fr pv src u∧pv'=L6 (U0 pv src) (.tk d) [])
def Ib (P:Program)(nt:Nat)(ops:Array Oper)(H0:A2)(o:Oper)(fr:Fr)(pv:Pv)(K:Fr→Pv→Prop):Prop:=
 (DZ nt o.dst=true∧P8 pv o.dst)∧∃u pv',Eff P ops H0 o fr pv u pv'∧K (fr.put o.dst u) pv'
def Hc (P:Program)(nt:Nat)(ops:Array Oper)(H0:A2):List Oper→Fr→Pv→(Fr→Pv→Prop)→Prop
 |[],fr,pv,K=>K fr pv
 |o::rest,fr,pv,K=>Ib P nt ops H0 o fr pv fun fr' pv'=>Hc P nt ops H0 rest fr' pv' K
theorem NQ {o:Oper}{fr:Fr}{pv:Pv}{K K':Fr→Pv→Prop}(h:Ib P nt ops H0 o fr pv K)(hk:∀fr pv,K fr pv→K' fr pv):Ib P nt ops H0 o fr pv K':=
 let⟨h1,u,pv',h2,h3⟩:=h;⟨h1,u,pv',h2,hk _ _ h3⟩
theorem PH {o:Oper}{fr:Fr}{d:Option Tmp}{u v:V}(hl:∀t,d=some t→t∉o.looksAt ops):Mf P ops H0 o (fr.put d u) v↔Mf P ops H0 o fr v:=by
 unfold Mf;rw[LN hl];have he:=HN (fr:=fr) (v:=u) hl
 split
 ·exact⟨IA fun x hx=>he x hx,IA fun x hx=>(he x hx).symm⟩
 ·exact Iff.rfl
 exact Iff.rfl
theorem Bl (pv:Pv){a b:Pk}(x y:List V)(h:a≠b):L6 (L6 pv a x) b y=L6 (L6 pv b y) a x:=by
 funext t
 simp only[L6]
 by_cases h1:t=a
 ·subst h1;simp[h]
 simp[h1]
theorem Ek (pv:Pv) {a:Pk} (x:List V) {s:Option Pk} (h:∀d,s=some d→a≠d):U0 (L6 pv a x) s=L6 (U0 pv s) a x:=by
 cases s with
 |none=>rfl
 |some d=>
  funext t
  simp only[L6,U0]
  by_cases h1:t=a
  ·subst h1;simp[h d rfl]
  simp[h1]
theorem Ut (pv:Pv) (s s':Option Pk):U0 (U0 pv s) s'=U0 (U0 pv s') s:=by
 cases s with
 |none=>rfl
 | some d=>
  cases s' with
  |none=>rfl
  |some d'=>
   funext t
   simp only[U0]
   by_cases h1:t=d<;>by_cases h2:t=d'<;>simp[h1,h2]
theorem Gz {o:Oper}{t:TypeId}{e:Nat}{q:Operand}(ho:o.op= .store t (.tmp e) q):e∈o.looksAt ops:=
 List.mem_append_left _ (List.mem_filterMap.2 ⟨.tmp e,by simp[ho,Op.operands],rfl⟩)
theorem Ty {o:Oper}{e:Nat}{sy:Operand}{ts:Array TypeId}(ho:o.op= .call {callee:=.builtin .append,args:= #[.tmp e,sy],argTypes:=ts}):e∈o.looksAt ops:=
 List.mem_append_left _ (List.mem_filterMap.2 ⟨.tmp e,by simp[ho,Op.operands,Call.operands],rfl⟩)
theorem Aj1 {o:Oper}{fr:Fr}{pv pv':Pv}{d:Option Tmp}{w u:V}(hl:∀t,d=some t→t∉o.looksAt ops)(h:Eff P ops H0 o fr pv u pv'):Eff P ops H0 o (fr.put d w) pv u pv':=by
 have he:=HN (fr:=fr) (v:=w) hl
 rcases h with⟨h1,h2,h3,h4⟩|h|⟨t,e,y,k,off,cs,ho,hg,e1,e2,e3,e4,e5,e6⟩|⟨e,src,hd,⟨hg,sx,sy,sT,yT,xs,tlx,ys,tly,xs',ys',ho,q1,q2,q3,q4,q5⟩,hp⟩
 ·exact .inl ⟨h1,h2,(PH hl).2 h3,h4⟩
 ·exact .inr (.inl h)
 ·have hy:ev (fr.put d w) y=ev fr y:=he y (by simp[ho,Op.operands]);refine .inr (.inr (.inl ⟨t,e,y,k,off,cs,ho,hg,(Me.put fun e' he' eq=>hl e' he' (eq▸Gz ho)).2 e1,?_,?_,?_,e5,?_⟩))<;>rw[hy]<;>assumption
 refine .inr (.inr (.inr ⟨e,src,hd,⟨hg,sx,sy,sT,yT,xs,tlx,ys,tly,xs',ys',ho,?_,?_,q3,q4,q5⟩,hp⟩))
 ·rw[he sx (by simp[ho,Op.operands,Call.operands])];exact q1
 rw[he sy (by simp[ho,Op.operands,Call.operands])];exact q2
theorem XK {o:Oper} {fr:Fr} {pv pv':Pv} {d:Option Tmp} {w u:V} (hl:∀t,d=some t→t∉o.looksAt ops) (h:Eff P ops H0 o (fr.put d w) pv u pv'):Eff P ops H0 o fr pv u pv':=by
 have he:=HN (fr:=fr) (v:=w) hl
 rcases h with⟨h1,h2,h3,h4⟩|h|⟨t,e,y,k,off,cs,ho,hg,e1,e2,e3,e4,e5,e6⟩|⟨e,src,hd,⟨hg,sx,sy,sT,yT,xs,tlx,ys,tly,xs',ys',ho,q1,q2,q3,q4,q5⟩,hp⟩
 ·exact .inl ⟨h1,h2,(PH hl).1 h3,h4⟩
 ·exact .inr (.inl h)
 ·have hy:ev (fr.put d w) y=ev fr y:=he y (by simp[ho,Op.operands])
  rw[hy]at e2 e3 e4 e6
  exact .inr (.inr (.inl ⟨t,e,y,k,off,cs,ho,hg,(Me.put fun e' he' eq=>hl e' he' (eq▸Gz ho)).1 e1,e2,e3,e4,e5,e6⟩))
 refine .inr (.inr (.inr ⟨e,src,hd,⟨hg,sx,sy,sT,yT,xs,tlx,ys,tly,xs',ys',ho,?_,?_,q3,q4,q5⟩,hp⟩))
 ·rw[he sx (by simp[ho,Op.operands,Call.operands])]at q1;exact q1
 rw[he sy (by simp[ho,Op.operands,Call.operands])]at q2;exact q2
theorem NJ {pv:Pv}{D:Option Tmp}{d:Nat}(h:P8 pv D)(e:D=some d):pv (.inl d)=none:=by subst e;exact h.1
theorem Ag8 {pv:Pv}{D:Option Tmp}{d:Nat}(h:P8 pv D)(e:D=some d):pv (.tk d)=none:=by subst e;exact h.2
theorem Me.key {fr:Fr}{pv:Pv}{d off:Nat}{k:Pk}{cs:List V}(h:Me fr pv d k off cs)(e:Nat):k≠ .tk e:=by
 rcases h with⟨rfl,_,_⟩|⟨id,rfl,_⟩<;>simp
theorem Me.keyx {fr:Fr}{pv:Pv}{d off:Nat}{k:Pk}{cs:List V}(h:Me fr pv d k off cs):k≠ .ex:=by
 rcases h with⟨rfl,_,_⟩|⟨id,rfl,_⟩<;>simp
theorem Me.nsrc {fr:Fr}{pv pv':Pv}{d off:Nat}{k:Pk}{cs:List V}{sx:Operand}{tlx:E4}{src:Option Pk}(h:Me fr pv d k off cs)(h':Mq pv' sx tlx src):∀e,src=some e→k≠e:=by
 intro e he x;subst x
 rcases h'.key _ he with⟨d,hd⟩|hd
 ·exact h.key d hd
 exact h.keyx hd
theorem Me.congr {fr:Fr}{pv pv':Pv}{d off:Nat}{k:Pk}{cs:List V}(h:Me fr pv d k off cs)(h1:pv' (.inl d)=pv (.inl d))(h2:pv' k=pv k):Me fr pv' d k off cs:=by
 rcases h with⟨rfl,e1,e2⟩|⟨id,rfl,e1,e2,e3⟩
 ·exact .inl ⟨rfl,e1,by rw[h1];exact e2⟩
 exact .inr ⟨id,rfl,e1,by rw[h1];exact e2,by rw[h2];exact e3⟩
theorem Mq.congr {pv pv':Pv} {sx:Operand} {tlx:E4} {src:Option Pk} (h:Mq pv sx tlx src) (h1:∀d,src=some d→pv' d=pv d):Mq pv' sx tlx src:=by
 cases src with
 |none=>exact h
 |some d=>
  cases d with
  |inl d=>exact h
  |inr d=>exact h
  |tk d=>exact⟨h.1,h.2.1,by rw[h1 _ rfl];exact h.2.2⟩
  |ex=>exact(h1 _ rfl).trans h
theorem E7 {pv:Pv}{a b:Pk}{x:List V}(h:b≠a):L6 pv a x b=pv b:=by simp[L6,h]
theorem ZX {x y:Oper} {fr:Fr} {pv pv1 pv2:Pv} {u v:V} (hi:KB ops x y=true) (hx:Eff P ops H0 x fr pv u pv1) (hy:Eff P ops H0 y fr pv1 v pv2) (fx:P8 pv x.dst) (fy:P8 pv1 y.dst):
 ∃pv3,Eff P ops H0 y fr pv v pv3∧Eff P ops H0 x fr pv3 u pv2∧P8 pv y.dst∧P8 pv3 x.dst:=by
 simp only[KB,and_eq_true,Bool.not_eq_true']at hi
 obtain⟨hap,hss⟩:=hi;obtain⟨a1,a2,a3⟩:=Oper.apart_spec hap
 rcases hx with⟨x1,x2,x3,rfl⟩|⟨t,z,d,ho,hg,hd,e1,e2,e3,rfl⟩|⟨t,d,p,k,off,cs,ho,hg,e1,e2,e3,e4,e5,rfl⟩|⟨d,src,hd,hP,rfl⟩
 ·
  refine⟨pv2,hy,.inl ⟨x1,x2,x3,rfl⟩,fy,?_⟩
  rcases hy with⟨_,_,_,rfl⟩|⟨t,z,d,ho,hg,hd,e1,e2,e3,rfl⟩|⟨t,d,p,k,off,cs,ho,hg,e1,e2,e3,e4,e5,rfl⟩|⟨d,src,hd,hP,rfl⟩
  ·exact fx
  ·exact S8 fx fun e he=>⟨fun x=>by cases x;exact a2 d he hd,by simp⟩
  ·refine S8 fx fun e he=>⟨fun x=>?_,e1.key e⟩
   have:=e1.at;rw[x,NJ fx he]at this;cases this
  exact S8 (Fy fx) fun e he=>⟨by simp,fun x=>by cases x;exact a2 d he hd⟩
 ·
  rcases hy with⟨y1,y2,y3,rfl⟩|⟨t',z',d',ho',hg',hd',e1',e2',e3',rfl⟩|⟨t',d',p',k',off',cs',ho',hg',e1',e2',e3',e4',e5',rfl⟩|⟨d',src',hd',hP',rfl⟩
  ·exact⟨pv,.inl ⟨y1,y2,y3,rfl⟩,.inr (.inl ⟨t,z,d,ho,hg,hd,e1,e2,e3,rfl⟩),V3 fy,fx⟩
  ·have hne:(Pk.inl d':Pk)≠ .inl d:=fun e=>a2 d hd (by rw[hd'];cases e;rfl)
   exact⟨_,.inr (.inl ⟨t',z',d',ho',hg',hd',e1',e2',e3',rfl⟩),.inr (.inl ⟨t,z,d,ho,hg,hd,e1,e2,e3,Bl _ _ _ (Ne.symm hne)⟩),V3 fy,
    S8 fx fun e he=>⟨fun x=>by rw[hd]at he;cases he;exact hne x,by simp⟩⟩
  ·have hne:d'≠d:=fun e=>a1 d hd (e▸Gz ho')
   have hk:k'≠ .inl d:=fun e=>by
    rcases e1' with⟨q,_⟩|⟨id,q,_⟩
    ·rw[q]at e;cases e;exact hne rfl
    rw[q]at e;cases e
   have hT:Me fr pv d' k' off' cs':=e1'.congr (by rw[E7 fun e=>by cases e;exact hne rfl]) (by rw[E7 hk])
   exact⟨_,.inr (.inr (.inl ⟨t',d',p',k',off',cs',ho',hg',hT,e2',e3',e4',e5',rfl⟩)),.inr (.inl ⟨t,z,d,ho,hg,hd,e1,e2,e3,Bl _ _ _ (Ne.symm hk)⟩),V3 fy,
    S8 fx fun e he=>⟨fun x=>by rw[hd]at he;cases he;exact hk x,hT.key e⟩⟩
  obtain⟨hg',sx,sy,sT,yT,xs,tlx,ys,tly,xs',ys',ho',q1,q2,q3,q4,q5⟩:=hP';refine⟨_,.inr (.inr (.inr ⟨d',src',hd',⟨hg',sx,sy,sT,yT,xs,tlx,ys,tly,xs',ys',ho',q1,q2,q3.congr fun e he=>(by rw[E7 fun x=>q3.ninl d e he x.symm]),q4,q5⟩,rfl⟩)),.inr (.inl ⟨t,z,d,ho,hg,hd,e1,e2,e3,?_⟩),V3 fy,?_⟩
  ·rw[Ek _ _ (q3.ninl d),Bl _ _ _ (by simp)]
  exact S8 (Fy fx) fun e he=>⟨by simp,fun x=>by cases x;exact a2 _ he hd'⟩
 ·
  rcases hy with⟨y1,y2,y3,rfl⟩|⟨t',z',d',ho',hg',hd',e1',e2',e3',rfl⟩|⟨t',d',p',k',off',cs',ho',_⟩|⟨d',src',hd',hP',rfl⟩
  ·exact⟨pv,.inl ⟨y1,y2,y3,rfl⟩,.inr (.inr (.inl ⟨t,d,p,k,off,cs,ho,hg,e1,e2,e3,e4,e5,rfl⟩)),V3 fy,fx⟩
  ·have hne:d≠d':=fun e=>a3 d' hd' (e▸Gz ho)
   have hk:k≠ .inl d':=fun e=>by
    rcases e1 with⟨q,_⟩|⟨id,q,_⟩
    ·rw[q]at e;cases e;exact hne rfl
    rw[q]at e;cases e
   have hT:Me fr (L6 pv (.inl d') z'.cells) d k off cs:=e1.congr (by rw[E7 fun e=>by cases e;exact hne rfl]) (by rw[E7 hk])
   exact⟨_,.inr (.inl ⟨t',z',d',ho',hg',hd',e1',e2',e3',rfl⟩),.inr (.inr (.inl ⟨t,d,p,k,off,cs,ho,hg,hT,e2,e3,e4,e5,Bl _ _ _ hk⟩)),V3 fy,
    S8 fx fun e he=>⟨fun x=>by cases x;exact a2 _ he hd',by simp⟩⟩
  ·simp[ho,ho',MC]at hss
  obtain⟨hg',sx,sy,sT,yT,xs,tlx,ys,tly,xs',ys',ho',q1,q2,q3,q4,q5⟩:=hP';have hk:∀e,k≠ .tk e:=e1.key;have hn:=e1.nsrc q3;have hT:Me fr (L6 (U0 pv src') (.tk d') []) d k off cs:=e1.congr (by rw[E7 (by simp),M7 (q3.ninl d)]) (by rw[E7 (hk _),M7 hn]);refine⟨_,.inr (.inr (.inr ⟨d',src',hd',⟨hg',sx,sy,sT,yT,xs,tlx,ys,tly,xs',ys',ho',q1,q2,q3.congr fun e he=>(by rw[E7 fun x=>hn e he x.symm]),q4,q5⟩,rfl⟩)),.inr (.inr (.inl ⟨t,d,p,k,off,cs,ho,hg,hT,e2,e3,e4,e5,?_⟩)),V3 fy,?_⟩
  ·rw[Ek _ _ hn,Bl _ _ _ (hk _)]
  exact S8 (Fy fx) fun e he=>⟨by simp,fun x=>by cases x;exact a2 _ he hd'⟩
 have hkey:∀k,src=some k→(∃e,k= .tk e)∨k= .ex:=by
  obtain⟨_,sx,sy,sT,yT,xs,tlx,ys,tly,xs',ys',ho,_,_,q3,_⟩:=hP;exact q3.key
 have hsrc:∀e,src=some (.tk e)→e∈x.looksAt ops:=fun e he=>by
  subst he;obtain⟨_,sx,sy,sT,yT,xs,tlx,ys,tly,xs',ys',ho,_,_,q3,_⟩:=hP;obtain⟨rfl,_⟩:=q3;exact Ty ho
 have fy0:P8 pv y.dst:=Oz (V3 fy) fun e k he hk=>by
  rcases hkey k hk with⟨c,rfl⟩|rfl
  ·exact⟨by simp,fun eq=>by cases eq;exact a3 _ he (hsrc _ hk)⟩
  exact⟨by simp,by simp⟩
 rcases hy with⟨y1,y2,y3,rfl⟩|⟨t',z',d',ho',hg',hd',e1',e2',e3',rfl⟩|⟨t',d',p',k',off',cs',ho',hg',e1',e2',e3',e4',e5',rfl⟩|⟨d',src',hd',hP',rfl⟩
 ·exact⟨pv,.inl ⟨y1,y2,y3,rfl⟩,.inr (.inr (.inr ⟨d,src,hd,hP,rfl⟩)),fy0,fx⟩
 ·obtain⟨hg,sx,sy,sT,yT,xs,tlx,ys,tly,xs',ys',ho,q1,q2,q3,q4,q5⟩:=hP;refine⟨_,.inr (.inl ⟨t',z',d',ho',hg',hd',e1',e2',e3',rfl⟩),.inr (.inr (.inr ⟨d,src,hd,⟨hg,sx,sy,sT,yT,xs,tlx,ys,tly,xs',ys',ho,q1,q2,q3.congr fun e he=>(by rw[E7 fun x=>q3.ninl d' e he x.symm]),q4,q5⟩,?_⟩)),fy0,S8 fx fun e he=>⟨fun x=>by cases x;exact a2 _ he hd',by simp⟩⟩;rw[Ek _ _ (q3.ninl d'),Bl _ _ _ (by simp)]
 ·obtain⟨hg,sx,sy,sT,yT,xs,tlx,ys,tly,xs',ys',ho,q1,q2,q3,q4,q5⟩:=hP;have hk:∀e,k'≠ .tk e:=e1'.key;have hn:=e1'.nsrc q3;have hT:Me fr pv d' k' off' cs':=e1'.congr (by rw[E7 (by simp),M7 (q3.ninl d')]) (by rw[E7 (hk _),M7 hn]);refine⟨_,.inr (.inr (.inl ⟨t',d',p',k',off',cs',ho',hg',hT,e2',e3',e4',e5',rfl⟩)),.inr (.inr (.inr ⟨d,src,hd,⟨hg,sx,sy,sT,yT,xs,tlx,ys,tly,xs',ys',ho,q1,q2,q3.congr fun e he=>(by rw[E7 fun x=>hn e he x.symm]),q4,q5⟩,?_⟩)),fy0,S8 fx fun e he=>⟨fun x=>?_,hk e⟩⟩
  ·rw[Ek _ _ hn,Bl _ _ _ (hk _)]
  have:=hT.at;rw[x,NJ fx he]at this;cases this
 obtain⟨hg,sx,sy,sT,yT,xs,tlx,ys,tly,xs',ys',ho,q1,q2,q3,q4,q5⟩:=hP;obtain⟨hg',sx',sy',sT',yT',xs2,tlx',ys2,tly',xs2',ys2',ho',r1,r2,r3,r4,r5⟩:=hP';have hdd:d≠d':=fun e=>a2 d hd (by rw[hd',e])
 have n1:∀k,src'=some k→k≠ .tk d:=fun k he eq=>by
  subst he;subst eq;obtain⟨rfl,_⟩:=r3;exact a1 _ hd (Ty ho')
 have n2:∀k,src=some k→k≠ .tk d':=fun k he eq=>by subst eq;exact a3 _ hd' (hsrc _ he)
 have n3:∀k,src'=some k→src≠some k:=fun k he he2=>by
  subst he;subst he2
  have hnone:L6 (U0 pv (some k)) (.tk d) [] k=none:=by
   rw[E7 (n1 k rfl)];simp[U0]
  rcases r3.key k rfl with⟨e,rfl⟩|rfl
  ·have:=r3.2.2;rw[hnone]at this;cases this
  have:L6 (U0 pv (some .ex)) (.tk d) [] .ex=some [.sl [] tlx']:=r3
  rw[hnone]at this;cases this
 have hs':Mq pv sx' tlx' src':=r3.congr fun k he=>by
  rw[E7 (n1 k he),M7 fun c hc x=>by subst x;exact n3 _ he hc]
 refine⟨_,.inr (.inr (.inr ⟨d',src',hd',⟨hg',sx',sy',sT',yT',xs2,tlx',ys2,tly',xs2',ys2',ho',r1,r2,hs',r4,r5⟩,rfl⟩)),.inr (.inr (.inr ⟨d,src,hd,⟨hg,sx,sy,sT,yT,xs,tlx,ys,tly,xs',ys',ho,q1,q2,q3.congr fun k he=>?_,q4,q5⟩,?_⟩)),fy0,?_⟩
 ·rw[E7 (n2 k he),M7 fun c hc x=>by subst x;exact n3 _ hc he]
 ·rw[Ek _ _ fun k he x=>n1 k he x.symm,Ek _ _ fun k he x=>n2 k he x.symm,Ut pv src src',Bl _ _ _ (fun x=>by cases x;exact hdd rfl)]
 exact S8 (Fy fx) fun e he=>⟨by simp,fun x=>by cases x;exact a2 _ he hd'⟩
theorem UY {x y:Oper}{fr:Fr}{pv:Pv}{K:Fr→Pv→Prop}(hi:KB ops x y=true)(h:Ib P nt ops H0 x fr pv fun fr1 pv1=>Ib P nt ops H0 y fr1 pv1 K):
 Ib P nt ops H0 y fr pv fun fr1 pv1=>Ib P nt ops H0 x fr1 pv1 K:=by
 have hi0:=hi
 simp only[KB,and_eq_true,Bool.not_eq_true']at hi0
 obtain⟨a1,a2,a3⟩:=Oper.apart_spec hi0.1;obtain⟨⟨hd,hf⟩,u,pv1,h1,⟨hd',hf'⟩,v,pv2,h2,hK⟩:=h;obtain⟨pv3,k1,k2,k3,k4⟩:=ZX hi h1 (XK a1 h2) hf hf';refine⟨⟨hd',k3⟩,v,pv3,k1,⟨hd,k4⟩,u,pv2,Aj1 a3 k2,?_⟩
 rw[Sk a2]at hK
 exact hK
theorem Ti {pre post:List Oper} {o:Oper} {K:Fr→Pv→Prop} (hi:∀x∈pre,KB ops x o=true):∀{fr:Fr} {pv:Pv},Hc P nt ops H0 (pre++o::post) fr pv K→Hc P nt ops H0 (o::(pre++post)) fr pv K:=by
 induction pre with
 |nil=>exact fun h=>h
 |cons x pre ih=>
  intro fr pv h;have h1:Ib P nt ops H0 x fr pv fun fr1 pv1=>Hc P nt ops H0 (o::(pre++post)) fr1 pv1 K:=NQ h fun _ _ h=>ih (fun y hy=>hi y (by simp[hy])) h;exact UY (hi x (by simp)) h1
end
end Go.Ab
namespace Go.Ab
open Go.RowKit
variable [J9]
section
variable {P:Program}{nt:Nat}{ops:Array Oper}{H0:A2}
theorem VR.ref_inv {g:Gh}{w:World}{v:Value}{id off:Nat}(h:VR g w v (.ref id off)):∃b,v= .pointer (some ⟨b,off,none⟩)∧g.mu id=some b:=by
 cases h with
 |ref hm=>exact⟨_,rfl,hm⟩
def Wu (fr:Fr)(g:Gh)(a:Act)(id:Nat):Pk→Prop
 | .inl d=>fr.s d= .bad∧∃b,g.mu id=some b∧a.tmps.getD d undef= .pointer (some ⟨b,0,none⟩)
 | .inr n=>id=n
 | .tk _=>True
 | .ex=>True
def Ai7 (fr:Fr)(g:Gh)(w:World)(a:Act)(H H0:A2)(tt:Option Nat)(d:Nat):Prop:=
 ∃xs tl,fr.s d= .sl xs .ro∧VR g w (a.tmps.getD d undef) (.sl xs tl)∧((tt=none∧(tl= .nil∨tl= .full))∨∃t,tt=some t∧tl= .tok t∧H t=some .spare∧H0 t=none)
def XL (nt:Nat) (H0:A2) (g0:Gh) (w0:World) (fr:Fr) (pv:Pv) (g:Gh) (w:World) (a:Act):Prop:=
 ∃ (H:A2) (ids:Pk→Nat),T4 g0 w0 g w∧Rl g H w∧FR nt g w a fr∧(∀id b,H0 id=some b→H id=some b)∧
  (∀d cs,pv d=some cs→d.var=true→H (ids d)=some (.cells cs)∧H0 (ids d)=none∧Wu fr g a (ids d) d)∧
  (∀d d' cs cs',pv d=some cs→pv d'=some cs'→d.var=true→d'.var=true→ids d=ids d'→d=d')∧
  ∃tks:Nat→Option Nat,(∀d cs,pv (.tk d)=some cs→Ai7 fr g w a H H0 (tks d) d)∧
   (∀d d' cs cs' t,pv (.tk d)=some cs→pv (.tk d')=some cs'→tks d=some t→tks d'=some t→d=d')∧
   ∀cs,pv .ex=some cs→∃τ,cs=[.sl [] τ]∧((τ= .nil∨τ= .full)∨∃t,τ= .tok t∧H t=some .spare∧H0 t=none∧∀d cs',pv (.tk d)=some cs'→tks d≠some t)
theorem Ru {a:Act} {D:Option Tmp} {v:Value} {d:Nat} (h:D≠some d):(a.put D v).tmps.getD d undef=a.tmps.getD d undef:=by
 cases D with
 |none=>rfl
 |some e=>
  have hne:e≠d:=fun x=>h (by rw[x]);simp only[Act.put,Array.getD_eq_getD_getElem?,Array.getElem?_setIfInBounds];rw[if_neg hne]
theorem IW {a:Act}{d:Nat}{v:Value}(h:d<a.tmps.size):(a.put (some d) v).tmps.getD d undef=v:=by
 simp[Act.put,Array.getD,h]
theorem LL {fr:Fr} {D:Option Tmp} {v:V} {d:Nat} (h:D≠some d):(fr.put D v).s d=fr.s d:=by
 cases D with
 |none=>rfl
 |some e=>
  have hne:d≠e:=fun x=>h (by rw[x]);simp[Fr.put,hne]
theorem Ar7 {pv:Pv}{D:Option Tmp}{d:Nat}{cs:List V}(hf:P8 pv D)(h:pv (.inl d)=some cs):D≠some d:=by
 intro e;rw[NJ hf e]at h;cases h
theorem Ql {pv:Pv}{D:Option Tmp}{d:Nat}{cs:List V}(hf:P8 pv D)(h:pv (.tk d)=some cs):D≠some d:=by
 intro e;rw[Ag8 hf e]at h;cases h
theorem Ai7.keep {D:Option Tmp}{fr:Fr}{g g':Gh}{w w':World}{a:Act}{H H' H0:A2}{tt:Option Nat}{d:Nat}{x:V}{u:Value}(hk:Ai7 fr g w a H H0 tt d)(hne:D≠some d)(s:T4 g w g' w')(hH:∀t,tt=some t→H t=some .spare→H' t=some .spare):Ai7 (fr.put D x) g' w' (a.put D u) H' H0 tt d:=by
 obtain⟨xs,tl,h1,h2,h3⟩:=hk;refine⟨xs,tl,(LL hne).trans h1,by rw[Ru hne];exact h2.mono s,h3.imp (fun h=>h) fun⟨t,e1,e2,e3,e4⟩=>⟨t,e1,e2,hH t e1 e3,e4⟩⟩
theorem Wu.keep {pv:Pv} {D:Option Tmp} {fr:Fr} {g g':Gh} {w w':World} {a:Act} {id:Nat} {k:Pk} {cs:List V} {x:V} {u:Value} (hk:Wu fr g a id k) (hf:P8 pv D) (h:pv k=some cs) (s:T4 g w g' w'):Wu (fr.put D x) g' (a.put D u) id k:=by
 cases k with
 |inl d=>
  obtain⟨k3,b,k4,k5⟩:=hk;have hne:=Ar7 hf h;exact⟨(LL hne).trans k3,b,s.mu _ _ k4,(Ru hne).trans k5⟩
 |inr n=>exact hk
 |tk n=>trivial
 |ex=>trivial
theorem CK {D:Option Tmp}(h:DZ nt D=true):∀t,D=some t→t<nt:=by
 intro t ht;rw[ht]at h;simpa[DZ]using h
theorem Xx {r:Option Nat} {g0 g:Gh} {w0 w:World} {a:Act} {o:Oper} {fr:Fr} {pv:Pv} {K:Fr→Pv→Prop} {next:Act→World→Prop} {Q:Exit→Act→World→Prop} (hI:XL nt H0 g0 w0 fr pv g w a)
 (h:Ib P nt ops H0 o fr pv K) (hn:∀g' w' a' fr' pv',XL nt H0 g0 w0 fr' pv' g' w' a'→K fr' pv'→next a' w'):
 if Region.wanted o (yielded ops a.tmps)then o.wpIn (Fw r) 0 P a w next Q else(∀f,o.about P w a.eval=some f→(Fw r).fn f)∧next (a.put o.dst undef) w:=by
 obtain⟨H,ids,s,hR,hF,hext,hpv,hinj,tks,htk,htj,hexx⟩:=hI;obtain⟨⟨hd,hfree⟩,u0,pv1,h,hK⟩:=h
 rcases h with⟨o1,o2,hq,rfl⟩|⟨t,z,d,ho,hg,e1,e2,e3,rfl,rfl⟩|⟨t,d,y,key,off,cs,ho,hg,e1,e2,e3,e4,rfl,rfl⟩|⟨dd,src,hdd,⟨hg,sx,sy,sT,yT,xs,tlx,ys,tly,xs',ys',ho,q1,q2,q3,q4,rfl⟩,rfl⟩
 ·
  have keep:∀{g':Gh} {w':World} {u:Value} {x:V},T4 g w g' w'→Rl g' H w'→VR g' w' u x→XL nt H0 g0 w0 (fr.put o.dst x) pv1 g' w' (a.put o.dst u):=by
   intro g' w' u x s' hR' hv;refine⟨H,ids,s.trans s',hR',(hF.mono s').put (CK hd) hv,hext,fun d cs hdc hvar=>?_,hinj,tks,fun d cs hdc=>(htk d cs hdc).keep (Ql hfree hdc) s' fun _ _ h=>h,htj,hexx⟩;obtain⟨k1,k2,k3⟩:=hpv d cs hdc hvar;exact⟨k1,k2,k3.keep hfree hdc s'⟩
  unfold Mf at hq
  split at hq
  ·rename_i hgd;rw[if_pos (R8 hF.s hgd)];refine⟨fun _ _=>trivial,?_⟩
   have hnd:∀c,o.op≠ .defer c:=by
    intro c hc;simp[JG,hc]at hq
   rw[Oper.semAt_eq _ _ _ hnd];refine GF (Iz (YJ hext hq) (K:=fun x H'=>x=u0∧H'=H) ⟨rfl,rfl⟩ g w a hR hF.s) fun u w' ⟨g',x,H',s',hR',hv,hx,hH⟩=>?_;subst hx;subst hH;exact hn _ _ _ _ _ (keep s' hR' hv) hK
  ·rename_i hgd;rw[if_neg (by rw[R8 hF.s hgd];simp)];subst hq;exact⟨fun _ _=>trivial,hn _ _ _ _ _ (keep (T4.refl _ _) hR (VR.und _ _)) hK⟩
  exact hq.elim
 ·
  have hw:Region.wanted o (yielded ops a.tmps)=true:=by simp[Region.wanted,hg]
  rw[if_pos hw];refine⟨fun _ _=>trivial,?_⟩;rw[Oper.semAt_eq _ _ _ (by intro c hc;rw[ho]at hc;cases hc)];obtain⟨zv,ez,hzv⟩:=CA e2
  have hr:VR g w zv z:=by rw[ez];exact Dl g w zv
  obtain⟨g',id,hid,s',hR',hv'⟩:=FD hR t hr e3
  have hid0:H0 id=none:=by
   cases hx:H0 id with
   |none=>rfl
   |some b=>rw[hext _ _ hx]at hid;cases hid
  have hmu:g'.mu id=some w.heap.size:=by
   obtain⟨b,e,hm⟩:=hv'.ref_inv;cases e;exact hm
  have hrun:(execOp a.eval o).run P w= .ok (.value (.pointer (some ⟨w.heap.size,0,none⟩))) (w.alloc (.cells zv.cells t)):=by
   unfold execOp;rw[ho];simp only[Instr.alloc,Sem.run_bind,hzv,Result.andThen_ok];rfl
  rw[hrun];refine hn g' _ _ (fr.put o.dst .bad) _ ⟨_,fun x=>if x= .inl d then id else ids x,s.trans s',hR',(hF.mono s').put (CK hd) (.bad _),fun x b hx=>?_,fun x cs hx hvar=>?_,fun x x' cs cs' hx hx' v1 v2 hxx=>?_,tks,fun x cs hx=>?_,fun x x' cs cs' t hx hx'=>?_,fun cs hx=>?_⟩ hK
  ·have hne:x≠id:=fun e=>by subst e;rw[hid0]at hx;cases hx
   rw[A7 _ _ hne];exact hext _ _ hx
  ·by_cases hxd:x= .inl d
   ·subst hxd
    simp only[L6,if_true,Option.some.injEq]at hx
    subst hx;simp only[if_true];refine⟨B7 _ _ _,hid0,by rw[e1];simp[Fr.put],w.heap.size,hmu,?_⟩;rw[e1];exact IW (by rw[hF.size];exact CK hd _ e1)
   simp only[L6,if_neg hxd]at hx
   obtain⟨k1,k2,k3⟩:=hpv x cs hx hvar;simp only[if_neg hxd]
   have hne:ids x≠id:=fun e=>by rw[e,hid]at k1;cases k1
   exact⟨(A7 _ _ hne).trans k1,k2,k3.keep hfree hx s'⟩
  ·by_cases h1:x= .inl d<;>by_cases h2:x'= .inl d
   ·rw[h1,h2]
   ·simp only[if_pos h1,if_neg h2]at hxx
    simp only[L6,if_neg h2]at hx'
    have:=(hpv x' cs' hx' v2).1
    rw[←hxx,hid]at this;cases this
   ·simp only[if_neg h1,if_pos h2]at hxx
    simp only[L6,if_neg h1]at hx
    have:=(hpv x cs hx v1).1
    rw[hxx,hid]at this;cases this
   simp only[if_neg h1,if_neg h2]at hxx
   simp only[L6,if_neg h1]at hx
   simp only[L6,if_neg h2]at hx'
   exact hinj _ _ _ _ hx hx' v1 v2 hxx
  ·rw[E7 (by simp)]at hx
   refine(htk x cs hx).keep (Ql hfree hx) s' fun t _ h=>?_;rw[A7 _ _ fun e=>by subst e;rw[hid]at h;cases h];exact h
  ·rw[E7 (by simp)]at hx hx'
   exact htj x x' cs cs' t hx hx'
  rw[E7 (by simp)]at hx
  obtain⟨τ,h1,h2⟩:=hexx cs hx;refine⟨τ,h1,h2.imp (fun h=>h) fun⟨t,j1,j2,j3,j4⟩=>⟨t,j1,?_,j3,fun d cs' hd=>?_⟩⟩
  ·rw[A7 _ _ fun e=>by subst e;rw[hid]at j2;cases j2];exact j2
  rw[E7 (by simp)]at hd;exact j4 d cs' hd
 ·
  have hw:Region.wanted o (yielded ops a.tmps)=true:=by simp[Region.wanted,hg]
  rw[if_pos hw];refine⟨fun _ _=>trivial,?_⟩;rw[Oper.semAt_eq _ _ _ (by intro c hc;rw[ho]at hc;cases hc)]
  have hpk:=e1.at
  have hkv:key.var=true:=by rcases e1 with⟨rfl,_⟩|⟨id,rfl,_⟩<;>rfl
  obtain⟨k1,k2,k3⟩:=hpv key cs hpk hkv
  obtain⟨fr2,hE',hevd,hevy⟩:∃fr2,ER g w a fr2∧ev fr2 (.tmp d)= .ref (ids key) off∧ev fr2 y=ev fr y:=by
   rcases e1 with⟨rfl,rfl,hp⟩|⟨id,rfl,hs,_,hp⟩
   ·obtain⟨k3,b,k4,k5⟩:=k3
    have hyd:y≠ .tmp d:=by
     intro e;subst e;simp[ev,k3,V.one]at e2
    refine⟨fr.put (some d) (.ref (ids (.inl d)) 0),fun x=>?_,by simp[ev,Fr.put],UV fun t ht e=>hyd (by rw[e];cases ht;rfl)⟩;simp only[Fr.put]
    split
    ·rename_i e;subst e;rw[k5];exact .ref k4
    exact hF.s x
   have k3:ids (.inr id)=id:=k3;exact⟨fr,hF.s,by simp only[ev];rw[hs,k3],rfl⟩
  have hst:Jt P H t (ev fr2 (.tmp d)) (ev fr2 y)=some (upd H (ids key) (some (.cells (S3 cs off (ev fr y).cells)))):=by
   rw[hevy,hevd];simp only[Jt,e3,k1];rw[if_pos ⟨e2,trivial,by omega⟩]
  refine GF (OM ho (fun _ _ _ h=>h) hst (K:=fun x H'=>H'=upd H (ids key) (some (.cells (S3 cs off (ev fr y).cells)))) rfl g w a hR hE') fun u w' ⟨g',x,H',s',hR',hv,hH⟩=>?_;subst hH;refine hn g' w' _ (fr.put o.dst .bad) _ ⟨_,ids,s.trans s',hR',(hF.mono s').put (CK hd) (.bad _),fun x b hx=>?_,fun x cs' hx hvar=>?_,fun x x' cs1 cs2 hx hx' v1 v2 hxx=>?_,tks,fun x cs hx=>?_,fun x x' cs cs' t hx hx'=>?_,fun cs hx=>?_⟩ hK
  ·have hne:x≠ids key:=fun e=>by rw[e,k2]at hx;cases hx
   rw[A7 _ _ hne];exact hext _ _ hx
  ·by_cases hxd:x=key
   ·subst hxd
    simp only[L6,if_true,Option.some.injEq]at hx
    subst hx;exact⟨B7 _ _ _,k2,k3.keep hfree hpk s'⟩
   simp only[L6,if_neg hxd]at hx
   obtain⟨j1,j2,j3⟩:=hpv x cs' hx hvar;have hne:ids x≠ids key:=fun e=>hxd (hinj _ _ _ _ hx hpk hvar hkv e);exact⟨(A7 _ _ hne).trans j1,j2,j3.keep hfree hx s'⟩
  ·have back:∀{x:Pk} {c:List V},L6 pv key (S3 cs off (ev fr y).cells) x=some c→∃c',pv x=some c':=by
    intro x c hx
    by_cases hxd:x=key
    ·subst hxd;exact⟨cs,hpk⟩
    simp only[L6,if_neg hxd]at hx;exact⟨c,hx⟩
   obtain⟨_,hx⟩:=back hx;obtain⟨_,hx'⟩:=back hx';exact hinj _ _ _ _ hx hx' v1 v2 hxx
  ·rw[E7 fun e=>e1.key x e.symm]at hx
   refine(htk x _ hx).keep (Ql hfree hx) s' fun t _ h=>?_;rw[A7 _ _ fun e=>by subst e;rw[k1]at h;cases h];exact h
  ·rw[E7 fun e=>e1.key x e.symm]at hx
   rw[E7 fun e=>e1.key x' e.symm]at hx'
   exact htj x x' _ _ t hx hx'
  rw[E7 fun e=>e1.keyx e.symm]at hx
  obtain⟨τ,h1,h2⟩:=hexx _ hx;refine⟨τ,h1,h2.imp (fun h=>h) fun⟨t,j1,j2,j3,j4⟩=>⟨t,j1,?_,j3,fun d cs' hd=>?_⟩⟩
  ·rw[A7 _ _ fun e=>by subst e;rw[k1]at j2;cases j2];exact j2
  rw[E7 fun e=>e1.key d e.symm]at hd;exact j4 d cs' hd
 have hw:Region.wanted o (yielded ops a.tmps)=true:=by simp[Region.wanted,hg]
 rw[if_pos hw];refine⟨fun _ _=>trivial,?_⟩;rw[Oper.semAt_eq _ _ _ (by intro c hc;rw[ho]at hc;cases hc)];obtain⟨e,sz,by_,z,c1,c2,c3,c4,c5,c6,c7,c8,c9,l1,l2,c10,c11,c12⟩:=q4
 obtain⟨fr2,tl,tly2,hE',h1,h2,hA,hsrc⟩:∃fr2 tl tly2,ER g w a fr2∧ev fr2 sx= .sl xs tl∧ev fr2 sy= .sl ys tly2∧Ik H tl∧
  ∀t,tl= .tok t→H t=some .spare∧H0 t=none∧(∀d cs,U0 pv src (.tk d)=some cs→tks d≠some t)∧∀τ,U0 pv src .ex=some [.sl [] τ]→τ≠ .tok t:=by
  rcases src with _|⟨d⟩|⟨d⟩|⟨d⟩|_
  ·exact⟨fr,tlx,tly,hF.s,q1,q2,(by rcases q3 with rfl|rfl<;>trivial),fun t ht=>by rcases q3 with h|h<;>rw[h]at ht<;>cases ht⟩
  ·exact q3.elim
  ·exact q3.elim
  rotate_left
  ·have q3:pv .ex=some [.sl [] tlx]:=q3;obtain⟨τ,e1,e2⟩:=hexx _ q3
   have e1:tlx=τ:=by cases e1;rfl
   subst e1;refine⟨fr,tlx,tly,hF.s,q1,q2,?_,fun t ht=>?_⟩
   ·rcases e2 with(rfl|rfl)|⟨t,rfl,j2,_⟩
    ·trivial
    ·trivial
    exact j2
   rcases e2 with(h|h)|⟨t',h,j2,j3,j4⟩
   ·rw[h]at ht;cases ht
   ·rw[h]at ht;cases ht
   rw[h]at ht;cases ht
   exact⟨j2,j3,fun d cs hd=>j4 d cs (P3 hd).1,fun τ hx=>absurd rfl ((P3 hx).2 _ rfl)⟩
  obtain⟨rfl,rfl,q5⟩:=q3;obtain⟨cs0,hcs⟩:=Option.isSome_iff_exists.1 q5;obtain⟨xs2,tl,t1,t2,t3⟩:=htk d cs0 hcs
  have ex:xs2=xs:=by
   have:fr.s d= .sl xs .ro:=q1
   rw[t1]at this;cases this;rfl
  subst ex
  have hA:Ik H tl:=by
   rcases t3 with⟨_,rfl|rfl⟩|⟨t,_,rfl,h,_⟩
   ·trivial
   ·trivial
   exact h
  have hs2:∀t,tl= .tok t→H t=some .spare∧H0 t=none∧(∀d' cs,U0 pv (some (.tk d)) (.tk d')=some cs→tks d'≠some t)∧∀τ,U0 pv (some (.tk d)) .ex=some [.sl [] τ]→τ≠ .tok t:=by
   intro t ht
   rcases t3 with⟨_,h⟩|⟨t',h1,h2,h3,h4⟩
   ·rcases h with h|h<;>rw[h]at ht<;>cases ht
   rw[h2]at ht;cases ht
   refine⟨h3,h4,fun d' cs hd' he=>?_,fun τ hx he=>?_⟩
   ·obtain⟨hp1,hp2⟩:=P3 hd';have:=htj d' d _ _ _ hp1 hcs he h1;subst this;exact hp2 _ rfl rfl
   obtain⟨τ',e1,e2⟩:=hexx _ (P3 hx).1;cases e1
   rcases e2 with(h|h)|⟨t2,h,_,_,j4⟩
   ·rw[h]at he;cases he
   ·rw[h]at he;cases he
   rw[h]at he;cases he;exact j4 d _ hcs h1
  by_cases hyd:sy= .tmp d
  ·subst hyd
   have:ys=xs2:=by
    have e1:fr.s d= .sl ys tly:=q2
    rw[t1]at e1;cases e1;rfl
   subst this
   exact⟨fr.put (some d) (.sl ys tl),tl,tl,fun x=>(by
    simp only[Fr.put];split
    ·rename_i e;subst e;exact t2
    exact hF.s x),by simp[ev,Fr.put],by simp[ev,Fr.put],hA,hs2⟩
  exact⟨fr.put (some d) (.sl xs2 tl),tl,tly,fun x=>(by
   simp only[Fr.put];split
   ·rename_i e;subst e;exact t2
   exact hF.s x),by simp[ev,Fr.put],by rw[UV fun t ht e=>hyd (by rw[e];cases ht;rfl)];exact q2,hA,hs2⟩
 have hsim:=Jv (P:=P) (K:=fun x H'=>∃zs tl',BG x (.sl (xs'++ys') tl')∧zs=xs'++ys'∧((ys=[]∧tl'=tl∧H'=H)∨∃t,tl'= .tok t∧G7 H tl t=none∧H'=upd (G7 H tl) t (some .spare))) ho h1 h2 c1 c2 c3 c4 c5 c6 c7 c8 c9 hA (l1.sz c10) (l2.sz c11) (by rw[l1.length,l2.length];exact c12)
  (fun e=>⟨_,tl,by subst e;cases l2;rw[List.append_nil];exact .slt _ l1,rfl,.inl ⟨e,rfl,rfl⟩⟩) (fun t _ ht=>⟨_,.tok t,.slt _ (l1.append l2),rfl,.inr ⟨t,rfl,ht,rfl⟩⟩)
 refine GF (hsim g w a hR hE') fun u w' ⟨g',x,H',s',hR',hv,zs,tl',hle,_,hcase⟩=>?_;have hv:=hv.le hle;have hvro:VR g' w' u (.sl (xs'++ys') .ro):=Wk.ro _ _ _ _ _ hv
 have keepB:∀id b,H id=some b→b≠ .spare→H' id=some b:=fun id b hb hne=>by
  rcases hcase with⟨_,_,rfl⟩|⟨t,_,ht,rfl⟩
  ·exact hb
  have hdr:G7 H tl id=some b:=by
   cases tl with
   |tok t0=>
    have:id≠t0:=fun e=>by subst e;rw[show H id=some .spare from hA]at hb;cases hb;exact hne rfl
    simp only[G7];rw[A7 _ _ this];exact hb
   |_=>exact hb
  rw[A7 _ _ fun e=>by subst e;rw[ht]at hdr;cases hdr];exact hdr
 have keepS:∀t,H t=some .spare→tl≠ .tok t→H' t=some .spare:=fun t hb hne=>by
  rcases hcase with⟨_,_,rfl⟩|⟨t1,_,ht,rfl⟩
  ·exact hb
  have hdr:G7 H tl t=some .spare:=by
   cases tl with
   |tok t0=>
    simp only[G7];rw[A7 _ _ fun e=>by subst e;exact hne rfl];exact hb
   |_=>exact hb
  rw[A7 _ _ fun e=>by subst e;rw[ht]at hdr;cases hdr];exact hdr
 have hH0:∀id b,H0 id=some b→H' id=some b:=fun id b hb=>by
  by_cases hsp:b= .spare
  ·subst hsp;refine keepS id (hext _ _ hb) fun e=>?_;have:=(hsrc id e).2.1
   rw[this]at hb;cases hb
  exact keepB id b (hext _ _ hb) hsp
 let tks':Nat→Option Nat:=fun x=>if x=dd then(match tl' with| .tok t=>some t|_=>none)else tks x
 have hddl:dd<nt:=CK hd dd hdd
 have hnew:∀t,tl'= .tok t→H' t=some .spare∧H0 t=none∧(∀d cs,U0 pv src (.tk d)=some cs→tks d=some t→False)∧∀τ,U0 pv src .ex=some [.sl [] τ]→τ≠ .tok t:=fun t ht=>by
  rcases hcase with⟨e0,e1,rfl⟩|⟨t1,e1,htn,rfl⟩
  ·rw[e1]at ht
   obtain⟨h3,h4,h5,h6⟩:=hsrc t ht;exact⟨h3,h4,fun d cs hdc htd=>h5 d cs hdc htd,h6⟩
  rw[e1]at ht;cases ht
  have drop:∀x b,H x=some b→(∀t0,tl= .tok t0→x≠t0)→G7 H tl x=some b:=fun x b hx hne=>by
   cases tl with
   |tok t0=>simp only[G7];rw[A7 _ _ (hne t0 rfl)];exact hx
   |_=>exact hx
  refine⟨B7 _ _ _,?_,fun d cs hdc htd=>?_,fun τ hx he=>?_⟩
  ·cases h0:H0 t with
   |none=>rfl
   |some b=>
    exfalso
    have:=drop t b (hext _ _ h0) fun t0 e x=>by subst x;rw[(hsrc t e).2.1]at h0;cases h0
    rw[htn]at this;cases this
  ·obtain⟨hp1,hp2⟩:=P3 hdc;obtain⟨xs3,tl3,t1,t2,t3⟩:=htk d cs hp1
   rcases t3 with⟨e,_⟩|⟨t4,e,_,hsp,_⟩
   ·rw[e]at htd;cases htd
   rw[e]at htd;cases htd
   have:=drop t _ hsp fun t0 e' x=>by subst x;exact(hsrc t e').2.2.1 d cs hdc e
   rw[htn]at this;cases this
  obtain⟨τ',e2,e3⟩:=hexx _ (P3 hx).1;cases e2;subst he
  rcases e3 with(h|h)|⟨t2,h,hsp,_,_⟩
  ·cases h
  ·cases h
  cases h
  have:=drop t _ hsp fun t0 e' x=>by subst x;exact(hsrc t e').2.2.2 _ hx rfl
  rw[htn]at this;cases this
 refine hn g' w' _ (fr.put o.dst (.sl (xs'++ys') .ro)) _ ⟨H',ids,s.trans s',hR',(hF.mono s').put (CK hd) hvro,hH0,fun k cs hk hvar=>?_,fun k k' cs cs' hk hk' v1 v2=>?_,tks',fun d cs hdc=>?_,fun d d' cs cs' t hx hx' e1 e2=>?_,fun cs hx=>?_⟩ hK
 ·have hk1:pv k=some cs:=by
   rw[E7 fun e=>by subst e;cases hvar]at hk
   exact(P3 hk).1
  obtain⟨k1,k2,k3⟩:=hpv k cs hk1 hvar;exact⟨keepB _ _ k1 (by simp),k2,k3.keep hfree hk1 s'⟩
 ·rw[E7 fun e=>by subst e;cases v1]at hk
  rw[E7 fun e=>by subst e;cases v2]at hk'
  exact hinj _ _ _ _ (P3 hk).1 (P3 hk').1 v1 v2
 ·by_cases e:d=dd
  ·subst e;refine⟨xs'++ys',tl',by rw[hdd];simp[Fr.put],by rw[hdd,IW (by rw[hF.size];exact hddl)];exact hv,?_⟩;simp only[tks',if_true]
   cases tl' with
   |tok t=>exact .inr ⟨t,rfl,rfl,(hnew t rfl).1,(hnew t rfl).2.1⟩
   |nil=>exact .inl ⟨rfl,.inl rfl⟩
   |full=>exact .inl ⟨rfl,.inr rfl⟩
   |ro=>
    exfalso
    rcases hcase with⟨_,e1,_⟩|⟨t1,e1,_⟩
    ·rw[←e1]at hA;exact hA
    cases e1
  rw[E7 fun x=>by cases x;exact e rfl]at hdc
  obtain⟨hp1,hp2⟩:=P3 hdc;simp only[tks',if_neg e];exact(htk d cs hp1).keep (Ql hfree hp1) s' fun t htd hsp=>keepS t hsp fun he=>(hsrc t he).2.2.1 d cs hdc htd
 ·by_cases h1:d=dd<;>by_cases h2:d'=dd
  ·rw[h1,h2]
  ·exfalso
   rw[E7 fun x=>by cases x;exact h2 rfl]at hx'
   simp only[tks',if_pos h1]at e1
   simp only[tks',if_neg h2]at e2
   cases tl' with
   |tok t1=>cases e1;exact(hnew t rfl).2.2.1 d' cs' hx' e2
   |_=>cases e1
  ·exfalso
   rw[E7 fun x=>by cases x;exact h1 rfl]at hx
   simp only[tks',if_neg h1]at e1
   simp only[tks',if_pos h2]at e2
   cases tl' with
   |tok t1=>cases e2;exact(hnew t rfl).2.2.1 d cs hx e1
   |_=>cases e2
  rw[E7 fun x=>by cases x;exact h1 rfl]at hx
  rw[E7 fun x=>by cases x;exact h2 rfl]at hx'
  simp only[tks',if_neg h1]at e1
  simp only[tks',if_neg h2]at e2
  exact htj d d' _ _ t (P3 hx).1 (P3 hx').1 e1 e2
 rw[E7 (by simp)]at hx
 obtain⟨τ,e1,e2⟩:=hexx _ (P3 hx).1;subst e1;refine⟨τ,rfl,e2.imp (fun h=>h) fun⟨t,j1,j2,j3,j4⟩=>⟨t,j1,keepS t j2 fun he=>(hsrc t he).2.2.2 τ hx j1,j3,fun d cs' hd'=>?_⟩⟩
 by_cases e:d=dd
 ·simp only[tks',if_pos e]
  cases tl' with
  |tok t1=>exact fun he=>by cases he;exact(hnew t rfl).2.2.2 τ hx j1
  |_=>exact fun he=>by cases he
 rw[E7 fun x=>by cases x;exact e rfl]at hd'
 simp only[tks',if_neg e];exact j4 d cs' (P3 hd').1
theorem Xy {k:Nat}(h:NR ops k=true):k≤ops.size∧∀i,i<ops.size→EX (ops.getD i default) i=true∧
 ∀j,j<i→Nc ops Uq i j=true∨(i<k∧KB ops (ops.getD j default) (ops.getD i default)=true):=by
 simp only[NR,and_eq_true,decide_eq_true_eq,List.all_eq_true,List.mem_range,Bool.or_eq_true]at h
 exact⟨h.1,fun i hi=>⟨(h.2 i hi).1,fun j hj=>((h.2 i hi).2 j hj).symm⟩⟩
theorem QC {i:Nat}(h:i<ops.size):ops.getD i default=ops[i]:=by simp[Array.getD,h]
theorem Cx {listed:Array Bool}{i:Nat}(h:i∈Region.ready .any ops listed):i<ops.size∧listed.getD i true=false∧∀j,DT (ops.getD i default) j=true→listed.getD j false=true:=by
 simp only[Region.ready,List.mem_filter,List.mem_range,and_eq_true,Bool.not_eq_true']at h
 obtain⟨h1,h2,h3⟩:=h;refine⟨h1,h2,fun j hj=>?_⟩
 rw[Array.getElem?_eq_getElem h1]at h3
 simp only[Option.map_some,Option.getD_some,all_eq_true]at h3
 rw[QC h1]at hj
 simp only[DT,any_eq_true,and_eq_true,beq_iff_eq]at hj
 obtain⟨e,he,rfl,hb⟩:=hj;have:=h3 e he
 simpa[hb]using this
theorem Eg {listed:Array Bool} (hcl:∀m j,listed.getD m false=true→DT (ops.getD m default) j=true→listed.getD j false=true):∀(n i j:Nat),(∀j,DT (ops.getD i default) j=true→listed.getD j false=true)→Nc ops n i j=true→listed.getD j false=true
 |0,i,j,hi,h=>hi j h
 | n+1,i,j,hi,h=>by
  simp only[Nc,Bool.or_eq_true,any_eq_true,and_eq_true]at h
  rcases h with h|⟨x,hx,hb,_,h⟩
  ·exact hi j h
  have hm:DT (ops.getD i default) ((ops.getD i default).after[x]).on=true:=by
   simp only[DT,any_eq_true,and_eq_true,beq_iff_eq];exact⟨x,hx,rfl,hb⟩
  exact Eg hcl n _ j (fun j' h'=>hcl _ j' (hi _ hm) h') h
theorem Sa {listed:Array Bool}{i:Nat}(h1:i<ops.size)(h2:listed.getD i true=false)(hb:EX (ops.getD i default) i=true)(h3:∀j,j<i→listed.getD j false=true):i∈Region.ready .any ops listed:=by
 simp only[Region.ready,List.mem_filter,List.mem_range,and_eq_true,Bool.not_eq_true'];refine⟨h1,h2,?_⟩;rw[Array.getElem?_eq_getElem h1];simp only[Option.map_some,Option.getD_some,all_eq_true]
 rw[QC h1]at hb
 simp only[EX,all_eq_true]at hb
 intro e he;have:=hb e he
 simp only[Bool.or_eq_true,Bool.not_eq_true',decide_eq_true_eq]at this ⊢
 rcases this with h|h
 ·exact .inl h
 exact .inr (h3 _ h)
theorem NH {listed:Array Bool}{i j:Nat}{d:Bool}(hi:i<listed.size):(listed.setIfInBounds i true).getD j d=if j=i then true else listed.getD j d:=by
 simp only[Array.getD_eq_getD_getElem?,Array.getElem?_setIfInBounds]
 by_cases h:j=i
 ·subst h;simp[hi]
 rw[if_neg (fun e=>h e.symm),if_neg h]
theorem Rx {A:Ra} {r:Option Nat} {k:Nat} {K:Fr→A2→Prop} {Q:Exit→Act→World→Prop} {g0:Gh} {w0:World} (hat:∀i,i<ops.size→EX (ops.getD i default) i=true∧∀j,j<i→k≤j→Nc ops Uq i j=true) (hQ:∀g w a fr H,T4 g0 w0 g w→Rl g H w→FR nt g w a fr→K fr H→Q .normal a w):
 ∀(d m:Nat) (listed:Array Bool) (fr:Fr) (H:A2),m+d=ops.size→k≤m→listed.size=ops.size→(∀i b,i<ops.size→listed.getD i b=decide (i<m))→GD P A nt ops (ops.toList.drop m) fr H K→
  ∀g w a,T4 g0 w0 g w→Rl g H w→FR nt g w a fr→wpAnyIn (Fw r) 0 P .any ops Q d listed a w
 |0,m,listed,fr,H,hm,hk,hsz,hl,h,g,w,a,s,hR,hF=>by
  have:ops.toList.drop m=[]:=by simp;omega
  rw[this]at h
  refine⟨?_,hQ g w a fr H s hR hF h⟩;rw[List.eq_nil_iff_forall_not_mem];intro i hi;obtain⟨h1,h2,_⟩:=Cx hi
  rw[hl i true h1]at h2
  simp at h2;omega
 | d + 1,m,listed,fr,H,hm,hk,hsz,hl,h,g,w,a,s,hR,hF=>by
  have hlt:m<ops.size:=by omega
  have hready:m∈Region.ready .any ops listed:=Sa hlt (by rw[hl m true hlt];simp) (hat m hlt).1 fun j hj=>by rw[hl j false (by omega)];simpa using hj
  refine⟨fun e=>(by rw[e]at hready;cases hready),fun i hi=>?_⟩;obtain⟨h1,h2,h3⟩:=Cx hi
  have him:i=m:=by
   rw[hl i true h1]at h2
   simp only[decide_eq_false_iff_not,Nat.not_lt]at h2
   rcases Nat.lt_or_ge m i with hlt'|hge
   ·have he:=(hat i h1).2 m hlt' hk
    ·have:=Eg (fun m' j hm' hj=>by
      have hms:m'<ops.size:=by
       rcases Nat.lt_or_ge m' ops.size with h|h
       ·exact h
       simp[Array.getD,show¬m'<listed.size by omega]at hm'
      rw[hl m' false hms]at hm'
      simp only[decide_eq_true_eq]at hm'
      have hb:=(hat m' hms).1
      simp only[EX,all_eq_true]at hb
      simp only[DT,any_eq_true,and_eq_true,beq_iff_eq]at hj
      obtain⟨x,hx,rfl,hbx⟩:=hj;have:=hb x hx
      simp only[hbx,Bool.not_true,Bool.false_or,decide_eq_true_eq]at this
      rw[hl _ false (by omega)]
      simp only[decide_eq_true_eq];omega) Uq i m h3 he
     rw[hl m false hlt]at this
     simp at this
   omega
  subst him
  have hdl:ops.toList.drop i=ops[i]::ops.toList.drop (i+1):=by
   rw[List.drop_eq_getElem_cons (by simpa using hlt)];simp
  rw[hdl]at h
  simp only[GD]at h
  obtain⟨hd,h⟩:=h;have ih:=Rx (A:=A) (r:=r) (K:=K) hat hQ d (i+1) (listed.setIfInBounds i true)
  have hl':∀j b,j<ops.size→(listed.setIfInBounds i true).getD j b=decide (j<i+1):=by
   intro j b hj;rw[NH (by omega),hl j b hj]
   by_cases e:j=i
   ·subst e;simp
   rw[if_neg e];congr 1;simp;omega
  simp only[wpOpIn,Array.getElem?_eq_getElem hlt]
  split at h
  ·rename_i hg;rw[if_pos (R8 hF.s hg)];exact OI hR hF hd h fun g' w' a' v H' s' hR' hF' hK=>ih _ _ (by omega) (by omega) (by simpa using hsz) hl' hK g' w' a' (s.trans s') hR' hF'
  ·rename_i hg;rw[if_neg (by rw[R8 hF.s hg];simp)];exact⟨fun _ _=>trivial,ih _ _ (by omega) (by omega) (by simpa using hsz) hl' h g w _ s hR (hF.put (CK hd) (VR.und _ _))⟩
  exact h.elim
theorem Tu {r:Option Nat} {k:Nat} {K:Fr→Pv→Prop} {Q:Exit→Act→World→Prop} {g0:Gh} {w0:World} (hk:k≤ops.size) (hat:∀i,i<ops.size→EX (ops.getD i default) i=true∧∀j,j<i→Nc ops Uq i j=true∨(i<k∧KB ops (ops.getD j default) (ops.getD i default)=true)∨k≤j)
 (hdone:∀g w a fr pv listed,listed.size=ops.size→(∀i b,i<ops.size→listed.getD i b=decide (i<k))→XL nt H0 g0 w0 fr pv g w a→K fr pv→wpAnyIn (Fw r) 0 P .any ops Q (ops.size - k) listed a w):
 ∀(n:Nat) (L:List Nat) (listed:Array Bool) (fr:Fr) (pv:Pv),L.length=n→L.Pairwise (· < ·)→(∀i∈L,i<k)→listed.size=ops.size→(∀i b,i<ops.size→listed.getD i b=decide (i<k∧i∉L))→(∀m j,listed.getD m false=true→DT (ops.getD m default) j=true→listed.getD j false=true)→
  Hc P nt ops H0 (L.map fun i=>ops.getD i default) fr pv K→∀g w a,XL nt H0 g0 w0 fr pv g w a→wpAnyIn (Fw r) 0 P .any ops Q (n+(ops.size - k)) listed a w
 |0,L,listed,fr,pv,hn,_,_,hsz,hl,_,h,g,w,a,hI=>by
  have:L=[]:=List.length_eq_zero_iff.1 hn;subst this;rw[Nat.zero_add];exact hdone g w a fr pv listed hsz (fun i b hi=>by rw[hl i b hi];simp) hI h
 | n+1,L,listed,fr,pv,hn,hsort,hlt,hsz,hl,hcl,h,g,w,a,hI=>by
  have hL:L≠[]:=by intro e;rw[e]at hn;simp at hn
  obtain⟨i0,L0,hL0⟩:∃i0 L0,L=i0::L0:=by cases L with
   |nil=>exact absurd rfl hL
   |cons x y=>exact⟨x,y,rfl⟩
  have hi0:i0<k:=hlt i0 (by rw[hL0];simp);rw[show n+1+(ops.size - k)=(n+(ops.size - k))+1 by omega]
  have hready:i0∈Region.ready .any ops listed:=by
   refine Sa (by omega) (by rw[hl i0 true (by omega),hL0];simp) (hat i0 (by omega)).1 fun j hj=>?_;rw[hl j false (by omega)]
   have:j∉L:=by
    rw[hL0]at hsort ⊢
    intro hm
    rcases List.mem_cons.1 hm with e|hm
    ·omega
    have:=(List.pairwise_cons.1 hsort).1 j hm;omega
   simp only[decide_eq_true_eq];exact⟨by omega,this⟩
  refine⟨fun e=>(by rw[e]at hready;cases hready),fun i hi=>?_⟩;obtain⟨h1,h2,h3⟩:=Cx hi
  rw[hl i true h1]at h2
  simp only[decide_eq_false_iff_not,not_and,Classical.not_not]at h2
  have hik:i<k:=by
   rcases Nat.lt_or_ge i k with hh|hh
   ·exact hh
   exfalso
   rcases(hat i h1).2 i0 (by omega)with he|⟨hc,_⟩|hc
   ·have:=Eg hcl Uq i i0 h3 he
    rw[hl i0 false (by omega),hL0]at this
    simp at this
   ·omega
   omega
  have hiL:=h2 hik;obtain⟨pre,post,hsplit⟩:=List.append_of_mem hiL
  have hind:∀x∈pre.map (fun i=>ops.getD i default),KB ops x (ops.getD i default)=true:=by
   intro x hx;obtain⟨j,hj,rfl⟩:=List.mem_map.1 hx
   have hjL:j∈L:=by rw[hsplit];simp[hj]
   have hji:j<i:=by
    rw[hsplit]at hsort
    exact(List.pairwise_append.1 hsort).2.2 j hj i (by simp)
   rcases(hat i h1).2 j hji with he|⟨_,hc⟩|hc
   ·have:=Eg hcl Uq i j h3 he
    rw[hl j false (by omega)]at this
    simp only[decide_eq_true_eq]at this
    exact absurd hjL this.2
   ·exact hc
   have:=hlt j hjL;omega
  rw[hsplit,List.map_append,List.map_cons]at h
  have hf:=Ti hind h
  have hstep:Ib P nt ops H0 (ops.getD i default) fr pv fun fr' pv'=>Hc P nt ops H0 ((pre++post).map fun i=>ops.getD i default) fr' pv' K:=by
   rw[List.map_append];exact hf
  simp only[wpOpIn,Array.getElem?_eq_getElem h1]
  rw[QC h1]at hstep
  have hnd:i∉pre++post:=by
   rw[hsplit]at hsort
   intro hm;obtain⟨_,p2,p3⟩:=List.pairwise_append.1 hsort
   rcases List.mem_append.1 hm with hm|hm
   ·have:=p3 i hm i (by simp);omega
   have:=(List.pairwise_cons.1 p2).1 i hm;omega
  refine Xx (r:=r) hI hstep fun g' w' a' fr' pv' hI' hK=>?_;refine Tu hk hat hdone n (pre++post) _ fr' pv' ?_ ?_ ?_ (by simpa using hsz) ?_ ?_ hK g' w' a' hI'
  ·rw[hsplit]at hn;simp at hn ⊢;omega
  ·rw[hsplit]at hsort
   obtain⟨p1,p2,p3⟩:=List.pairwise_append.1 hsort;exact List.pairwise_append.2 ⟨p1,(List.pairwise_cons.1 p2).2,fun x hx y hy=>p3 x hx y (by simp[hy])⟩
  ·intro j hj;refine hlt j ?_;rw[hsplit]
   rcases List.mem_append.1 hj with hj|hj<;>simp[hj]
  ·intro j b hj;rw[NH (by omega),hl j b hj]
   by_cases e:j=i
   ·subst e;simp[hik,hnd]
   rw[if_neg e]
   congr 1
   rw[hsplit];simp[e]
  intro m j hm hj
  rw[NH (by omega)]at hm ⊢
  by_cases ej:j=i
  ·rw[if_pos ej]
  rw[if_neg ej]
  by_cases em:m=i
  ·subst em;exact h3 j hj
  rw[if_neg em]at hm;exact hcl m j hm hj
end
end Go.Ab
namespace Go.Ab
open Go.RowKit
variable [J9]
def EF (s:Nat→V):List Tmp→List V→Nat→V
 |p::ps,x::xs=>EF (fun t=>if t=p then x else s t) ps xs
 |_,_=>s
theorem Nk {g:Gh} {w:World} {nt:Nat}:∀(ps:List Tmp) (vals:List Value) (xs:List V) (tmps:Array Value) (s:Nat→V),tmps.size=nt→(∀p∈ps,p<nt)→vals.length=xs.length→(∀i,i<xs.length→VR g w (vals.getD i undef) (xs.getD i .bad))→xs.length=ps.length→
 (∀t,VR g w (tmps.getD t undef) (s t))→((ps.zip vals).foldl (fun t (p,v)=>t.setIfInBounds p v) tmps).size=nt∧∀t,VR g w (((ps.zip vals).foldl (fun t (p,v)=>t.setIfInBounds p v) tmps).getD t undef) (EF s ps xs t)
 |[],[],[],tmps,s,hn,_,_,_,_,h=>⟨hn,h⟩
 | p::ps,v::vals,x::xs,tmps,s,hn,hp,hl,hv,hx,h=>by
  simp only[List.zip_cons_cons,List.foldl_cons,EF];refine Nk ps vals xs _ _ (by simpa using hn) (fun q hq=>hp q (by simp[hq])) (by simpa using hl) (fun i hi=>by simpa using hv (i+1) (by simpa using hi)) (by simpa using hx) fun t=>?_;have hpn:=hp p (by simp)
  by_cases e:t=p
  ·subst e
   have:(tmps.setIfInBounds t v).getD t undef=v:=by simp[Array.getD,hn,hpn]
   rw[this];simpa using hv 0 (by simp)
  have:(tmps.setIfInBounds p v).getD t undef=tmps.getD t undef:=by
   simp only[Array.getD_eq_getD_getElem?,Array.getElem?_setIfInBounds];rw[if_neg (fun h=>e h.symm)]
  rw[this];simpa[e]using h t
 |[],[],_::_,_,_,_,_,hl,_,_,_=>by simp at hl
 |[],_::_,[],_,_,_,_,hl,_,_,_=>by simp at hl
 |[],_::_,_::_,_,_,_,_,_,_,hx,_=>by simp at hx
 |_::_,[],[],_,_,_,_,_,_,hx,_=>by simp at hx
 |_::_,[],_::_,_,_,_,_,hl,_,_,_=>by simp at hl
 |_::_,_::_,[],_,_,_,_,hl,_,_,_=>by simp at hl
def QA :Exit→Option (Option Code)
 | .normal=>some none
 | .ret=>some (some .ret)
 | .exit id=>some (some (.exit id))
 | .goto t=>some (some (.goto t))
 |_=>none
def Ap7 (id:Nat)(L:LpI)(K:V→A2→Prop)(e:Exit)(H2:A2):Prop:=
 ∃jump,QA e=some jump∧H2 id=some (.loop {L with st:=.busy})∧K (.bool jump.isNone) (upd H2 id (some (.loop {L with st:=if jump.isNone then .ready else .done,pe:=jump})))
theorem Tq {P:Program} {id:Nat} {L:LpI} {x:List V} {H:A2} {K:V→A2→Prop} (hk:H id=some (.loop L)) (hst:L.st= .ready) (hx:x.length=L.ps.size) (hps:∀p∈L.ps,p<L.nt)
 (h:T9 P L.nt (some id) L.asg ⟨EF L.s L.ps.toList x,[]⟩ H fun e fr' H1=>e= .normal∧H1 id=some (.loop L)∧
  T9 P L.nt (some id) L.body fr' (upd H1 id (some (.loop {L with st:=.busy}))) fun e _ H2=>Ap7 id L K e H2):AX P (.yield id) x H K:=by
 intro g w v vals hR hv hA
 cases hv with
 | yield hmu=>
  rename_i b;obtain⟨b',r,h1,h2,h3,h4,h5,h6,h7,h8,h9,h10⟩:=hR.blk id _ hk
  rw[hmu]at h1;cases h1
  have hrun:(do let d ←Deferred.ofValue (.func (.yield b) #[] #[]) vals;invoke d.target d.args:Sem Next).run P w=
   .ok (.round b r.fn ((r.params.zip vals).foldl (fun tmps (t,a)=>tmps.setIfInBounds t a) r.tmps) r.assign r.body) w:=by
   have hy:=run_yield (P:=P) (args:=vals) h3 (by rw[hA.1,hx,h6])
   simpa[Deferred.ofValue,Sem.run_bind,Sem.run_pure,Result.andThen_ok,invoke]using hy
  rw[hrun]
  show RoundIn Fence.wide 0 P b r.fn _ r.assign r.body w _
  have hpa:=Nk (g:=g) (w:=w) (nt:=L.nt) L.ps.toList vals.toList x r.tmps L.s h9 (fun p hp=>hps p (by simpa using hp)) (by simpa using hA.1) (fun i hi=>by
   have:=hA.2 i hi
   simpa[Array.getD_eq_getD_getElem?,List.getD_eq_getElem?_getD]using this) (by simpa using hx) h10
  have hfold:(r.params.zip vals).foldl (fun tmps (t,a)=>tmps.setIfInBounds t a) r.tmps=(L.ps.toList.zip vals.toList).foldl (fun t (p,v)=>t.setIfInBounds p v) r.tmps:=by
   rw[h6,←Array.foldl_toList];simp
  rw[hfold];refine roundIn_of_wpIn trivial ?_
  show r.assign.wpIn (Fw (some b)) 0 P _ _ w
  rw[h7];refine wpIn_mono (h (some b) g w _ ⟨b,hmu,rfl⟩ hR ⟨hpa.1,hpa.2,[],rfl,fun i hi=>by simp at hi,rfl⟩) fun e a1 w1 ⟨g1,fr1,H1,s1,hR1,hF1,he,hk1,hbody⟩=>?_;subst he;obtain⟨b1,r1,i1,i2,i3,i4,i5,i6,i7,i8,i9,i10⟩:=hR1.blk id _ hk1;have hmu1:=s1.mu _ _ hmu
  rw[hmu1]at i1;cases i1
  refine⟨_,run_beginRound i3 (i4.trans hst),?_⟩
  obtain⟨s2,hR2⟩:=hR1.putGen (k':=.loop {L with st:=.busy}) (o':=.loop {r1 with state:=.busy}) rfl rfl hk1 hmu1 rfl fun s hh hb=>
   ⟨b,_,hmu1,hb,hh,rfl,i5,i6,i7,i8,i9,fun t=>(i10 t).mono s⟩
  show r.body.wpIn (Fw (some b)) 0 P _ _ _
  rw[h8];refine wpIn_mono (hbody (some b) g1 _ a1 ⟨b,hmu1,rfl⟩ hR2 (hF1.mono s2)) fun e a3 w3 ⟨g3,fr3,H3,s3,hR3,hF3,jump,hj,hk3,hK⟩=>?_;obtain⟨b3,r3,j1,j2,j3,j4,j5,j6,j7,j8,j9,j10⟩:=hR3.blk id _ hk3;have hmu3:=s3.mu _ _ hmu1
  rw[hmu3]at j1;cases j1
  obtain⟨s4,hR4⟩:=hR3.putGen (k':=.loop {L with st:=if jump.isNone then .ready else .done,pe:=jump}) (o':=.loop {r3 with state:=if jump.isNone then .ready else .done,pending:=jump}) rfl rfl hk3 hmu3 rfl fun s hh hb=>
   ⟨b,_,hmu3,hb,hh,rfl,rfl,j6,j7,j8,j9,fun t=>(j10 t).mono s⟩
  have hend:=run_endRound (P:=P) jump j3
  have fin:∃v w',(Instr.endRound b jump).run P w3= .ok v w'∧∃u,Ending.returned v= .returned u∧J7 g w K u w':=
   ⟨_,_,hend,_,rfl,g3,_,_,((s1.trans s2).trans s3).trans s4,hR4,.bool _,hK⟩
  cases e<;>simp only[QA,Option.some.injEq,reduceCtorEq]at hj<;>subst hj<;>exact fin
end Go.Ab
namespace Go.Ab
open Go.RowKit
variable [J9]
structure E3 (I:A2→A2→Prop):Prop where
 le:∀{F H},I F H→∀id b,F id=some b→H id=some b
 chg:∀{F H} (id:Nat) (b:Option Fa),I F H→H id=F id→I (upd F id b) (upd H id b)
theorem E3.fresh {I:A2→A2→Prop}(h:E3 I){F H:A2}(i:I F H){id:Nat}(hn:H id=none):F id=none:=by
 cases hf:F id with
 |none=>rfl
 |some b=>rw[h.le i id b hf]at hn;cases hn
def Ok (P:Program) (it:V) (xs:List (List V)):Prop:=
 ∃ f C,it= .func (.func f) [] C∧(∀vals w,(callFunc f vals).run P w= .ok (.enter f vals) w)∧
  ∀(yv:V) (I:List (List V)→A2→A2→Prop) (D:A2→A2→Prop),(∀l,E3 (I l))→E3 D→
   ((yv.one=true∧yv.cells=[yv])∧∀x l F H,I (x::l) F H→AX P yv x H fun r H'=>(r= .bool true∧I l F H')∨(r= .bool false∧D F H'))→
   ∀F H,I xs F H→I0 P f (yv::C) H fun _ H'=>I [] F H'∨D F H'
def SZ (I:A2→A2→Prop)(D:Code→A2→A2→Prop)(F:A2)(e:Exit)(H:A2):Prop:=
 match e with
 | .normal=>I F H
 | .ret=>D .ret F H
 | .exit k=>D (.exit k) F H
 |_=>False
theorem UX {I:A2→A2→Prop}{D:Code→A2→A2→Prop}{F:A2}{e:Exit}{H:A2}(h:SZ I D F e H):(QA e=some none∧I F H)∨∃c,QA e=some (some c)∧D c F H:=by
 cases e<;>simp only[SZ]at h
 ·exact .inl ⟨rfl,h⟩
 ·exact .inr ⟨_,rfl,h⟩
 exact .inr ⟨_,rfl,h⟩
section
variable {P:Program}{nt:Nat}
theorem Ur {fr:Fr} {ps:Array Tmp} {asg body:Code} {xs:List (List V)} {f:FuncId} {C:List V} {id:Nat} (hnt:∀p∈ps,p<nt) (hps:∀x∈xs,x.length=ps.size)
 (hit:∀(yv:V) (I:List (List V)→A2→A2→Prop) (D:A2→A2→Prop),(∀l,E3 (I l))→E3 D→
  ((yv.one=true∧yv.cells=[yv])∧∀x l F H,I (x::l) F H→AX P yv x H fun r H'=>(r= .bool true∧I l F H')∨(r= .bool false∧D F H'))→
  ∀F H,I xs F H→I0 P f (yv::C) H fun _ H'=>I [] F H'∨D F H')
 (I:List (List V)→A2→A2→Prop) (D:Code→A2→A2→Prop) (hI:∀l,E3 (I l)) (hD:∀c,E3 (D c)) (J:List V→List (List V)→Fr→A2→A2→Prop) (hJ:∀x l fr,E3 (J x l fr))
 (assign:∀id L x l F H,I (x::l) F H→F id=some (.loop L)→x.length=ps.size→T9 P nt (some id) asg ⟨EF fr.s ps.toList x,[]⟩ H fun e fr' H1=>e= .normal∧J x l fr' F H1)
 (round:∀id L x l fr' F H,J x l fr' F H→F id=some (.loop L)→T9 P nt (some id) body fr' H fun e _ H'=>SZ (I l) D F e H')
 {F0 H2:A2} {L:LpI} (hL:L={nt:=nt,s:=fr.s,st:=.ready,pe:=none,ps:=ps,asg:=asg,body:=body}) (hF0:F0 id=none) (h0:I xs (upd F0 id (some (.loop L))) H2)
 {g2:Gh} {w2:World} {b:Nat} {vals:Array Value} (hR:Rl g2 H2 w2) (hmu:g2.mu id=some b) (hA:Args g2 w2 vals (.yield id::C)) (hcf:(callFunc f vals).run P w2= .ok (.enter f vals) w2):
 CallsIn Fence.wide 0 P f vals w2 fun e w3=>∃v,e= .returned v∧∃g3 H3 jump w4,T4 g2 w2 g3 w4∧Rl g3 H3 w4∧(Instr.endLoop b).run P w3= .ok jump w4∧((jump=none∧I [] F0 H3)∨∃c,jump=some c∧D c F0 H3):=by
 have hc:=hit (.yield id) (fun l F H=>(∀x∈l,x.length=ps.size)∧F id=none∧I l (upd F id (some (.loop L))) H)
  (fun F H=>F id=none∧∃c,D c (upd F id (some (.loop {L with st:=.done,pe:=some c}))) H) ?_ ?_ ⟨⟨rfl,rfl⟩,?_⟩ F0 H2 ⟨hps,hF0,h0⟩ g2 w2 vals hR hA
 ·rw[hcf]at hc
  have hc':CallsIn Fence.wide 0 P f vals w2 _:=hc;refine hc'.mono fun e w3 ⟨v,he,g3,u,H3,s,hR3,_,hK⟩=>⟨v,he,?_⟩;have hmu3:=s.mu _ _ hmu
  have fin:∀(L':LpI) (X:A2→A2→Prop),E3 X→X (upd F0 id (some (.loop L'))) H3→L'.st≠ .busy→∃g4 H4 w4,T4 g2 w2 g4 w4∧Rl g4 H4 w4∧(Instr.endLoop b).run P w3= .ok L'.pe w4∧X F0 H4:=by
   intro L' X hX hx hst;have hk3:=hX.le hx id _ (B7 _ _ _);obtain⟨b3,r3,j1,j2,j3,j4,j5,j6,j7,j8,j9,j10⟩:=hR3.blk id _ hk3
   rw[hmu3]at j1;cases j1
   have hend:=run_endLoop (P:=P) j3 (by rw[j4];exact hst)
   rw[j5]at hend
   obtain⟨s4,hR4⟩:=hR3.putGen (k':=.loop {L' with st:=.exhausted}) (o':=.loop {r3 with state:=.exhausted,pending:=L'.pe}) rfl rfl hk3 hmu3 rfl fun s hh hb=>
    ⟨b,_,hmu3,hb,hh,rfl,rfl,j6,j7,j8,j9,fun t=>(j10 t).mono s⟩
   refine⟨g3,upd H3 id none,_,s.trans s4,hR4.less fun x bb hx=>?_,hend,?_⟩
   ·by_cases e:x=id
    ·subst e;rw[B7]at hx;cases hx
    rw[A7 _ _ e]at hx ⊢;exact hx
   have:=hX.chg id none hx (by rw[hk3,B7])
   rwa[Rq _ _ _ hF0]at this
  rcases hK with⟨_,_,hi⟩|⟨_,c,hd⟩
  ·obtain⟨g4,H4,w4,k1,k2,k3,k4⟩:=fin L (I []) (hI _) hi (by rw[hL];simp);exact⟨g4,H4,_,w4,k1,k2,k3,.inl ⟨by rw[hL],k4⟩⟩
  obtain⟨g4,H4,w4,k1,k2,k3,k4⟩:=fin _ (D c) (hD _) hd (by simp);exact⟨g4,H4,_,w4,k1,k2,k3,.inr ⟨c,rfl,k4⟩⟩
 ·intro l;refine⟨fun{F H} ⟨_,hn,hi⟩ x bb hx=>(hI l).le hi x bb ?_,fun{F H} x bb ⟨hs,hn,hi⟩ hx=>?_⟩
  ·rw[A7 _ _ (P4 hn hx)];exact hx
  have hne:x≠id:=fun e=>by subst e;rw[hn]at hx;rw[(hI l).le hi x _ (B7 _ _ _)]at hx;cases hx
  refine⟨hs,by rw[A7 _ _ (fun e=>hne e.symm)];exact hn,?_⟩;have:=(hI l).chg x bb hi (by rw[A7 _ _ hne];exact hx)
  rwa[ML _ _ _ (Ne.symm hne)]at this
 ·refine⟨fun{F H} ⟨hn,c,hi⟩ x bb hx=>(hD c).le hi x bb ?_,fun{F H} x bb ⟨hn,c,hi⟩ hx=>?_⟩
  ·rw[A7 _ _ (P4 hn hx)];exact hx
  have hne:x≠id:=fun e=>by subst e;rw[hn]at hx;rw[(hD c).le hi x _ (B7 _ _ _)]at hx;cases hx
  refine⟨by rw[A7 _ _ (fun e=>hne e.symm)];exact hn,c,?_⟩;have:=(hD c).chg x bb hi (by rw[A7 _ _ hne];exact hx)
  rwa[ML _ _ _ (Ne.symm hne)]at this
 rintro x l F H ⟨hs,hn,hi⟩;have hk:=(hI _).le hi id _ (B7 _ _ _);have hxs:=hs x (by simp);have ha:=assign id L x l _ H hi (B7 _ _ _) hxs;subst hL;refine Tq hk rfl hxs hnt (ha.mono fun e fr' H1 ⟨he,hj⟩=>?_);have hk1:=(hJ x l fr').le hj id _ (B7 _ _ _);refine⟨he,hk1,?_⟩;have hj2:=(hJ x l fr').chg id (some (.loop {({nt:=nt,s:=fr.s,st:=.ready,pe:=none,ps:=ps,asg:=asg,body:=body}:LpI)with st:=.busy})) hj (by rw[hk1,B7])
 rw[Bu]at hj2
 refine(round id _ x l fr' _ _ hj2 (B7 _ _ _)).mono fun e fr'' H2 hq=>?_
 rcases UX hq with⟨hjmp,hi2⟩|⟨c,hjmp,hd2⟩
 ·have hk2:=(hI l).le hi2 id _ (B7 _ _ _);refine⟨none,hjmp,hk2,.inl ⟨rfl,fun y hy=>hs y (by simp[hy]),hn,?_⟩⟩;have:=(hI l).chg id (some (.loop {nt:=nt,s:=fr.s,st:=.ready,pe:=none,ps:=ps,asg:=asg,body:=body})) hi2 (by rw[hk2,B7])
  rwa[Bu]at this
 have hk2:=(hD c).le hd2 id _ (B7 _ _ _);refine⟨some c,hjmp,hk2,.inr ⟨rfl,hn,c,?_⟩⟩;have:=(hD c).chg id (some (.loop {nt:=nt,s:=fr.s,st:=.done,pe:=some c,ps:=ps,asg:=asg,body:=body})) hd2 (by rw[hk2,B7])
 rwa[Bu]at this
theorem Vk {g:Gh}{w:World}{id b:Nat}{cs:Array Value}{C:List V}(hmu:g.mu id=some b)(h1:cs.size=C.length)(h2:∀i,i<C.length→VR g w (cs.getD i undef) (C.getD i .bad)):
 Args g w (#[.func (.yield b) #[] #[]]++cs) (.yield id::C):=
 Args.append (x:=[.yield id]) (a:= #[.func (.yield b) #[] #[]]) ⟨rfl,fun i hi=>match i,hi with|0,_=>.yield hmu⟩ ⟨h1,h2⟩
theorem T9.rangeOuter {fr:Fr} {H F:A2} {g:Operand} {ps:Array Tmp} {asg body:Code} {xs:List (List V)} {Q:Exit→Fr→A2→Prop} (hnt:∀p∈ps,p<nt) (hps:∀x∈xs,x.length=ps.size) (hit:Ok P (ev fr g) xs)
 (I:List (List V)→A2→A2→Prop) (D:Code→A2→A2→Prop) (hI:∀l,E3 (I l)) (hD:∀c,E3 (D c)) (J:List V→List (List V)→Fr→A2→A2→Prop) (hJ:∀x l fr,E3 (J x l fr)) (h0:I xs F H)
 (assign:∀id L x l F H,I (x::l) F H→F id=some (.loop L)→x.length=ps.size→T9 P nt (some id) asg ⟨EF fr.s ps.toList x,[]⟩ H fun e fr' H1=>e= .normal∧J x l fr' F H1)
 (round:∀id L x l fr' F H,J x l fr' F H→F id=some (.loop L)→T9 P nt (some id) body fr' H fun e _ H'=>SZ (I l) D F e H')
 (done:∀d H',F d=none→I [] (upd F d (some (.obj (.deferred (some []))))) H'→Q .normal {fr with df:=d::fr.df} H')
 (stop:∀c d H',F d=none→D c (upd F d (some (.obj (.deferred (some []))))) H'→T9 P nt none c {fr with df:=d::fr.df} H' Q):T9 P nt none (.rangeFunc g ps asg body) fr H Q:=by
 intro r g0 w a hr hR hF;have hr:r=none:=hr;subst hr;obtain⟨f,C,hev,hcf,hit⟩:=hit;refine wpIn_rangeFunc fun fn _=>?_;have hv:=D9 hR hF.s g
 rw[hev]at hv
 generalize hag:a.eval g=gv at hv
 cases hv with
 | func hl hv hl' hv'=>
  rename_i fs cs;have hfs:fs= #[]:=Array.eq_empty_of_size_eq_zero (by simpa using hl);subst hfs;obtain⟨dB,hdB⟩:∃dB:Fa,dB= .obj (.deferred (some [])):=⟨_,rfl⟩;have hd0:H g0.nx=none:=(hR.nxt _ (Nat.le_refl _)).2.2;have s1:=T4.new hR (.deferred (some [])) False 0;have hR1:=hR.newNamed (.deferred (some [])) dB (by rw[hdB];simp) (by rw[hdB];exact⟨w.heap.size,by simp[Gh.new],hR.bnd,BX,rfl⟩) (by rw[hdB];intro _ _ h;cases h);obtain⟨w1,hw1⟩:∃w1,w.alloc (.deferred (some []))=w1:=⟨_,rfl⟩;obtain⟨g1,hg1⟩:∃g1,g0.new w False 0=g1:=⟨_,rfl⟩;obtain⟨L,hL⟩:∃L:LpI,L={nt:=nt,s:=fr.s,st:=.ready,pe:=none,ps:=ps,asg:=asg,body:=body}:=⟨_,rfl⟩;obtain⟨rec,hrec⟩:∃rec:Loop,rec={state:=.ready,pending:=none,fn,tmps:=a.tmps,params:=ps,assign:=asg,body,defers:=w.heap.size}:=⟨_,rfl⟩
  rw[hw1,hg1]at hR1 s1
  have hd:g1.mu g0.nx=some w.heap.size:=by rw[←hg1];simp[Gh.new]
  have hnx:g1.nx=g0.nx+1:=by rw[←hg1];rfl
  have hF1:=hF.mono s1;have s2:=T4.new hR1 (.loop rec) False 0;have hF2:=hF1.mono s2
  have hR2:=hR1.newNamed (.loop rec) (.loop L) (by simp) (by
   rw[hL,hrec]
   exact⟨w1.heap.size,_,by simp[Gh.new],hR1.bnd,BX,rfl,rfl,rfl,rfl,rfl,hF.size,fun t=>by have:=hF2.s t;rw[hrec]at this;exact this⟩)
  obtain⟨w2,hw2⟩:∃w2,w1.alloc (.loop rec)=w2:=⟨_,rfl⟩;obtain⟨g2,hg2⟩:∃g2,g1.new w1 False 0=g2:=⟨_,rfl⟩
  rw[hw2,hg2]at hR2 s2 hF2
  have hmu:g2.mu g1.nx=some w1.heap.size:=by rw[←hg2];simp[Gh.new]
  have hi0:(upd H g0.nx (some dB)) g1.nx=none:=(hR1.nxt _ (Nat.le_refl _)).2.2
  have hsz:w1.heap.size=w.heap.size+1:=by rw[←hw1];simp
  have i1:=(hI xs).chg g0.nx (some dB) h0 (by rw[hd0,(hI xs).fresh h0 hd0]);have hFi:=(hI xs).fresh i1 hi0;have i2:=(hI xs).chg g1.nx (some (.loop L)) i1 (by rw[hi0,hFi]);have hcall:=Ur (fr:=fr) (nt:=nt) hnt hps hit I D hI hD J hJ assign round hL hFi i2 (vals:= #[.func (.yield w1.heap.size) #[] #[]]++cs) hR2 hmu (Vk hmu hl' fun i hi=>(hv' i hi).mono (s1.trans s2)) (hcf _ _);refine⟨w1.heap.size,[{target:=.collected w.heap.size,args:= #[]}],w2,{target:=.fn (.func f) cs,args:= #[.func (.yield w1.heap.size) #[] #[]]},w2,f, #[.func (.yield w1.heap.size) #[] #[]]++cs,w2,?_,?_,fun _ _=>trivial,?_,fun h=>by simp[Fw]at h,?_⟩
  ·rw[←hw2,hrec,←hw1,show(w.alloc (.deferred (some []))).heap.size=w.heap.size+1 by simp];exact run_enterLoop_outer _ _ _ _ _
  ·simp only[resolve,hag];simp[go_sem]
  ·simp only[invoke];exact hcf _ _
  refine NY (hcall.mono fun e w3 ⟨v,he,g3,H3,jump,w4,s3,hR3,hend,hj⟩=>?_);subst he;refine⟨jump,w4,hend,?_⟩;have s:=(s1.trans s2).trans s3
  have hF4:FR nt g3 w4 {a with defers:=[{target:=.collected w.heap.size,args:= #[]}]++a.defers} {fr with df:=g0.nx::fr.df}:=by
   have hF3:=hF.mono s;refine⟨hF3.size,hF3.s,?_⟩;obtain⟨bs,k1,k2,k3⟩:=hF3.df;refine⟨w.heap.size::bs,by simpa using k1,fun i hi=>?_,by simp[k3]⟩
   cases i with
   |zero=>exact(s2.trans s3).mu _ _ hd
   |succ i=>simpa using k2 i (by simpa using hi)
  have hFd:F g0.nx=none:=(hI xs).fresh h0 hd0
  rw[hdB]at hj
  rcases hj with⟨rfl,hi⟩|⟨c,rfl,hd⟩
  ·exact⟨g3,_,H3,s,hR3,hF4,done _ _ hFd hi⟩
  exact wpIn_mono (stop c _ _ hFd hd none g3 w4 _ rfl hR3 hF4) fun _ _ _=>TE.later s
end
end Go.Ab
namespace Go.Ab
open Go.RowKit
variable [J9]
def Sq (P:Program) (A:Ra) (nt:Nat) (ops:Array Oper):List Oper→Fr→A2→(Fr→A2→Prop)→Prop
 |[],fr,H,K=>K fr H
 | o ::rest,fr,H,K=>
  DZ nt o.dst=true∧
   match o.guard with
   |none=>Gb P A o (ev fr) H fun v H'=>Sq P A nt ops rest (fr.put o.dst v) H' K
   | some (j,want)=>
    match(ops[j]?).bind (·.dst)with
    | some d=>
     match fr.s d with
     | .bool c=>
      (c=want→Gb P A o (ev (fr.put (some d) (.bool want))) H fun v H'=>Sq P A nt ops rest ((fr.put (some d) (.bool want)).put o.dst v) H' K)∧
       (c= !want→Sq P A nt ops rest ((fr.put (some d) (.bool !want)).put o.dst (.tup [])) H K)
     |_=>False
    |none=>False
theorem KU {P:Program}{H:A2}{K K':V→A2→Prop}{ts:List TypeId}{vs:List V}(h:Eh P H K ts vs)(hk:∀v H',K v H'→K' v H'):Eh P H K' ts vs:=by
 unfold Eh at h ⊢
 split at h
 ·obtain⟨e,sz,by_,z,k1,k2,k3,k4,k5,k6,k7,k8,k9,xs',ys',l1,l2,k10,k11,k12,k13,k14,k15⟩:=h;exact⟨e,sz,by_,z,k1,k2,k3,k4,k5,k6,k7,k8,k9,xs',ys',l1,l2,k10,k11,k12,k13,fun e=>hk _ _ (k14 e),fun t e1 e2=>hk _ _ (k15 t e1 e2)⟩
 exact h.elim
theorem HJ {P:Program} {A:Ra} {o:Oper} {ρ:Operand→V} {H:A2} {K K':V→A2→Prop} (h:Gb P A o ρ H K) (hk:∀v H',K v H'→K' v H'):Gb P A o ρ H K':=by
 unfold Gb at h ⊢
 split at h
 ·rcases h with⟨z,h1,h2,h3⟩|⟨h1,sz,h2⟩
  ·exact .inl ⟨z,h1,h2,fun id hid=>(h3 id hid).imp fun _ h=>⟨h.1,hk _ _ h.2⟩⟩
  exact .inr ⟨h1,sz,fun q id hq hid=>hk _ _ (h2 q id hq hid)⟩
 ·refine⟨h.1,?_⟩;obtain⟨_,h⟩:=h
  split at h<;>rename_i hA
  ·rw[if_pos hA];exact fun id hid=>hk _ _ (h id hid)
  rw[if_neg hA];exact hk _ _ h
 ·rcases h with⟨z,H',h0,h1,h2⟩|⟨z,H',h0,h1,h2⟩
  ·exact .inl ⟨z,H',h0,h1,hk _ _ h2⟩
  exact .inr ⟨z,H',h0,h1,hk _ _ h2⟩
 ·have key:∀{K K':V→A2→Prop} {t:TypeId} {l c:V},(∀v H',K v H'→K' v H')→LM P H K t l c→LM P H K' t l c:=by
   intro K K' t l c hk h
   unfold LM at h ⊢
   split at h
   ·obtain⟨e,sz,by_,z,q1,q2,q3,q4,q5,q6,q7,q8,q9,q10,q11,q12⟩:=h;exact⟨e,sz,by_,z,q1,q2,q3,q4,q5,q6,q7,q8,q9,q10,q11,fun id hid=>hk _ _ (q12 id hid)⟩
   exact h.elim
  exact h.imp (key hk) (key fun v H' ⟨id,sz,xs,ys,h1,h2,h3⟩=>⟨id,sz,xs,ys,h1,h2,hk _ _ h3⟩)
 ·exact h.imp (hk _ _) fun⟨h1,sz,h2⟩=>⟨h1,sz,fun q hq=>hk _ _ (h2 q hq)⟩
 ·exact h.imp (hk _ _) fun⟨h1,sz,h2⟩=>⟨h1,sz,fun q hq=>hk _ _ (h2 q hq)⟩
 ·exact h.imp (fun⟨v,h1,h2⟩=>⟨v,h1,hk _ _ h2⟩) fun⟨e,sz,xs,ys,h1,h2,h3,h4,h5⟩=>⟨e,sz,xs,ys,h1,h2,h3,h4,fun q hq=>hk _ _ (h5 q hq)⟩
 ·exact⟨h.1,Pf h.2 hk⟩
 ·exact Ec h (hk _)
 ·exact Ec h (hk _)
 ·rcases h with⟨v,h1,h2⟩|⟨q,e,xs,q1,q2,q3,q4,q5,q6⟩
  ·exact .inl ⟨v,h1,hk _ _ h2⟩
  exact .inr ⟨q,e,xs,q1,q2,q3,q4,fun e=>hk _ _ (q5 e),hk _ _ q6⟩
 ·split at h
  ·exact h.mono hk
  ·rcases h with h|h|h
   rotate_left
   ·refine .inr (.inl ?_)
    unfold KT at h ⊢
    split at h
    ·obtain⟨e,sz,by_,z,k1,k3,k4,k5,k6,k7,k8,k9,h⟩:=h;refine⟨e,sz,by_,z,k1,k3,k4,k5,k6,k7,k8,k9,?_⟩
     rcases h with⟨k2,ys',l1,l4⟩|⟨k2,k,m,l1,l2,l0,l4⟩|⟨k2,s,l1,l2,l4⟩
     ·exact .inl ⟨k2,ys',l1,Dq l4 hk⟩
     ·exact .inr (.inl ⟨k2,k,m,l1,l2,l0,Dq l4 hk⟩)
     exact .inr (.inr ⟨k2,s,l1,l2,Dq l4 hk⟩)
    exact h.elim
   ·exact .inr (.inr (KU h fun v H' ⟨y,H2,h1,h2,h3⟩=>⟨y,H2,h1,h2,hk _ _ h3⟩))
   exact .inl (KU h hk)
  ·unfold Tp at h ⊢
   split at h
   ·obtain⟨e,sz,xs,ys',k1,k2,k3,k4,k5,k8⟩:=h;exact⟨e,sz,xs,ys',k1,k2,k3,k4,k5,hk _ _ k8⟩
   exact h.elim
  ·obtain⟨v,h1,h2⟩:=h;exact⟨v,h1,hk _ _ h2⟩
  exact h.elim
 obtain⟨v,h1,h2⟩:=h;exact⟨v,h1,hk _ _ h2⟩
theorem Sj {fr:Fr}{d:Nat}{v:V}(h:fr.s d=v):fr.put (some d) v=fr:=by
 obtain⟨s,df⟩:=fr;simp only[Fr.put,Fr.mk.injEq,and_true]
 funext t
 split
 ·rename_i e;subst e;exact h.symm
 rfl
theorem Iy {P:Program} {A:Ra} {nt:Nat} {ops:Array Oper} {K:Fr→A2→Prop}:∀(l:List Oper) (fr:Fr) (H:A2),Sq P A nt ops l fr H K→GD P A nt ops l fr H K
 |[],_,_,h=>h
 | o ::rest,fr,H,h=>by
  simp only[Sq]at h
  simp only[GD];refine⟨h.1,?_⟩;obtain⟨_,h⟩:=h
  have mono:∀fr,Gb P A o (ev fr) H (fun v H'=>Sq P A nt ops rest (fr.put o.dst v) H' K)→Gb P A o (ev fr) H fun v H'=>GD P A nt ops rest (fr.put o.dst v) H' K:=by
   intro fr hh;refine HJ hh fun v H' hk=>Iy rest _ _ hk
  unfold Z4
  split at h
  ·rename_i hg
   try simp only[hg]
   exact mono _ h
  rename_i j want hg
  try simp only[hg]
  split at h
  ·rename_i d hd
   try simp only[hd]
   split at h
   ·rename_i c hc
    try simp only[hc]
    obtain⟨h1,h2⟩:=h
    cases c<;>cases want<;>simp only[beq_self_eq_true,Bool.not_true,Bool.not_false,reduceCtorEq,false_implies,true_implies,forall_const]at h1 h2 ⊢
    all_goals first
     |(rw[Sj hc]at h1;exact mono _ h1)
     |(rw[Sj hc]at h2;exact Iy rest _ _ h2)
   exact h.elim
  exact h.elim
section
variable {P:Program}{nt:Nat}{rd:Option Nat}{fr:Fr}{H:A2}{Q:Exit→Fr→A2→Prop}
theorem T9.step (A:Ra){id:Nat}{ops:Array Oper}{rest:Code}(h:∀K:Fr→A2→Prop,(∀fr' H',T9 P nt rd rest fr' H' Q→K fr' H')→Sq P A nt ops ops.toList fr H K):
 T9 P nt rd (.seq (.region id ops false) rest) fr H Q:=
 T9.seq (T9.region (A:=A) (Iy _ _ _ (h _ fun _ _ x=>x)))
theorem T9.last (A:Ra){id:Nat}{ops:Array Oper}(h:∀K:Fr→A2→Prop,(∀fr' H',Q .normal fr' H'→K fr' H')→Sq P A nt ops ops.toList fr H K):
 T9 P nt rd (.region id ops false) fr H Q:=T9.region (A:=A) (Iy _ _ _ (h _ fun _ _ x=>x))
def Hg :List (Nat×V)→Nat→V
 |[],_=>.bad
 |(k,v)::l,t=>if t=k then v else Hg l t
def mk (l:List (Nat×V))(df:List Nat):Fr:=⟨Hg l,df⟩
end
end Go.Ab
