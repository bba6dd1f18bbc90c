/- AbD1 AbD2 AbP5 AbP6 AbP7 AbP8 AbA24 AbB1 AbS1 -/
import Derived.Test.YtjhobbohibnioaaGreatDoorD05
set_option linter.all false
open Nat (beq_refl)
open Bool (and_eq_true)
namespace Go.Ab
open Go.RowKit
variable [J9][Ar]
section
variable {P:Program}{nt:Nat}{ops:Array Oper}{H0:A2}
def Ge (A:Nat→Bool):List Nat→Pv→Fr→A2→(Fr→A2→Prop)→Prop
 |[],_,fr,H,K=>K fr H
 |d::ds,pv,fr,H,K=>
  match pv (.inl d)with
  |some cs=>if A d then∀id,H id=none→Ge A ds pv (fr.put (some d) (.ref id 0)) (upd H id (some (.cells cs))) K else Ge A ds pv (fr.put (some d) (.eref cs 0)) H K
  |none=>False
theorem Nq {A:Nat→Bool} {w:World} {a:Act} {ids:Pk→Nat} {pv:Pv} {K:Fr→A2→Prop} (hinj:∀d d' cs cs',pv d=some cs→pv d'=some cs'→d.var=true→d'.var=true→ids d=ids d'→d=d'):
 ∀(ds:List Nat) (fr:Fr) (g:Gh) (H H1:A2),Rl g H w→ds.Nodup→(∀d∈ds,∀cs,pv (.inl d)=some cs→H (ids (.inl d))=some (.cells cs)∧∃b,g.mu (ids (.inl d))=some b∧a.tmps.getD d undef= .pointer (some ⟨b,0,none⟩))→
  (∀id b,H1 id=some b→H id=some b)→(∀d∈ds,∀cs,pv (.inl d)=some cs→H1 (ids (.inl d))=none)→FR nt g w a fr→Ge A ds pv fr H1 K→∃g' fr' H',T4 g w g' w∧Rl g' H' w∧FR nt g' w a fr'∧K fr' H'
 |[],fr,g,H,H1,hR,_,_,hl,_,hF,h=>⟨g,fr,H1,T4.refl _ _,hR.less hl,hF,h⟩
 | d ::ds,fr,g,H,H1,hR,hnd,hpv,hl,hfr,hF,h=>by
  simp only[Ge]at h
  have hnd':=List.nodup_cons.1 hnd
  split at h
  ·rename_i cs hcs;obtain⟨k1,b,k2,k3⟩:=hpv d (by simp) cs hcs
   split at h
   ·refine Nq hinj ds _ g H _ hR hnd'.2 (fun d' hd'=>hpv d' (by simp[hd'])) (fun id bk hb=>?_) (fun d' hd' cs' hp=>?_) ?_ (h (ids (.inl d)) (hfr d (by simp) cs hcs))
    ·by_cases e:id=ids (.inl d)
     ·subst e;rw[B7]at hb;cases hb;exact k1
     rw[A7 _ _ e]at hb;exact hl _ _ hb
    ·by_cases e:ids (.inl d')=ids (.inl d)
     ·exact absurd (hinj _ _ _ _ hp hcs rfl rfl e) fun x=>hnd'.1 (by cases x;exact hd')
     rw[A7 _ _ e];exact hfr d' (by simp[hd']) cs' hp
    refine⟨hF.size,fun t=>?_,hF.df⟩;simp only[Fr.put]
    split
    ·rename_i e;subst e;rw[k3];exact .ref k2
    exact hF.s t
   obtain⟨g',s,hR',hv⟩:=hR.freeze k1;have hF':=hF.mono s
   have e1:∀d'∈ds,∀cs',pv (.inl d')=some cs'→(upd H (ids (.inl d)) none) (ids (.inl d'))=some (.cells cs')∧∃b,g'.mu (ids (.inl d'))=some b∧a.tmps.getD d' undef= .pointer (some ⟨b,0,none⟩):=fun d' hd' cs' hp=>by
    obtain⟨q1,b',q2,q3⟩:=hpv d' (by simp[hd']) cs' hp;have hne:ids (.inl d')≠ids (.inl d):=fun e=>absurd (hinj _ _ _ _ hp hcs rfl rfl e) fun x=>hnd'.1 (by cases x;exact hd');exact⟨by rw[A7 _ _ hne];exact q1,b',s.mu _ _ q2,q3⟩
   have e2:∀id bk,H1 id=some bk→(upd H (ids (.inl d)) none) id=some bk:=fun id bk hb=>by
    have hne:id≠ids (.inl d):=fun e=>by subst e;rw[hfr d (by simp) cs hcs]at hb;cases hb
    rw[A7 _ _ hne];exact hl _ _ hb
   have e3:FR nt g' w a (fr.put (some d) (.eref cs 0)):=by
    refine⟨hF'.size,fun t=>?_,hF'.df⟩;simp only[Fr.put]
    split
    ·rename_i e;subst e;rw[k3];exact hv _ _ (.ref k2)
    exact hF'.s t
   obtain⟨g2,fr2,H2,s2,r⟩:=Nq hinj ds _ g' _ H1 hR' hnd'.2 e1 e2 (fun d' hd'=>hfr d' (by simp[hd'])) e3 h;exact⟨g2,fr2,H2,s.trans s2,r⟩
  exact h.elim
abbrev Tk :=List (Nat×List V)
def pvW (W:Tk)(ex:Option E4):Pv
 | .inl _=>none
 | .inr id=>(W.find? fun p=>p.1==id).map (·.2)
 | .tk _=>none
 | .ex=>ex.map fun τ=>[.sl [] τ]
def GO (H:A2):Option E4→A2
 |some τ=>G7 H τ
 |none=>H
def GG (dx:Option Nat)(pv:Pv)(fr:Fr)(H:A2)(K:Fr→A2→Prop):Prop:=
 match dx with
 |none=>K fr H
 |some d=>∃xs,(pv (.tk d)).isSome=true∧fr.s d= .sl xs .ro∧(∀tl,tl= .nil∨tl= .full→K (fr.put (some d) (.sl xs tl)) H)∧∀t,H t=none→K (fr.put (some d) (.sl xs (.tok t))) (upd H t (some .spare))
theorem JW {H:A2} {ex:Option E4} {id:Nat} {b:Fa} (h:GO H ex id=some b):H id=some b∧∀t,ex=some (.tok t)→id≠t:=by
 cases ex with
 |none=>exact⟨h,fun t ht=>by cases ht⟩
 | some τ=>
  cases τ with
  |tok t=>
   simp only[GO,G7]at h
   by_cases e:id=t
   ·subst e;rw[B7]at h;cases h
   rw[A7 _ _ e]at h;exact⟨h,fun t' ht=>by cases ht;exact e⟩
  |_=>exact⟨h,fun t ht=>by cases ht⟩
def Ds (H:A2):Tk→A2
 |[]=>H
 |(id,_)::W=>upd (Ds H W) id none
def Pr :Tk→Pv→A2→(A2→Prop)→Prop
 |[],_,H,K=>K H
 |(id,_)::W,pv,H,K=>Pr W pv H fun H'=>match pv (.inr id)with|some cs=>K (upd H' id (some (.cells cs)))|none=>False
theorem Hn {H:A2}:∀{W:Tk} {id:Nat} {b:Fa},Ds H W id=some b→H id=some b∧∀p∈W,p.1≠id
 |[],id,b,h=>⟨h,fun p hp=>by simp at hp⟩
 |(i,c)::W,id,b,h=>by
  simp only[Ds]at h
  by_cases e:id=i
  ·subst e;rw[B7]at h;cases h
  rw[A7 _ _ e]at h
  obtain⟨h1,h2⟩:=Hn h;refine⟨h1,fun p hp=>?_⟩
  rcases List.mem_cons.1 hp with rfl|hp
  ·exact fun x=>e x.symm
  exact h2 p hp
theorem Ki {H:A2}:∀{W:Tk} {p:Nat×List V},p∈W→Ds H W p.1=none
 |(i,c)::W,p,h=>by
  simp only[Ds]
  by_cases e:p.1=i
  ·rw[e,B7]
  rw[A7 _ _ e]
  rcases List.mem_cons.1 h with rfl|h
  ·exact absurd rfl e
  exact Ki h
theorem ST {Hw:A2} {pv:Pv} (hpv:∀id cs,pv (.inr id)=some cs→Hw id=some (.cells cs)):∀(W:Tk) (H:A2) (K:A2→Prop),(∀id b,H id=some b→Hw id=some b)→Pr W pv H K→∃H',(∀id b,H' id=some b→Hw id=some b)∧(∀id,H' id≠none→H id≠none∨∃cs,pv (.inr id)=some cs)∧K H'
 |[],H,K,hl,h=>⟨H,hl,fun id hn=>.inl hn,h⟩
 | (i,c)::W,H,K,hl,h=>by
  simp only[Pr]at h
  obtain⟨H',h1,h2,h3⟩:=ST hpv W H _ hl h
  split at h3
  ·rename_i cs hcs;refine⟨_,fun id b hb=>?_,fun id hn=>?_,h3⟩
   ·by_cases e:id=i
    ·subst e;rw[B7]at hb;cases hb;exact hpv _ _ hcs
    rw[A7 _ _ e]at hb;exact h1 _ _ hb
   by_cases e:id=i
   ·exact .inr ⟨cs,e▸hcs⟩
   rw[A7 _ _ e]at hn
   exact h2 id hn
  exact h3.elim
end
def GV (P:Program)(nt:Nat)(rd:Option Nat)(ops:Array Oper)(fr:Fr)(H:A2)(Q:Exit→Fr→A2→Prop):Prop:=
 ∀r g w a,XI g rd r→Rl g H w→FR nt g w a fr→wpAnyIn (Fw r) 0 P .any ops (TE nt g w Q) ops.size (Array.replicate ops.size false) a w.drew
theorem T9.of_any {P:Program}{nt id:Nat}{rd:Option Nat}{ops:Array Oper}{fr:Fr}{H:A2}{Q:Exit→Fr→A2→Prop}(hm:P.follows .mixedOrders=true)(h:GV P nt rd ops fr H Q):T9 P nt rd (.region id ops true) fr H Q:=
 fun r g w a hr hR hF=>wpIn_region_any hm (h r g w a hr hR hF)
section
variable {P:Program}{nt:Nat}{ops:Array Oper}{H0:A2}
theorem GV.drawF {A:Ra} {rd:Option Nat} {k:Nat} {al:List Nat} {W:Tk} {ex:Option E4} {dx:Option Nat} {fr:Fr} {Q:Exit→Fr→A2→Prop} (hok:NR ops k=true) (hnd:al.Nodup)
 (hX:∀τ,ex=some τ→Ik H0 τ) (hW:∀p∈W,GO H0 ex p.1=some (.cells p.2))
 (h:Hc P nt ops (Ds (GO H0 ex) W) (ops.toList.take k) fr (pvW W ex) fun fr' pv=>Pr W pv (Ds (GO H0 ex) W) fun H1=>GG dx pv fr' H1 fun fr1 H2=>Ge A al pv fr1 H2 fun fr'' H=>GD P A nt ops (ops.toList.drop k) fr'' H (Q .normal)):GV P nt rd ops fr H0 Q:=by
 intro r g w a _ hR hF;obtain⟨hk,hat⟩:=Xy hok;have sd:T4 g w g w.drew:=⟨fun _ _ e=>e,fun _ _ e=>e,fun _ _ e=>e,rfl,fun _ _ _=>rfl,(Below.refl _ _).drew,fun _ _ _=>rfl,Nat.le_succ _⟩
 have hRd:Rl g H0 w.drew:=by
  refine⟨fun id b hb=>(hR.blk id b hb).mono hb sd fun _ _=>⟨rfl,fun _ ho=>ho⟩,hR.inj,hR.frz,hR.nxt,hR.bnd,fun n=>(hR.glb n).mono sd⟩
 have hI:XL nt (Ds (GO H0 ex) W) g w.drew fr (pvW W ex) g w.drew a:=by
  refine⟨H0,fun k=>match k with| .inl _=>0| .inr n=>n| .tk _=>0| .ex=>0,T4.refl _ _,hRd,hF.mono sd,fun id b hb=>(JW (Hn hb).1).1,fun d cs h hv=>?_,fun d d' cs cs' h h' hv hv' e=>?_,fun _=>none,fun d cs h=>(by cases h),fun d d' cs cs' t h=>(by cases h),fun cs h=>?_⟩
  ·cases d with
   |inl d=>cases h
   | inr n=>
    simp only[pvW]at h
    cases hf:W.find? fun p=>p.1==n with
    |none=>rw[hf]at h;cases h
    |some p=>
     rw[hf]at h
     simp only[Option.map_some,Option.some.injEq]at h
     have hp:=List.mem_of_find?_eq_some hf
     have hn:p.1=n:=by have:=List.find?_some hf;simpa using this
     subst h;subst hn;exact⟨(JW (hW p hp)).1,Ki hp,rfl⟩
   |tk d=>cases h
   |ex=>cases hv
  ·cases d with
   |inl d=>cases h
   |tk d=>cases h
   |ex=>cases hv
   |inr n=>
    cases d' with
    |inl d'=>cases h'
    |tk d'=>cases h'
    |ex=>cases hv'
    |inr n'=>simp only at e;rw[e]
  cases hx:ex with
  |none=>rw[hx]at h;cases h
  | some τ=>
   rw[hx]at h
   cases h;refine⟨τ,rfl,?_⟩;have hA:=hX τ hx
   cases τ with
   |nil=>exact .inl (.inl rfl)
   |full=>exact .inl (.inr rfl)
   |ro=>exact hA.elim
   |tok t=>
    refine .inr ⟨t,rfl,hA,?_,fun d cs' h=>by cases h⟩
    cases hn:Ds (GO H0 (some (.tok t))) W t with
    |none=>rfl
    |some b=>exact absurd rfl ((JW (Hn hn).1).2 t rfl)
 have hmap:(List.range k).map (fun i=>ops.getD i default)=ops.toList.take k:=by
  apply List.ext_getElem
  ·simp;omega
  intro i h1 h2
  simp at h1
  simp[Array.getD,show i<ops.size by omega]
 have hb:=Tu (r:=r) (Q:=TE nt g w Q) hk (fun i hi=>⟨(hat i hi).1,fun j hj=>((hat i hi).2 j hj).imp (fun h=>h) .inl⟩) (K:=fun fr' pv=>Pr W pv (Ds (GO H0 ex) W) fun H1=>GG dx pv fr' H1 fun fr1 H2=>Ge A al pv fr1 H2 fun fr'' H=>GD P A nt ops (ops.toList.drop k) fr'' H (Q .normal)) (g0:=g) (w0:=w.drew)
  (fun g' w' a' fr' pv listed hsz hl hI' hK=>?_) k (List.range k) (Array.replicate ops.size false) fr (pvW W ex) (by simp) (List.pairwise_lt_range) (fun i hi=>by simpa using hi) (by simp) (fun i b hi=>by simp[Array.getD,hi]) (fun m j hm _=>by simp[Array.getD]at hm) (by rw[hmap];exact h) g w.drew a hI
 ·rw[show k+(ops.size - k)=ops.size by omega]at hb
  exact hb
 obtain⟨H,ids,s,hR',hF',hext,hpv,hinj,tks,htk,_⟩:=hI'
 have hex:∀n cs,pv (.inr n)=some cs→H n=some (.cells cs):=fun n cs hn=>by
  obtain⟨k1,_,k3⟩:=hpv _ cs hn rfl;have k3:ids (.inr n)=n:=k3
  rwa[k3]at k1
 obtain⟨H1,g1,g2,hK⟩:=ST hex W _ _ hext hK
 have hfree:∀d cs,pv (.inl d)=some cs→H1 (ids (.inl d))=none:=fun d cs hd=>by
  obtain⟨k1,k2,_⟩:=hpv _ cs hd rfl
  cases hn:H1 (ids (.inl d))with
  |none=>rfl
  |some b=>
   exfalso
   rcases g2 _ (by rw[hn];simp)with h|⟨cs',hp⟩
   ·exact h k2
   have k3:ids (.inr (ids (.inl d)))=ids (.inl d):=(hpv _ cs' hp rfl).2.2;cases hinj _ _ _ _ hp hd rfl rfl k3
 have hmid:∃fr1 H1',FR nt g' w' a' fr1∧(∀id b,H1' id=some b→H id=some b)∧(∀d cs,pv (.inl d)=some cs→H1' (ids (.inl d))=none)∧Ge A al pv fr1 H1' fun fr'' H=>GD P A nt ops (ops.toList.drop k) fr'' H (Q .normal):=by
  rcases dx with _|d
  ·exact⟨fr',H1,hF',g1,hfree,hK⟩
  simp only[GG]at hK
  obtain⟨xs,e1,e2,e3,e4⟩:=hK;obtain⟨c,hc⟩:=Option.isSome_iff_exists.1 e1;obtain⟨xs',tl,q1,q2,q3⟩:=htk d c hc
  rw[e2]at q1
  cases q1
  have hFR:FR nt g' w' a' (fr'.put (some d) (.sl xs tl)):=by
   refine⟨hF'.size,fun t=>?_,hF'.df⟩;simp only[Fr.put]
   split
   ·rename_i e;subst e;exact q2
   exact hF'.s t
  rcases q3 with⟨_,q⟩|⟨t,_,q,q4,q5⟩
  ·exact⟨_,H1,hFR,g1,hfree,e3 tl q⟩
  subst q
  have ht:H1 t=none:=by
   cases hn:H1 t with
   |none=>rfl
   |some b=>
    exfalso
    rcases g2 _ (by rw[hn];simp)with h|⟨cs',hp⟩
    ·exact h q5
    have:=hex _ _ hp;rw[q4]at this;cases this
  refine⟨_,_,hFR,fun id b hb=>?_,fun d' cs hd'=>?_,e4 t ht⟩
  ·by_cases e:id=t
   ·subst e;rw[B7]at hb;cases hb;exact q4
   rw[A7 _ _ e]at hb;exact g1 _ _ hb
  have hne:ids (.inl d')≠t:=fun e=>by
   have:=(hpv _ cs hd' rfl).1
   rw[e,q4]at this;cases this
  rw[A7 _ _ hne];exact hfree d' cs hd'
 obtain⟨fr1,H1',hF1,g1',hfree',hK⟩:=hmid
 obtain⟨g3,fr2,H2,s2,hR2,hF2,hK2⟩:=Nq hinj al fr1 g' H H1' hR' hnd (fun d _ cs hd=>by
  obtain⟨k1,_,_,b,k4,k5⟩:=hpv _ cs hd rfl
  exact⟨k1,b,k4,k5⟩) g1' (fun d _ cs hd=>hfree' d cs hd) hF1 hK
 exact Rx (A:=A) (r:=r) (K:=Q .normal) (k:=k) (fun i hi=>⟨(hat i hi).1,fun j hj hkj=>((hat i hi).2 j hj).elim (fun h=>h) fun h=>absurd h.1 (by omega)⟩) (g0:=g) (w0:=w) (fun g3 w3 a3 fr3 H3 s3 hR3 hF3 hK3=>⟨g3,fr3,H3,s3,hR3,hF3,hK3⟩) (ops.size - k) k listed fr2 H2 (by omega) (by omega) hsz hl hK2 g3 w' a' ((sd.trans s).trans s2) hR2 hF2
end
end Go.Ab
namespace Go.Ab
open Go.RowKit
variable [J9][Ar]
def Gk :List Nat→Nat→Bool
 |[],_=>false
 |x::l,n=>match Nat.beq n x with|true=>true|false=>Gk l n
abbrev PI :=List (Nat×List V)
def lkp :PI→Nat→Option (List V)
 |[],_=>none
 |(k,x)::l,t=>match Nat.beq t k with|true=>some x|false=>lkp l t
section
variable (E:CU)(T:EZ)(nt:Nat)(A:Nat→Bool)
def xqd (G:List (Nat×Bool)) (o:Oper) (l:Fl) (H:A2) (k:Sl→Prop):Prop:=
 match o.op with
 | .call c=>
  (match c.callee with
   | .value x=>E.pcall H (Q3 G l x).V (c.args.toList.map fun x=>(Q3 G l x).V) fun v=>k (.v v)
   |_=>xq E T G o l H k)
 |_=>xq E T G o l H k
def Us (pv:PI)(d:Option Tmp):Bool:=
 match d with
 |some d=>(match lkp pv d with|none=>true|some _=>false)
 |none=>true
abbrev Pe :=Option (Nat×Nat×List V)
def TV (tk:List Nat)(d:Option Tmp):Bool:=
 match d with
 |some d=> !Gk tk d
 |none=>true
def Px :List Nat→Nat→List Nat
 |[],_=>[]
 |x::l,n=>match Nat.beq n x with|true=>Px l n|false=>x::Px l n
def LT (s:Option Nat)(tk:List Nat):List Nat:=
 match s with
 |some d=>Px tk d
 |none=>tk
def Am3 (tk:List Nat)(sx:Operand)(tl:E4):Option (Option Nat):=
 match tl with
 | .nil=>some none
 | .full=>some none
 | .ro=>(match sx with| .tmp d=>(match Gk tk d with|true=>some (some d)|false=>none)|_=>none)
 |_=>none
def XQ (x:Bool)(ex:Option E4)(tk:List Nat)(sx:Operand)(tl:E4)(k:Option Nat→Option E4→Prop):Prop:=
 match x with
 |true=>(match ex with|some τ=>E.need (tl=τ) fun _=>k none none|none=>False)
 |false=>(match Am3 tk sx tl with|some s=>k s ex|none=>False)
def GL (A:Nat→Bool)(n:Nat):List Oper→Option Nat
 |[]=>none
 |o::l=>match o.dst with|some d=>(match A (d+n)with|true=>some d|false=>GL A n l)|none=>GL A n l
def XS (x : Bool) (ex:Option E4) (o:Oper) (l:Fl) (tk:List Nat) (k:Nat→Option Nat→Option E4→V→Prop):Prop:=
 match o.op,o.dst,o.guard with
 | .call { callee:=.builtin .append,args:=⟨[sx,sy]⟩,argTypes:=⟨[sT,yT]⟩},some dd,none=>
  (match (Q3 [] l sx).V,(Q3 [] l sy).V with
   | .sl xs tlx,.sl ys _=>
    XQ E x ex tk sx tlx fun src ex'=>
     (match tg T sT,tg T yT with
      | some I,some I2=>
       (match I.sl,I2.sl with
        | some e,some _=>
         (match tg T e with
          | some J=>
           (match J.ze with
            |some z=>if 0<J.sz∧0<J.by_∧z.one=true∧z.cells.length=J.sz then E.appq J.sz J.by_ xs ys fun v=>k dd src ex' v else False
            |none=>False)
          |none=>False)
        |_,_=>False)
      |_,_=>False)
   |_,_=>False)
 |_,_,_=>False
def xdB (ads :List Nat) (ops:Array Oper):List Oper→Fl→PI→Pe→List Nat→Option E4→A2→(Fl→PI→Pe→List Nat→Prop)→Prop
 |[],l,pv,pe,tk,_,_,K=>K l pv pe tk
 | o :: rest,l,pv,pe,tk,ex,H,K=>
  match DZ nt o.dst,Us pv o.dst,TV tk o.dst with
  | true, true,true=>
   (match A (o.dst.getD 0+3000000)with
    |true=>XS E T (A (o.dst.getD 0+8000000)) ex o l tk fun dd src ex' v=>xdB ads ops rest ((dd,.v v)::l) pv pe (dd::LT src tk) ex' H K
    | false =>
     (match o.op with
      | .alloc t=>
       (match o.guard,o.dst,tg T t with
        | none,some d,some I=>
         (match I.ze with
          |some z=>(match z.one with|true=>xdB ads ops rest ((d,.v .bad)::l) ((d,z.cells)::pv) pe tk ex H K|false=>False)
          |none=>False)
        |_,_,_=>False)
      | .store t (.tmp d) y=>
       (match o.guard,tg T t with
        | none,some I=>
         (match lkp pv d with
          |some cs=>if(Q3 [] l y).V.one=true∧(Q3 [] l y).V.cells.length=I.sz∧I.sz≤cs.length then xdB ads ops rest (Ce o.dst (.v .bad) l) ((d,S3 cs 0 (Q3 [] l y).V.cells)::pv) pe tk ex H K else False
          | none=>
           (match Gk ads d,Sr [] l d,pe with
            |true,some (.v (.ref id off)),some (ds,id',cs)=>
             if(Q3 [] l y).V.one=true∧(Q3 [] l y).V.cells.length=I.sz∧off+I.sz≤cs.length then E.need (id=id') fun _=>xdB ads ops rest (Ce o.dst (.v .bad) l) pv (some (ds,id',S3 cs off (Q3 [] l y).V.cells)) tk ex H K else False
            |_,_,_=>False))
        |_,_=>False)
      | .store _ _ _=>False
      |_=>Eu E ops o 4 l (fun G l' wr=>xqd E T G o l' H fun s=>xdB ads ops rest (Ce o.dst (wr s) l') pv pe tk ex H K) fun l'=>xdB ads ops rest (Ce o.dst (.v (.tup [])) l') pv pe tk ex H K))
  |_,_,_=>False
def Jm :List Nat→PI→Fl→A2→(Fl→A2→Prop)→Prop
 |[],_,l,H,K=>K l H
 |d::ds,pv,l,H,K=>
  match lkp pv d with
  |some cs=>(match A d with|true=>E.alloc H cs fun id H'=>Jm ds pv ((d,.v (.ref id 0))::l) H' K|false=>Jm ds pv ((d,.v (.eref cs 0))::l) H K)
  |none=>False
def MJ (dx:Option Nat)(tk:List Nat)(l:Fl)(H:A2)(K:Fl→A2→Prop):Prop:=
 match dx with
 |none=>K l H
 |some d=>(match Gk tk d,lk l d with|true,.v (.sl xs .ro)=>E.nameT H fun tl H'=>K ((d,.v (.sl xs tl))::l) H'|_,_=>False)
def MI (ops:Array Oper):List Oper→Fl→A2→(Fl→A2→Prop)→Prop
 |[],l,H,K=>K l H
 |o::rest,l,H,K=>
  match DZ nt o.dst with
  |true=>Eu E ops o 4 l (fun G l' wr=>XT E T A G o l' H fun s H'=>MI ops rest (Ce o.dst (wr s) l') H' K) fun l'=>MI ops rest (Ce o.dst (.v (.tup [])) l') H K
  |false=>False
def DN :List Oper→List Nat
 |[]=>[]
 |o::l=>match o.op,o.dst with| .alloc _,some d=>d::DN l|_,_=>DN l
def Aj6 (pe:Pe)(H:A2)(K:A2→Prop):Prop:=
 match pe with
 |some (_,id,cs)=>E.give H id cs K
 |none=>K H
def XO (w:Option (Nat×List Nat))(l:Fl)(H:A2)(K:List Nat→Pe→A2→Prop):Prop:=
 match w with
 |none=>K [] none H
 |some (d,ads)=>(match lk l d with| .v (.ref id 0)=>E.frz H id fun cs H'=>K ads (some (d,id,cs)) H'|_=>False)
def XN (x:Option Nat)(H:A2)(K:Option E4→A2→Prop):Prop:=
 match x with
 |none=>K none H
 |some _=>E.takeT H fun τ H'=>K (some τ) H'
def XV (w:Option (Nat×List Nat))(k:Nat)(ops:Array Oper)(l:Fl)(H:A2)(K:Fl→A2→Prop):Prop:=
 XN E (GL A 8000000 (ops.toList.take k)) H fun ex H0=>XO E w l H0 fun ads pe H1=>xdB E T nt A ads ops (ops.toList.take k) l [] pe [] ex H1 fun l' pv pe' tk=>Aj6 E pe' H1 fun H2=>MJ E (GL A 9000000 (ops.toList.take k)) tk l' H2 fun l1 H3=>Jm E A (DN (ops.toList.take k)) pv l1 H3 fun l'' H'=>MI E T nt A ops (ops.toList.drop k) l'' H' K
end
section
variable {P:Program}{nt:Nat}{rd:Option Nat}{T:EZ}{A:Nat→Bool}{df:List Nat}
theorem Ww (hT:Hl P T) {G:List (Nat×Bool)} {o:Oper} {l:Fl} (hG:Ih G l) {H:A2} {k:Sl→Prop} (h:xqd (G0 P nt rd) T G o l H k):∃s:Sl,JG P o (ev (F4 ⟨l,df⟩)) H s.V∧k s:=by
 unfold xqd at h
 split at h
 ·rename_i c ho
  split at h
  ·rename_i x hc;obtain⟨v,h1,h2⟩:=h
   rw[Dh (df:=df) hG,show(c.args.toList.map fun x=>(Q3 G l x).V)=c.args.toList.map (ev (F4 ⟨l,df⟩))from List.map_congr_left fun p _=>Dh hG p]at h1
   exact⟨.v v,by simp only[JG,ho,hc];exact h1,h2⟩
  exact Kd hT hG h
 exact Kd hT hG h
theorem Aa6 (hT:Hl P T) {G:List (Nat×Bool)} {o:Oper} {l:Fl} {H:A2} {k:Sl→Prop} (ht:HP G o l=true) (h:xqd (G0 P nt rd) T G o l H k):∃s,k s:=by
 unfold xqd at h
 split at h
 ·rename_i c ho
  split at h
  ·obtain⟨v,h1,h2⟩:=h;exact⟨_,h2⟩
  exact TJ hT ht h
 exact TJ hT ht h
theorem Fe (hT:Hl P T) {ops:Array Oper} {K:Fl→A2→Prop}:∀(rest:List Oper) (l:Fl) (H:A2),MI (G0 P nt rd) T nt A ops rest l H K→GD P A nt ops rest (F4 ⟨l,df⟩) H fun fr H'=>∃l',fr=F4 ⟨l',df⟩∧K l' H'
 |[],l,H,h=>⟨l,rfl,h⟩
 | o::rest,l,H,h=>by
  unfold MI at h
  split at h
  ·rename_i hd;simp only[GD];refine⟨hd,?_⟩;obtain⟨l',e,h⟩:=CB (df:=df) 4 l h
   have e:F4 ⟨l',df⟩=F4 ⟨l,df⟩:=by simp only[F4,Fr.mk.injEq,and_true];funext t;exact e t
   rcases h with⟨hg,G,wr,hG,hwr,h⟩|⟨hg,h⟩
   ·rw[hg];rw[←e];refine HJ (KZ (df:=df) hT hG h) fun v H' ⟨s,hv,hk⟩=>?_;subst hv;rw[←hwr s,←K8];exact Fe hT rest _ _ hk
   rw[hg];rw[←e]
   rcases h with h|⟨G,d,want,ht,hb,h⟩
   ·have:=Fe hT rest _ _ h
    rw[K8]at this
    exact this
   obtain⟨s,h⟩:=PM hT ht h;have:=Fe hT rest _ _ h
   rw[K8]at this
   simp only[XM,hb,cond_false]at this
   exact this
  exact h.elim
def V4 (pv:PI)(pe:Pe)(tk:List Nat)(ex:Option E4):Pv
 | .inl d=>lkp pv d
 | .inr x=>(match pe with|some (_,id,cs)=>if x=id then some cs else none|none=>none)
 | .tk d=>(match Gk tk d with|true=>some []|false=>none)
 | .ex=>ex.map fun τ=>[.sl [] τ]
theorem ZM {a b:Nat}:Nat.beq a b=true↔a=b:=⟨Nat.eq_of_beq_eq_true,fun h=>by subst h;exact beq_refl _⟩
theorem Zg {pv:PI} {d t:Nat} {cs:List V}:lkp ((d,cs)::pv) t=if t=d then some cs else lkp pv t:=by
 simp only[lkp]
 by_cases h:t=d
 ·subst h;simp[beq_refl]
 have:Nat.beq t d=false:=by
  cases hb:Nat.beq t d with
  |false=>rfl
  |true=>exact absurd (Nat.eq_of_beq_eq_true hb) h
 simp[this,h]
theorem Dd {tk:List Nat} {d t:Nat}:Gk (d::tk) t=(decide (t=d)||Gk tk t):=by
 simp only[Gk]
 by_cases h:t=d
 ·subst h;simp[beq_refl]
 have:Nat.beq t d=false:=by
  cases hb:Nat.beq t d with
  |false=>rfl
  |true=>exact absurd (Nat.eq_of_beq_eq_true hb) h
 simp[this,h]
theorem Lq {d t:Nat}:∀{tk:List Nat},Gk (Px tk d) t=(!decide (t=d)&&Gk tk t)
 |[]=>by simp[Px,Gk]
 | x::l=>by
  simp only[Px]
  split
  ·rename_i h;have:=ZM.1 h;subst this;rw[Lq (tk:=l),Dd]
   by_cases e:t=d<;>simp[e]
  rename_i h
  have hne:d≠x:=fun e=>by rw[ZM.2 e]at h;cases h
  rw[Dd,Dd,Lq (tk:=l)]
  by_cases e:t=x
  ·subst e;simp[Ne.symm hne]
  simp[e]
theorem OY {pv:PI} {pe:Pe} {tk:List Nat} {ex:Option E4} {d:Nat} {cs:List V}:V4 ((d,cs)::pv) pe tk ex=L6 (V4 pv pe tk ex) (.inl d) cs:=by
 funext t
 cases t with
 |inl t=>
  simp only[V4,L6,Zg,Pk.inl.injEq]
 |inr x=>simp[V4,L6]
 |tk x=>simp[V4,L6]
 |ex=>simp[V4,L6]
theorem Ad1 {pv:PI} {tk:List Nat} {ex:Option E4} {ds id:Nat} {cs cs':List V}:V4 pv (some (ds,id,cs')) tk ex=L6 (V4 pv (some (ds,id,cs)) tk ex) (.inr id) cs':=by
 funext t
 cases t with
 |inl t=>simp[V4,L6]
 |inr x=>
  simp only[V4,L6,Pk.inr.injEq]
  by_cases h:x=id<;>simp[h]
 |tk x=>simp[V4,L6]
 |ex=>simp[V4,L6]
theorem Ad2 {pv:PI} {pe:Pe} {tk:List Nat} {ex:Option E4} {d:Nat}:V4 pv pe (d::tk) none=L6 (U0 (V4 pv pe tk ex) (some .ex)) (.tk d) []:=by
 funext t
 cases t with
 |inl t=>rw[E7 (by simp),M7 (by simp)];rfl
 |inr x=>rw[E7 (by simp),M7 (by simp)];rfl
 |ex=>rw[E7 (by simp)];simp[V4,U0]
 | tk x=>
  by_cases h:x=d
  ·subst h
   have:Gk (x::tk) x=true:=by rw[Dd];simp
   simp[V4,L6,this]
  rw[E7 (fun e=>by cases e;exact h rfl),M7 (by simp)]
  have e1:Gk (d::tk) x=Gk tk x:=by rw[Dd];simp[h]
  simp only[V4,e1]
theorem Ad0 {pv:PI} {pe:Pe} {tk:List Nat} {ex:Option E4} {d:Nat} {src:Option Nat}:V4 pv pe (d::LT src tk) ex=L6 (U0 (V4 pv pe tk ex) (src.map .tk)) (.tk d) []:=by
 funext t
 cases t with
 |inl t=>rw[E7 (by simp),M7 (by cases src<;>simp)];rfl
 |inr x=>rw[E7 (by simp),M7 (by cases src<;>simp)];rfl
 |ex=>rw[E7 (by simp),M7 (by cases src<;>simp)];rfl
 | tk x=>
  by_cases h:x=d
  ·subst h
   have:Gk (x::LT src tk) x=true:=by rw[Dd];simp
   simp[V4,L6,this]
  rw[E7 (fun e=>by cases e;exact h rfl)]
  have e1:Gk (d::LT src tk) x=Gk (LT src tk) x:=by rw[Dd];simp[h]
  cases src with
  |none=>simp only[V4,e1];rfl
  |some c=>
   have e2:Gk (LT (some c) tk) x=(!decide (x=c)&&Gk tk x):=Lq;simp only[V4,U0,e1,e2,Option.map_some,Pk.tk.injEq]
   by_cases hc:x=c<;>simp[hc]
theorem WV {pv:PI} {pe:Pe} {tk:List Nat} {ex:Option E4} {d:Option Tmp} (h:Us pv d=true) (h2:TV tk d=true):P8 (V4 pv pe tk ex) d:=by
 cases d with
 |none=>trivial
 |some d=>
  simp only[Us]at h
  simp only[TV,Bool.not_eq_true']at h2
  simp only[P8,V4,h2,and_true]
  split at h
  ·assumption
  cases h
theorem Aa5 {l:Fl} {pv:PI} {pe:Pe} {tk:List Nat} {ex:Option E4} {sx:Operand} {tl:E4} {src:Option Nat} (h:Am3 tk sx tl=some src):Mq (V4 pv pe tk ex) sx tl (src.map .tk):=by
 unfold Am3 at h
 split at h
 ·cases h;exact .inl rfl
 ·cases h;exact .inr rfl
 ·split at h
  ·rename_i d
   split at h
   ·rename_i hd;cases h;exact⟨rfl,rfl,by simp[V4,hd]⟩
   cases h
  cases h
 cases h
theorem XP {l:Fl} {pv:PI} {pe:Pe} {tk:List Nat} {x:Bool} {ex:Option E4} {sx:Operand} {tl:E4} {k:Option Nat→Option E4→Prop} (h:XQ (G0 P nt rd) x ex tk sx tl k):
 ∃key,Mq (V4 pv pe tk ex) sx tl key∧∃src ex',k src ex'∧(ex=none→ex'=none)∧∀d,V4 pv pe (d::LT src tk) ex'=L6 (U0 (V4 pv pe tk ex) key) (.tk d) []:=by
 unfold XQ at h
 split at h
 ·split at h
  ·obtain⟨e,h⟩:=h;subst e;exact⟨some .ex,rfl,none,none,h,fun _=>rfl,fun d=>Ad2⟩
  exact h.elim
 split at h
 ·rename_i s hs;exact⟨_,Aa5 (l:=l) hs,s,ex,h,id,fun d=>Ad0⟩
 exact h.elim
theorem Re (hT:Hl P T) {x:Bool} {ex:Option E4} {o:Oper} {l:Fl} {pv:PI} {pe:Pe} {tk:List Nat} {k:Nat→Option Nat→Option E4→V→Prop} (h:XS (G0 P nt rd) T x ex o l tk k):∃dd key v,o.dst=some dd∧PApp P o (F4 ⟨l,df⟩) (V4 pv pe tk ex) key v∧∃src ex',k dd src ex' v∧(ex=none→ex'=none)∧V4 pv pe (dd::LT src tk) ex'=L6 (U0 (V4 pv pe tk ex) key) (.tk dd) []:=by
 unfold XS at h
 split at h
 ·rename_i sx sy sT yT dd ho hdst hg
  split at h
  ·rename_i xs tlx ys tly e1 e2
   rw[Dh (l:=l) (df:=df) Ih.nil]at e1 e2
   obtain⟨key,hs,src,ex',h,hen,hpe⟩:=XP (l:=l) (pv:=pv) (pe:=pe) h
   split at h
   ·rename_i I I2 hI hI2
    split at h
    ·rename_i e e2' he he2
     split at h
     ·rename_i J hJ
      split at h
      ·rename_i z hz
       have ez:=(E9 hT hJ).ze;rw[hz]at ez;simp only[Bm]at ez
       split at h
       ·rename_i hc;obtain⟨c1,c2,c3,c4⟩:=hc;obtain⟨xs',ys',l1,l2,k1,k2,k3,k4⟩:=h;exact⟨dd,key,_,hdst,⟨hg,sx,sy,sT,yT,xs,tlx,ys,tly,xs',ys',ho,e1,e2,hs,⟨e,J.sz,J.by_,z,(E9 hT hI).sl.trans he,by rw[(E9 hT hI2).sl,he2];rfl,(E9 hT hJ).sz,c1,(E9 hT hJ).by_,c2,ez,c3,c4,l1,l2,k1,k2,k3⟩,rfl⟩,src,ex',k4,hen,hpe dd⟩
       exact h.elim
      exact h.elim
     exact h.elim
    exact h.elim
   exact h.elim
  exact h.elim
 exact h.elim
theorem GP {ops:Array Oper}{H:A2}{K K':Fr→Pv→Prop}(hk:∀fr pv,K fr pv→K' fr pv):∀(l:List Oper) (fr:Fr) (pv:Pv),Hc P nt ops H l fr pv K→Hc P nt ops H l fr pv K'
 |[],_,_,h=>hk _ _ h
 |_::l,_,_,h=>NQ h fun fr pv h=>GP hk l fr pv h
theorem Bs (hT:Hl P T) {ads:List Nat} {ops:Array Oper} {H:A2} {K:Fl→PI→Pe→List Nat→Prop}:∀(rest:List Oper) (l:Fl) (pv:PI) (pe:Pe) (tk:List Nat) (ex:Option E4),xdB (G0 P nt rd) T nt A ads ops rest l pv pe tk ex H K→
 Hc P nt ops H rest (F4 ⟨l,df⟩) (V4 pv pe tk ex) fun fr pv'=>∃l' pl pe' tk' ex',fr=F4 ⟨l',df⟩∧pv'=V4 pl pe' tk' ex'∧(ex=none→ex'=none)∧pe'.map (fun p=>p.2.1)=pe.map (fun p=>p.2.1)∧K l' pl pe' tk'
 |[],l,pv,pe,tk,ex,h=>⟨l,pv,pe,tk,ex,rfl,rfl,id,rfl,h⟩
 | o ::rest,l,pv,pe,tk,ex,h=>by
  unfold xdB at h
  split at h
  ·rename_i hd hf hft;simp only[Hc];unfold Ib;refine⟨⟨hd,WV hf hft⟩,?_⟩
   split at h
   ·obtain⟨dd,key,v,hdst,hP,src,ex2,h,hen,hpe⟩:=Re (df:=df) (pv:=pv) (pe:=pe) hT h;refine⟨v,_,.inr (.inr (.inr ⟨dd,key,hdst,hP,rfl⟩)),?_⟩;have:=Bs hT rest _ _ _ _ _ h
    rw[hpe,show(dd,Sl.v v)::l=Ce (some dd) (.v v) l from rfl,K8]at this
    rw[hdst];exact GP (fun fr pv ⟨l',pl,pe',tk',ex',e1,e2,e3,h⟩=>⟨l',pl,pe',tk',ex',e1,e2,fun he=>e3 (hen he),h⟩) _ _ _ this
   split at h
   ·rename_i t ho
    split at h
    ·rename_i d I hg hdst hI
     split at h
     ·rename_i z hz
      have ez:=(E9 hT hI).ze;rw[hz]at ez;simp only[Bm]at ez
      split at h
      ·rename_i h1;refine⟨.bad,_,.inr (.inl ⟨t,z,d,ho,hg,hdst,ez,h1,rfl,rfl⟩),?_⟩;have:=Bs hT rest _ _ _ _ _ h
       rw[OY,show(d,Sl.v V.bad)::l=Ce (some d) (.v .bad) l from rfl,K8]at this
       rw[hdst];exact this
      exact h.elim
     exact h.elim
    exact h.elim
   ·rename_i t d y ho
    split at h
    ·rename_i I hg hI;have hev:=Dh (l:=l) (df:=df) Ih.nil y
     split at h
     ·rename_i cs hcs
      split at h
      ·rename_i hc;obtain⟨c1,c2,c3⟩:=hc
       rw[hev]at c1 c2 h
       refine⟨.bad,_,.inr (.inr (.inl ⟨t,d,y,.inl d,0,cs,ho,hg,.inl ⟨rfl,rfl,hcs⟩,c1,by rw[c2];exact(E9 hT hI).sz,by rw[c2];omega,rfl,rfl⟩)),?_⟩;have:=Bs hT rest _ _ _ _ _ h
       rw[OY,K8]at this
       exact this
      exact h.elim
     rename_i hcs
     split at h
     ·rename_i id off ds id' cs _ hop
      split at h
      ·rename_i hc;obtain⟨c1,c2,c3⟩:=hc;obtain⟨he,h⟩:=h;subst he
       rw[hev]at c1 c2 h
       have hd:(F4 ⟨l,df⟩).s d= .ref id off:=(HI Ih.nil hop).1.symm;refine⟨.bad,_,.inr (.inr (.inl ⟨t,d,y,.inr id,off,cs,ho,hg,.inr ⟨id,rfl,hd,hcs,by simp[V4]⟩,c1,by rw[c2];exact(E9 hT hI).sz,by rw[c2];exact c3,rfl,rfl⟩)),?_⟩;have:=Bs hT rest _ _ _ _ _ h
       rw[Ad1 (cs:=cs),K8]at this
       exact this
      exact h.elim
     exact h.elim
    exact h.elim
   ·exact h.elim
   rename_i n1 n2 n3
   have key:∃v,Mf P ops H o (F4 ⟨l,df⟩) v∧Hc P nt ops H rest ((F4 ⟨l,df⟩).put o.dst v) (V4 pv pe tk ex) fun fr pv'=>∃l' pl pe' tk' ex',fr=F4 ⟨l',df⟩∧pv'=V4 pl pe' tk' ex'∧(ex=none→ex'=none)∧pe'.map (fun p=>p.2.1)=pe.map (fun p=>p.2.1)∧K l' pl pe' tk':=by
    obtain⟨l',e,h⟩:=CB (df:=df) 4 l h
    have e:F4 ⟨l',df⟩=F4 ⟨l,df⟩:=by simp only[F4,Fr.mk.injEq,and_true];funext t;exact e t
    rcases h with⟨hg,G,wr,hG,hwr,h⟩|⟨hg,h⟩
    ·obtain⟨s,h1,h2⟩:=Ww (df:=df) hT hG h;refine⟨s.V,by simp only[Mf,hg];rw[←e];exact h1,?_⟩;have:=Bs hT rest _ _ _ _ _ h2
     rw[K8,hwr s,e]at this
     exact this
    refine⟨.tup [],by simp only[Mf,hg],?_⟩
    rcases h with h|⟨G,d,want,ht,hb,h⟩
    ·have:=Bs hT rest _ _ _ _ _ h
     rw[K8,e]at this
     exact this
    obtain⟨s,h⟩:=Aa6 hT ht h;have:=Bs hT rest _ _ _ _ _ h
    rw[K8,e]at this
    simp only[XM,hb,cond_false]at this
    exact this
   obtain⟨v,h1,h2⟩:=key;refine⟨v,_,.inl ⟨?_,?_,h1,rfl⟩,h2⟩
   ·cases hx:o.op<;>first|rfl|exact absurd hx (n1 _)
   cases hx:o.op<;>first|rfl|exact absurd hx (n3 _ _ _)
  exact h.elim
theorem Gu {pe:Pe} {tk:List Nat} {ex:Option E4} {K:Fl→A2→Prop}:∀(ds:List Nat) (pv:PI) (l:Fl) (H:A2),Jm (G0 P nt rd) A ds pv l H K→Ge A ds (V4 pv pe tk ex) (F4 ⟨l,df⟩) H fun fr H'=>∃l',fr=F4 ⟨l',df⟩∧K l' H'
 |[],pv,l,H,h=>⟨l,rfl,h⟩
 | d::ds,pv,l,H,h=>by
  unfold Jm at h
  simp only[Ge]
  split at h
  ·rename_i cs hcs;have hcs':V4 pv pe tk ex (.inl d)=some cs:=hcs;rw[hcs']
   simp only
   split at h
   ·rename_i hA;rw[if_pos hA];intro id hid;have:=Gu (pe:=pe) (tk:=tk) (ex:=ex) ds pv _ _ (h id hid)
    rw[show(d,Sl.v (V.ref id 0))::l=Ce (some d) (.v (.ref id 0)) l from rfl,K8]at this
    exact this
   rename_i hA;rw[if_neg (by rw[hA];simp)];have:=Gu (pe:=pe) (tk:=tk) (ex:=ex) ds pv _ _ h
   rw[show(d,Sl.v (V.eref cs 0))::l=Ce (some d) (.v (.eref cs 0)) l from rfl,K8]at this
   exact this
  exact h.elim
theorem JH {A:Nat→Bool} {K K':Fr→A2→Prop} (hk:∀fr H,K fr H→K' fr H):∀(ds:List Nat) (pv:Pv) (fr:Fr) (H:A2),Ge A ds pv fr H K→Ge A ds pv fr H K'
 |[],_,_,_,h=>hk _ _ h
 | d::ds,pv,fr,H,h=>by
  simp only[Ge]at h ⊢
  split at h
  ·split at h
   ·rename_i hA;rw[if_pos hA];exact fun id hid=>JH hk ds _ _ _ (h id hid)
   rename_i hA;rw[if_neg hA];exact JH hk ds _ _ _ h
  exact h.elim
theorem Ll {ops:Array Oper} {K K':Fr→A2→Prop} (hk:∀fr H,K fr H→K' fr H):∀(l:List Oper) (fr:Fr) (H:A2),GD P A nt ops l fr H K→GD P A nt ops l fr H K'
 |[],_,_,h=>hk _ _ h
 |o::l,fr,H,h=>by
  simp only[GD]at h ⊢
  refine⟨h.1,?_⟩;obtain⟨_,h⟩:=h
  split at h
  ·rename_i hg;exact HJ h fun v H' h=>Ll hk l _ _ h
  ·rename_i hg;exact Ll hk l _ _ h
  exact h.elim
theorem Sw {dx:Option Nat}{pv:Pv}{fr:Fr}{H:A2}{K K':Fr→A2→Prop}(hk:∀fr H,K fr H→K' fr H)(h:GG dx pv fr H K):GG dx pv fr H K':=by
 unfold GG at h ⊢
 split at h
 ·exact hk _ _ h
 obtain⟨xs,h1,h2,h3,h4⟩:=h;exact⟨xs,h1,h2,fun tl htl=>hk _ _ (h3 tl htl),fun t ht=>hk _ _ (h4 t ht)⟩
theorem Zh {d:Nat} {x:V}:∀{l:Fl},lk l d= .v x→AY l d=x
 |[],h=>by cases h;rfl
 |(k,s)::l,h=>by
  simp only[lk]at h
  simp only[AY]
  cases hb:Nat.beq d k with
  |true=>rw[hb]at h;subst h;rfl
  |false=>rw[hb]at h;exact Zh h
theorem PN {dx:Option Nat} {pl:PI} {pe:Pe} {tk:List Nat} {ex:Option E4} {l:Fl} {H:A2} {K:Fl→A2→Prop} (h:MJ (G0 P nt rd) dx tk l H K):GG dx (V4 pl pe tk ex) (F4 ⟨l,df⟩) H fun fr H'=>∃l',fr=F4 ⟨l',df⟩∧K l' H':=by
 unfold MJ at h
 unfold GG
 split at h
 ·exact⟨l,rfl,h⟩
 rename_i d
 split at h
 ·rename_i xs h1 h2;obtain⟨h3,h4⟩:=h;refine⟨xs,by simp[V4,h1],Zh h2,fun tl htl=>⟨_,?_,h3 tl htl⟩,fun t ht=>⟨_,?_,h4 t ht⟩⟩
  ·exact(K8 l (some d) (.v (.sl xs tl))).symm
  exact(K8 l (some d) (.v (.sl xs (.tok t)))).symm
 exact h.elim
theorem Wx (hT:Hl P T) {w:Option (Nat×List Nat)} {k:Nat} {ops:Array Oper} {l:Fl} {H:A2} {K:Fl→A2→Prop} (hok:NR ops k=true) (hnd:(DN (ops.toList.take k)).Nodup)
 (h:XV (G0 P nt rd) T nt A w k ops l H K):GV P nt rd ops (F4 ⟨l,df⟩) H fun e fr H'=>e= .normal∧∃l',fr=F4 ⟨l',df⟩∧K l' H':=by
 have rest:∀(l':Fl) (pl:PI) (pe:Pe) (tk:List Nat) (ex:Option E4) (H2:A2),MJ (G0 P nt rd) (GL A 9000000 (ops.toList.take k)) tk l' H2 (fun l1 H3=>Jm (G0 P nt rd) A (DN (ops.toList.take k)) pl l1 H3 fun l'' H'=>MI (G0 P nt rd) T nt A ops (ops.toList.drop k) l'' H' K)→
  GG (GL A 9000000 (ops.toList.take k)) (V4 pl pe tk ex) (F4 ⟨l',df⟩) H2 fun fr1 H3=>Ge A (DN (ops.toList.take k)) (V4 pl pe tk ex) fr1 H3 fun fr H'=>GD P A nt ops (ops.toList.drop k) fr H' fun fr H'=>.normal=Exit.normal∧∃l',fr=F4 ⟨l',df⟩∧K l' H':=fun l' pl pe tk ex H2 h=>by
  refine Sw (fun fr1 H3 ⟨l1,e1,h⟩=>?_) (PN (df:=df) (pl:=pl) (pe:=pe) (ex:=ex) h);subst e1;refine JH (fun fr H' ⟨l'',e1,h⟩=>?_) _ _ _ _ (Gu (df:=df) (pe:=pe) (tk:=tk) (ex:=ex) _ _ _ _ h);subst e1;exact Ll (fun fr H' ⟨l',e,hk⟩=>⟨rfl,l',e,hk⟩) _ _ _ (Fe (df:=df) hT _ _ _ h)
 unfold XV at h
 obtain⟨ex,hX,h⟩:∃ex,(∀τ,ex=some τ→Ik H τ)∧XO (G0 P nt rd) w l (GO H ex) fun ads pe H1=>xdB (G0 P nt rd) T nt A ads ops (ops.toList.take k) l [] pe [] ex H1 fun l' pv pe' tk=>Aj6 (G0 P nt rd) pe' H1 fun H2=>MJ (G0 P nt rd) (GL A 9000000 (ops.toList.take k)) tk l' H2 fun l1 H3=>Jm (G0 P nt rd) A (DN (ops.toList.take k)) pv l1 H3 fun l'' H'=>MI (G0 P nt rd) T nt A ops (ops.toList.drop k) l'' H' K:=by
  unfold XN at h
  split at h
  ·exact⟨none,fun _ h=>(by cases h),h⟩
  obtain⟨τ,h1,h2⟩:=h;exact⟨some τ,fun _ h=>(by cases h;exact h1),h2⟩
 unfold XO at h
 cases w with
 |none=>
  refine GV.drawF (A:=A) (W:=[]) (dx:=GL A 9000000 (ops.toList.take k)) hok hnd hX (fun p hp=>by simp at hp) ?_
  have e0:pvW [] ex=V4 [] none [] ex:=by funext x;cases x<;>rfl
  rw[e0];refine GP (fun fr pv ⟨l',pl,pe',tk',ex',e1,e2,_,e3,h⟩=>?_) _ _ _ (Bs (df:=df) hT _ _ _ _ _ _ h);subst e1;subst e2
  cases pe' with
  |some p=>cases e3
  |none=>exact rest _ _ _ _ _ _ h
 | some p=>
  obtain⟨d,ads⟩:=p
  simp only at h
  split at h
  ·rename_i bid hl;obtain⟨cs,hk,h⟩:=h;refine GV.drawF (A:=A) (W:=[(bid,cs)]) (dx:=GL A 9000000 (ops.toList.take k)) hok hnd hX (fun p hp=>by simp at hp;subst hp;exact hk) ?_
   have e0:pvW [(bid,cs)] ex=V4 [] (some (d,bid,cs)) [] ex:=by
    funext x
    cases x with
    |inl x=>rfl
    |inr x=>
     simp only[pvW,V4,List.find?]
     by_cases hx:x=bid
     ·subst hx;simp
     have:(bid==x)=false:=by simpa using fun e=>hx e.symm
     simp[this,hx]
    |tk x=>rfl
    |ex=>rfl
   rw[e0];refine GP (fun fr pv ⟨l',pl,pe',tk',ex',e1,e2,_,e3,h⟩=>?_) _ _ _ (Bs (df:=df) hT _ _ _ _ _ _ h);subst e1;subst e2
   cases pe' with
   |none=>cases e3
   |some q=>
    obtain⟨d',id',cs'⟩:=q
    simp only[Option.map_some,Option.some.injEq]at e3
    subst e3
    have hp:V4 pl (some (d',id',cs')) tk' ex' (.inr id')=some cs':=by simp[V4]
    unfold Pr;rw[hp];exact rest _ _ (some (d',id',cs')) _ _ _ h
  exact h.elim
end
end Go.Ab
namespace Go.Ab
open Go.RowKit
variable [J9]
section
variable (P:Program)(A:Ra)(nt:Nat)(ops:Array Oper)
def Ak1 (o:Oper) (fr:Fr) (H:A2) (K:Fr→A2→Prop):Prop:=
 DZ nt o.dst=true∧
  match Z4 ops fr o with
  |some true=>Gb P A o (ev fr) H fun v H'=>K (fr.put o.dst v) H'
  |some false=>K (fr.put o.dst (.tup [])) H
  |none=>False
def TA :Nat→Array Bool→Fr→A2→(Fr→A2→Prop)→Prop
 |0,listed,fr,H,K=>Region.ready .any ops listed=[]∧K fr H
 | n +1,listed,fr,H,K=>(Region.ready .any ops listed=[]→K fr H)∧
     ∀i∈Region.ready .any ops listed,Ak1 P A nt ops (ops.getD i default) fr H fun fr' H'=>TA n (listed.setIfInBounds i true) fr' H' K
end
section
variable {P:Program}{nt:Nat}{ops:Array Oper}{A:Ra}{r:Option Nat}{K:Fr→A2→Prop}{Q:Exit→Act→World→Prop}{g0:Gh}{w0:World}
theorem Ws (hQ:∀g w a fr H,T4 g0 w0 g w→Rl g H w→FR nt g w a fr→K fr H→Q .normal a w):
 ∀(n:Nat) (listed:Array Bool) (fr:Fr) (H:A2),TA P A nt ops n listed fr H K→
  ∀g w a,T4 g0 w0 g w→Rl g H w→FR nt g w a fr→wpAnyIn (Fw r) 0 P .any ops Q n listed a w
 |0,listed,fr,H,h,g,w,a,s,hR,hF=>⟨h.1,hQ g w a fr H s hR hF h.2⟩
 |n+1,listed,fr,H,h,g,w,a,s,hR,hF=>by
  refine⟨fun e=>hQ g w a fr H s hR hF (h.1 e),fun i hi=>?_⟩;obtain⟨h1,_,_⟩:=Cx hi;have hs:=h.2 i hi
  have eo:ops.getD i default=ops[i]:=by simp[Array.getD,h1]
  rw[eo]at hs
  obtain⟨hd,hs⟩:=hs;have ih:=Ws hQ n (listed.setIfInBounds i true);simp only[wpOpIn,Array.getElem?_eq_getElem h1]
  split at hs
  ·rename_i hg;rw[if_pos (R8 hF.s hg)];exact OI hR hF hd hs fun g' w' a' v H' s' hR' hF' hK=>ih _ _ hK g' w' a' (s.trans s') hR' hF'
  ·rename_i hg;rw[if_neg (by rw[R8 hF.s hg];simp)];exact⟨fun _ _=>trivial,ih _ _ hs g w _ s hR (hF.put (CK hd) (VR.und _ _))⟩
  exact hs.elim
theorem GV.all {rd:Option Nat} {fr:Fr} {H0:A2} {Q:Exit→Fr→A2→Prop} (h:TA P A nt ops ops.size (Array.replicate ops.size false) fr H0 (Q .normal)):GV P nt rd ops fr H0 Q:=by
 intro r g w a _ hR hF;have sd:T4 g w g w.drew:=⟨fun _ _ e=>e,fun _ _ e=>e,fun _ _ e=>e,rfl,fun _ _ _=>rfl,(Below.refl _ _).drew,fun _ _ _=>rfl,Nat.le_succ _⟩
 have hRd:Rl g H0 w.drew:=by
  refine⟨fun id b hb=>(hR.blk id b hb).mono hb sd fun _ _=>⟨rfl,fun _ ho=>ho⟩,hR.inj,hR.frz,hR.nxt,hR.bnd,fun n=>(hR.glb n).mono sd⟩
 exact Ws (r:=r) (g0:=g) (w0:=w) (fun g' w' a' fr' H' s' hR' hF' hK=>⟨g',fr',H',s',hR',hF',hK⟩) _ _ fr H0 h g w.drew a sd hRd (hF.mono sd)
end
end Go.Ab
namespace Go.Ab
open Go.RowKit
variable [J9][Ar]
def Ap2 :List Nat→(Nat→Prop)→Prop
 |[],_=>True
 |[i],f=>f i
 |i::l,f=>f i∧Ap2 l f
theorem Tz :∀{l:List Nat} {f:Nat→Prop},Ap2 l f→∀i∈l,f i
 |[],_,_,i,h=>by cases h
 |[a],f,h,i,hi=>by rw[List.mem_singleton.1 hi];exact h
 |a::b::l,f,h,i,hi=>by
  rcases List.mem_cons.1 hi with rfl|hi
  ·exact h.1
  exact Tz h.2 i hi
section
variable (E:CU)(T:EZ)(nt:Nat)(A:Nat→Bool)(ops:Array Oper)
def Aj3 (o:Oper)(l:Fl)(H:A2)(K:Fl→A2→Prop):Prop:=
 match DZ nt o.dst with
 |true=>Eu E ops o 4 l (fun G l' wr=>XT E T A G o l' H fun s H'=>K (Ce o.dst (wr s) l') H') fun l'=>K (Ce o.dst (.v (.tup [])) l') H
 |false=>False
end
section
variable {P:Program}{nt:Nat}{rd:Option Nat}{T:EZ}{A:Nat→Bool}{df:List Nat}
end
end Go.Ab
namespace Go.Ab
open Go.RowKit
variable [J9]
section
variable {P:Program}
theorem Xd {A:Ra} {o:Oper} {ρ ρ':Operand→V} {H:A2} {K:V→A2→Prop} (hρ:∀x∈o.op.operands,ρ x=ρ' x) (h:Gb P A o ρ H K):Gb P A o ρ' H K:=by
 have hq:∀{v},JG P o ρ H v→JG P o ρ' H v:=IA hρ
 unfold Gb at h ⊢
 cases ho:o.op<;>simp only[ho]at h ⊢ hρ<;>first
  |exact h
  |(obtain⟨v,h1,h2⟩:=h;exact⟨v,hq h1,h2⟩)
  | (simp only[Op.operands,List.mem_toArray,List.mem_cons,List.not_mem_nil,or_false,forall_eq_or_imp,forall_eq]at hρ
     first
      |(rw[←hρ];exact h)
      |(rw[←hρ.1,←hρ.2];exact h)
      |(rw[←hρ.1,←hρ.2.1,←hρ.2.2];exact h))
  |skip
 ·rename_i t n ps
  have e:ps.toList.map (fun p=>(p.1,ρ p.2))=ps.toList.map (fun p=>(p.1,ρ' p.2)):=S6 fun p hp=>by rw[hρ p.2 (by simp only[Op.operands,List.mem_toArray,List.mem_map];exact⟨p,hp,rfl⟩)]
  rw[←e];exact h.imp (fun⟨v,h1,h2⟩=>⟨v,hq h1,h2⟩) id
 ·rename_i op t x y _;rw[←hρ x (by simp[Op.operands]),←hρ y (by simp[Op.operands])];exact h.imp (fun⟨v,h1,h2⟩=>⟨v,hq h1,h2⟩) id
 rename_i c;have hargs:c.args.toList.map ρ=c.args.toList.map ρ':=S6 fun p hp=>hρ p (by simp only[Op.operands,Call.operands,Array.mem_append];exact .inr (by simpa using hp));rw[←hargs]
 cases hc:c.callee with
 |value f=>
  simp only[hc]at h ⊢
  rw[←hρ f (by simp[Op.operands,Call.operands,hc])];exact h
 |builtin b=>rw[hc]at h;cases b<;>exact h
 |_=>rw[hc]at h;exact h.elim
def Lh :Op→Bool
 | .move _=>true
 | .assign _=>true
 | .pick _ _ _=>true
 | .build _ _=>true
 | .binOp _ _ _ _ _=>true
 | .unOp _ _ _=>true
 | .fieldAddr _ _ _=>true
 | .field _ _ _=>true
 | .extract _ _=>true
 | .load _ _=>true
 | .call c=>match c.callee with| .builtin .len=>true|_=>false
 |_=>false
theorem YK {A:Ra} {o:Oper} {ρ:Operand→V} {H:A2} {K:V→A2→Prop} {v:V} (hs:Lh o.op=true) (h:JG P o ρ H v) (hk:K v H):Gb P A o ρ H K:=by
 unfold Gb
 cases ho:o.op<;>simp only[ho,Lh,Bool.false_eq_true]at hs ⊢ <;>first
  |exact⟨v,h,hk⟩
  |exact .inl ⟨v,h,hk⟩
  |(unfold JG at h;simp only[ho]at h;subst h;exact .inl hk)
  |skip
 rename_i c
 unfold JG at h
 simp only[ho]at h
 cases hc:c.callee with
 | builtin b=>
  rw[hc]at hs h
  cases b<;>first
   |exact⟨v,h,hk⟩
   |cases hs
 |_=>rw[hc]at hs;cases hs
variable {A:Ra}{nt:Nat}{ops:Array Oper}
def NK (ops:Array Oper)(i:Nat):Bool:=
 Lh (ops.getD i default).op&&(ops.getD i default).guard.isNone&&(List.range ops.size).all fun j=>j==i||DT (ops.getD j default) i||DT (ops.getD i default) j||(ops.getD i default).apart ops (ops.getD j default)
theorem XF {i:Nat} (hi:i<ops.size) (hf:NK ops i=true) (hdst:DZ nt (ops.getD i default).dst=true) {K:Fr→A2→Prop} {v:V}:∀(n:Nat) (listed:Array Bool) (fr:Fr) (H:A2),i∈Region.ready .any ops listed→(∀H',JG P (ops.getD i default) (ev fr) H' v)→
 TA P A nt ops n (listed.setIfInBounds i true) (fr.put (ops.getD i default).dst v) H K→TA P A nt ops (n+1) listed fr H K:=by
 simp only[NK,and_eq_true,List.all_eq_true,List.mem_range,Bool.or_eq_true,beq_iff_eq]at hf
 obtain⟨⟨hso,hg⟩,hfree⟩:=hf
 have hg:(ops.getD i default).guard=none:=by simpa using hg
 have first:∀(fr:Fr) (H:A2) (K':Fr→A2→Prop),(∀H',JG P (ops.getD i default) (ev fr) H' v)→K' (fr.put (ops.getD i default).dst v) H→Ak1 P A nt ops (ops.getD i default) fr H K':=fun fr H K' hq hk=>by
  refine⟨hdst,?_⟩
  have:Z4 ops fr (ops.getD i default)=some true:=by unfold Z4;rw[hg]
  rw[this];exact YK hso (hq H) hk
 intro n
 induction n with
 |zero=>
  intro listed fr H hr hq h;refine⟨fun e=>(by rw[e]at hr;cases hr),fun j hj=>?_⟩
  by_cases hji:j=i
  ·subst hji;exact first fr H _ hq h
  have:=Go.ready_mono hj hji
  rw[h.1]at this;cases this
 | succ n ih=>
  intro listed fr H hr hq h;refine⟨fun e=>(by rw[e]at hr;cases hr),fun j hj=>?_⟩
  by_cases hji:j=i
  ·subst hji;exact first fr H _ hq h
  have h1:=h.2 j (Go.ready_mono hj hji);obtain⟨hjs,hjl,hje⟩:=Cx hj;obtain⟨_,hil,_⟩:=Cx hr
  have hap:(ops.getD i default).apart ops (ops.getD j default)=true:=by
   rcases hfree j hjs with((e|e)|e)|e
   ·exact absurd e hji
   ·exfalso;have:=hje i e
    rcases Nat.lt_or_ge i listed.size with h'|h'
    ·simp[Array.getD,h']at hil this;rw[hil]at this;cases this
    simp[Array.getD,show¬i<listed.size by omega]at this
   ·exfalso;have:=(Cx hr).2.2 j e
    rcases Nat.lt_or_ge j listed.size with h'|h'
    ·simp[Array.getD,h']at hjl this;rw[hjl]at this;cases this
    simp[Array.getD,show¬j<listed.size by omega]at this
   exact e
  obtain⟨p1,p2,p3⟩:=Oper.apart_spec hap
  have hn:∀(u:V) (H':A2),TA P A nt ops n ((listed.setIfInBounds i true).setIfInBounds j true) ((fr.put (ops.getD i default).dst v).put (ops.getD j default).dst u) H' K→TA P A nt ops (n+1) (listed.setIfInBounds j true) (fr.put (ops.getD j default).dst u) H' K:=fun u H' hk=>by
   refine ih _ _ _ (Go.ready_mono hr fun e=>hji e.symm) (fun H2=>IA (fun x hx=>(HN p3 x hx).symm) (hq H2)) ?_;rw[Array.setIfInBounds_comm _ _ hji,←Sk p2];exact hk
  obtain⟨hd,hs⟩:=h1;refine⟨hd,?_⟩
  rw[LN p1]at hs
  split at hs
  ·exact HJ (Xd (HN p1) hs) fun u H' hk=>hn u H' hk
  ·exact hn _ _ hs
  exact hs.elim
end
end Go.Ab
namespace Go.Ab
open Go.RowKit
variable [J9][Ar]
def US :List Nat→Nat→Bool
 |[],_=>false
 |a::l,n=>match n==a with|true=>true|false=>US l n
theorem SQ :∀{l:List Nat} {n:Nat},US l n=true→n∈l
 |[],_,h=>by cases h
 |a::l,n,h=>by
  unfold US at h
  cases e:n==a with
  |true=>rw[beq_iff_eq.1 e];simp
  |false=>rw[e]at h;exact List.mem_cons_of_mem _ (SQ h)
section
variable (E:CU)(T:EZ)(nt:Nat)(A:Nat→Bool)(ops:Array Oper)(fl:List Nat)
def Ms (o:Oper)(l:Fl):Bool:=
 match o.op with
 | .load _ x=>(match Q3 [] l x with| .v (.eref _ _)=>true|_=>false)
 |_=>true
def Gl (l:Fl):List Nat→Option Nat
 |[]=>none
 |i::r=>match US fl i with
  |true=>(match Ms (ops.getD i default) l with|true=>some i|false=>Gl l r)
  |false=>Gl l r
def OH :Nat→Array Bool→Fl→A2→(Fl→A2→Prop)→Prop
 |0,listed,l,H,K=>match Region.ready .any ops listed with|[]=>K l H|_::_=>False
 | n +1,listed,l,H,K=>
  match Region.ready .any ops listed with
  |[]=>K l H
  | i::r=>
   match Gl ops fl l (i::r)with
   | some j=>
    (match DZ nt (ops.getD j default).dst with
     |true=>xq E T [] (ops.getD j default) l H fun s=>OH n (listed.setIfInBounds j true) (Ce (ops.getD j default).dst (Sl.n s) l) H K
     |false=>False)
   |none=>Ap2 (i::r) fun i=>Aj3 E T nt A ops (ops.getD i default) l H fun l' H'=>OH n (listed.setIfInBounds i true) l' H' K
end
theorem EP {ops:Array Oper} {fl:List Nat} {l:Fl} {j:Nat}:∀{r:List Nat},Gl ops fl l r=some j→j∈r∧US fl j=true∧Ms (ops.getD j default) l=true
 |[],h=>by cases h
 | i::r,h=>by
  unfold Gl at h
  cases h1:US fl i with
  |true=>
   rw[h1]at h
   cases h2:Ms (ops.getD i default) l with
   |true=>rw[h2]at h;cases h;exact⟨by simp,h1,h2⟩
   |false=>rw[h2]at h;have:=EP h;exact⟨List.mem_cons_of_mem _ this.1,this.2⟩
  |false=>rw[h1]at h;have:=EP h;exact⟨List.mem_cons_of_mem _ this.1,this.2⟩
section
variable {P:Program}{nt:Nat}{rd:Option Nat}{T:EZ}{A:Nat→Bool}{df:List Nat}
theorem Xb {o:Oper} {ρ:Operand→V} {H:A2} {v:V} (hs:Lh o.op=true) (hl:∀t x,o.op= .load t x→∃cs off,ρ x= .eref cs off) (h:JG P o ρ H v) (H':A2):JG P o ρ H' v:=by
 unfold JG at h ⊢
 cases ho:o.op<;>simp only[ho,Lh,Bool.false_eq_true]at hs h ⊢ <;>first
  |exact h
  |skip
 ·rename_i t x;obtain⟨cs,off,e⟩:=hl t x ho
  rw[e]at h ⊢
  rcases h with h|h
  ·left
   unfold Fs at h ⊢
   split at h
   ·rename_i h1 h2 h3;cases h3;exact h
   ·rename_i h3;cases h3
   cases h
  exfalso
  unfold Jb at h
  split at h
  ·rename_i h3;cases h3
  cases h
 rename_i c
 cases hcc:c.callee with
 | builtin b=>
  rw[hcc]at hs h
  cases b with
  | len=>
   have h:CO P .len c.argTypes.toList (c.args.toList.map ρ) v∨JO P H .len c.argTypes.toList (c.args.toList.map ρ) v:=h
   have k:∀(ts:List TypeId) (vs:List V),JO P H .len ts vs v→JO P H' .len ts vs v:=fun ts vs h=>by
    rcases ts with _|⟨t,_|⟨t2,ts⟩⟩<;>rcases vs with _|⟨x,_|⟨x2,vs⟩⟩<;>first
     |exact h
     |exact h.elim
   exact h.imp id (k _ _)
  |_=>cases hs
 |_=>rw[hcc]at hs;cases hs
theorem Dx (hT:Hl P T) {ops:Array Oper} {fl:List Nat} (hfl:∀i,US fl i=true→NK ops i=true) {K:Fl→A2→Prop}:∀(n:Nat) (listed:Array Bool) (l:Fl) (H:A2),OH (G0 P nt rd) T nt A ops fl n listed l H K→TA P A nt ops n listed (F4 ⟨l,df⟩) H fun fr H'=>∃l',fr=F4 ⟨l',df⟩∧K l' H'
 |0,listed,l,H,h=>by
  unfold OH at h
  split at h
  ·rename_i e;exact⟨e,l,rfl,h⟩
  exact h.elim
 | n +1,listed,l,H,h=>by
  unfold OH at h
  split at h
  ·rename_i e;exact⟨fun _=>⟨l,rfl,h⟩,fun i hi=>by rw[e]at hi;cases hi⟩
  rename_i i0 r0 e
  split at h
  ·rename_i j hj;obtain⟨j1,j2,j3⟩:=EP hj
   rw[←e]at j1
   obtain⟨js,_,_⟩:=Cx j1;have hf:=hfl j j2
   split at h
   ·rename_i hd;obtain⟨s,hq,hk⟩:=Kd (df:=df) hT Ih.nil h
    have hso:Lh (ops.getD j default).op=true:=by
     have:=hf
     simp only[NK,and_eq_true]at this
     exact this.1.1
    have hst:∀t x,(ops.getD j default).op= .load t x→∃cs off,ev (F4 ⟨l,df⟩) x= .eref cs off:=fun t x ho=>by
     unfold Ms at j3
     rw[ho]at j3
     dsimp only at j3
     split at j3
     ·rename_i cs off he;exact⟨cs,off,by rw[←Dh (df:=df) Ih.nil x,he];rfl⟩
     cases j3
    have hall:=Dx hT hfl n _ _ _ hk
    rw[K8]at hall
    have hv:XM l (Sl.n s)=s.V:=by cases s<;>rfl
    rw[hv]at hall
    exact XF js hf hd n listed _ H j1 (fun H'=>Xb hso hst hq H') hall
   exact h.elim
  refine⟨(fun e'=>by rw[e]at e';cases e'),fun i hi=>?_⟩
  rw[e]at hi
  have h:=Tz h i hi
  unfold Aj3 at h
  split at h
  ·rename_i hd;refine⟨hd,?_⟩;obtain⟨l',e,h⟩:=CB (df:=df) 4 l h
   have e:F4 ⟨l',df⟩=F4 ⟨l,df⟩:=by simp only[F4,Fr.mk.injEq,and_true];funext t;exact e t
   rcases h with⟨hg,G,wr,hG,hwr,h⟩|⟨hg,h⟩
   ·rw[hg];rw[←e];refine HJ (KZ (df:=df) hT hG h) fun v H' ⟨s,hv,hk⟩=>?_;subst hv;rw[←hwr s,←K8];exact Dx hT hfl n _ _ _ hk
   rw[hg];rw[←e]
   rcases h with h|⟨G,d,want,ht,hb,h⟩
   ·have:=Dx hT hfl n _ _ _ h
    rw[K8]at this
    exact this
   obtain⟨s,h⟩:=PM hT ht h;have:=Dx hT hfl n _ _ _ h
   rw[K8]at this
   simp only[XM,hb,cond_false]at this
   exact this
  exact h.elim
end
end Go.Ab
namespace Go.Ab
open Go.RowKit
variable [J9][Ar]
def Nv :List Nat→Nat→Bool
 |[],_=>false
 |x::l,n=>match n==x with|true=>true|false=>Nv l n
def Ag7 :List (Nat×Nat)→Nat→Nat
 |[],_=>0
 |(x,y)::l,n=>match Nat.beq n x with|true=>y|false=>Ag7 l n
def QD :List (Nat×Nat)→Nat→List Nat
 |[],_=>[]
 |(x,y)::l,n=>match n==x with|true=>y::QD l n|false=>QD l n
structure Cf where
 A:List Nat
 hk:List (Nat×Nat)
 J:List (Nat×Nat)
 JB:List Nat
 Z:List (Nat×Nat)
 W:List (Nat×Nat×List Nat)
def wAt :List (Nat×Nat×List Nat)→Nat→Option (Nat×List Nat)
 |[],_=>none
 |(q,d)::l,n=>match Nat.beq n q with|true=>some d|false=>wAt l n
def zAt :List (Nat×Nat)→Nat→List Nat
 |[],_=>[]
 |(q,d)::l,n=>match n==q with|true=>d::zAt l n|false=>zAt l n
def Am2 :List (Nat×Nat)→Nat→List Nat
 |[],_=>[]
 |(q,d)::l,n=>match n==q with|true=>d::Am2 l n|false=>Am2 l n
def memP :List (Nat×Nat)→Nat→Nat→Bool
 |[],_,_=>false
 |(x,y)::l,a,b=>match Nat.beq a x&&Nat.beq b y with|true=>true|false=>memP l a b
def Oy :Code→Nat
 | .region id _ _=>id+1
 | .seq a b=>(match Oy a with|0=>Oy b|n+1=>n+1)
 | .cond _ a b=>(match Oy a with|0=>Oy b|n+1=>n+1)
 | .block _ c=>Oy c
 | .loop c=>Oy c
 | .rangeFunc _ _ a b=>(match Oy a with|0=>Oy b|n+1=>n+1)
 |_=>0
def I4 (cf:Cf):Code→Bool
 | .seq a b=>I4 cf a&&I4 cf b
 | .cond _ a b=>I4 cf a&&I4 cf b
 | .block _ c=>I4 cf c
 | .loop c=>I4 cf c
 | .rangeFunc _ _ a b=>I4 cf a&&I4 cf b
 | .region id ops true=>match Nv cf.JB (id+2000000)with|true=>(QD cf.hk (id+3000000)).all (NK ops)|false=>NR ops (Ag7 cf.hk id)&&decide (DN (ops.toList.take (Ag7 cf.hk id))).Nodup
 |_=>true
section
variable (E:CU)(T:EZ)(nt:Nat)(cf:Cf)
def Wi (c:Operand) (st:St) (ra rb:St→Prop):Prop:=
 match Q3 [] st.l c with
 | .b true=>ra st
 | .b false=>rb st
 | .v (.bool t)=>
  (match c with
   | .tmp d=>E.br t (fun _=>ra ⟨Jw st.l d true,st.df⟩) (fun _=>rb ⟨Jw st.l d false,st.df⟩)
   |_=>E.br t (fun _=>ra st) (fun _=>rb st))
 |_=>False
def QP (id:Nat)(K:Exit→St→A2→Prop)(e:Exit)(st':St)(H':A2):Prop:=
 match e with
 | .exit id'=>(match Nat.beq id' id with|true=>K .normal st' H'|false=>K (.exit id') st' H')
 |e=>K e st' H'
def As5 (c:Operand)(a b:Code):Bool:=
 match c with
 | .tmp d=>memP cf.J d (match Oy a with|0=>Oy b|n+1=>n+1)
 |_=>false
def run :Code→St→A2→(Exit→St→A2→Prop)→Prop
 | .skip,st,H,K=>K .normal st H
 | .ret,st,H,K=>K .ret st H
 | .exit id,st,H,K=>K (.exit id) st H
 | .seq a b,st,H,K=>run a st H fun e st' H'=>match e with| .normal=>run b st' H' K|e=>K e st' H'
 | .cond c a b,st,H,K=>
  (match As5 cf c a b with
   |true=>E.sim (.cond c a b) st H K
   |false=>Wi E c st (fun st=>run a st H K) (fun st=>run b st H K))
 | .block id c,st,H,K=>
  (match Nv cf.JB id with
   |true=>E.sim (.block id c) st H K
   |false=>run c st H (QP id K))
 | .region _ ops false,st,H,K=>Ke E T nt (Nv cf.A) (zAt cf.Z) ops ops.toList st.l H fun l' H'=>K .normal ⟨l',st.df⟩ H'
 | .region id ops true,st,H,K=>
  (match Nv cf.JB (id+2000000)with
   |true=>E.sim (.region id ops true) st H K
   |false=>
    Kf E none (Am2 cf.Z (id+400000000)) st.l H fun l H=>XV E T nt (Nv cf.A) (wAt cf.W id) (Ag7 cf.hk id) ops l H fun l' H'=>K .normal ⟨l',st.df⟩ H')
 |c,st,H,K=>E.sim c st H K
def Yr :Code→St→A2→(Exit→St→A2→Prop)→Prop
 | .cond c a b,st,H,K=>Wi E c st (fun st=>run E T nt cf a st H K) (fun st=>run E T nt cf b st H K)
 | .block id c,st,H,K=>run E T nt cf c st H (QP id K)
 | .region id ops true,st,H,K=>
  (match Nv cf.JB (id+2000000)with
   |true=>OH E T nt (Nv cf.A) ops (QD cf.hk (id+3000000)) ops.size (Array.replicate ops.size false) st.l H fun l' H'=>K .normal ⟨l',st.df⟩ H'
   |false=>run E T nt cf (.region id ops true) st H K)
 |c,st,H,K=>run E T nt cf c st H K
end
section
variable {P:Program}{nt:Nat}{rd:Option Nat}{T:EZ}{cf:Cf}
theorem T9.frLe {c:Code}{fr:Fr}{st:St}{H:A2}{Q:Exit→Fr→A2→Prop}(hf:Ei fr st)(h:T9 P nt rd c (F4 st) H Q):T9 P nt rd c fr H Q:=
 h.less hf.s hf.df.symm fun _ _ h=>h
theorem Ei.refl (st:St):Ei (F4 st) st:=⟨fun _=>Wk.refl _,rfl⟩
theorem T9.of_frz {c:Code} {ds:List Nat} {st:St} {H:A2} {Q:Exit→Fr→A2→Prop} {k:Fl→A2→Prop} (h:Kf (G0 P nt rd) none ds st.l H k) (hk:∀l' H',k l' H'→T9 P nt rd c (F4 ⟨l',st.df⟩) H' Q):T9 P nt rd c (F4 st) H Q:=
 fun r g w a hr hR hF=>by
  obtain⟨g',l',H',s,hR',hF',h'⟩:=Ah none ds st.l H g k (fun _ _ _ _ h=>by cases h) hR hF h;exact wpIn_mono (hk l' H' h' r g' w a (XI.mono hr s) hR' hF') fun _ _ _=>TE.later s
theorem LV {c:Operand} {a b:Code} {st:St} {H:A2} {Q:Exit→Fr→A2→Prop} {ra rb:St→Prop} (h:Wi (G0 P nt rd) c st ra rb) (ha:∀st',F4 st'=F4 st→ra st'→T9 P nt rd a (F4 st') H Q) (hb:∀st',F4 st'=F4 st→rb st'→T9 P nt rd b (F4 st') H Q):T9 P nt rd (.cond c a b) (F4 st) H Q:=by
 have hev:ev (F4 st) c=(Q3 [] st.l c).V:=(Dh (df:=st.df) Ih.nil c).symm
 unfold Wi at h
 split at h
 ·rename_i he;exact T9.cond (t:=true) (by rw[hev,he];rfl) (fun _=>ha st rfl h) (fun e=>by cases e)
 ·rename_i he;exact T9.cond (t:=false) (by rw[hev,he];rfl) (fun e=>by cases e) (fun _=>hb st rfl h)
 ·rename_i t he
  split at h
  ·rename_i d
   have he':AY st.l d= .bool t:=by
    have:=VE (l:=st.l) Ih.nil d
    rw[show Ad6 [] st.l d= .v (.bool t)from he]at this
    exact this.symm
   obtain⟨h1,h2⟩:=h;refine T9.cond (t:=t) (by rw[hev,he];rfl) (fun e=>?_) (fun e=>?_)
   ·subst e;have ef:F4 ⟨Jw st.l d true,st.df⟩=F4 st:=Lt he';have:=ha _ ef (h1 rfl)
    rwa[ef]at this
   subst e;have ef:F4 ⟨Jw st.l d false,st.df⟩=F4 st:=Lt he';have:=hb _ ef (h2 rfl)
   rwa[ef]at this
  obtain⟨h1,h2⟩:=h;exact T9.cond (t:=t) (by rw[hev,he];rfl) (fun e=>ha st rfl (h1 e)) (fun e=>hb st rfl (h2 e))
 exact h.elim
theorem K5 (hT:Hl P T) (hm:P.follows .mixedOrders=true):∀(c:Code) (st:St) (H:A2) (K:Exit→St→A2→Prop),I4 cf c=true→run (G0 P nt rd) T nt cf c st H K→T9 P nt rd c (F4 st) H fun e fr' H'=>∃st',Ei fr' st'∧K e st' H'
 | .skip,st,H,K,hd,h=>T9.skip ⟨st,Ei.refl _,h⟩
 | .ret,st,H,K,hd,h=>T9.ret ⟨st,Ei.refl _,h⟩
 | .exit id,st,H,K,hd,h=>T9.exit ⟨st,Ei.refl _,h⟩
 | .seq a b,st,H,K,hd,h=>by
  simp only[I4,and_eq_true]at hd
  refine T9.seq ((K5 hT hm a st H _ hd.1 h).mono fun e fr' H' ⟨st',hf,hk⟩=>?_)
  cases e with
  |normal=>exact T9.frLe hf (K5 hT hm b st' H' K hd.2 hk)
  |_=>exact⟨st',hf,hk⟩
 | .cond c a b,st,H,K,hd,h=>by
  simp only[I4,and_eq_true]at hd
  unfold run at h
  split at h
  ·exact h
  exact LV h (fun st' _ h=>K5 hT hm a st' H K hd.1 h) (fun st' _ h=>K5 hT hm b st' H K hd.2 h)
 | .block id c,st,H,K,hd,h=>by
  unfold run at h
  split at h
  ·exact h
  refine T9.block ((K5 hT hm c st H _ hd h).mono fun e fr' H' ⟨st',hf,hk⟩=>?_)
  cases e with
  |exit id'=>
   unfold QP at hk
   dsimp only at hk ⊢
   split at hk
   ·rename_i e;rw[if_pos (Nat.eq_of_beq_eq_true e)];exact⟨st',hf,hk⟩
   rename_i e;rw[if_neg (fun x=>by subst x;rw[beq_refl]at e;cases e)];exact⟨st',hf,hk⟩
  |_=>exact⟨st',hf,hk⟩
 | .region id ops false,st,H,K,hd,h=>by
  unfold run at h
  intro r g w a hr hR hF;refine wpIn_region ?_
  have:=TK (P:=P) (nt:=nt) (rd:=rd) (T:=T) (A:=Nv cf.A) (Z:=zAt cf.Z) (df:=st.df) hT (ops:=ops) (r:=r) (K:=fun l' H'=>K .normal ⟨l',st.df⟩ H') (Q:=TE nt g w fun e fr' H'=>∃st',Ei fr' st'∧K e st' H') (g0:=g) (w0:=w)
   (fun g' w' a' l' H' s hR hF hK=>⟨g',_,H',s,hR,hF,⟨l',st.df⟩,Ei.refl _,hK⟩) ops.size 0 st.l H (by omega) (by simpa using h) g w a (T4.refl _ _) hR hF
  rwa[←List.range_eq_range']at this
 | .region id ops true,st,H,K,hd,h=>by
  cases hj2:Nv cf.JB (id+2000000)with
  |true=>
   unfold run at h
   rw[hj2]at h
   exact h
  |false=>
   simp only[I4,hj2,and_eq_true,decide_eq_true_eq]at hd
   unfold run at h
   rw[hj2]at h
   refine T9.of_frz h fun l1 H1 h=>?_;refine(T9.of_any hm (Wx (df:=st.df) hT hd.1 hd.2 h)).mono fun e fr H' ⟨he,l',hfr,hk⟩=>?_;subst he;subst hfr;exact⟨⟨l',st.df⟩,Ei.refl _,hk⟩
 | .loop c,st,H,K,hd,h=>h
 | .rangeFunc g ps a b,st,H,K,hd,h=>h
 | .scope c,st,H,K,hd,h=>h
 | .label l,st,H,K,hd,h=>h
 | .goto l,st,H,K,hd,h=>h
 | .refuse w,st,H,K,hd,h=>h
theorem Uk (hT:Hl P T) (hm:P.follows .mixedOrders=true):∀(c:Code) (st:St) (H:A2) (K:Exit→St→A2→Prop),I4 cf c=true→Yr (G0 P nt rd) T nt cf c st H K→T9 P nt rd c (F4 st) H fun e fr' H'=>∃st',Ei fr' st'∧K e st' H'
 | .cond c a b,st,H,K,hd,h=>by
  simp only[I4,and_eq_true]at hd
  unfold Yr at h
  exact LV h (fun st' _ h=>K5 hT hm a st' H K hd.1 h) (fun st' _ h=>K5 hT hm b st' H K hd.2 h)
 | .block id c,st,H,K,hd,h=>by
  unfold Yr at h
  refine T9.block ((K5 hT hm c st H _ hd h).mono fun e fr' H' ⟨st',hf,hk⟩=>?_)
  cases e with
  |exit id'=>
   unfold QP at hk
   dsimp only at hk ⊢
   split at hk
   ·rename_i e;rw[if_pos (Nat.eq_of_beq_eq_true e)];exact⟨st',hf,hk⟩
   rename_i e;rw[if_neg (fun x=>by subst x;rw[beq_refl]at e;cases e)];exact⟨st',hf,hk⟩
  |_=>exact⟨st',hf,hk⟩
 | .skip,st,H,K,hd,h=>K5 hT hm _ st H K hd h
 | .ret,st,H,K,hd,h=>K5 hT hm _ st H K hd h
 | .exit id,st,H,K,hd,h=>K5 hT hm _ st H K hd h
 | .seq a b,st,H,K,hd,h=>K5 hT hm _ st H K hd h
 | .region id ops false,st,H,K,hd,h=>K5 hT hm _ st H K hd h
 | .region id ops true,st,H,K,hd,h=>by
  unfold Yr at h
  dsimp only at h
  cases hj2:Nv cf.JB (id+2000000)with
  |false=>rw[hj2]at h;exact K5 hT hm _ st H K hd h
  |true=>
   rw[hj2]at h
   simp only[I4,hj2]at hd
   have h':=Dx (df:=st.df) hT (fun i hi=>List.all_eq_true.1 hd i (SQ hi)) _ _ _ _ h;refine(T9.of_any hm (GV.all (Q:=fun e fr H'=>match e with| .normal=>∃l',fr=F4 ⟨l',st.df⟩∧K .normal ⟨l',st.df⟩ H'|_=>False) h')).mono fun e fr H' hq=>?_
   cases e with
   |normal=>obtain⟨l',hfr,hk⟩:=hq;subst hfr;exact⟨⟨l',st.df⟩,Ei.refl _,hk⟩
   |_=>exact hq.elim
 | .loop c,st,H,K,hd,h=>h
 | .rangeFunc g ps a b,st,H,K,hd,h=>h
 | .scope c,st,H,K,hd,h=>h
 | .label l,st,H,K,hd,h=>h
 | .goto l,st,H,K,hd,h=>h
 | .refuse w,st,H,K,hd,h=>h
def RY (K:V→A2→Prop)(H:A2)(vs:List V):Prop:=
 match vs with
 |[x]=>K x H
 |l=>K (.tup l) H
theorem Nb {K:V→A2→Prop}{H:A2}{vs:List V}(h:RY K H vs):K (Nn vs) H:=by
 unfold RY at h
 split at h
 ·exact h
 rename_i l hn;unfold Nn
 split
 ·rename_i x;exact absurd rfl (hn x)
 exact h
def At3 (v:V)(k:List V→Prop)(vs:List V):Prop:=k (v::vs)
def Ox (E:CU)(T:EZ)(l:Fl)(H:A2):List ResultVar→(List V→Prop)→Prop
 |[],k=>k []
 | .tmp t::r,k=>Ox E T l H r fun vs=>At3 (AY l t) k vs
 | .cell a t::r,k=>(match AY l a with| .elem _ _ _ _=>False|x=>Vo E T t x H fun v=>Ox E T l H r fun vs=>k (v::vs))
theorem GA (hT:Hl P T) {l:Fl} {H:A2} {df:List Nat}:∀(rs:List ResultVar) (k:List V→Prop),Ox (G0 P nt rd) T l H rs k→∃vs,Ai P (F4 ⟨l,df⟩) H rs=some vs∧k vs
 |[],k,h=>⟨[],rfl,h⟩
 | .tmp t::r,k,h=>by
  obtain⟨vs,h1,h2⟩:=GA (df:=df) hT r _ h;exact⟨_,by simp only[Ai,h1];rfl,h2⟩
 | .cell a t::r,k,h=>by
  unfold Ox at h
  split at h
  ·exact h.elim
  rename_i x hne;obtain⟨v,h1,h2⟩:=Hm hT h
  have h1:Fs P H t (AY l a)=some v:=h1.elim (fun h=>h) fun h=>by
   unfold Jb at h
   split at h
   ·rename_i hx;exact absurd hx (hne _ _ _ _)
   cases h
  obtain⟨vs,h3,h4⟩:=GA (df:=df) hT r _ h2;exact⟨v::vs,by simp only[Ai,h3];rw[show(F4 ⟨l,df⟩).s a=AY l a from rfl,h1],h4⟩
theorem T9.post_le {c:Code}{fr:Fr}{H:A2}{K:Exit→St→A2→Prop}(h:T9 P nt rd c fr H fun e fr' H'=>∃st',Ei fr' st'∧K e st' H'):T9 P nt rd c fr H fun e fr' H'=>∃st',fr'=F4 st'∧K e st' H':=by
 intro r g w a hr hR hF;refine wpIn_mono (h r g w a hr hR hF) fun e a' w' ⟨g',fr',H',s,hR',hF',st',hle,hk⟩=>⟨g',F4 st',H',s,hR',⟨hF'.size,fun t=>hle.s t _ _ _ (hF'.s t),?_⟩,st',rfl,hk⟩;have:=hF'.df
 rw[hle.df]at this
 exact this
def Bp :List V→Nat→Fl
 |[],_=>[]
 |v::l,i=>(i,.v v)::Bp l (i+1)
theorem Ph :∀(args:List V) (i t:Nat),AY (Bp args i) t=if i≤t then args.getD (t - i) .bad else .bad
 |[],i,t=>by simp[Bp,AY]
 | v::l,i,t=>by
  simp only[Bp,AY]
  by_cases h:t=i
  ·subst h;simp[beq_refl]
  have hb:Nat.beq t i=false:=by
   cases hb:Nat.beq t i with
   |false=>rfl
   |true=>exact absurd (Nat.eq_of_beq_eq_true hb) h
  simp only[hb];rw[Ph l (i+1) t]
  by_cases h1:i+1≤t
  ·rw[if_pos h1,if_pos (by omega),show t - i=(t - (i+1))+1 by omega];rfl
  rw[if_neg h1,if_neg (by omega)]
theorem ZC (args:List V):entry args=F4 ⟨Bp args 0,[]⟩:=by
 simp only[entry,F4,Fr.mk.injEq,and_true]
 funext t
 rw[Ph];simp
def Lu (E:CU)(T:EZ)(rs:List ResultVar)(K:V→A2→Prop)(e:Exit)(st:St)(H:A2):Prop:=
 match e with
 | .normal=>(match st.df with|[]=>Ox E T st.l H rs fun vs=>RY K H vs|df=>E.fin df H fun H'=>Ox E T st.l H' rs fun vs=>RY K H' vs)
 | .ret=>(match st.df with|[]=>Ox E T st.l H rs fun vs=>RY K H vs|df=>E.fin df H fun H'=>Ox E T st.l H' rs fun vs=>RY K H' vs)
 |_=>False
theorem Xt (hT:Hl P T) {fn:Func} {K:V→A2→Prop} {e:Exit} {st:St} {H:A2} (h:Lu (G0 P nt rd) T fn.results.toList K e st H):Ret P fn K e (F4 st) H:=by
 have key:∀(h:match st.df with|[]=>Ox (G0 P nt rd) T st.l H fn.results.toList fun vs=>RY K H vs|df=>(G0 P nt rd).fin df H fun H'=>Ox (G0 P nt rd) T st.l H' fn.results.toList fun vs=>RY K H' vs),
  Ai1 H (F4 st).df∧∃l,Ai P (F4 st) (clear H (F4 st).df) fn.results.toList=some l∧K (Nn l) (clear H (F4 st).df):=by
  obtain⟨l,df⟩:=st;intro h
  cases df with
  | nil=>
   have hcl:clear H []=H:=by funext x;simp[clear]
   obtain⟨vs,h1,h2⟩:=GA (df:=[]) hT _ _ h;refine⟨⟨by simp[F4],fun id hi=>by simp[F4]at hi⟩,vs,?_,?_⟩
   ·show Ai P (F4 ⟨l,[]⟩) (clear H []) _=_
    rw[hcl];exact h1
   show K _ (clear H [])
   rw[hcl];exact Nb h2
  |cons d ds=>
   obtain⟨hd,h⟩:=h;obtain⟨vs,h1,h2⟩:=GA (df:=d::ds) hT _ _ h;exact⟨hd,vs,h1,Nb h2⟩
 cases e<;>first|exact h.elim|skip
 ·exact⟨.inl rfl,key h⟩
 exact⟨.inr rfl,key h⟩
theorem S1 {f:FuncId}{fn:Func}{c:Code}{n:Nat}{rs:List ResultVar}{args:List V}{H:A2}{K:V→A2→Prop}(cf:Cf)(hT:Hl P T)(hm:P.follows .mixedOrders=true)(hf:P.funcs[f]? =some fn)(hb:fn.body=some c)(hd:I4 cf c=true)(hcall:∀vals w,(callFunc f vals).run P w= .ok (.enter f vals) w)
 (hnt:fn.ntmps=n) (hrs:fn.results.toList=rs) (hn:Nat.ble args.length n=true) (h:∀E:CU,E=G0 P n none→run E T n cf c ⟨Bp args 0,[]⟩ H (Lu E T rs K)):I0 P f args H K:=by
 subst hnt;subst hrs;refine OC hf hb hcall (Nat.le_of_ble_eq_true hn) ?_;rw[ZC];refine(T9.post_le (K5 hT hm c _ H _ hd (h _ rfl))).mono fun e fr' H' ⟨st',hfr,hq⟩=>?_;subst hfr;exact Xt hT hq
end
end Go.Ab
namespace Go.Ab
open Go.RowKit
variable [J9][Ar]
theorem BG.wk {x y:V}(h:BG x y):Wk x y:=fun _ _ _ hv=>hv.le h
theorem Args.le {g:Gh}{w:World}{vals:Array Value}{xs ys:List V}(h:Args g w vals xs)(k:H9 xs ys):Args g w vals ys:=
 ⟨h.1.trans k.length,fun i hi=>(h.2 i (k.length▸hi)).le (k.at i)⟩
theorem I0.args {P:Program}{f:FuncId}{xs ys:List V}{H:A2}{K:V→A2→Prop}(h:I0 P f ys H K)(k:H9 xs ys):I0 P f xs H K:=
 fun g w vals hR hA=>h g w vals hR (hA.le k)
theorem AX.args {P:Program}{fv:V}{xs ys:List V}{H:A2}{K:V→A2→Prop}(h:AX P fv ys H K)(k:H9 xs ys):AX P fv xs H K:=
 fun g w v vals hR hv hA=>h g w v vals hR hv (hA.le k)
theorem B6.args {P:Program}{f:FuncId}{xs ys:List V}{r:V}(h:B6 P f ys r)(k:H9 xs ys):B6 P f xs r:=fun H=>(h H).args k
theorem W3.args {P:Program}{fv:V}{xs ys:List V}{r:V}(h:W3 P fv ys r)(k:H9 xs ys):W3 P fv xs r:=fun H=>(h H).args k
def Gr (H H':A2):Prop:=∀id b,H id=some b→H' id=some b
theorem Gr.refl (H:A2):Gr H H:=fun _ _ h=>h
theorem Gr.trans {H H' H'':A2}(h:Gr H H')(k:Gr H' H''):Gr H H'':=fun id b e=>k id b (h id b e)
theorem I0.le {P:Program}{f:FuncId}{args:List V}{H:A2}{K:V→A2→Prop}(h:I0 P f args H fun x H'=>∃y H2,BG x y∧Gr H2 H'∧K y H2):I0 P f args H K:=
 fun g w vals hR hA=>(h g w vals hR hA).mono fun v w' ⟨g',x,H',s,hR',hv,y,H2,hxy,hH,hK⟩=>⟨g',y,H2,s,hR'.less hH,hv.le hxy,hK⟩
inductive En where
 |tl (t:E4)
 |blk (id:Nat) (b:Fa)
def En.id :En→Option (Nat×Fa)
 | .tl (.tok t)=>some (t,.spare)
 | .tl _=>none
 | .blk id b=>some (id,b)
structure Z9 (H0:A2) (L:List En) (H:A2):Prop where
 ext:Gr H0 H
 has:∀(i:Nat) e id b,L[i]? =some e→e.id=some (id,b)→H0 id=none∧H id=some b
 inj:∀(i j:Nat) e e' id b b',L[i]? =some e→L[j]? =some e'→e.id=some (id,b)→e'.id=some (id,b')→i=j
 only:∀x b,H x=some b→H0 x=some b∨∃(i:Nat) (e:En),L[i]? =some e∧e.id=some (x,b)
theorem Z9.start (H:A2):Z9 H [] H:=⟨Gr.refl H,fun i e id b h=>by simp at h,fun i j e e' id b b' h=>by simp at h,fun x b h=>.inl h⟩
theorem Z9.free {H0 H:A2}{L:List En}(h:Z9 H0 L H){id:Nat}(hn:H id=none):H0 id=none:=by
 cases e:H0 id with
 |none=>rfl
 |some b=>rw[h.ext id b e]at hn;cases hn
theorem Z9.tl0 {H0 H:A2} {L:List En} (h:Z9 H0 L H) {t:E4} (ht:(En.tl t).id=none):Z9 H0 (.tl t::L) H:=by
 refine⟨h.ext,fun i e id b hi he=>?_,fun i j e e' id b b' hi hj he he'=>?_,fun x b hx=>(h.only x b hx).imp (fun h=>h) fun⟨i,e,h1,h2⟩=>⟨i+1,e,by simpa using h1,h2⟩⟩
 ·cases i with
  |zero=>simp at hi;subst hi;rw[ht]at he;cases he
  |succ i=>exact h.has i e id b (by simpa using hi) he
 cases i with
 |zero=>simp at hi;subst hi;rw[ht]at he;cases he
 |succ i=>
  cases j with
  |zero=>simp at hj;subst hj;rw[ht]at he';cases he'
  |succ j=>rw[h.inj i j e e' id b b' (by simpa using hi) (by simpa using hj) he he']
theorem Z9.push {H0 H:A2} {L:List En} (h:Z9 H0 L H) {en:En} {id:Nat} {b:Fa} (hn:H id=none) (he:en.id=some (id,b)):Z9 H0 (en::L) (upd H id (some b)):=by
 refine⟨fun x bb hx=>?_,fun i e x bb hi hx=>?_,fun i j e e' x bb bb' hi hj hx hx'=>?_,fun x bb hx=>?_⟩
 rotate_right
 ·by_cases hxi:x=id
  ·subst hxi;rw[B7]at hx;cases hx;exact .inr ⟨0,en,by simp,he⟩
  rw[A7 _ _ hxi]at hx
  exact(h.only x bb hx).imp (fun h=>h) fun⟨i,e,h1,h2⟩=>⟨i+1,e,by simpa using h1,h2⟩
 ·rw[A7 _ _ (P4 (h.free hn) hx)];exact h.ext x bb hx
 ·cases i with
  |zero=>simp at hi;subst hi;rw[he]at hx;cases hx;exact⟨h.free hn,B7 _ _ _⟩
  |succ i=>
   have:=h.has i e x bb (by simpa using hi) hx;exact⟨this.1,by rw[A7 _ _ (P4 hn this.2)];exact this.2⟩
 cases i with
 | zero=>
  cases j with
  |zero=>rfl
  |succ j=>
   simp at hi;subst hi;rw[he]at hx;cases hx
   have:=(h.has j e' _ bb' (by simpa using hj) hx').2
   rw[hn]at this;cases this
 | succ i=>
  cases j with
  |zero=>
   simp at hj;subst hj;rw[he]at hx';cases hx'
   have:=(h.has i e _ bb (by simpa using hi) hx).2
   rw[hn]at this;cases this
  |succ j=>rw[h.inj i j e e' x bb bb' (by simpa using hi) (by simpa using hj) hx hx']
theorem Z9.get {H0 H:A2}{L:List En}(h:Z9 H0 L H)(i:Nat){id:Nat}{b:Fa}(hi:L[i]? =some (.blk id b)):H id=some b:=(h.has i _ id b hi rfl).2
theorem Z9.set {H0 H:A2} {L:List En} (h:Z9 H0 L H) (i:Nat) {id:Nat} {b b':Fa} (hi:L[i]? =some (.blk id b)):Z9 H0 (L.set i (.blk id b')) (upd H id (some b')):=by
 have hid:=h.has i _ id b hi rfl
 have hlt:i<L.length:=by
  rcases Nat.lt_or_ge i L.length with h'|h'
  ·exact h'
  rw[List.getElem?_eq_none h']at hi;cases hi
 have Hg:∀(j:Nat) e,(L.set i (.blk id b'))[j]? =some e→(j=i∧e= .blk id b')∨(j≠i∧L[j]? =some e):=fun j e hj=>by
  rw[List.getElem?_set]at hj
  split at hj
  ·rename_i hij;subst hij
   try rw[if_pos hlt]at hj
   exact .inl ⟨rfl,(Option.some.inj hj).symm⟩
  rename_i hij;exact .inr ⟨fun e=>hij e.symm,hj⟩
 refine⟨fun x bb hx=>?_,fun j e x bb hj hx=>?_,fun j k e e' x bb bb' hj hk hx hx'=>?_,fun x bb hx=>?_⟩
 rotate_right
 ·by_cases hxi:x=id
  ·subst hxi;rw[B7]at hx;cases hx
   exact .inr ⟨i,.blk x b',by rw[List.getElem?_set,if_pos rfl,if_pos hlt],rfl⟩
  rw[A7 _ _ hxi]at hx
  refine(h.only x bb hx).imp (fun h=>h) fun⟨j,e,h1,h2⟩=>⟨j,e,?_,h2⟩;rw[List.getElem?_set]
  split
  ·rename_i hij;subst hij;rw[hi]at h1;cases h1;cases h2;exact absurd rfl hxi
  exact h1
 ·rw[A7 _ _ (P4 hid.1 hx)];exact h.ext x bb hx
 ·rcases Hg j e hj with⟨_,rfl⟩|⟨hne,hj'⟩
  ·cases hx;exact⟨hid.1,B7 _ _ _⟩
  have:=h.has j e x bb hj' hx
  have hxid:x≠id:=fun eq=>by subst eq;exact hne (h.inj j i e _ x bb b hj' hi hx rfl)
  exact⟨this.1,by rw[A7 _ _ hxid];exact this.2⟩
 rcases Hg j e hj with⟨hji,rfl⟩|⟨hne,hj'⟩<;>rcases Hg k e' hk with⟨hki,rfl⟩|⟨hne',hk'⟩
 ·rw[hji,hki]
 ·cases hx;exact absurd (h.inj k i e' _ id bb' b hk' hi hx' rfl) hne'
 ·cases hx';exact absurd (h.inj j i e _ id bb b hj' hi hx rfl) hne
 exact h.inj j k e e' x bb bb' hj' hk' hx hx'
theorem Z9.tok {H0 H:A2} {L:List En} (h:Z9 H0 L H) (i:Nat) {tl:E4} (hi:L[i]? =some (.tl tl)) {t:Nat} (ht:G7 H tl t=none):
 Z9 H0 (L.set i (.tl (.tok t))) (upd (G7 H tl) t (some .spare)):=by
 have hlt:i<L.length:=by
  rcases Nat.lt_or_ge i L.length with h'|h'
  ·exact h'
  rw[List.getElem?_eq_none h']at hi;cases hi
 have Hg:∀(j:Nat) e,(L.set i (.tl (.tok t)))[j]? =some e→(j=i∧e= .tl (.tok t))∨(j≠i∧L[j]? =some e):=fun j e hj=>by
  rw[List.getElem?_set]at hj
  split at hj
  ·rename_i hij;subst hij
   try rw[if_pos hlt]at hj
   exact .inl ⟨rfl,(Option.some.inj hj).symm⟩
  rename_i hij;exact .inr ⟨fun e=>hij e.symm,hj⟩
 have left:∀x b,H x=some b→(∀t',tl= .tok t'→x≠t')→G7 H tl x=some b:=fun x b hx hne=>by
  cases tl with
  |tok t'=>simp only[G7];rw[A7 _ _ (hne t' rfl)];exact hx
  |_=>exact hx
 have h0:∀x b,H0 x=some b→G7 H tl x=some b:=fun x b hx=>left x b (h.ext x b hx) fun t' e eq=>by
  subst e;subst eq
  rw[(h.has i _ x _ hi rfl).1]at hx;cases hx
 have hoth:∀(j:Nat) e x b,j≠i→L[j]? =some e→e.id=some (x,b)→H0 x=none∧G7 H tl x=some b:=fun j e x b hne hj hx=>by
  have:=h.has j e x b hj hx;refine⟨this.1,left x b this.2 fun t' et eq=>?_⟩;subst et;subst eq;exact hne (h.inj j i e _ x b _ hj hi hx rfl)
 have hid0:H0 t=none:=by
  cases e:H0 t with
  |none=>rfl
  |some b=>rw[h0 t b e]at ht;cases ht
 refine⟨fun x bb hx=>?_,fun j e x bb hj hx=>?_,fun j k e e' x bb bb' hj hk hx hx'=>?_,fun x bb hx=>?_⟩
 rotate_right
 ·by_cases hxi:x=t
  ·subst hxi;rw[B7]at hx;cases hx
   exact .inr ⟨i,.tl (.tok x),by rw[List.getElem?_set,if_pos rfl,if_pos hlt],rfl⟩
  rw[A7 _ _ hxi]at hx
  have hx2:H x=some bb∧∀t',tl= .tok t'→x≠t':=by
   cases tl with
   |tok t'=>
    simp only[G7]at hx
    by_cases e:x=t'
    ·subst e;rw[B7]at hx;cases hx
    rw[A7 _ _ e]at hx
    exact⟨hx,fun t'' e'=>by cases e';exact e⟩
   |_=>exact⟨hx,fun t'' e'=>by cases e'⟩
  refine(h.only x bb hx2.1).imp (fun h=>h) fun⟨j,e,h1,h2⟩=>⟨j,e,?_,h2⟩;rw[List.getElem?_set]
  split
  ·rename_i hij;subst hij;rw[hi]at h1;cases h1
   cases tl with
   |tok t'=>cases h2;exact absurd rfl (hx2.2 _ rfl)
   |_=>cases h2
  exact h1
 ·rw[A7 _ _ (P4 hid0 hx)];exact h0 x bb hx
 ·rcases Hg j e hj with⟨_,rfl⟩|⟨hne,hj'⟩
  ·cases hx;exact⟨hid0,B7 _ _ _⟩
  have:=hoth j e x bb hne hj' hx;exact⟨this.1,by rw[A7 _ _ (P4 ht this.2)];exact this.2⟩
 rcases Hg j e hj with⟨hji,rfl⟩|⟨hne,hj'⟩<;>rcases Hg k e' hk with⟨hki,rfl⟩|⟨hne',hk'⟩
 ·rw[hji,hki]
 ·cases hx;have:=(hoth k e' t bb' hne' hk' hx').2;rw[ht]at this;cases this
 ·cases hx';have:=(hoth j e t bb hne hj' hx).2;rw[ht]at this;cases this
 exact h.inj j k e e' x bb bb' hj' hk' hx hx'
theorem Z9.del {H0 H:A2} {L:List En} (h:Z9 H0 L H) (i:Nat) {id:Nat} {b:Fa} (hi:L[i]? =some (.blk id b)):Z9 H0 (L.eraseIdx i) (upd H id none):=by
 have hid:=h.has i _ id b hi rfl
 have Hg:∀(j:Nat) e,(L.eraseIdx i)[j]? =some e→∃j',j'≠i∧L[j']? =some e∧(j'=if j<i then j else j+1):=fun j e hj=>by
  rw[List.getElem?_eraseIdx]at hj
  split at hj
  ·rename_i hlt;exact⟨j,by omega,hj,by rw[if_pos hlt]⟩
  rename_i hlt;exact⟨j+1,by omega,hj,by rw[if_neg hlt]⟩
 refine⟨fun x bb hx=>?_,fun j e x bb hj hx=>?_,fun j k e e' x bb bb' hj hk hx hx'=>?_,fun x bb hx=>?_⟩
 rotate_right
 ·by_cases hxi:x=id
  ·subst hxi;rw[B7]at hx;cases hx
  rw[A7 _ _ hxi]at hx
  refine(h.only x bb hx).imp (fun h=>h) fun⟨j,e,h1,h2⟩=>?_
  have hji:j≠i:=fun eq=>by subst eq;rw[hi]at h1;cases h1;cases h2;exact hxi rfl
  rcases Nat.lt_or_ge j i with hlt|hge
  ·exact⟨j,e,by rw[List.getElem?_eraseIdx,if_pos hlt];exact h1,h2⟩
  exact⟨j - 1,e,by rw[List.getElem?_eraseIdx,if_neg (by omega),show j - 1+1=j by omega];exact h1,h2⟩
 ·rw[A7 _ _ (P4 hid.1 hx)];exact h.ext x bb hx
 ·obtain⟨j',hne,hj',_⟩:=Hg j e hj;have:=h.has j' e x bb hj' hx
  have hxid:x≠id:=fun eq=>by subst eq;exact hne (h.inj j' i e _ x bb b hj' hi hx rfl)
  exact⟨this.1,by rw[A7 _ _ hxid];exact this.2⟩
 obtain⟨j',hne,hj',ej⟩:=Hg j e hj;obtain⟨k',hne',hk',ek⟩:=Hg k e' hk;have:=h.inj j' k' e e' x bb bb' hj' hk' hx hx'
 rw[ej,ek]at this
 split at this<;>split at this<;>omega
def JX (H:A2)(e:En):A2:=
 match e.id with
 |some (id,_)=>upd H id none
 |none=>H
theorem Z9.tail {H0 H:A2} {L:List En} {e:En} (h:Z9 H0 (e::L) H):Z9 H0 L (JX H e):=by
 have inj0:∀(j:Nat) e' x b b',L[j]? =some e'→e'.id=some (x,b)→e.id=some (x,b')→False:=fun j e' x b b' hj hx hx'=>by
  have:=h.inj (j+1) 0 e' e x b b' (by simpa using hj) (by simp) hx hx';omega
 cases he:e.id with
 |none=>
  have ed:JX H e=H:=by simp only[JX,he]
  rw[ed];refine⟨h.ext,fun i e id b hi=>h.has (i+1) e id b (by simpa using hi),fun i j e e' id b b' hi hj he he'=>?_,fun x b hx=>(h.only x b hx).imp (fun h=>h) fun⟨i,e',h1,h2⟩=>?_⟩
  ·have:=h.inj (i+1) (j+1) e e' id b b' (by simpa using hi) (by simpa using hj) he he';omega
  cases i with
  |zero=>simp at h1;subst h1;rw[he]at h2;cases h2
  |succ i=>exact⟨i,e',by simpa using h1,h2⟩
 | some p=>
  obtain⟨id,b0⟩:=p
  have ed:JX H e=upd H id none:=by simp only[JX,he]
  rw[ed];have hid:=h.has 0 e id b0 (by simp) he;refine⟨fun x b hx=>?_,fun i e' x b hi hx=>?_,fun i j e e' id b b' hi hj he he'=>?_,fun x b hx=>?_⟩
  ·rw[A7 _ _ (P4 hid.1 hx)];exact h.ext x b hx
  ·have:=h.has (i+1) e' x b (by simpa using hi) hx
   have hne:x≠id:=fun eq=>by subst eq;exact inj0 i e' x b b0 hi hx he
   exact⟨this.1,by rw[A7 _ _ hne];exact this.2⟩
  ·have:=h.inj (i+1) (j+1) e e' id b b' (by simpa using hi) (by simpa using hj) he he';omega
  by_cases hxi:x=id
  ·subst hxi;rw[B7]at hx;cases hx
  rw[A7 _ _ hxi]at hx
  refine(h.only x b hx).imp (fun h=>h) fun⟨i,e',h1,h2⟩=>?_
  cases i with
  |zero=>simp at h1;subst h1;rw[he]at h2;cases h2;exact absurd rfl hxi
  |succ i=>exact⟨i,e',by simpa using h1,h2⟩
theorem Gr.upd {H H':A2}(h:Gr H H')(id:Nat)(b:Option Fa):Gr (upd H id b) (upd H' id b):=fun x bb hx=>by
 by_cases e:x=id
 ·subst e;rw[B7]at hx ⊢;exact hx
 rw[A7 _ _ e]at hx ⊢;exact h x bb hx
theorem Gr.less {H H':A2}(h:Gr H H')(id:Nat):Gr (Go.Ab.upd H id none) H':=fun x bb hx=>by
 by_cases e:x=id
 ·subst e;rw[B7]at hx;cases hx
 rw[A7 _ _ e]at hx;exact h x bb hx
theorem Gr.none {H H':A2}(h:Gr H H'){id:Nat}(hn:H' id=none):H id=none:=by
 cases e:H id with
 |none=>rfl
 |some b=>rw[h id b e]at hn;cases hn
theorem H5 :E3 (Eq:A2→A2→Prop):=⟨fun h id b hb=>h▸hb,fun id b h _=>by subst h;rfl⟩
def C3 (Φ:A2→A2→Prop)(F:A2)(L:List En)(H:A2):Prop:=E3 Φ∧∃F' H1,Z9 F L F'∧Φ F' H1∧Gr H1 H
section
variable {Φ:A2→A2→Prop}{F H:A2}{L:List En}
theorem C3.start (hs:E3 Φ)(h:Φ F H):C3 Φ F [] H:=⟨hs,F,H,Z9.start F,h,Gr.refl H⟩
theorem C3.ext (h:C3 Φ F L H):Gr F H:=by
 obtain⟨hs,F',H1,h0,h1,h2⟩:=h;exact h0.ext.trans fun id b hb=>h2 _ _ (hs.le h1 id b hb)
theorem C3.tl0 (h:C3 Φ F L H){t:E4}(ht:(En.tl t).id=none):C3 Φ F (.tl t::L) H:=by
 obtain⟨hs,F',H1,h0,h1,h2⟩:=h;exact⟨hs,F',H1,h0.tl0 ht,h1,h2⟩
theorem C3.push (h:C3 Φ F L H){en:En}{id:Nat}{b:Fa}(hn:H id=none)(he:en.id=some (id,b)):C3 Φ F (en::L) (upd H id (some b)):=by
 obtain⟨hs,F',H1,h0,h1,h2⟩:=h;have hn1:=h2.none hn;have hn':=hs.fresh h1 hn1;exact⟨hs,_,_,h0.push hn' he,hs.chg id (some b) h1 (by rw[hn1,hn']),h2.upd id _⟩
theorem C3.get (h:C3 Φ F L H)(i:Nat){id:Nat}{b:Fa}(hi:L[i]? =some (.blk id b)):H id=some b:=by
 obtain⟨hs,F',H1,h0,h1,h2⟩:=h;exact h2 _ _ (hs.le h1 _ _ (h0.get i hi))
theorem C3.set (h:C3 Φ F L H)(i:Nat){id:Nat}{b b':Fa}(hi:L[i]? =some (.blk id b)):C3 Φ F (L.set i (.blk id b')) (upd H id (some b')):=by
 obtain⟨hs,F',H1,h0,h1,h2⟩:=h;have e:=h0.get i hi;exact⟨hs,_,_,h0.set i hi,hs.chg id _ h1 (by rw[e,hs.le h1 _ _ e]),h2.upd id _⟩
theorem C3.del (h:C3 Φ F L H)(i:Nat){id:Nat}{b:Fa}(hi:L[i]? =some (.blk id b)):C3 Φ F (L.eraseIdx i) (upd H id none):=by
 obtain⟨hs,F',H1,h0,h1,h2⟩:=h;have e:=h0.get i hi;exact⟨hs,_,_,h0.del i hi,hs.chg id _ h1 (by rw[e,hs.le h1 _ _ e]),h2.upd id _⟩
theorem C3.tail {e:En} (h:C3 Φ F (e::L) H):C3 Φ F L H:=by
 obtain⟨hs,F',H1,h0,h1,h2⟩:=h
 cases he:e.id with
 |none=>
  have:=h0.tail
  simp only[JX,he]at this
  exact⟨hs,_,_,this,h1,h2⟩
 |some p=>
  obtain⟨id,b⟩:=p;have h3:=h0.tail
  simp only[JX,he]at h3
  have e1:=(h0.has 0 e id b (by simp) he).2;exact⟨hs,_,_,h3,hs.chg id none h1 (by rw[e1,hs.le h1 _ _ e1]),h2.less id⟩
theorem C3.tok (h:C3 Φ F L H) (i:Nat) {tl:E4} (hi:L[i]? =some (.tl tl)) {t:Nat} (ht:G7 H tl t=none):C3 Φ F (L.set i (.tl (.tok t))) (upd (G7 H tl) t (some .spare)):=by
 obtain⟨hs,F',H1,h0,h1,h2⟩:=h
 have h3:Φ (G7 F' tl) (G7 H1 tl):=by
  cases tl with
  |tok t'=>
   have e:=(h0.has i _ t' _ hi rfl).2;exact hs.chg t' none h1 (by rw[e,hs.le h1 _ _ e])
  |_=>exact h1
 have h4:Gr (G7 H1 tl) (G7 H tl):=by
  cases tl with
  |tok t'=>exact h2.upd t' none
  |_=>exact h2
 have ht1:=h4.none ht;have ht':=hs.fresh h3 ht1;exact⟨hs,_,_,h0.tok i hi ht',hs.chg t _ h3 (by rw[ht1,ht']),h4.upd t _⟩
theorem C3.stable (hs:E3 Φ) (L:List En):E3 fun F H=>C3 Φ F L H:=by
 refine⟨fun h id b hb=>h.ext id b hb,fun{F H} id b h e=>?_⟩;obtain⟨hs,F',H1,h0,h1,h2⟩:=h
 have hne:∀(i:Nat) en x bb,L[i]? =some en→en.id=some (x,bb)→x≠id:=fun i en x bb hi he eq=>by
  subst eq;have h3:=h0.has i en x bb hi he;have h4:=h2 _ _ (hs.le h1 _ _ h3.2)
  rw[e,h3.1]at h4;cases h4
 have hF':F' id=F id:=by
  cases hf:F id with
  |some x=>exact h0.ext id x hf
  | none=>
   cases hf':F' id with
   |none=>rfl
   |some x=>
    rcases h0.only id x hf' with h|⟨i,en,hi,he⟩
    ·rw[hf]at h;cases h
    exact absurd rfl (hne i en id x hi he)
 have hH1:H1 id=F id:=by
  cases hf:F id with
  |some x=>rw[←hF']at hf;exact hs.le h1 id x hf
  |none=>rw[hf]at e;exact h2.none e
 refine⟨hs,upd F' id b,upd H1 id b,⟨fun x bb hx=>?_,fun i en x bb hi he=>?_,h0.inj,fun x bb hx=>?_⟩,hs.chg id b h1 (by rw[hF',hH1]),h2.upd id b⟩
 ·by_cases hxi:x=id
  ·subst hxi;rw[B7]at hx ⊢;exact hx
  rw[A7 _ _ hxi]at hx ⊢;exact h0.ext x bb hx
 ·have:=h0.has i en x bb hi he;have hxi:=hne i en x bb hi he;rw[A7 _ _ hxi,A7 _ _ hxi];exact this
 by_cases hxi:x=id
 ·subst hxi;rw[B7]at hx ⊢;exact .inl hx
 rw[A7 _ _ hxi]at hx ⊢;exact h0.only x bb hx
theorem C3.out :∀{L:List En},C3 Φ F L H→∃H1,Φ F H1∧Gr H1 H
 | [],h=>by
  obtain⟨hs,F',H1,h0,h1,h2⟩:=h
  have:F'=F:=by
   funext x
   cases hf:F' x with
   |some b=>
    rcases h0.only x b hf with h|⟨i,e,hi,_⟩
    ·exact h.symm
    simp at hi
   |none=>exact(h0.free hf).symm
  subst this;exact⟨H1,h1,h2⟩
 |_::L,h=>C3.out (L:=L) h.tail
end
theorem E3.ex {ι:Type}{p:ι→Prop}{I:ι→A2→A2→Prop}(h:∀i,E3 (I i)):E3 fun F H=>∃i,p i∧I i F H:=
 ⟨fun⟨i,_,hi⟩=>(h i).le hi,fun id b ⟨i,hp,hi⟩ e=>⟨i,hp,(h i).chg id b hi e⟩⟩
theorem E3.con {p:Prop}{I:A2→A2→Prop}(h:E3 I):E3 fun F H=>p∧I F H:=
 ⟨fun⟨_,hi⟩=>h.le hi,fun id b ⟨hp,hi⟩ e=>⟨hp,h.chg id b hi e⟩⟩
def T8 :E4→Prop
 | .ro=>False
 |_=>True
theorem C3.appOk {Φ:A2→A2→Prop}{F H:A2}{L:List En}(h:C3 Φ F L H)(i:Nat){tl:E4}(hi:L[i]? =some (.tl tl))(ha:T8 tl):Ik H tl:=by
 obtain⟨hs,F',H1,h0,h1,h2⟩:=h
 cases tl with
 |tok t=>exact h2 _ _ (hs.le h1 _ _ (h0.has i _ t _ hi rfl).2)
 |nil=>trivial
 |full=>trivial
 |ro=>exact ha
end Go.Ab
namespace Go.Ab
def B9 {α:Type}(l:List α)(i:Int):Option α:=if 0≤i then l[i.toNat]? else none
def N6 {α:Type} (l:List α) (lo hi mx:Option Int):Option (List α):=
 if 0≤lo.getD 0∧lo.getD 0≤hi.getD l.length∧hi.getD l.length≤mx.getD l.length∧mx.getD l.length≤l.length∧(mx.isSome=true→hi.isSome=true)then
  some ((l.drop (lo.getD 0).toNat).take ((hi.getD l.length).toNat - (lo.getD 0).toNat))
 else none
def M5 {α:Type}(l m:List α):Option (List α):=if l.length+m.length≤1073741824 then some (l++m)else none
def Jx (b:Bool):Option Unit:=if b=true then some ()else none
def loopN {σ R:Type} (step:σ→Option (σ ⊕ R)):Nat→σ→Option R
 |0,_=>none
 |n+1,s=>
  match step s with
  |none=>none
  |some (.inl s')=>loopN step n s'
  |some (.inr r)=>some r
def G5 {α σ R:Type} (step:σ→α→Option (σ ⊕ R)):List α→σ→Option (σ ⊕ R)
 |[],s=>some (.inl s)
 |x::l,s=>
  match step s x with
  |none=>none
  |some (.inl s')=>G5 step l s'
  |some (.inr r)=>some (.inr r)
def HM {β σ R:Type} (step:σ→Option (List β×(σ ⊕ R))):Nat→σ→Option (List β×R)
 |0,_=>none
 | n+1,s=>
  match step s with
  |none=>none
  | some (w,.inl s')=>
   (match HM step n s' with
    |none=>none
    |some (w',r)=>some (w++w',r))
  |some (w,.inr r)=>some (w,r)
def Am {α β σ R:Type} (step:σ→α→Option (List β×(σ ⊕ R))):List α→σ→Option (List β×(σ ⊕ R))
 |[],s=>some ([],.inl s)
 | x::l,s=>
  match step s x with
  |none=>none
  | some (w,.inl s')=>
   (match Am step l s' with
    |none=>none
    |some (w',o)=>some (w++w',o))
  |some (w,.inr r)=>some (w,.inr r)
def Bc {β σ τ:Type}(m:Option (List β×σ))(f:σ→Option (List β×τ)):Option (List β×τ):=
 m.bind fun q=>(f q.2).bind fun p=>some (q.1++p.1,p.2)
theorem Y0 {β σ τ:Type} {m:Option (List β×σ)} {f:σ→Option (List β×τ)} {w:List β} {o:τ} (h:Bc m f=some (w,o)):∃w1 w2 x,m=some (w1,x)∧f x=some (w2,o)∧w=w1++w2:=by
 unfold Bc at h
 cases m with
 |none=>cases h
 | some p=>
  simp only[Option.bind_some]at h
  cases hf:f p.2 with
  |none=>rw[hf]at h;cases h
  |some t=>
   rw[hf]at h
   simp only[Option.bind_some,Option.some.injEq,Prod.mk.injEq]at h
   obtain⟨h1,h2⟩:=h;subst h1;subst h2;exact⟨p.1,t.1,p.2,rfl,hf,rfl⟩
theorem Cm {β σ τ:Type}{a:List β}{x:σ}{f:σ→Option (List β×τ)}{w:List β}{o:τ}(h:Bc (some (a,x)) f=some (w,o)):∃w2,f x=some (w2,o)∧w=a++w2:=by
 obtain⟨w1,w2,y,h1,h2,h3⟩:=Y0 h;cases h1;exact⟨w2,h2,h3⟩
theorem I5 {α β:Type}{a c:α}{b d:β}(h:some (a,b)=some (c,d)):a=c∧b=d:=by cases h;exact⟨rfl,rfl⟩
theorem bind_some {α β:Type}{m:Option α}{F:α→Option β}{r:β}(h:m.bind F=some r):∃x,m=some x∧F x=some r:=by
 cases m with
 |none=>cases h
 |some x=>exact⟨x,rfl,h⟩
theorem D3 {α:Type}{a b:α}(h:some a=some b):a=b:=Option.some.inj h
end Go.Ab
